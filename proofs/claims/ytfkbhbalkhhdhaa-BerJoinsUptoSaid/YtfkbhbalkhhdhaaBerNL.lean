/- Plain: what List computes. No program is named. -/
import Derived.Test.YtfkbhbalkhhdhaaBerB
namespace Go.Proofs.Ytfkbhbalkhhdhaa

/-- Fields one behind the other: the tags, the contents, the error. -/
def listF : Nat → List UInt8 → List UInt8 × List (List UInt8) × Nat
  | 0, _ => ([], [], 0)
  | k + 1, xs => if xs = [] then ([], [], 0) else if (takeP xs).2.2.2 ≠ 0 then ([], [], (takeP xs).2.2.2) else
      if (listF k (takeP xs).2.2.1).2.2 ≠ 0 then ([], [], (listF k (takeP xs).2.2.1).2.2) else
      ((takeP xs).1 :: (listF k (takeP xs).2.2.1).1, (takeP xs).2.1 :: (listF k (takeP xs).2.2.1).2.1, 0)
def listP (xs : List UInt8) : List UInt8 × List (List UInt8) × Nat := listF xs.length xs
/-- What was listed before p was: T, L. -/
def glue (T : List UInt8) (L : List (List UInt8)) (p : List UInt8 × List (List UInt8) × Nat) : List UInt8 × List (List UInt8) × Nat :=
  if p.2.2 ≠ 0 then ([], [], p.2.2) else (T ++ p.1, L ++ p.2.1, 0)

theorem takeP_short (xs : List UInt8) (h : (takeP xs).2.2.2 = 0) : (takeP xs).2.2.1.length + 2 ≤ xs.length := by
  unfold takeP at h ⊢
  split at h
  · rename_i h1; exact absurd h h1
  · rename_i h1
    rw [if_neg h1]
    have h1' : (headP xs).2.2 = 0 := by omega
    have hk := headP_ok xs h1'
    split at h
    · simp at h
    · rename_i h2
      rw [if_neg h2]
      simp only [List.length_drop]
      omega
theorem listF_cons (k : Nat) (x : UInt8) (xs : List UInt8) : listF (k + 1) (x :: xs) = if (takeP (x :: xs)).2.2.2 ≠ 0 then ([], [], (takeP (x :: xs)).2.2.2) else
      if (listF k (takeP (x :: xs)).2.2.1).2.2 ≠ 0 then ([], [], (listF k (takeP (x :: xs)).2.2.1).2.2) else
      ((takeP (x :: xs)).1 :: (listF k (takeP (x :: xs)).2.2.1).1, (takeP (x :: xs)).2.1 :: (listF k (takeP (x :: xs)).2.2.1).2.1, 0) := by
  rw [listF, if_neg (by simp)]
theorem listF_fuel : ∀ (k : Nat) (xs : List UInt8), xs.length ≤ k → listF k xs = listP xs := by
  have hgen : ∀ (k j : Nat) (xs : List UInt8), xs.length ≤ k → xs.length ≤ j → listF k xs = listF j xs := by
    intro k
    induction k with
    | zero =>
      intro j xs h1 h2
      have : xs = [] := List.eq_nil_of_length_eq_zero (by omega)
      subst this
      cases j <;> simp [listF]
    | succ k ih =>
      intro j xs h1 h2
      rcases xs with _ | ⟨x, xs⟩
      · cases j <;> simp [listF]
      · rcases j with _ | j
        · simp at h2
        · rw [listF_cons, listF_cons]
          by_cases he : (takeP (x :: xs)).2.2.2 = 0
          · have hs := takeP_short _ he
            rw [ih j (takeP (x :: xs)).2.2.1 (by omega) (by omega)]
          · rw [if_pos he, if_pos he]
  intro k xs h
  exact hgen k xs.length xs h (Nat.le_refl _)
theorem listP_nil : listP [] = ([], [], 0) := rfl
theorem listP_err {xs : List UInt8} (h0 : 0 < xs.length) (h : (takeP xs).2.2.2 ≠ 0) : listP xs = ([], [], (takeP xs).2.2.2) := by
  rw [← listF_fuel (xs.length + 1) xs (by omega)]
  unfold listF
  rw [if_neg (by rintro rfl; simp at h0), if_pos h]
theorem listP_ok {xs : List UInt8} (h0 : 0 < xs.length) (h : (takeP xs).2.2.2 = 0) : listP xs = glue [(takeP xs).1] [(takeP xs).2.1] (listP (takeP xs).2.2.1) := by
  have hs := takeP_short xs h
  rw [← listF_fuel (xs.length + 1) xs (by omega)]
  unfold listF
  rw [if_neg (by rintro rfl; simp at h0), if_neg (by omega), listF_fuel _ _ (by omega)]
  rfl
theorem glue_glue (T : List UInt8) (L : List (List UInt8)) (t : UInt8) (c : List UInt8) (p : List UInt8 × List (List UInt8) × Nat) :
    glue T L (glue [t] [c] p) = glue (T ++ [t]) (L ++ [c]) p := by
  unfold glue
  by_cases h : p.2.2 = 0
  · simp [h]
  · simp [h]
theorem glue_nil (p : List UInt8 × List (List UInt8) × Nat) (h : p.2.2 ≠ 0 → p.1 = [] ∧ p.2.1 = []) : glue [] [] p = p := by
  unfold glue
  obtain ⟨a, b, c⟩ := p
  by_cases hc : c = 0
  · simp [hc]
  · simp only [] at h
    have := h hc
    simp [hc, this.1, this.2]
theorem listP_shut (xs : List UInt8) : (listP xs).2.2 ≠ 0 → (listP xs).1 = [] ∧ (listP xs).2.1 = [] := by
  unfold listP
  rcases h : xs.length with _ | k
  · simp [listF]
  · unfold listF
    repeat' split
    all_goals simp
theorem glue_start (xs : List UInt8) : listP xs = glue [] [] (listP xs) := (glue_nil _ (listP_shut xs)).symm
end Go.Proofs.Ytfkbhbalkhhdhaa
