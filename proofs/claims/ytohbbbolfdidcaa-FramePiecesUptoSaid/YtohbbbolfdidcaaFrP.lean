/- Plain: the messages of a stream. No function of the program is named. -/
import Derived.Test.YtohbbbolfdidcaaBerB
namespace Go.Proofs.Ytohbbbolfdidcaa

/-- What a stream's beginning is: (0, _) it may go on; (1, e) an error; (2, k) a message of k bytes. -/
def verd (M : Nat) (b : List UInt8) : Nat × Nat :=
  if b.length = 0 then (0, 0) else if (b[0]?.getD 0).toNat ≠ 48 then (1, 2) else
  if (headP b).2.2 = 5 then (0, 0) else if (headP b).2.2 ≠ 0 then (1, (headP b).2.2) else
  if M < (headP b).1 + (headP b).2.1 then (1, 4) else if b.length < (headP b).1 + (headP b).2.1 then (0, 0) else (2, (headP b).1 + (headP b).2.1)
def glueS (L : List (List UInt8)) (p : List (List UInt8) × List UInt8 × Nat) : List (List UInt8) × List UInt8 × Nat := (L ++ p.1, p.2.1, p.2.2)
def streamF (M : Nat) : Nat → List UInt8 → List (List UInt8) × List UInt8 × Nat
  | 0, b => ([], b, 0)
  | k + 1, b => if (verd M b).1 = 0 then ([], b, 0) else if (verd M b).1 = 1 then ([], [], (verd M b).2) else glueS [b.take (verd M b).2] (streamF M k (b.drop (verd M b).2))
/-- The messages of a stream, what is left, the error. -/
def streamP (M : Nat) (b : List UInt8) : List (List UInt8) × List UInt8 × Nat := streamF M b.length b

theorem verd_msg {M : Nat} {b : List UInt8} (h0 : (verd M b).1 ≠ 0) (h1 : (verd M b).1 ≠ 1) : 2 ≤ (verd M b).2 ∧ (verd M b).2 ≤ b.length ∧ (verd M b).2 ≤ M ∧ (verd M b).2 = (headP b).1 + (headP b).2.1 ∧ (headP b).2.2 = 0 ∧ 0 < b.length := by
  unfold verd at h0 h1 ⊢
  split at h0
  · simp at h0
  split at h0
  · rename_i h2; rw [if_neg (by assumption), if_pos h2] at h1; simp at h1
  split at h0
  · simp at h0
  split at h0
  · rename_i h2 h3 h4 h5; rw [if_neg h2, if_neg h3, if_neg h4, if_pos h5] at h1; simp at h1
  split at h0
  · rename_i h2 h3 h4 h5 h6; rw [if_neg h2, if_neg h3, if_neg h4, if_neg h5, if_pos h6] at h1; simp at h1
  split at h0
  · simp at h0
  · rename_i h2 h3 h4 h5 h6 h7
    rw [if_neg h2, if_neg h3, if_neg h4, if_neg h5, if_neg h6, if_neg h7]
    have h8 : (headP b).2.2 = 0 := Decidable.not_not.1 h5
    have := headP_ok b h8
    exact ⟨by omega, by omega, by omega, rfl, h8, by omega⟩
theorem verd_nil (M : Nat) : verd M [] = (0, 0) := rfl
theorem streamF_fuel (M : Nat) : ∀ (k : Nat) (b : List UInt8), b.length ≤ k → streamF M k b = streamP M b := by
  have hgen : ∀ (k j : Nat) (b : List UInt8), b.length ≤ k → b.length ≤ j → streamF M k b = streamF M j b := by
    intro k
    induction k with
    | zero =>
      intro j b h1 h2
      have : b = [] := List.eq_nil_of_length_eq_zero (by omega)
      subst this
      cases j
      · rfl
      · unfold streamF; rw [if_pos (by rw [verd_nil])]
    | succ k ih =>
      intro j b h1 h2
      rcases j with _ | j
      · have : b = [] := List.eq_nil_of_length_eq_zero (by omega)
        subst this
        unfold streamF; rw [if_pos (by rw [verd_nil])]
      · rw [streamF, streamF]
        by_cases e0 : (verd M b).1 = 0
        · rw [if_pos e0, if_pos e0]
        by_cases e1 : (verd M b).1 = 1
        · rw [if_neg e0, if_neg e0, if_pos e1, if_pos e1]
        have hv := verd_msg e0 e1
        rw [if_neg e0, if_neg e0, if_neg e1, if_neg e1, ih j (b.drop (verd M b).2) (by rw [List.length_drop]; omega) (by rw [List.length_drop]; omega)]
  intro k b h
  exact hgen k b.length b h (Nat.le_refl _)
theorem streamP_eq (M : Nat) (b : List UInt8) : streamP M b = if (verd M b).1 = 0 then ([], b, 0) else if (verd M b).1 = 1 then ([], [], (verd M b).2) else glueS [b.take (verd M b).2] (streamP M (b.drop (verd M b).2)) := by
  rw [← streamF_fuel M (b.length + 1) b (by omega), streamF, streamF_fuel M b.length _ (by rw [List.length_drop]; omega)]
theorem streamP_wait {M : Nat} {b : List UInt8} (h : (verd M b).1 = 0) : streamP M b = ([], b, 0) := by rw [streamP_eq, if_pos h]
theorem streamP_err {M : Nat} {b : List UInt8} (h : (verd M b).1 = 1) : streamP M b = ([], [], (verd M b).2) := by rw [streamP_eq, if_neg (by omega), if_pos h]
theorem streamP_msg {M : Nat} {b : List UInt8} {k : Nat} (h : verd M b = (2, k)) : streamP M b = glueS [b.take k] (streamP M (b.drop k)) := by rw [streamP_eq, h]; rfl
theorem glueS_glueS (L : List (List UInt8)) (m : List UInt8) (p : List (List UInt8) × List UInt8 × Nat) : glueS L (glueS [m] p) = glueS (L ++ [m]) p := by simp [glueS]
theorem glueS_nil (p : List (List UInt8) × List UInt8 × Nat) : glueS [] p = p := rfl
theorem verd_err {M : Nat} {b : List UInt8} (h : (verd M b).1 = 1) : (verd M b).2 ≠ 0 ∧ (verd M b).2 ≤ 5 := by
  have := headP_err b
  unfold verd at h ⊢
  repeat' split
  all_goals simp_all
  all_goals omega
end Go.Proofs.Ytohbbbolfdidcaa
