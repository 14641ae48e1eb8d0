/- Plain: a stream in pieces; a field that is cut off, in a stream. No function of the program is named. -/
import Derived.Test.YtohbbbolfdidcaaFrQ
namespace Go.Proofs.Ytohbbbolfdidcaa

/-- What follows makes no difference to a head that is whole, or bad. -/
theorem headP_append (xs ys : List UInt8) (h : (headP xs).2.2 ≠ 5) : headP (xs ++ ys) = headP xs := by
  match xs, h with
  | [], h => exact absurd (by simp [headP]) h
  | [x], h =>
    unfold headP at h ⊢
    by_cases h1 : x.toNat % 32 = 31
    · rw [if_pos (by simpa using h1), if_pos (by simpa using h1)]
    · rw [if_neg (by simpa using h1), if_pos (by simp)] at h
      exact absurd rfl h
  | x :: y :: zs, h =>
    unfold headP at h ⊢
    simp only [List.cons_append, List.length_cons, List.getElem?_cons_zero, List.getElem?_cons_succ, Option.getD_some, List.drop_succ_cons, List.drop_zero, List.length_append] at h ⊢
    by_cases h1 : x.toNat % 32 = 31
    · rw [if_pos ⟨by omega, h1⟩, if_pos ⟨by omega, h1⟩]
    have a1 : ¬ (0 < zs.length + 1 + 1 ∧ x.toNat % 32 = 31) := fun q => h1 q.2
    have a2 : ¬ (0 < zs.length + ys.length + 1 + 1 ∧ x.toNat % 32 = 31) := fun q => h1 q.2
    have a3 : ¬ (zs.length + 1 + 1 < 2) := by omega
    have a4 : ¬ (zs.length + ys.length + 1 + 1 < 2) := by omega
    rw [if_neg a1, if_neg a3] at h
    rw [if_neg a1, if_neg a2, if_neg a3, if_neg a4]
    by_cases h2 : y.toNat < 128
    · rw [if_pos h2, if_pos h2]
    rw [if_neg h2] at h
    rw [if_neg h2, if_neg h2]
    by_cases h3 : y.toNat = 128 ∨ 132 < y.toNat
    · rw [if_pos h3, if_pos h3]
    rw [if_neg h3] at h
    rw [if_neg h3, if_neg h3]
    by_cases h4 : zs.length + 1 + 1 < y.toNat - 126
    · rw [if_pos h4] at h
      exact absurd rfl h
    rw [if_neg h4, if_neg (by omega), List.take_append_of_le_length (by omega)]
theorem verd_append (M : Nat) (xs ys : List UInt8) (h : (verd M xs).1 ≠ 0) : verd M (xs ++ ys) = verd M xs := by
  unfold verd at h ⊢
  by_cases h0 : xs.length = 0
  · rw [if_pos h0] at h; exact absurd rfl h
  have g0 : (xs ++ ys)[0]?.getD 0 = xs[0]?.getD 0 := by rw [List.getElem?_append_left (by omega)]
  rw [if_neg h0] at h
  rw [if_neg h0, if_neg (by rw [List.length_append]; omega), g0]
  by_cases h1 : (xs[0]?.getD 0).toNat ≠ 48
  · rw [if_pos h1, if_pos h1]
  rw [if_neg h1] at h
  rw [if_neg h1, if_neg h1]
  by_cases h2 : (headP xs).2.2 = 5
  · rw [if_pos h2] at h; exact absurd rfl h
  rw [if_neg h2] at h
  rw [headP_append xs ys h2, if_neg h2, if_neg h2]
  by_cases h3 : (headP xs).2.2 ≠ 0
  · rw [if_pos h3, if_pos h3]
  rw [if_neg h3] at h
  rw [if_neg h3, if_neg h3]
  by_cases h4 : M < (headP xs).1 + (headP xs).2.1
  · rw [if_pos h4, if_pos h4]
  rw [if_neg h4] at h
  rw [if_neg h4, if_neg h4]
  by_cases h5 : xs.length < (headP xs).1 + (headP xs).2.1
  · rw [if_pos h5] at h; exact absurd rfl h
  rw [if_neg h5, if_neg (by rw [List.length_append]; omega)]
/-- A stream that ended in an error ends so whatever follows; else what is left goes on with what follows. -/
theorem streamP_append (M : Nat) : ∀ (k : Nat) (xs ys : List UInt8), xs.length ≤ k → streamP M (xs ++ ys) = if (streamP M xs).2.2 ≠ 0 then streamP M xs else glueS (streamP M xs).1 (streamP M ((streamP M xs).2.1 ++ ys)) := by
  intro k
  induction k with
  | zero =>
    intro xs ys h
    obtain rfl : xs = [] := List.eq_nil_of_length_eq_zero (by omega)
    rfl
  | succ k ih =>
    intro xs ys h
    by_cases h0 : (verd M xs).1 = 0
    · rw [streamP_wait h0, if_neg (by simp)]
      rfl
    by_cases h1 : (verd M xs).1 = 1
    · have he := verd_err h1
      rw [streamP_err h1, if_pos he.1, streamP_err (by rw [verd_append M xs ys h0]; exact h1), verd_append M xs ys h0]
    · have hm := verd_msg h0 h1
      have e1 : streamP M xs = glueS [xs.take (verd M xs).2] (streamP M (xs.drop (verd M xs).2)) := by rw [streamP_eq, if_neg h0, if_neg h1]
      have e2 : streamP M (xs ++ ys) = glueS [xs.take (verd M xs).2] (streamP M (xs.drop (verd M xs).2 ++ ys)) := by
        rw [streamP_eq, verd_append M xs ys h0, if_neg h0, if_neg h1, List.take_append_of_le_length hm.2.1, List.drop_append_of_le_length hm.2.1]
      rw [e1, e2, ih _ ys (by rw [List.length_drop]; omega)]
      by_cases h2 : (streamP M (xs.drop (verd M xs).2)).2.2 ≠ 0
      · rw [if_pos h2, if_pos (by simpa [glueS] using h2)]
      · rw [if_neg h2, if_neg (by simpa [glueS] using h2)]
        simp [glueS]
/-- What is left lacks something; a stream in an error leaves nothing. -/
theorem streamP_left (M : Nat) : ∀ (k : Nat) (xs : List UInt8), xs.length ≤ k → ((streamP M xs).2.2 ≠ 0 → (streamP M xs).2.1 = []) ∧ (streamP M xs).2.1.length ≤ xs.length ∧ 2 * (streamP M xs).1.length + (streamP M xs).2.1.length ≤ xs.length := by
  intro k
  induction k with
  | zero =>
    intro xs h
    obtain rfl : xs = [] := List.eq_nil_of_length_eq_zero (by omega)
    simp [streamP_nil]
  | succ k ih =>
    intro xs h
    by_cases h0 : (verd M xs).1 = 0
    · rw [streamP_wait h0]; simp
    by_cases h1 : (verd M xs).1 = 1
    · rw [streamP_err h1]; simp
    · have hm := verd_msg h0 h1
      have e1 : streamP M xs = glueS [xs.take (verd M xs).2] (streamP M (xs.drop (verd M xs).2)) := by rw [streamP_eq, if_neg h0, if_neg h1]
      have i := ih (xs.drop (verd M xs).2) (by rw [List.length_drop]; omega)
      rw [List.length_drop] at i
      rw [e1]
      simp only [glueS, List.length_append, List.length_cons, List.length_nil]
      exact ⟨i.1, by omega, by omega⟩
/-- A beginning of a field. -/
theorem streamP_cut {M : Nat} {xs : List UInt8} (hn : xs.length ≤ 2147483647) (h : (fieldB 48 xs).length ≤ M) {k : Nat} (hk : k < (fieldB 48 xs).length) :
    streamP M ((fieldB 48 xs).take k) = ([], (fieldB 48 xs).take k, 0) := by
  refine streamP_wait (Decidable.byContradiction fun hc => ?_)
  have e := verd_append M _ ((fieldB 48 xs).drop k) hc
  have ev := verd_field M xs [] hn
  rw [List.append_nil, if_neg (by omega)] at ev
  rw [List.take_append_drop, ev] at e
  have hm := verd_msg hc (by rw [← e]; simp)
  rw [← e] at hm
  simp only [List.length_take] at hm
  omega
end Go.Proofs.Ytohbbbolfdidcaa
