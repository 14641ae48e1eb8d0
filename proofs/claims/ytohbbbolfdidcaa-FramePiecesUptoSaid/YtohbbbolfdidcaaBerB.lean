/- Plain: what was laid into a field is taken out; a field that is cut off lacks something. No program is named. -/
import Derived.Test.YtohbbbolfdidcaaBerHP
import Derived.Test.YtohbbbolfdidcaaBerFP
namespace Go.Proofs.Ytohbbbolfdidcaa

theorem num_rev_le (n : Nat) : num (le n).reverse = n := by
  induction n using Nat.strongRecOn with
  | _ n ih =>
    rcases Nat.eq_zero_or_pos n with h | h
    · subst h; simp [le_zero, num]
    · rw [le_pos h, List.reverse_cons, num_snoc, ih (n / 256) (by omega), UInt8.toNat_ofNat']
      omega
theorem le_len_pos {n : Nat} (h : 0 < n) : 0 < (le n).length := by rw [le_pos h]; simp
theorem ofNat_small {n : Nat} (h : n < 256) : (UInt8.ofNat n).toNat = n := by rw [UInt8.toNat_ofNat']; omega

/-- The head of a field, or of a beginning of it that holds the head. -/
theorem headP_field (tag : UInt8) (n : Nat) (ys : List UInt8) (ht : ¬ tag.toNat % 32 = 31) (hn : n ≤ 2147483647) :
    headP (tag :: (lenB n ++ ys)) = (1 + (lenB n).length, n, 0) := by
  by_cases h1 : n < 128
  · rw [lenB_short (by omega) (by omega)]
    unfold headP
    rw [if_neg (by simp; exact ht), if_neg (by simp)]
    simp only [Int.toNat_natCast, List.cons_append, List.nil_append, List.getElem?_cons_succ, List.getElem?_cons_zero, Option.getD_some, List.length_cons, List.length_nil]
    rw [ofNat_small (by omega), if_pos h1]
  · have hk := le_len n (by omega)
    have hk1 := le_len_pos (n := n) (by omega)
    rw [lenB_long (by omega) (by omega)]
    simp only [Int.toNat_natCast]
    unfold headP
    rw [if_neg (by simp; exact ht), if_neg (by simp)]
    simp only [List.cons_append, List.getElem?_cons_succ, List.getElem?_cons_zero, Option.getD_some, List.length_cons, List.length_reverse, List.length_append, List.drop_succ_cons, List.drop_zero]
    rw [ofNat_small (by omega), if_neg (by omega), if_neg (by omega), if_neg (by omega), show 128 + (le n).length - 128 = (le n).length by omega]
    have : ((le n).reverse ++ ys).take (le n).length = (le n).reverse := by
      rw [← List.length_reverse]; exact List.take_left
    rw [this, num_rev_le, show 128 + (le n).length - 126 = 1 + ((le n).length + 1) by omega]

theorem takeP_field (tag : UInt8) (xs ys : List UInt8) (ht : ¬ tag.toNat % 32 = 31) (hn : xs.length ≤ 2147483647) :
    takeP (fieldB tag xs ++ ys) = (tag, xs, ys, 0) := by
  have hh := headP_field tag xs.length (xs ++ ys) ht hn
  have e : fieldB tag xs ++ ys = tag :: (lenB xs.length ++ (xs ++ ys)) := by simp [fieldB]
  rw [e]
  unfold takeP
  rw [hh]
  simp only [ne_eq, not_true_eq_false, if_false]
  rw [if_neg (by simp; omega)]
  have d1 : (tag :: (lenB xs.length ++ (xs ++ ys))).drop (1 + (lenB xs.length).length) = xs ++ ys := by
    rw [Nat.add_comm, List.drop_succ_cons, List.drop_left]
  have d2 : (tag :: (lenB xs.length ++ (xs ++ ys))).drop (1 + (lenB xs.length).length + xs.length) = ys := by
    rw [← List.drop_drop, d1, List.drop_left]
  rw [d1, d2, List.take_left]
  simp
theorem takeP_bad (tag : UInt8) (ys : List UInt8) (ht : tag.toNat % 32 = 31) : takeP (tag :: ys) = (0, [], [], 2) := by
  have : headP (tag :: ys) = (0, 0, 2) := by unfold headP; rw [if_pos ⟨by simp, by simpa using ht⟩]
  unfold takeP
  rw [this]
  simp

theorem takeP_cut (tag : UInt8) (xs : List UInt8) (ht : ¬ tag.toNat % 32 = 31) (hn : xs.length ≤ 2147483647) (k : Nat) (hk : k < (fieldB tag xs).length) :
    takeP ((fieldB tag xs).take k) = (0, [], [], 5) := by
  have hlp := lenB_pos (n := xs.length) (by omega) (by omega)
  rcases Nat.lt_or_ge k 2 with h2 | h2
  · have : headP ((fieldB tag xs).take k) = (0, 0, 5) := by
      unfold headP
      rw [if_neg, if_pos (by rw [List.length_take]; omega)]
      rintro ⟨h, h'⟩
      rw [List.length_take] at h
      have : k = 1 := by omega
      subst this
      simp [fieldB] at h'
      exact ht h'
    unfold takeP
    rw [this]; simp
  · by_cases hL : 1 + (lenB xs.length).length ≤ k
    · -- the head is whole
      have e : (fieldB tag xs).take k = tag :: (lenB xs.length ++ xs.take (k - (1 + (lenB xs.length).length))) := by
        unfold fieldB
        obtain ⟨j, rfl⟩ : ∃ j, k = j + 1 := ⟨k - 1, by omega⟩
        rw [List.take_succ_cons, List.take_append, List.take_of_length_le (by omega)]
        congr 3; omega
      have hh := headP_field tag xs.length (xs.take (k - (1 + (lenB xs.length).length))) ht hn
      rw [e]
      unfold takeP
      rw [hh]
      simp only [ne_eq, not_true_eq_false, if_false]
      rw [if_pos]
      simp [fieldB] at hk ⊢
      omega
    · -- the length is cut
      have h128 : ¬ xs.length < 128 := by
        intro h
        rw [lenB_short (by omega) (by omega)] at hL
        simp at hL; omega
      have hll := lenB_long (n := (xs.length : Int)) (by omega) (by omega)
      rw [Int.toNat_natCast] at hll
      have hk4 := le_len xs.length (by omega)
      have hk1 := le_len_pos (n := xs.length) (by omega)
      have hlen : (lenB xs.length).length = 1 + (le xs.length).length := by rw [hll]; simp; omega
      have hh : headP ((fieldB tag xs).take k) = (0, 0, 5) := by
        have g0 : ((fieldB tag xs).take k)[0]?.getD 0 = tag := by rw [List.getElem?_take_of_lt (by omega)]; simp [fieldB]
        have g1 : (((fieldB tag xs).take k)[1]?.getD 0).toNat = 128 + (le xs.length).length := by
          rw [List.getElem?_take_of_lt (by omega)]
          simp only [fieldB, hll, List.cons_append, List.getElem?_cons_succ, List.getElem?_cons_zero, Option.getD_some]
          exact ofNat_small (by omega)
        have gl : ((fieldB tag xs).take k).length = k := by rw [List.length_take]; omega
        unfold headP
        rw [g0, g1, gl, if_neg (by rintro ⟨_, h⟩; exact ht h), if_neg (by omega), if_neg (by omega), if_neg (by omega), if_pos (by omega)]
      unfold takeP
      rw [hh]; simp
end Go.Proofs.Ytohbbbolfdidcaa
