/- Plain: fields in a stream. No function of the program is named. -/
import Derived.Test.YtohbbbolfdidcaaFrP
namespace Go.Proofs.Ytohbbbolfdidcaa

theorem fieldB_len (tag : UInt8) (xs : List UInt8) : (fieldB tag xs).length = 1 + (lenB xs.length).length + xs.length := by simp [fieldB]; omega
theorem verd_field (M : Nat) (xs ys : List UInt8) (hn : xs.length ≤ 2147483647) : verd M (fieldB 48 xs ++ ys) = if M < (fieldB 48 xs).length then (1, 4) else (2, (fieldB 48 xs).length) := by
  have hh := headP_field 48 xs.length (xs ++ ys) (by decide) hn
  have e : fieldB 48 xs ++ ys = 48 :: (lenB xs.length ++ (xs ++ ys)) := by simp [fieldB]
  have hl := fieldB_len 48 xs
  unfold verd
  rw [e, hh, if_neg (by simp), if_neg (by simp), if_neg (by simp), if_neg (by simp)]
  simp only []
  rw [hl]
  by_cases h : M < 1 + (lenB xs.length).length + xs.length
  · rw [if_pos h, if_pos h]
  · rw [if_neg h, if_neg h, if_neg (by simp; omega)]
theorem streamP_field {M : Nat} {xs : List UInt8} (ys : List UInt8) (hn : xs.length ≤ 2147483647) (h : (fieldB 48 xs).length ≤ M) : streamP M (fieldB 48 xs ++ ys) = glueS [fieldB 48 xs] (streamP M ys) := by
  have hv := verd_field M xs ys hn
  rw [if_neg (by omega)] at hv
  rw [streamP_msg hv, List.take_left, List.drop_left]
theorem streamP_over {M : Nat} {xs : List UInt8} (ys : List UInt8) (hn : xs.length ≤ 2147483647) (h : M < (fieldB 48 xs).length) : streamP M (fieldB 48 xs ++ ys) = ([], [], 4) := by
  have hv := verd_field M xs ys hn
  rw [if_pos h] at hv
  rw [streamP_err (by rw [hv]), hv]
theorem streamP_nil (M : Nat) : streamP M [] = ([], [], 0) := rfl
end Go.Proofs.Ytohbbbolfdidcaa
