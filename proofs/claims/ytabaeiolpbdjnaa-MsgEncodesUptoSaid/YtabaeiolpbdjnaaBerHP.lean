/- Plain: what Head, Take and List compute. No program is named. -/
import Derived.Test.YtabaeiolpbdjnaaBerP
import Derived.Laws.BitsAllLaws
import Derived.Laws.BitsLemmas
namespace Go.Proofs.Ytabaeiolpbdjnaa

/-- Bytes as a number, the greatest first. -/
def num (bs : List UInt8) : Nat := bs.foldl (fun n b => n * 256 + b.toNat) 0
theorem num_snoc (bs : List UInt8) (b : UInt8) : num (bs ++ [b]) = num bs * 256 + b.toNat := by simp [num]
theorem num_go (bs : List UInt8) : ∀ n : Nat, bs.foldl (fun n b => n * 256 + b.toNat) n < (n + 1) * 256 ^ bs.length := by
  induction bs with
  | nil => intro n; simp
  | cons b bs ih =>
    intro n
    have h1 := ih (n * 256 + b.toNat)
    have h2 : (n * 256 + b.toNat + 1) * 256 ^ bs.length ≤ ((n + 1) * 256) * 256 ^ bs.length := Nat.mul_le_mul_right _ (by have := b.toNat_lt; omega)
    rw [List.foldl_cons, List.length_cons, Nat.pow_succ, Nat.mul_comm (256 ^ bs.length) 256, ← Nat.mul_assoc]
    omega
theorem num_lt (bs : List UInt8) : num bs < 256 ^ bs.length := by
  have := num_go bs 0
  simpa [num] using this

/-- How long a tag and a length are; the length; the error. -/
def headP (xs : List UInt8) : Nat × Nat × Nat :=
  if 0 < xs.length ∧ (xs[0]?.getD 0).toNat % 32 = 31 then (0, 0, 2) else
  if xs.length < 2 then (0, 0, 5) else
  if (xs[1]?.getD 0).toNat < 128 then (2, (xs[1]?.getD 0).toNat, 0) else
  if (xs[1]?.getD 0).toNat = 128 ∨ 132 < (xs[1]?.getD 0).toNat then (0, 0, 2) else
  if xs.length < (xs[1]?.getD 0).toNat - 126 then (0, 0, 5) else ((xs[1]?.getD 0).toNat - 126, num ((xs.drop 2).take ((xs[1]?.getD 0).toNat - 128)), 0)

/-- Where there is no error: the head lies within the bytes. -/
theorem headP_ok (xs : List UInt8) (h : (headP xs).2.2 = 0) : 2 ≤ (headP xs).1 ∧ (headP xs).1 ≤ 6 ∧ (headP xs).1 ≤ xs.length ∧ (headP xs).2.1 < 4294967296 := by
  unfold headP at h ⊢
  split
  · rename_i h1; rw [if_pos h1] at h; simp at h
  · rename_i h1
    rw [if_neg h1] at h
    split
    · rename_i h2; rw [if_pos h2] at h; simp at h
    · rename_i h2
      rw [if_neg h2] at h
      split
      · simp; omega
      · rename_i h3
        rw [if_neg h3] at h
        split
        · rename_i h4; rw [if_pos h4] at h; simp at h
        · rename_i h4
          rw [if_neg h4] at h
          split
          · rename_i h5; rw [if_pos h5] at h; simp at h
          · have h6 := num_lt ((xs.drop 2).take ((xs[1]?.getD 0).toNat - 128))
            have h7 : 256 ^ ((xs.drop 2).take ((xs[1]?.getD 0).toNat - 128)).length ≤ 256 ^ 4 := Nat.pow_le_pow_right (by decide) (by rw [List.length_take]; omega)
            simp; omega
theorem headP_err (xs : List UInt8) : (headP xs).2.2 ≤ 5 ∧ ((headP xs).2.2 ≠ 0 → (headP xs).1 = 0 ∧ (headP xs).2.1 = 0) := by
  unfold headP
  repeat' split
  all_goals simp

/-- A field, taken: its tag, its content, what follows, the error. -/
def takeP (xs : List UInt8) : UInt8 × List UInt8 × List UInt8 × Nat :=
  if (headP xs).2.2 ≠ 0 then (0, [], [], (headP xs).2.2) else
  if xs.length - (headP xs).1 < (headP xs).2.1 then (0, [], [], 5) else
  (xs[0]?.getD 0, (xs.drop (headP xs).1).take (headP xs).2.1, xs.drop ((headP xs).1 + (headP xs).2.1), 0)

theorem u8_and127 (x : Int) (h0 : 0 ≤ x) (h1 : x < 256) : bits .and .u8 x 127 = x % 128 := bits_mask .u8 8 (by decide) wraps_u8 7 (by decide) x h0 h1
theorem ofInt_i64 (a : Nat) (ha : a < 9223372036854775808) : (BitVec.ofInt 64 (a : Int)).toNat = a := by
  rw [BitVec.ofInt_natCast, BitVec.toNat_ofNat]; exact Nat.mod_eq_of_lt (by omega)
/-- 'n<<8 | c'. -/
theorem i64_join (a b : Nat) (ha : a < 36028797018963968) (hb : b < 256) : bits .or .i64 (a * 256 : Int) (b : Int) = ((a * 256 + b : Nat) : Int) := by
  have e : ((a : Int) * 256) = ((a * 256 : Nat) : Int) := by omega
  rw [e]
  show IntKind.i64.wrap ((BitVec.ofInt 64 ((a * 256 : Nat) : Int) ||| BitVec.ofInt 64 (b : Int)).toNat : Int) = _
  rw [BitVec.toNat_or, ofInt_i64 _ (by omega), ofInt_i64 b (by omega), nat_join 8 (a * 256) b (by omega) (by omega), IntKind.wrap_i64]
  omega
end Go.Proofs.Ytabaeiolpbdjnaa
