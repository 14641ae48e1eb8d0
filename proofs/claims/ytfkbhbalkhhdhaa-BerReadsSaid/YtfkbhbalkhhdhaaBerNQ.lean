/- Plain: what integers' contents read as. No function of the program is named. -/
import Derived.Test.YtfkbhbalkhhdhaaBerNP
namespace Go.Proofs.Ytfkbhbalkhhdhaa

theorem i64_sjoin (m c : Int) (h0 : -36028797018963968 ≤ m) (h1 : m < 36028797018963968) (hc : 0 ≤ c ∧ c < 256) : bits .or .i64 (m * 256) c = m * 256 + c := by
  show IntKind.i64.wrap ((BitVec.ofInt 64 (m * 256) ||| BitVec.ofInt 64 c).toNat : Int) = _
  obtain ⟨c, rfl⟩ := Int.eq_ofNat_of_zero_le hc.1
  obtain ⟨a, ha⟩ := Int.eq_ofNat_of_zero_le (show 0 ≤ m % 72057594037927936 by omega)
  have e : (BitVec.ofInt 64 (m * 256)).toNat = a * 256 := by
    rw [BitVec.toNat_ofInt]
    omega
  rw [BitVec.toNat_or, e, ofInt_i64 c (by omega), nat_join 8 (a * 256) c (by omega) (by omega), IntKind.wrap_i64]
  omega

/-- What an integer begins with: -1 behind a byte from 128 on. -/
def sg (xs : List UInt8) : Int := if 128 ≤ ((xs[0]?.getD 0).toNat : Int) then -1 else 0
def joinF (n : Int) (c : UInt8) : Int := n * 256 + (c.toNat : Int)
def sv (xs : List UInt8) : Int := xs.foldl joinF (sg xs)
/-- An integer's content, read: the value, the error's number. -/
def toIntP (xs : List UInt8) : Int × Int := if xs.length = 0 ∨ 8 < xs.length ∨ intB (sv xs) ≠ xs then (0, 2) else (sv xs, 0)
theorem toIntP_bad {xs : List UInt8} (h : xs.length = 0 ∨ 8 < xs.length) : toIntP xs = (0, 2) := by
  unfold toIntP; rw [if_pos (by rcases h with h | h; (· exact .inl h); (· exact .inr (.inl h)))]
theorem toIntP_off {xs : List UInt8} (h : intB (sv xs) ≠ xs) : toIntP xs = (0, 2) := by
  unfold toIntP; rw [if_pos (.inr (.inr h))]
theorem toIntP_ok {xs : List UInt8} (h0 : 0 < xs.length) (h8 : xs.length ≤ 8) (h : intB (sv xs) = xs) : toIntP xs = (sv xs, 0) := by
  unfold toIntP; rw [if_neg]; rintro (h' | h' | h'); (· omega); (· omega); (· exact h' h)

/-- Where the reading stands behind j bytes. -/
def acc (xs : List UInt8) (j : Nat) : Int := (xs.take j).foldl joinF (sg xs)
theorem acc_zero (xs : List UInt8) : acc xs 0 = sg xs := by simp [acc]
theorem acc_all (xs : List UInt8) (j : Nat) (h : xs.length ≤ j) : acc xs j = sv xs := by unfold acc sv; rw [List.take_of_length_le h]
theorem acc_succ (xs : List UInt8) (j : Nat) (h : j < xs.length) : acc xs (j + 1) = acc xs j * 256 + ((xs[j]?.getD 0).toNat : Int) := by
  unfold acc
  rw [List.take_succ_eq_append_getElem h, List.foldl_append, List.getElem?_eq_getElem h]
  rfl
theorem acc_bound (xs : List UInt8) : ∀ j, j < xs.length → -(2 ^ (8 * (j + 1) - 1)) ≤ acc xs (j + 1) ∧ acc xs (j + 1) < 2 ^ (8 * (j + 1) - 1)
  | 0, h => by
    rw [acc_succ xs 0 h, acc_zero]
    have := (xs[0]?.getD 0).toNat_lt
    unfold sg
    simp only [Nat.reduceAdd, Nat.reduceMul, Nat.reduceSub, Int.reducePow]
    split <;> omega
  | j + 1, h => by
    have ih := acc_bound xs j (by omega)
    have := (xs[j + 1]?.getD 0).toNat_lt
    rw [acc_succ xs (j + 1) h, pow_split (j + 1) (by omega)]
    generalize (2 : Int) ^ (8 * (j + 1) - 1) = p at *
    omega
theorem pow_le55 (j : Nat) (h1 : 1 ≤ j) (h : j ≤ 7) : (2 : Int) ^ (8 * j - 1) ≤ 36028797018963968 := by
  match j, h1, h with
  | 1, _, _ | 2, _, _ | 3, _, _ | 4, _, _ | 5, _, _ | 6, _, _ | 7, _, _ => decide
theorem acc_small (xs : List UInt8) (j : Nat) (h : j < xs.length) (h8 : xs.length ≤ 8) : -36028797018963968 ≤ acc xs j ∧ acc xs j < 36028797018963968 := by
  match j with
  | 0 => rw [acc_zero]; unfold sg; split <;> omega
  | j + 1 =>
    have := acc_bound xs j (by omega)
    have := pow_le55 (j + 1) (by omega) (by omega)
    omega
theorem sv_range (xs : List UInt8) (h : 0 < xs.length) (h8 : xs.length ≤ 8) : -9223372036854775808 ≤ sv xs ∧ sv xs ≤ 9223372036854775807 := by
  have h1 := acc_small xs (xs.length - 1) (by omega) h8
  have h2 := acc_succ xs (xs.length - 1) (by omega)
  have := (xs[xs.length - 1]?.getD 0).toNat_lt
  rw [Nat.sub_add_cancel (by omega), acc_all xs _ (Nat.le_refl _)] at h2
  omega
theorem ref_start (xs : List UInt8) : sg xs * 256 + ((xs[0]?.getD 0).toNat : Int) = IntKind.i8.wrap ((xs[0]?.getD 0).toNat : Int) := by
  have := (xs[0]?.getD 0).toNat_lt
  unfold sg IntKind.wrap
  split
  all_goals simp [IntKind.bits, IntKind.signed]
  all_goals (try split)
  all_goals omega

/-- What Int writes, ToInt reads. -/
theorem foldl_ibe (n : Int) : ∀ (k : Nat) (s : Int), (ibe n k).foldl joinF s = s * 2 ^ (8 * k) + n % 2 ^ (8 * k)
  | 0, s => by simp [ibe, Int.emod_one]
  | k + 1, s => by
    rw [ibe, List.foldl_cons, foldl_ibe n k, joinF, byte_nat]
    have hp : (0 : Int) < 2 ^ (8 * k) := Int.pow_pos (by decide)
    have e : (2 : Int) ^ (8 * (k + 1)) = 2 ^ (8 * k) * 256 := by rw [show 8 * (k + 1) = 8 * k + 8 by omega, Int.pow_add]; rfl
    rw [e, Int.emod_def n (2 ^ (8 * k) * 256), ← Int.ediv_ediv_of_nonneg (Int.le_of_lt hp)]
    have h1 := Int.mul_ediv_add_emod n (2 ^ (8 * k))
    have h2 := Int.mul_ediv_add_emod (n / 2 ^ (8 * k)) 256
    generalize (2 : Int) ^ (8 * k) = p at *
    generalize n / p = q at *
    grind
theorem sv_intB (n : Int) (h0 : -9223372036854775808 ≤ n) (h1 : n ≤ 9223372036854775807) : sv (intB n) = n := by
  have hb := minK_bd n
  have hf : fits n (minK n) := by
    unfold minK
    repeat' split
    all_goals first | assumption | exact fits8 n h0 h1
  unfold intB
  generalize minK n = k at *
  unfold sv
  rw [foldl_ibe]
  have hs : sg (ibe n k) = n / 2 ^ (8 * k) := by
    unfold sg
    rw [ibe_get n k 0 hb.1, Option.getD_some, byte_nat, Nat.sub_zero, pow_low k hb.1, ← Int.ediv_ediv_of_nonneg (Int.le_of_lt (Int.pow_pos (by decide)))]
    unfold fits at hf
    rw [pow_b1 k hb.1, ← Int.ediv_ediv_of_nonneg (Int.le_of_lt (Int.pow_pos (by decide)))] at hf ⊢
    split <;> omega
  rw [hs, Int.mul_comm]
  exact Int.mul_ediv_add_emod n _
theorem intB_length (n : Int) : (intB n).length = minK n := ibe_length n _
theorem toIntP_intB (n : Int) (h0 : -9223372036854775808 ≤ n) (h1 : n ≤ 9223372036854775807) : toIntP (intB n) = (n, 0) := by
  have hb := minK_bd n
  have hl := intB_length n
  have hs := sv_intB n h0 h1
  rw [toIntP_ok (by omega) (by omega) (by rw [hs]), hs]
end Go.Proofs.Ytfkbhbalkhhdhaa
