/- The plain mathematics of layer 1: lengths, fields, integers' contents. No program is named. -/
import Derived.KernelRfl
namespace Go.Proofs.Ytabaeiolpbdjnaa

/-- A number's bytes, the least first. -/
def le (n : Nat) : List UInt8 := if n = 0 then [] else UInt8.ofNat n :: le (n / 256)
  termination_by n
  decreasing_by omega
theorem le_zero : le 0 = [] := by unfold le; simp
theorem le_pos {n : Nat} (h : 0 < n) : le n = UInt8.ofNat n :: le (n / 256) := by
  conv => lhs; unfold le
  rw [if_neg (by omega)]
theorem le_len (n : Nat) (h : n < 4294967296) : (le n).length ≤ 4 := by
  by_cases h0 : n = 0
  · subst h0; simp [le_zero]
  rw [le_pos (by omega)]
  by_cases h1 : n / 256 = 0
  · rw [h1, le_zero]; simp
  rw [le_pos (by omega)]
  by_cases h2 : n / 256 / 256 = 0
  · rw [h2, le_zero]; simp
  rw [le_pos (by omega)]
  by_cases h3 : n / 256 / 256 / 256 = 0
  · rw [h3, le_zero]; simp
  rw [le_pos (by omega), show n / 256 / 256 / 256 / 256 = 0 by omega, le_zero]; simp

/-- The shortest length. -/
def lenB (n : Int) : List UInt8 :=
  if n < 0 ∨ 2147483647 < n then [] else if n < 128 then [UInt8.ofNat n.toNat] else UInt8.ofNat (128 + (le n.toNat).length) :: (le n.toNat).reverse
theorem lenB_none {n : Int} (h : n < 0 ∨ 2147483647 < n) : lenB n = [] := by unfold lenB; rw [if_pos h]
theorem lenB_short {n : Int} (h0 : 0 ≤ n) (h : n < 128) : lenB n = [UInt8.ofNat n.toNat] := by unfold lenB; rw [if_neg (by omega), if_pos h]
theorem lenB_long {n : Int} (h0 : 128 ≤ n) (h : n ≤ 2147483647) : lenB n = UInt8.ofNat (128 + (le n.toNat).length) :: (le n.toNat).reverse := by unfold lenB; rw [if_neg (by omega), if_neg (by omega)]
theorem lenB_le (n : Int) : (lenB n).length ≤ 5 := by
  by_cases h : n < 0 ∨ 2147483647 < n
  · simp [lenB_none h]
  by_cases h1 : n < 128
  · simp [lenB_short (by omega) h1]
  rw [lenB_long (by omega) (by omega)]
  have := le_len n.toNat (by omega)
  simp; omega
theorem lenB_pos {n : Int} (h0 : 0 ≤ n) (h : n ≤ 2147483647) : 0 < (lenB n).length := by
  by_cases h1 : n < 128
  · simp [lenB_short (by omega) h1]
  rw [lenB_long (by omega) (by omega)]; simp

/-- A number's first k bytes, the greatest first: byte(n >> 8*(k-1)) .. byte(n). -/
def be (n : Nat) : Nat → List UInt8
  | 0 => []
  | k + 1 => UInt8.ofNat (n / 256 ^ k) :: be n k
theorem be_length (n : Nat) : ∀ k, (be n k).length = k
  | 0 => rfl
  | k + 1 => by simp [be, be_length n k]
theorem be_le (n k : Nat) (hlo : k = 0 ∨ 256 ^ (k - 1) ≤ n) (hhi : n < 256 ^ k) : be n k = (le n).reverse := by
  induction k generalizing n with
  | zero => simp at hhi; subst hhi; simp [be, le_zero]
  | succ k ih =>
    have hn : 0 < n := by
      rcases hlo with h | h
      · cases h
      · have : 0 < 256 ^ (k + 1 - 1) := Nat.pow_pos (by decide)
        omega
    rw [le_pos hn, List.reverse_cons, ← ih (n / 256) ?_ ?_]
    · clear ih hlo hhi hn
      induction k with
      | zero => simp [be]
      | succ k ih2 => rw [be, ih2, be, List.cons_append, Nat.div_div_eq_div_mul, show 256 ^ (k + 1) = 256 * 256 ^ k by rw [Nat.pow_succ, Nat.mul_comm]]
    · rcases Nat.eq_zero_or_pos k with h | h
      · exact .inl h
      · right
        rcases hlo with h' | h'
        · cases h'
        · rw [Nat.le_div_iff_mul_le (by decide)]
          have : 256 ^ (k + 1 - 1) = 256 ^ (k - 1) * 256 := by rw [← Nat.pow_succ]; congr 1; omega
          omega
    · rw [Nat.div_lt_iff_lt_mul (by decide)]
      rw [Nat.pow_succ] at hhi; omega

end Go.Proofs.Ytabaeiolpbdjnaa
