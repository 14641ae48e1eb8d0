/- Plain: integers' contents. No program is named. -/
import Derived.Test.YtabaeiolpbdjnaaBerHP
namespace Go.Proofs.Ytabaeiolpbdjnaa

/-- The lowest k bytes of n in two's complement, the greatest first. -/
def ibe (n : Int) : Nat → List UInt8
  | 0 => []
  | k + 1 => UInt8.ofNat ((n / 2 ^ (8 * k)) % 256).toNat :: ibe n k
theorem ibe_length (n : Int) : ∀ k, (ibe n k).length = k
  | 0 => rfl
  | k + 1 => by simp [ibe, ibe_length n k]
theorem ibe_get (n : Int) : ∀ (k j : Nat), j < k → (ibe n k)[j]? = some (UInt8.ofNat ((n / 2 ^ (8 * (k - 1 - j))) % 256).toNat)
  | 0, j, h => absurd h (by omega)
  | k + 1, 0, _ => by simp [ibe]
  | k + 1, j + 1, h => by rw [ibe, List.getElem?_cons_succ, ibe_get n k j (by omega), show k + 1 - 1 - (j + 1) = k - 1 - j by omega]
theorem ibe_drop (n : Int) (k : Nat) : (ibe n (k + 1)).drop 1 = ibe n k := by simp [ibe]
theorem byte_nat (z : Int) : ((UInt8.ofNat (z % 256).toNat).toNat : Int) = z % 256 := by rw [UInt8.toNat_ofNat']; omega

/-- n fits k bytes. -/
def fits (n : Int) (k : Nat) : Prop := n / 2 ^ (8 * k - 1) = 0 ∨ n / 2 ^ (8 * k - 1) = -1
instance (n : Int) (k : Nat) : Decidable (fits n k) := by unfold fits; infer_instance

theorem pow_split (k : Nat) (hk : 1 ≤ k) : (2 : Int) ^ (8 * (k + 1) - 1) = 2 ^ (8 * k - 1) * 256 := by
  rw [show 8 * (k + 1) - 1 = (8 * k - 1) + 8 by omega, Int.pow_add]; rfl
theorem pow_low (k : Nat) (hk : 1 ≤ k) : (2 : Int) ^ (8 * k) = 2 ^ (8 * k - 1) * 2 := by
  conv => lhs; rw [show 8 * k = (8 * k - 1) + 1 by omega, Int.pow_succ]
theorem pow_b1 (k : Nat) (hk : 1 ≤ k) : (2 : Int) ^ (8 * k - 1) = 2 ^ (8 * (k - 1)) * 128 := by
  rw [show 8 * k - 1 = 8 * (k - 1) + 7 by omega, Int.pow_add]; rfl
theorem fits_mono (n : Int) (k : Nat) (hk : 1 ≤ k) (h : fits n k) : fits n (k + 1) := by
  unfold fits at *
  rw [pow_split k hk, ← Int.ediv_ediv_of_nonneg (Int.le_of_lt (Int.pow_pos (by decide)))]
  omega
theorem fits_mono' (n : Int) (j k : Nat) (hj : 1 ≤ j) (hjk : j ≤ k) (h : fits n j) : fits n k := by
  obtain ⟨d, rfl⟩ := Nat.le.dest hjk
  clear hjk
  induction d with
  | zero => exact h
  | succ d ih => exact fits_mono n (j + d) (by omega) ih

/-- A byte can be struck off just if n fits one byte less. -/
theorem strike (n : Int) (k : Nat) (hk : 1 ≤ k) (h : fits n (k + 1)) :
    fits n k ↔ ((n / 2 ^ (8 * k)) % 256 = 0 ∧ (n / 2 ^ (8 * (k - 1))) % 256 < 128) ∨ ((n / 2 ^ (8 * k)) % 256 = 255 ∧ 128 ≤ (n / 2 ^ (8 * (k - 1))) % 256) := by
  unfold fits at *
  rw [pow_split k hk, ← Int.ediv_ediv_of_nonneg (Int.le_of_lt (Int.pow_pos (by decide)))] at h
  rw [pow_low k hk, ← Int.ediv_ediv_of_nonneg (Int.le_of_lt (Int.pow_pos (by decide)))]
  rw [pow_b1 k hk, ← Int.ediv_ediv_of_nonneg (Int.le_of_lt (Int.pow_pos (by decide)))] at h ⊢
  omega

/-- How many bytes an integer's content has. -/
def minK (n : Int) : Nat := if fits n 1 then 1 else if fits n 2 then 2 else if fits n 3 then 3 else if fits n 4 then 4 else if fits n 5 then 5 else if fits n 6 then 6 else if fits n 7 then 7 else 8
def intB (n : Int) : List UInt8 := ibe n (minK n)
theorem minK_bd (n : Int) : 1 ≤ minK n ∧ minK n ≤ 8 := by unfold minK; repeat' split
                                                          all_goals omega
theorem minK_of (n : Int) (k : Nat) (hk : 1 ≤ k) (h8 : k ≤ 8) (hf : fits n k ∨ k = 8) (hl : k = 1 ∨ ¬ fits n (k - 1)) : minK n = k := by
  have hnot : ∀ j, 1 ≤ j → j < k → ¬ fits n j := fun j h1 h2 hj => by
    rcases hl with h | h
    · omega
    · exact h (fits_mono' n j (k - 1) h1 (by omega) hj)
  unfold minK
  match k, hk, h8 with
  | 1, _, _ => rw [if_pos (by simpa using hf)]
  | 2, _, _ => rw [if_neg (hnot 1 (by omega) (by omega)), if_pos (by simpa using hf)]
  | 3, _, _ => rw [if_neg (hnot 1 (by omega) (by omega)), if_neg (hnot 2 (by omega) (by omega)), if_pos (by simpa using hf)]
  | 4, _, _ => rw [if_neg (hnot 1 (by omega) (by omega)), if_neg (hnot 2 (by omega) (by omega)), if_neg (hnot 3 (by omega) (by omega)), if_pos (by simpa using hf)]
  | 5, _, _ => rw [if_neg (hnot 1 (by omega) (by omega)), if_neg (hnot 2 (by omega) (by omega)), if_neg (hnot 3 (by omega) (by omega)), if_neg (hnot 4 (by omega) (by omega)), if_pos (by simpa using hf)]
  | 6, _, _ => rw [if_neg (hnot 1 (by omega) (by omega)), if_neg (hnot 2 (by omega) (by omega)), if_neg (hnot 3 (by omega) (by omega)), if_neg (hnot 4 (by omega) (by omega)), if_neg (hnot 5 (by omega) (by omega)), if_pos (by simpa using hf)]
  | 7, _, _ => rw [if_neg (hnot 1 (by omega) (by omega)), if_neg (hnot 2 (by omega) (by omega)), if_neg (hnot 3 (by omega) (by omega)), if_neg (hnot 4 (by omega) (by omega)), if_neg (hnot 5 (by omega) (by omega)), if_neg (hnot 6 (by omega) (by omega)), if_pos (by simpa using hf)]
  | 8, _, _ => rw [if_neg (hnot 1 (by omega) (by omega)), if_neg (hnot 2 (by omega) (by omega)), if_neg (hnot 3 (by omega) (by omega)), if_neg (hnot 4 (by omega) (by omega)), if_neg (hnot 5 (by omega) (by omega)), if_neg (hnot 6 (by omega) (by omega)), if_neg (hnot 7 (by omega) (by omega))]
theorem fits8 (n : Int) (h0 : -9223372036854775808 ≤ n) (h1 : n ≤ 9223372036854775807) : fits n 8 := by
  unfold fits
  simp only [Nat.reduceMul, Nat.reduceSub, Int.reducePow]
  omega
end Go.Proofs.Ytabaeiolpbdjnaa
