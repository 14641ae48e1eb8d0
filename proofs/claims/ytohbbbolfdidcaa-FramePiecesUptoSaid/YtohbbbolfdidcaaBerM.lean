/- The walk of the reference's Length. -/
import Derived.Test.YtohbbbolfdidcaaBerP
import Derived.Test.YtohbbbolfdidcaaMem
namespace Go.Proofs.Ytohbbbolfdidcaa
open Go.RowKit

theorem rlength_none (n : Int) (w : World) (h : n < 0 ∨ 2147483647 < n) :
    Calls Try.prog 19 #[.int .i64 n] w fun e w' => e = .returned (.slice none 0 0) ∧ w = w' := by
  rcases h with h | h
  · go_enter Try.func19, Try.ntmps19
    go_wp2
    go_ret
    exact ⟨rfl, rfl⟩
  · have h' : ¬ n < 0 := by omega
    go_enter Try.func19, Try.ntmps19
    go_wp2
    go_ret
    exact ⟨rfl, rfl⟩
theorem rlength_short (n : Int) (w : World) (h0 : 0 ≤ n) (h : n < 128) :
    Calls Try.prog 19 #[.int .i64 n] w fun e w' => e = .returned (.slice (some ⟨w.heap.size, 0, none⟩) 1 1) ∧ w.alloc (.cells #[.int .u8 n] 5) = w' := by
  have h' : ¬ n < 0 := by omega
  have h'' : ¬ 2147483647 < n := by omega
  go_enter Try.func19, Try.ntmps19
  go_wp2
  go_ret
  exact ⟨rfl, rfl⟩
theorem be_get (n : Nat) : ∀ (k j : Nat), j < k → (be n k)[j]? = some (UInt8.ofNat (n / 256 ^ (k - 1 - j)))
  | 0, j, h => absurd h (by omega)
  | k + 1, 0, _ => by simp [be]
  | k + 1, j + 1, h => by rw [be, List.getElem?_cons_succ, be_get n k j (by omega), show k + 1 - 1 - (j + 1) = k - 1 - j by omega]
theorem be_take_succ (n k j : Nat) (z : Int) (h : j < k) (hz : z = (n : Int) / 2 ^ (8 * (k - 1 - j))) : (be n k).take (j + 1) = (be n k).take j ++ [UInt8.ofNat (z % 256).toNat] := by
  rw [List.take_add_one, be_get n k j h, hz]
  congr 1
  simp only [Option.toList_some, List.cons.injEq, and_true]
  have e : (2 : Int) ^ (8 * (k - 1 - j)) = ((256 ^ (k - 1 - j) : Nat) : Int) := by rw [Int.natCast_pow, Int.pow_mul]; rfl
  rw [e, ← Int.natCast_ediv, show ((((n / 256 ^ (k - 1 - j) : Nat) : Int)) % 256).toNat = (n / 256 ^ (k - 1 - j)) % 256 by omega]
  exact (UInt8.ofNat_mod_size (x := n / 256 ^ (k - 1 - j))).symm
set_option maxHeartbeats 400000 in
theorem rlength_long (n : Int) (w : World) (h0 : 128 ≤ n) (h : n ≤ 2147483647) :
    Calls Try.prog 19 #[.int .i64 n] w fun e w' => ∃ A m c, e = .returned (.slice A m c) ∧ Sl w' A m c (lenB n) ∧ Below w.heap.size w w' := by
  have h1 : ¬ n < 0 := by omega
  have h2 : ¬ 2147483647 < n := by omega
  have h3 : ¬ n < 128 := by omega
  obtain ⟨n, rfl⟩ := Int.eq_ofNat_of_zero_le (show 0 ≤ n by omega)
  go_enter Try.func19, Try.ntmps19
  go_wp2
  go_loop [3] (fun i => ∃ k : Nat, 1 ≤ k ∧ k ≤ 4 ∧ i = .int .i64 k ∧ (k = 1 ∨ 256 ^ (k - 1) ≤ n)) (fun i => 4 - (intOf i).toNat)
  case atStart => exact ⟨1, by omega, by omega, rfl, .inl rfl⟩
  case round =>
    obtain ⟨k, hk1, hk4, rfl, hlo⟩ := hrel
    have Hlo := hid hlo
    clear hlo
    by_cases hc : k < 4
    · have e1 : (8 * (k : Int)).toNat = 8 * k := by omega
      have e3 : (2 : Int) ^ (8 * k) = ((256 ^ k : Nat) : Int) := by rw [Int.natCast_pow, Int.pow_mul]; rfl
      by_cases hd : 256 ^ k ≤ n
      · have hd' : 0 < (n : Int) / 2 ^ (8 * k) := by
          rw [e3]
          have : 0 < n / 256 ^ k := Nat.div_pos hd (Nat.pow_pos (by decide))
          omega
        clear e3
        go_wp2
        refine ⟨⟨k + 1, by omega, by omega, by go_num, .inr (by simpa using hd)⟩, by simp [intOf]; omega⟩
      · have hhi : n < 256 ^ k := by omega
        have hd' : ¬ 0 < (n : Int) / 2 ^ (8 * k) := by
          rw [e3]
          have : n / 256 ^ k = 0 := Nat.div_eq_of_lt hhi
          omega
        clear e3 hd
        have Hhi := hid hhi
        clear hhi
        go_wp2
        go_loopw [4, 5] (fun v i wr => ∃ j : Nat, j ≤ k ∧ i = .int .i64 ((k : Int) - 1 - j) ∧ wr.ownsRow w.heap.size 5 1 v (1 + j) ((UInt8.ofNat (128 + k) :: (be n k).take j).map bv) ∧ Below w.heap.size w wr) (fun _ i _ => (intOf i + 1).toNat)
        case atStart => exact ⟨0, by omega, by simp, by have := own_one w (128 + k) (by omega) w.heap.size (Nat.le_refl _); rw [show (128 + (k : Int)).toNat = 128 + k by omega] at this; simpa using this, (Below.refl _ _).alloc (Nat.le_refl _) _⟩
        case round =>
          obtain ⟨j, hj, rfl, ho, hb⟩ := hrel
          by_cases hjk : j < k
          · have e2 : (8 * ((k : Int) - 1 - j)).toNat = 8 * (k - 1 - j) := by omega
            have z0 : 0 ≤ (n : Int) / 2 ^ (8 * (k - 1 - j)) := Int.ediv_nonneg (by omega) (Int.le_of_lt (Int.pow_pos (by decide)))
            go_wp2_with (at_builtin; refine append_bytes rfl _ _ rfl w.heap.size u4 _ _ rfl (ho.alloc _) _ 1 1 _ rfl (sl_one _ _ (by omega)) (by omega) (by have := hb.size; simp; omega) ?_; intro v' w1 ho1 hg1 _ _)
            refine ⟨⟨j + 1, by omega, by go_num, ?_, (hb.alloc hb.size _).trans hg1⟩, by simp [intOf]; omega⟩
            rw [be_take_succ n k j _ hjk rfl, ← List.cons_append]
            simpa [Nat.add_assoc] using ho1
          · obtain rfl : j = k := by omega
            go_wp2
            go_ret
            obtain ⟨A4, c4, hv, hs⟩ := Sl.of_row ho
            refine ⟨A4, _, c4, congrArg Ending.returned hv, ?_, hb⟩
            rw [List.take_of_length_le (by rw [be_length]; omega)] at hs
            have hr := be_le n j (by rcases Hlo.out with h | h
                                     · subst h; right; simp; omega
                                     · exact .inr h) Hhi.out
            have hl := congrArg List.length hr
            rw [be_length, List.length_reverse] at hl
            rw [lenB_long h0 h, Int.toNat_natCast, ← hr, ← hl]
            exact hs
    · obtain rfl : k = 4 := by omega
      have Hhi : Hid (n < 256 ^ 4) := hid (by omega)
      go_wp2
      go_loopw [4, 5] (fun v i wr => ∃ j : Nat, j ≤ 4 ∧ i = .int .i64 ((4 : Int) - 1 - j) ∧ wr.ownsRow w.heap.size 5 1 v (1 + j) ((UInt8.ofNat (128 + 4) :: (be n 4).take j).map bv) ∧ Below w.heap.size w wr) (fun _ i _ => (intOf i + 1).toNat)
      case atStart => exact ⟨0, by omega, by simp, by have := own_one w (128 + 4) (by omega) w.heap.size (Nat.le_refl _); rw [show (128 + (4 : Int)).toNat = 128 + 4 by omega] at this; simpa using this, (Below.refl _ _).alloc (Nat.le_refl _) _⟩
      case round =>
        obtain ⟨j, hj, rfl, ho, hb⟩ := hrel
        by_cases hjk : j < 4
        · have e2 : (8 * ((4 : Int) - 1 - j)).toNat = 8 * (4 - 1 - j) := by omega
          have z0 : 0 ≤ (n : Int) / 2 ^ (8 * (4 - 1 - j)) := Int.ediv_nonneg (by omega) (Int.le_of_lt (Int.pow_pos (by decide)))
          go_wp2_with (at_builtin; refine append_bytes rfl _ _ rfl w.heap.size u4 _ _ rfl (ho.alloc _) _ 1 1 _ rfl (sl_one _ _ (by omega)) (by omega) (by have := hb.size; simp; omega) ?_; intro v' w1 ho1 hg1 _ _)
          refine ⟨⟨j + 1, by omega, by go_num, ?_, (hb.alloc hb.size _).trans hg1⟩, by simp [intOf]; omega⟩
          rw [be_take_succ n 4 j _ hjk rfl, ← List.cons_append]
          simpa [Nat.add_assoc] using ho1
        · obtain rfl : j = 4 := by omega
          go_wp2
          go_ret
          obtain ⟨A4, c4, hv, hs⟩ := Sl.of_row ho
          refine ⟨A4, _, c4, congrArg Ending.returned hv, ?_, hb⟩
          rw [List.take_of_length_le (by rw [be_length]; omega)] at hs
          have hr := be_le n 4 (by rcases Hlo.out with h | h; (· omega); (· exact .inr h)) Hhi.out
          have hl := congrArg List.length hr
          rw [be_length, List.length_reverse] at hl
          rw [lenB_long h0 h, Int.toNat_natCast, ← hr, ← hl]
          exact hs
theorem rlength_any (n : Int) (w : World) :
    Calls Try.prog 19 #[.int .i64 n] w fun e w' => ∃ A m c, e = .returned (.slice A m c) ∧ Sl w' A m c (lenB n) ∧ Below w.heap.size w w' := by
  by_cases h : n < 0 ∨ 2147483647 < n
  · refine (rlength_none n w h).mono ?_
    rintro e w' ⟨rfl, rfl⟩
    exact ⟨_, _, _, rfl, by rw [lenB_none h]; exact Sl.nil w, Below.refl _ _⟩
  by_cases h1 : n < 128
  · refine (rlength_short n w (by omega) h1).mono ?_
    rintro e w' ⟨rfl, rfl⟩
    exact ⟨_, _, _, rfl, by rw [lenB_short (by omega) h1]; exact sl_one w n (by omega), (Below.refl _ _).alloc (Nat.le_refl _) _⟩
  exact rlength_long n w (by omega) (by omega)
end Go.Proofs.Ytohbbbolfdidcaa
