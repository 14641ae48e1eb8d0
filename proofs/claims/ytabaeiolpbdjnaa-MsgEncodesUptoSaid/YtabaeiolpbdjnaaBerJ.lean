/- The walk of the reference's Int. -/
import Derived.Test.YtabaeiolpbdjnaaBerNP
import Derived.Test.YtabaeiolpbdjnaaMem
namespace Go.Proofs.Ytabaeiolpbdjnaa
open Go.RowKit
set_option maxRecDepth 100000

theorem ibe_take_succ (n : Int) (k j : Nat) (z : Int) (h : j < k) (hz : z = n / 2 ^ (8 * (k - 1 - j))) : (ibe n k).take (j + 1) = (ibe n k).take j ++ [UInt8.ofNat (z % 256).toNat] := by
  rw [List.take_add_one, ibe_get n k j h, hz]
  rfl
set_option maxHeartbeats 400000 in
theorem rint_any (n : Int) (w : World) (h0 : -9223372036854775808 ≤ n) (h1 : n ≤ 9223372036854775807) :
    Calls Try.prog 81 #[.int .i64 n] w fun e w' => ∃ A m c, e = .returned (.slice A m c) ∧ Sl w' A m c (intB n) ∧ Ext w w' := by
  have h8 := hid (fits8 n h0 h1)
  go_enter Try.func81, Try.ntmps81
  go_wp2
  go_loop [3] (fun i => ∃ k : Nat, 1 ≤ k ∧ k ≤ 8 ∧ i = .int .i64 k ∧ (k = 1 ∨ ¬ fits n (k - 1))) (fun i => 8 - (intOf i).toNat)
  case atStart => exact ⟨1, by omega, by omega, rfl, .inl rfl⟩
  case round =>
    obtain ⟨k, hk1, hk8, rfl, hlo⟩ := hrel
    have Hlo := hid hlo
    clear hlo
    have e1 : (8 * (k : Int) - 1).toNat = 8 * k - 1 := by omega
    by_cases hc : k < 8 ∧ ¬ fits n k
    · obtain ⟨hc, hf⟩ := hc
      have t1 : ((n / 2 ^ (8 * k - 1) : Int) != 0) = true := by rw [bne_iff_ne]; intro e; exact hf (.inl e)
      have t2 : ((n / 2 ^ (8 * k - 1) : Int) != -1) = true := by rw [bne_iff_ne]; intro e; exact hf (.inr e)
      have Hf := hid hf
      clear hf
      go_wp2
      refine ⟨⟨k + 1, by omega, by omega, by go_num, .inr (by simpa using Hf.out)⟩, by simp [intOf]; omega⟩
    · have hm : Hid (minK n = k) := minK_of n k hk1 hk8 (by rcases Nat.lt_or_ge k 8 with h | h; (· exact .inl (by simpa [h] using hc)); (· exact .inr (by omega))) Hlo.out
      have Hm := hm
      clear hm
      have arms : k = 8 ∨ (k < 8 ∧ ((n / 2 ^ (8 * k - 1) : Int) != 0) = false) ∨ (k < 8 ∧ ((n / 2 ^ (8 * k - 1) : Int) != 0) = true ∧ ((n / 2 ^ (8 * k - 1) : Int) != -1) = false) := by
        rcases Nat.lt_or_ge k 8 with h | h
        · right
          have : fits n k := by simpa [h] using hc
          by_cases hz : n / 2 ^ (8 * k - 1) = 0
          · exact .inl ⟨h, by simp [hz]⟩
          · rcases this with h' | h'
            · exact absurd h' hz
            · exact .inr ⟨h, by simpa using hz, by simp [h']⟩
        · exact .inl (by omega)
      clear hc Hlo
      rcases arms with rfl | ⟨hk, t1⟩ | ⟨hk, t1, t2⟩
      all_goals
        go_wp2
        go_loopw [4, 5] (fun v i wr => ∃ j : Nat, j ≤ (minK n) ∧ i = .int .i64 ((minK n : Int) - 1 - j) ∧ wr.ownsRow w.heap.size 5 1 v j (((ibe n (minK n)).take j).map bv) ∧ Ext w wr) (fun _ i _ => (intOf i + 1).toNat)
        case atStart => exact ⟨0, by omega, by rw [Hm.out]; simp, by simpa using World.ownsRow_nil _ _ _ _, Ext.refl w⟩
        case round =>
          obtain ⟨j, hj, rfl, ho, hb⟩ := hrel
          have Hb := hid hb
          have hsz := hb.size
          clear hb
          generalize hK : minK n = K at *
          have HK := hid hK
          have hK8 : K ≤ 8 := by have := Hm.out; omega
          clear hK
          by_cases hjk : j < K
          · have e2 : (8 * ((K : Int) - 1 - j)).toNat = 8 * (K - 1 - j) := by omega
            go_wp2_with (at_builtin; refine append_bytes rfl _ _ rfl w.heap.size u4 _ _ rfl (ho.alloc _) _ 1 1 _ rfl (sl_one _ _ (by omega)) (by omega) (by simp; omega) ?_; intro v' w1 ho1 hg1 _ _)
            refine ⟨⟨j + 1, by omega, by go_num, ?_, (Below.alloc Hb.out Hb.out.size _).trans hg1⟩, by simp [intOf]; omega⟩
            rw [ibe_take_succ n K j _ hjk rfl]
            simpa [Nat.add_assoc] using ho1
          · obtain rfl : j = K := by omega
            go_wp2
            go_ret
            obtain ⟨A4, c4, hv, hs⟩ := Sl.of_row ho
            refine ⟨A4, _, c4, congrArg Ending.returned hv, ?_, Hb.out⟩
            rw [List.take_of_length_le (by rw [ibe_length]; omega)] at hs
            unfold intB
            rw [HK.out]
            exact hs
end Go.Proofs.Ytabaeiolpbdjnaa
