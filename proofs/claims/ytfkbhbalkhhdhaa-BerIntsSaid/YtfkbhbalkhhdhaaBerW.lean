/- The walk of the reference's ToInt. -/
import Derived.Test.YtfkbhbalkhhdhaaBerV
namespace Go.Proofs.Ytfkbhbalkhhdhaa
open Go.RowKit
set_option maxRecDepth 100000

set_option maxHeartbeats 1000000 in
theorem rtoInt_any {A : Option Addr} {n c : Nat} {xs : List UInt8} {w : World} (h : Sl w A n c xs) :
    Calls Try.prog 27 #[.slice A n c] w fun e w' => e = intV (toIntP xs) ∧ Ext w w' := by
  have hl := hid h.len
  have hcap : n ≤ 9223372036854775807 := by have := h.cap; have := h.most; simp only [maxLen] at this; omega
  by_cases hb : n = 0 ∨ 8 < n
  · have HP := hid (toIntP_bad (xs := xs) (by rw [← hl.out]; exact hb))
    rcases hb with rfl | hb
    · go_enter Try.func27, Try.ntmps27
      go_wp2
      go_ret2
      rw [HP.out]
      exact ⟨rfl, Ext.refl w⟩
    · go_enter Try.func27, Try.ntmps27
      go_wp2
      go_ret2
      rw [HP.out]
      exact ⟨rfl, Ext.refl w⟩
  · have hp : 0 < n := by omega
    have h8 : n ≤ 8 := by omega
    have Hr := hid (sv_range xs (by rw [← hl.out]; exact hp) (by rw [← hl.out]; exact h8))
    have Hsm := fun j (hj : j < n) => acc_small xs j (by rw [← hl.out]; exact hj) (by rw [← hl.out]; exact h8)
    have Hsu := fun j (hj : j < n) => acc_succ xs j (by rw [← hl.out]; exact hj)
    have Hall := hid (acc_all xs n (by rw [← hl.out]; exact Nat.le_refl _))
    obtain ⟨b, off, rfl, hc⟩ := h.at_ hp
    have c0 := hc 0 hp
    rw [Nat.add_zero] at c0
    have Hst : Hid (IntKind.i8.wrap ((xs[0]?.getD 0).toNat : Int) = acc xs 1) := by
      show _ = _
      rw [Hsu 0 hp, acc_zero, ref_start]
    have Hw : Hid (wrap64 (IntKind.i8.wrap ((xs[0]?.getD 0).toNat : Int)) = acc xs 1) := by
      show _ = _
      rw [Hst.out]
      have := acc_bound xs 0 (by rw [← hl.out]; exact hp)
      simp only [Nat.zero_add, Nat.mul_one, Nat.reduceSub, Int.reducePow] at this
      unfold wrap64
      omega
    have hlt := (xs[0]?.getD 0).toNat_lt
    have hz : ¬ (n : Int) < 1 := by omega
    have hz8 : ¬ 8 < (n : Int) := by omega
    have Hc := hid hc
    have Hb := hid hb
    clear hc hb
    generalize (xs[0]?.getD 0).toNat = B0 at *
    go_enter Try.func27, Try.ntmps27
    go_wp2
    go_loop [4, 5] (fun m i => ∃ j : Nat, 1 ≤ j ∧ j ≤ n ∧ i = .int .i64 j ∧ m = .int .i64 (acc xs j)) (fun _ i => n - (intOf i).toNat)
    case atStart => exact ⟨1, by omega, by omega, rfl, by rw [← Hw.out]⟩
    case round =>
      obtain ⟨j, hj1, hj, rfl, rfl⟩ := hrel
      by_cases hlt : j < n
      · have cj := Hc.out j hlt
        have hsm := Hsm j hlt
        have Hsu' := hid (Hsu j hlt)
        have hBl := (xs[j]?.getD 0).toNat_lt
        generalize (xs[j]?.getD 0).toNat = B at *
        generalize acc xs j = m at *
        have hor := i64_sjoin m B hsm.1 hsm.2 (by omega)
        go_wp2
        go_round
        case rel => exact ⟨j + 1, by omega, by omega, by go_num, by rw [Hsu'.out]⟩
        case measure => simp [intOf]; omega
      · obtain rfl : j = n := by omega
        rw [Hall.out]
        have hr := Hr.out
        by_cases he : intB (sv xs) = xs
        · have HP := hid (toIntP_ok (by rw [← hl.out]; exact hp) (by rw [← hl.out]; exact h8) he)
          go_wp2
          refine wp_region_plan (.read 0 (.read 3 (.read 4 (.main 1 (.read 2 (.read 5 .done)))))) (by kernel_rfl) (by kernel_rfl) ?_
          intro wD hxD
          have hc1 := (h.ext hxD).conv
          repeat' (first
            | (refine walks_move rfl rfl ?_; simp only [Act.put, Act.eval, List.setIfInBounds_toArray, List.set_cons_zero, List.set_cons_succ, Array.getD_eq_getD_getElem?, List.getElem?_toArray, List.getElem?_cons_zero, List.getElem?_cons_succ, Option.getD_some])
            | (refine walks_assign rfl rfl ?_; simp only [Act.put, Act.eval, List.setIfInBounds_toArray, List.set_cons_zero, List.set_cons_succ, Array.getD_eq_getD_getElem?, List.getElem?_toArray, List.getElem?_cons_zero, List.getElem?_cons_succ, Option.getD_some])
            | (refine walks_skip rfl rfl ?_; simp only [Act.put, List.setIfInBounds_toArray, List.set_cons_zero, List.set_cons_succ])
            | (refine walks_unwanted rfl rfl ?_; simp only [Act.put, List.setIfInBounds_toArray, List.set_cons_zero, List.set_cons_succ])
            | (refine walks_read (v := ?_) rfl rfl (fun w' hE => ?_) ?_; rotate_left 1; (· (go_simp; (try go_bits); with_reducible rfl)); simp only [Act.put, List.setIfInBounds_toArray, List.set_cons_zero, List.set_cons_succ])
            | (refine walks_alt ?_ ?_)
            | (refine walks_main rfl rfl (fun K hK => ?_); go_wp2_with ((go_at_call 26; (with_reducible refine (rint_any _ _ hr.1 hr.2).mono ?_); rintro e w2 ⟨A2, n2, c2, rfl, h2, hx2⟩; have hc2 := h2.conv)); refine hK _ _ (by first | assumption | exact Ext.alloc _ _ | exact Ext.refl _) ?_; clear hK K; try simp only [Act.put, List.setIfInBounds_toArray, List.set_cons_zero, List.set_cons_succ]))
          refine walks_done ?_
          go_wp2
          go_ret2
          rw [HP.out]
          exact ⟨rfl, hxD.trans hx2⟩
        · have HP := hid (toIntP_off he)
          have He : (intB (sv xs) == xs) = false := by rw [beq_eq_false_iff_ne]; exact he
          have He' := hid he
          clear he
          go_wp2
          refine wp_region_plan (.read 0 (.read 3 (.read 4 (.main 1 (.read 2 (.read 5 .done)))))) (by kernel_rfl) (by kernel_rfl) ?_
          intro wD hxD
          have hc1 := (h.ext hxD).conv
          repeat' (first
            | (refine walks_move rfl rfl ?_; simp only [Act.put, Act.eval, List.setIfInBounds_toArray, List.set_cons_zero, List.set_cons_succ, Array.getD_eq_getD_getElem?, List.getElem?_toArray, List.getElem?_cons_zero, List.getElem?_cons_succ, Option.getD_some])
            | (refine walks_assign rfl rfl ?_; simp only [Act.put, Act.eval, List.setIfInBounds_toArray, List.set_cons_zero, List.set_cons_succ, Array.getD_eq_getD_getElem?, List.getElem?_toArray, List.getElem?_cons_zero, List.getElem?_cons_succ, Option.getD_some])
            | (refine walks_skip rfl rfl ?_; simp only [Act.put, List.setIfInBounds_toArray, List.set_cons_zero, List.set_cons_succ])
            | (refine walks_unwanted rfl rfl ?_; simp only [Act.put, List.setIfInBounds_toArray, List.set_cons_zero, List.set_cons_succ])
            | (refine walks_read (v := ?_) rfl rfl (fun w' hE => ?_) ?_; rotate_left 1; (· (go_simp; (try go_bits); with_reducible rfl)); simp only [Act.put, List.setIfInBounds_toArray, List.set_cons_zero, List.set_cons_succ])
            | (refine walks_alt ?_ ?_)
            | (refine walks_main rfl rfl (fun K hK => ?_); go_wp2_with ((go_at_call 26; (with_reducible refine (rint_any _ _ hr.1 hr.2).mono ?_); rintro e w2 ⟨A2, n2, c2, rfl, h2, hx2⟩; have hc2 := h2.conv)); refine hK _ _ (by first | assumption | exact Ext.alloc _ _ | exact Ext.refl _) ?_; clear hK K; try simp only [Act.put, List.setIfInBounds_toArray, List.set_cons_zero, List.set_cons_succ]))
          refine walks_done ?_
          go_wp2
          go_ret2
          rw [HP.out]
          exact ⟨rfl, hxD.trans hx2⟩
end Go.Proofs.Ytfkbhbalkhhdhaa
