import Derived.Test.YtlckfnchabfcaaaGreatDoorZ06
import Derived.BigQuiet
import Derived.Deep.QuietTactic
/- The walk of slices.Equal at texts. -/
namespace Go.Proofs.YtlckfnchabfcaaaGreatDoor
open Go.RowKit
set_option maxRecDepth 100000

theorem take_eq_all {α : Type} {l l' : List α} {n : Nat} (h1 : n = l.length) (h2 : n = l'.length) (h : l.take n = l'.take n) : l = l' := by
  rwa [List.take_of_length_le (by omega), List.take_of_length_le (by omega)] at h
set_option maxHeartbeats 1000000 in
theorem equaltexts_any {S T : Nat → Prop} {A B : Option Addr} {n c m d : Nat} {l r : List ByteArray} {w : World} (h : Row Elem.str S w A n c l) (k : Row Elem.str T w B m d r) :
    Calls Tryz.prog 154 #[.slice A n c, .slice B m d] w fun e w' => e = .returned (.bool (decide (l = r))) ∧ Ext w w' := by
  have hl := hid h.len
  have kl := hid k.len
  have hnl : n ≤ 9223372036854775807 := by have := h.cap; have := h.most; simp only [maxLen] at this; omega
  have hml : m ≤ 9223372036854775807 := by have := k.cap; have := k.most; simp only [maxLen] at this; omega
  by_cases hnm : n = m
  · subst hnm
    have kl2 := kl
    clear kl
    go_enter Tryz.func154, Tryz.ntmps154
    go_wp2
    go_loopw [13] (fun i wr => ∃ j : Nat, j ≤ n ∧ i = .int .i64 j ∧ Hid (l.take j = r.take j) ∧ Hid (Ext w wr)) (fun i _ => n - (intOf i).toNat)
    case atStart => exact ⟨0, by omega, rfl, by simp [Hid], Ext.refl w⟩
    case round =>
      obtain ⟨j, hj, rfl, Htk, hx⟩ := hrel
      by_cases hlt : j < n
      · obtain ⟨b1, o1, rfl, c1⟩ := (h.ext hx.out).str_cell (by omega)
        obtain ⟨b2, o2, rfl, c2⟩ := (k.ext hx.out).str_cell (by omega)
        have e1 := c1 j hlt
        have e2 := c2 j hlt
        clear c1 c2
        have g1 : l[j]? = some (l[j]?.getD ByteArray.empty) := by have := hl.out; rw [List.getElem?_eq_getElem (by omega)]; simp
        have g2 : r[j]? = some (r[j]?.getD ByteArray.empty) := by have := kl2.out; rw [List.getElem?_eq_getElem (by omega)]; simp
        have Hg := hid (And.intro g1 g2)
        clear g1 g2
        generalize l[j]?.getD ByteArray.empty = x1 at *
        generalize r[j]?.getD ByteArray.empty = x2 at *
        by_cases he : x1 = x2
        · have He := hid he
          have Hne := str_eq he
          clear he
          go_wp2
          refine wp_region_plan (.read 0 (.read 1 (.read 2 (.read 3 (.read 4 (.read 5 (.read 6 (.read 7 (.read 8 .done))))))))) (by kernel_rfl) (by kernel_rfl) ?_
          intro wD hxD
          have c1 := cell_later (cell_later e1 _ hxD)
          have c2 := cell_later (cell_later e2 _ hxD)
          repeat' (first
            | (refine walks_move rfl rfl ?_; simp only [Act.put, Act.eval, List.setIfInBounds_toArray, List.set_cons_zero, List.set_cons_succ, Array.getD_eq_getD_getElem?, List.getElem?_toArray, List.getElem?_cons_zero, List.getElem?_cons_succ, Option.getD_some])
            | (refine walks_assign rfl rfl ?_; simp only [Act.put, Act.eval, List.setIfInBounds_toArray, List.set_cons_zero, List.set_cons_succ, Array.getD_eq_getD_getElem?, List.getElem?_toArray, List.getElem?_cons_zero, List.getElem?_cons_succ, Option.getD_some])
            | (refine walks_skip rfl rfl ?_; simp only [Act.put, List.setIfInBounds_toArray, List.set_cons_zero, List.set_cons_succ])
            | (refine walks_unwanted rfl rfl ?_; simp only [Act.put, List.setIfInBounds_toArray, List.set_cons_zero, List.set_cons_succ])
            | (refine walks_read (v := ?_) rfl rfl (fun w' hE => ?_) ?_; rotate_left 1; (· ((try (have hEx := Ext.trans (Hid.out XE) hE)); go_simp; (try go_bits); with_reducible rfl)); simp only [Act.put, List.setIfInBounds_toArray, List.set_cons_zero, List.set_cons_succ])
            | (refine walks_alt ?_ ?_)
            | (refine walks_main rfl rfl (fun K hK => ?_); go_wp2_with (fail); refine hK _ _ (by first | assumption | exact Ext.alloc _ _ | exact Ext.refl _) ?_; clear hK K; try simp only [Act.put, List.setIfInBounds_toArray, List.set_cons_zero, List.set_cons_succ]))
          refine walks_done ?_
          go_wp2
          refine ⟨⟨j + 1, by omega, by go_num, ?_, hx.out.trans hxD⟩, by simp [intOf]; omega⟩
          show _ = _
          rw [List.take_add_one, List.take_add_one, Htk.out, Hg.out.1, Hg.out.2, He.out]
        · have He := hid he
          have Hne := str_ne he
          clear he
          go_wp2
          refine wp_region_plan (.read 0 (.read 1 (.read 2 (.read 3 (.read 4 (.read 5 (.read 6 (.read 7 (.read 8 .done))))))))) (by kernel_rfl) (by kernel_rfl) ?_
          intro wD hxD
          have c1 := cell_later (cell_later e1 _ hxD)
          have c2 := cell_later (cell_later e2 _ hxD)
          repeat' (first
            | (refine walks_move rfl rfl ?_; simp only [Act.put, Act.eval, List.setIfInBounds_toArray, List.set_cons_zero, List.set_cons_succ, Array.getD_eq_getD_getElem?, List.getElem?_toArray, List.getElem?_cons_zero, List.getElem?_cons_succ, Option.getD_some])
            | (refine walks_assign rfl rfl ?_; simp only [Act.put, Act.eval, List.setIfInBounds_toArray, List.set_cons_zero, List.set_cons_succ, Array.getD_eq_getD_getElem?, List.getElem?_toArray, List.getElem?_cons_zero, List.getElem?_cons_succ, Option.getD_some])
            | (refine walks_skip rfl rfl ?_; simp only [Act.put, List.setIfInBounds_toArray, List.set_cons_zero, List.set_cons_succ])
            | (refine walks_unwanted rfl rfl ?_; simp only [Act.put, List.setIfInBounds_toArray, List.set_cons_zero, List.set_cons_succ])
            | (refine walks_read (v := ?_) rfl rfl (fun w' hE => ?_) ?_; rotate_left 1; (· ((try (have hEx := Ext.trans (Hid.out XE) hE)); go_simp; (try go_bits); with_reducible rfl)); simp only [Act.put, List.setIfInBounds_toArray, List.set_cons_zero, List.set_cons_succ])
            | (refine walks_alt ?_ ?_)
            | (refine walks_main rfl rfl (fun K hK => ?_); go_wp2_with (fail); refine hK _ _ (by first | assumption | exact Ext.alloc _ _ | exact Ext.refl _) ?_; clear hK K; try simp only [Act.put, List.setIfInBounds_toArray, List.set_cons_zero, List.set_cons_succ]))
          refine walks_done ?_
          go_wp2
          go_ret
          refine ⟨?_, hx.out.trans hxD⟩
          rw [decide_eq_false (fun e => by subst e; exact He.out (Option.some.inj (Hg.out.1.symm.trans Hg.out.2)))]
          rfl
      · obtain rfl : j = n := by omega
        go_wp2
        go_ret
        refine ⟨?_, hx.out⟩
        rw [decide_eq_true (take_eq_all hl.out kl2.out Htk.out)]
        rfl
  · have hne : ((n : Int) != (m : Int)) = true := by rw [bne_iff_ne]; omega
    have hfin : Hid (decide (l = r) = false) := by
      show _ = _
      rw [decide_eq_false]
      intro e
      subst e
      have := hl.out
      have := kl.out
      omega
    clear hnm
    go_enter Tryz.func154, Tryz.ntmps154
    go_wp2
    go_ret
    exact ⟨by rw [hfin.out]; rfl, Ext.refl w⟩
end Go.Proofs.YtlckfnchabfcaaaGreatDoor
