/- The walk of the reference's Same. -/
import Derived.Test.YtohbbbolfdidcaaMem
import Derived.BigQuiet
import Derived.Deep.QuietTactic
namespace Go.Proofs.Ytohbbbolfdidcaa
open Go.RowKit
set_option maxRecDepth 100000

set_option maxHeartbeats 1000000 in
theorem same_any {A B : Option Addr} {n c m d : Nat} {xss yss : List (List UInt8)} {w : World} (h : Sls w A n c xss) (k : Sls w B m d yss) :
    Calls Try.prog 17 #[.slice A n c, .slice B m d] w fun e w' => e = .returned (.bool (xss == yss)) ∧ Ext w w' := by
  have hl := hid h.len
  have kl := hid k.len
  have hnl : n ≤ 9223372036854775807 := by have := h.cap; have := h.most; simp only [maxLen] at this; omega
  have hml : m ≤ 9223372036854775807 := by have := k.cap; have := k.most; simp only [maxLen] at this; omega
  by_cases hnm : n = m
  · subst hnm
    go_enter Try.func17, Try.ntmps17
    go_wp2
    go_loopw [13] (fun i wr => ∃ j : Nat, j ≤ n ∧ i = .int .i64 j ∧ xss.take j = yss.take j ∧ Ext w wr) (fun i _ => n - (intOf i).toNat)
    case atStart => exact ⟨0, by omega, rfl, by simp, Ext.refl w⟩
    case round =>
      obtain ⟨j, hj, rfl, htk, hx⟩ := hrel
      have Htk := hid htk
      clear htk
      by_cases hlt : j < n
      · obtain ⟨b1, o1, rfl, c1⟩ := (h.ext hx).at_ (by omega)
        obtain ⟨b2, o2, rfl, c2⟩ := (k.ext hx).at_ (by omega)
        obtain ⟨A1, n1, d1, e1, s1⟩ := c1 j hlt
        obtain ⟨A2, n2, d2, e2, s2⟩ := c2 j hlt
        have q1 : ∀ j', wr.cell? ⟨b1, o1 + j', none⟩ = wr.cell? ⟨b1, o1 + j', none⟩ := fun _ => rfl
        clear c1 c2 q1
        have g1 : xss[j]? = some (xss[j]?.getD []) := by have := hl.out; rw [List.getElem?_eq_getElem (by omega)]; simp
        have g2 : yss[j]? = some (yss[j]?.getD []) := by have := kl.out; rw [List.getElem?_eq_getElem (by omega)]; simp
        have Hg := hid (And.intro g1 g2)
        clear g1 g2
        have hx' := hid hx
        clear hx
        generalize xss[j]?.getD [] = x1 at *
        generalize yss[j]?.getD [] = x2 at *
        by_cases he : x1 = x2
        · have He := hid he
          have Hne : (x1 == x2) = true := by rw [beq_iff_eq]; exact he
          clear he
          go_wp2
          refine wp_region_plan (.read 0 (.read 1 (.read 2 (.read 3 (.read 4 (.read 5 (.read 6 (.read 7 (.read 8 (.read 9 (.read 10 .done))))))))))) (by kernel_rfl) (by kernel_rfl) ?_
          intro wD hxD
          have c1 := cell_later (cell_later e1 _ hxD)
          have c2 := cell_later (cell_later e2 _ hxD)
          have v1 := (s1.ext hxD).conv
          have v2 := (s2.ext hxD).conv
          repeat' (first
            | (refine walks_move rfl rfl ?_; simp only [Act.put, Act.eval, List.setIfInBounds_toArray, List.set_cons_zero, List.set_cons_succ, Array.getD_eq_getD_getElem?, List.getElem?_toArray, List.getElem?_cons_zero, List.getElem?_cons_succ, Option.getD_some])
            | (refine walks_assign rfl rfl ?_; simp only [Act.put, Act.eval, List.setIfInBounds_toArray, List.set_cons_zero, List.set_cons_succ, Array.getD_eq_getD_getElem?, List.getElem?_toArray, List.getElem?_cons_zero, List.getElem?_cons_succ, Option.getD_some])
            | (refine walks_skip rfl rfl ?_; simp only [Act.put, List.setIfInBounds_toArray, List.set_cons_zero, List.set_cons_succ])
            | (refine walks_unwanted rfl rfl ?_; simp only [Act.put, List.setIfInBounds_toArray, List.set_cons_zero, List.set_cons_succ])
            | (refine walks_read (v := ?_) rfl rfl (fun w' hE => ?_) ?_; rotate_left 1; (· (go_simp; (try go_bits); with_reducible rfl)); simp only [Act.put, List.setIfInBounds_toArray, List.set_cons_zero, List.set_cons_succ])
            | (refine walks_alt ?_ ?_)
            | (refine walks_main rfl rfl (fun K hK => ?_); go_wp2_with (fail); refine hK _ _ (by first | assumption | exact Ext.alloc _ _ | exact Ext.refl _) ?_; clear hK K; try simp only [Act.put, List.setIfInBounds_toArray, List.set_cons_zero, List.set_cons_succ]))
          refine walks_done ?_
          go_wp2
          refine ⟨⟨j + 1, by omega, by go_num, ?_, hx'.out.trans hxD⟩, by simp [intOf]; omega⟩
          rw [List.take_add_one, List.take_add_one, Htk.out, Hg.out.1, Hg.out.2, He.out]
        · have He := hid he
          have Hne : (x1 == x2) = false := by rw [beq_eq_false_iff_ne]; exact he
          clear he
          go_wp2
          refine wp_region_plan (.read 0 (.read 1 (.read 2 (.read 3 (.read 4 (.read 5 (.read 6 (.read 7 (.read 8 (.read 9 (.read 10 .done))))))))))) (by kernel_rfl) (by kernel_rfl) ?_
          intro wD hxD
          have c1 := cell_later (cell_later e1 _ hxD)
          have c2 := cell_later (cell_later e2 _ hxD)
          have v1 := (s1.ext hxD).conv
          have v2 := (s2.ext hxD).conv
          repeat' (first
            | (refine walks_move rfl rfl ?_; simp only [Act.put, Act.eval, List.setIfInBounds_toArray, List.set_cons_zero, List.set_cons_succ, Array.getD_eq_getD_getElem?, List.getElem?_toArray, List.getElem?_cons_zero, List.getElem?_cons_succ, Option.getD_some])
            | (refine walks_assign rfl rfl ?_; simp only [Act.put, Act.eval, List.setIfInBounds_toArray, List.set_cons_zero, List.set_cons_succ, Array.getD_eq_getD_getElem?, List.getElem?_toArray, List.getElem?_cons_zero, List.getElem?_cons_succ, Option.getD_some])
            | (refine walks_skip rfl rfl ?_; simp only [Act.put, List.setIfInBounds_toArray, List.set_cons_zero, List.set_cons_succ])
            | (refine walks_unwanted rfl rfl ?_; simp only [Act.put, List.setIfInBounds_toArray, List.set_cons_zero, List.set_cons_succ])
            | (refine walks_read (v := ?_) rfl rfl (fun w' hE => ?_) ?_; rotate_left 1; (· (go_simp; (try go_bits); with_reducible rfl)); simp only [Act.put, List.setIfInBounds_toArray, List.set_cons_zero, List.set_cons_succ])
            | (refine walks_alt ?_ ?_)
            | (refine walks_main rfl rfl (fun K hK => ?_); go_wp2_with (fail); refine hK _ _ (by first | assumption | exact Ext.alloc _ _ | exact Ext.refl _) ?_; clear hK K; try simp only [Act.put, List.setIfInBounds_toArray, List.set_cons_zero, List.set_cons_succ]))
          refine walks_done ?_
          go_wp2
          go_ret
          refine ⟨?_, hx'.out.trans hxD⟩
          have : (xss == yss) = false := by
            rw [beq_eq_false_iff_ne]
            intro e
            have h1 := Hg.out.1
            rw [e, Hg.out.2] at h1
            injection h1 with h1
            exact He.out h1.symm
          rw [this]; rfl
      · obtain rfl : j = n := by omega
        have hx' := hid hx
        clear hx
        go_wp2
        go_ret
        refine ⟨?_, hx'.out⟩
        have : (xss == yss) = true := by
          have := Htk.out
          rw [List.take_of_length_le (by rw [← hl.out]; omega), List.take_of_length_le (by rw [← kl.out]; omega)] at this
          simpa using this
        rw [this]; rfl
  · have hne : ((n : Int) != (m : Int)) = true := by rw [bne_iff_ne]; omega
    have Hq : Hid ((xss == yss) = false) := by
      show (xss == yss) = false
      rw [beq_eq_false_iff_ne]
      intro e
      exact hnm (by rw [hl.out, kl.out, e])
    clear hnm
    go_enter Try.func17, Try.ntmps17
    go_wp2
    go_ret
    exact ⟨by rw [Hq.out]; rfl, Ext.refl w⟩
end Go.Proofs.Ytohbbbolfdidcaa
