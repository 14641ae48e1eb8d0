/- The walks of the reference's comparison of attributes and changes. -/
import Derived.Test.YtabaeiolpbdjnaaDt
namespace Go.Proofs.Ytabaeiolpbdjnaa
open Go.RowKit
set_option maxRecDepth 100000

set_option maxHeartbeats 1000000 in
theorem rsameatts_any {S T : Nat → Prop} {A B : Option Addr} {n c m d : Nat} {l r : List Att} {w : World} (h : Row Elem.att S w A n c l) (k : Row Elem.att T w B m d r) :
    Calls Try.prog 35 #[.slice A n c, .slice B m d] w fun e w' => e = .returned (.bool (decide (l = r))) ∧ Ext w w' := by
  have hl := hid h.len
  have kl := hid k.len
  have hnl : n ≤ 9223372036854775807 := by have := h.cap; have := h.most; simp only [maxLen] at this; omega
  have hml : m ≤ 9223372036854775807 := by have := k.cap; have := k.most; simp only [maxLen] at this; omega
  by_cases hnm : n = m
  · subst hnm
    have kl2 := kl
    clear kl
    go_enter Try.func35, Try.ntmps35
    go_wp2
    go_loopw [13] (fun i wr => ∃ j : Nat, j ≤ n ∧ i = .int .i64 j ∧ Hid (l.take j = r.take j) ∧ Hid (Ext w wr)) (fun i _ => n - (intOf i).toNat)
    case atStart => exact ⟨0, by omega, rfl, by simp [Hid], Ext.refl w⟩
    case round =>
      obtain ⟨j, hj, rfl, Htk, hx⟩ := hrel
      by_cases hlt : j < n
      · obtain ⟨b1, o1, v1, x1, rfl, g1, _, ⟨A1, n1, c1, rfl, r1⟩, q1⟩ := (h.ext hx.out).at_ hlt
        obtain ⟨b2, o2, v2, x2, rfl, g2, _, ⟨A2, n2, c2, rfl, r2⟩, q2⟩ := (k.ext hx.out).at_ hlt
        have e10 := q1 0 _ rfl; have e11 := q1 1 _ rfl; have e20 := q2 0 _ rfl; have e21 := q2 1 _ rfl
        clear q1 q2
        simp only [Elem.att, Nat.add_zero] at e10 e11 e20 e21
        have Hg := hid (And.intro g1 g2)
        clear g1 g2
        have hd := hid (att_dec x1 x2)
        by_cases ht : x1.type = x2.type
        · have f1 := str_eq ht
          by_cases hv : x1.vals = x2.vals
          · have Hd := hid (decide_eq_true hv)
            have Hx : Hid (x1 = x2) := att_eq.2 ⟨ht, hv⟩
            clear ht hv
            go_wp2
            refine wp_region_plan (.read 0 (.read 1 (.read 2 (.read 3 (.read 4 (.read 5 (.read 6 (.read 7 (.read 8 (.read 9 (.read 10 (.read 11 (.read 12 (.read 13 (.read 14 (.read 15 (.read 16 (.read 17 (.read 18 (.read 19 (.read 20 (.read 21 (.main 22 (.read 23 (.read 24 .done))))))))))))))))))))))))) (by kernel_rfl) (by kernel_rfl) ?_
            intro wD hxD
            have c10 := cell_later (cell_later e10 _ hxD); have c11 := cell_later (cell_later e11 _ hxD); have c20 := cell_later (cell_later e20 _ hxD); have c21 := cell_later (cell_later e21 _ hxD)
            repeat' (first
              | (refine walks_move rfl rfl ?_; simp only [Act.put, Act.eval, List.setIfInBounds_toArray, List.set_cons_zero, List.set_cons_succ, Array.getD_eq_getD_getElem?, List.getElem?_toArray, List.getElem?_cons_zero, List.getElem?_cons_succ, Option.getD_some])
              | (refine walks_assign rfl rfl ?_; simp only [Act.put, Act.eval, List.setIfInBounds_toArray, List.set_cons_zero, List.set_cons_succ, Array.getD_eq_getD_getElem?, List.getElem?_toArray, List.getElem?_cons_zero, List.getElem?_cons_succ, Option.getD_some])
              | (refine walks_skip rfl rfl ?_; simp only [Act.put, List.setIfInBounds_toArray, List.set_cons_zero, List.set_cons_succ])
              | (refine walks_unwanted rfl rfl ?_; simp only [Act.put, List.setIfInBounds_toArray, List.set_cons_zero, List.set_cons_succ])
              | (refine walks_read (v := ?_) rfl rfl (fun w' hE => ?_) ?_; rotate_left 1; (· ((try (have hEx := Ext.trans (Hid.out XE) hE)); go_simp; (try go_bits); with_reducible rfl)); simp only [Act.put, List.setIfInBounds_toArray, List.set_cons_zero, List.set_cons_succ])
              | (refine walks_alt ?_ ?_)
              | (refine walks_main rfl rfl (fun K hK => ?_); go_wp2_with ((go_at_call 34; (with_reducible refine (sametexts_any (r1.ext hxD) (r2.ext hxD)).mono ?_); rintro e w1 ⟨he, hx1⟩; rw [Hd.out] at he; subst he)); refine hK _ _ (by first | assumption | exact Ext.alloc _ _ | exact Ext.refl _) ?_; clear hK K; try simp only [Act.put, List.setIfInBounds_toArray, List.set_cons_zero, List.set_cons_succ]))
            refine walks_done ?_
            go_wp2
            refine ⟨⟨j + 1, by omega, by go_num, ?_, hx.out.trans (hxD.trans hx1)⟩, by simp [intOf]; omega⟩
            show _ = _
            rw [List.take_add_one, List.take_add_one, Htk.out, Hg.out.1, Hg.out.2, Hx.out]
          · have Hd := hid (decide_eq_false hv)
            have Hx : Hid (¬ x1 = x2) := fun e => hv (att_eq.1 e).2
            clear ht hv
            go_wp2
            refine wp_region_plan (.read 0 (.read 1 (.read 2 (.read 3 (.read 4 (.read 5 (.read 6 (.read 7 (.read 8 (.read 9 (.read 10 (.read 11 (.read 12 (.read 13 (.read 14 (.read 15 (.read 16 (.read 17 (.read 18 (.read 19 (.read 20 (.read 21 (.main 22 (.read 23 (.read 24 .done))))))))))))))))))))))))) (by kernel_rfl) (by kernel_rfl) ?_
            intro wD hxD
            have c10 := cell_later (cell_later e10 _ hxD); have c11 := cell_later (cell_later e11 _ hxD); have c20 := cell_later (cell_later e20 _ hxD); have c21 := cell_later (cell_later e21 _ hxD)
            repeat' (first
              | (refine walks_move rfl rfl ?_; simp only [Act.put, Act.eval, List.setIfInBounds_toArray, List.set_cons_zero, List.set_cons_succ, Array.getD_eq_getD_getElem?, List.getElem?_toArray, List.getElem?_cons_zero, List.getElem?_cons_succ, Option.getD_some])
              | (refine walks_assign rfl rfl ?_; simp only [Act.put, Act.eval, List.setIfInBounds_toArray, List.set_cons_zero, List.set_cons_succ, Array.getD_eq_getD_getElem?, List.getElem?_toArray, List.getElem?_cons_zero, List.getElem?_cons_succ, Option.getD_some])
              | (refine walks_skip rfl rfl ?_; simp only [Act.put, List.setIfInBounds_toArray, List.set_cons_zero, List.set_cons_succ])
              | (refine walks_unwanted rfl rfl ?_; simp only [Act.put, List.setIfInBounds_toArray, List.set_cons_zero, List.set_cons_succ])
              | (refine walks_read (v := ?_) rfl rfl (fun w' hE => ?_) ?_; rotate_left 1; (· ((try (have hEx := Ext.trans (Hid.out XE) hE)); go_simp; (try go_bits); with_reducible rfl)); simp only [Act.put, List.setIfInBounds_toArray, List.set_cons_zero, List.set_cons_succ])
              | (refine walks_alt ?_ ?_)
              | (refine walks_main rfl rfl (fun K hK => ?_); go_wp2_with ((go_at_call 34; (with_reducible refine (sametexts_any (r1.ext hxD) (r2.ext hxD)).mono ?_); rintro e w1 ⟨he, hx1⟩; rw [Hd.out] at he; subst he)); refine hK _ _ (by first | assumption | exact Ext.alloc _ _ | exact Ext.refl _) ?_; clear hK K; try simp only [Act.put, List.setIfInBounds_toArray, List.set_cons_zero, List.set_cons_succ]))
            refine walks_done ?_
            go_wp2
            go_ret
            exact ⟨ret_bool (decide_eq_false (fun e => by subst e; exact Hx.out (Option.some.inj (Hg.out.1.symm.trans Hg.out.2)))), hx.out.trans (hxD.trans hx1)⟩
        · have f1 := str_ne ht
          have Hx : Hid (¬ x1 = x2) := fun e => ht (att_eq.1 e).1
          clear ht
          go_wp2
          refine wp_region_plan (.read 0 (.read 1 (.read 2 (.read 3 (.read 4 (.read 5 (.read 6 (.read 7 (.read 8 (.read 9 (.read 10 (.read 11 (.read 12 (.read 13 (.read 14 (.read 15 (.read 16 (.read 17 (.read 18 (.read 19 (.read 20 (.read 21 (.main 22 (.read 23 (.read 24 .done))))))))))))))))))))))))) (by kernel_rfl) (by kernel_rfl) ?_
          intro wD hxD
          have c10 := cell_later (cell_later e10 _ hxD); have c11 := cell_later (cell_later e11 _ hxD); have c20 := cell_later (cell_later e20 _ hxD); have c21 := cell_later (cell_later e21 _ hxD)
          repeat' (first
            | (refine walks_move rfl rfl ?_; simp only [Act.put, Act.eval, List.setIfInBounds_toArray, List.set_cons_zero, List.set_cons_succ, Array.getD_eq_getD_getElem?, List.getElem?_toArray, List.getElem?_cons_zero, List.getElem?_cons_succ, Option.getD_some])
            | (refine walks_assign rfl rfl ?_; simp only [Act.put, Act.eval, List.setIfInBounds_toArray, List.set_cons_zero, List.set_cons_succ, Array.getD_eq_getD_getElem?, List.getElem?_toArray, List.getElem?_cons_zero, List.getElem?_cons_succ, Option.getD_some])
            | (refine walks_skip rfl rfl ?_; simp only [Act.put, List.setIfInBounds_toArray, List.set_cons_zero, List.set_cons_succ])
            | (refine walks_unwanted rfl rfl ?_; simp only [Act.put, List.setIfInBounds_toArray, List.set_cons_zero, List.set_cons_succ])
            | (refine walks_read (v := ?_) rfl rfl (fun w' hE => ?_) ?_; rotate_left 1; (· ((try (have hEx := Ext.trans (Hid.out XE) hE)); go_simp; (try go_bits); with_reducible rfl)); simp only [Act.put, List.setIfInBounds_toArray, List.set_cons_zero, List.set_cons_succ])
            | (refine walks_alt ?_ ?_)
            | (refine walks_main rfl rfl (fun K hK => ?_); go_wp2_with (fail); refine hK _ _ (by first | assumption | exact Ext.alloc _ _ | exact Ext.refl _) ?_; clear hK K; try simp only [Act.put, List.setIfInBounds_toArray, List.set_cons_zero, List.set_cons_succ]))
          refine walks_done ?_
          go_wp2
          go_ret
          exact ⟨ret_bool (decide_eq_false (fun e => by subst e; exact Hx.out (Option.some.inj (Hg.out.1.symm.trans Hg.out.2)))), hx.out.trans hxD⟩
      · obtain rfl : j = n := by omega
        go_wp2
        go_ret
        exact ⟨ret_bool (decide_eq_true (take_eq_all hl.out kl2.out Htk.out)), hx.out⟩
  · have hne : ((n : Int) != (m : Int)) = true := by rw [bne_iff_ne]; omega
    have hfin : Hid (decide (l = r) = false) := by
      refine decide_eq_false fun e => ?_
      subst e
      have := hl.out
      have := kl.out
      omega
    clear hnm
    go_enter Try.func35, Try.ntmps35
    go_wp2
    go_ret
    exact ⟨ret_bool hfin.out, Ext.refl w⟩
/-- '[]Attr{a}', as an operation. -/
theorem litatt_wp {S : Nat → Prop} {w : World} {o : Oper} {a : Act} {K : Act → World → Prop} {Q : Exit → Act → World → Prop} (x : Operand) (ho : o.op = .buildSlice 26 1 #[(0, x)]) (y : Att) (A : Option Addr) (n c : Nat)
    (hx : a.eval x = .agg #[.string y.type, .slice A n c]) (hr : Row Elem.str S w A n c y.vals)
    (h : ∀ w', Ext w w' → Row Elem.att (fun _ => True) w' (some ⟨w.heap.size, 0, none⟩) 1 1 [y] → K (a.put o.dst (.slice (some ⟨w.heap.size, 0, none⟩) 1 1)) w') : o.wp Try.prog a w K Q := by
  have hrun : (execOp a.eval o).run Try.prog w = .ok (.value (.slice (some ⟨w.heap.size, 0, none⟩) 1 1)) (w.alloc (.cells #[.string y.type, .slice A n c] 48)) := by
    unfold execOp
    simp only [ho, List.map_toArray, List.map_cons, List.map_nil, hx]
    kernel_rfl
  unfold Oper.wp
  rw [hrun]
  exact h _ (Ext.alloc _ _) (Row.one (E := Elem.att) (v := [.string y.type, .slice A n c]) ⟨A, n, c, rfl, hr⟩ _)
set_option maxHeartbeats 1000000 in
theorem rsamechanges_any {S T : Nat → Prop} {A B : Option Addr} {n c m d : Nat} {l r : List Chg} {w : World} (h : Row Elem.chg S w A n c l) (k : Row Elem.chg T w B m d r) :
    Calls Try.prog 36 #[.slice A n c, .slice B m d] w fun e w' => e = .returned (.bool (decide (l = r))) ∧ Ext w w' := by
  have hl := hid h.len
  have kl := hid k.len
  have hnl : n ≤ 9223372036854775807 := by have := h.cap; have := h.most; simp only [maxLen] at this; omega
  have hml : m ≤ 9223372036854775807 := by have := k.cap; have := k.most; simp only [maxLen] at this; omega
  by_cases hnm : n = m
  · subst hnm
    have kl2 := kl
    clear kl
    go_enter Try.func36, Try.ntmps36
    go_wp2
    go_loopw [13] (fun i wr => ∃ j : Nat, j ≤ n ∧ i = .int .i64 j ∧ Hid (l.take j = r.take j) ∧ Hid (Ext w wr)) (fun i _ => n - (intOf i).toNat)
    case atStart => exact ⟨0, by omega, rfl, by simp [Hid], Ext.refl w⟩
    case round =>
      obtain ⟨j, hj, rfl, Htk, hx⟩ := hrel
      by_cases hlt : j < n
      · obtain ⟨b1, o1, v1, x1, rfl, g1, _, ⟨A1, n1, c1, rfl, r1⟩, q1⟩ := (h.ext hx.out).at_ hlt
        obtain ⟨b2, o2, v2, x2, rfl, g2, _, ⟨A2, n2, c2, rfl, r2⟩, q2⟩ := (k.ext hx.out).at_ hlt
        have e10 := q1 0 _ rfl; have e11 := q1 1 _ rfl; have e12 := q1 2 _ rfl; have e20 := q2 0 _ rfl; have e21 := q2 1 _ rfl; have e22 := q2 2 _ rfl
        clear q1 q2
        simp only [Elem.chg, Nat.add_zero] at e10 e11 e12 e20 e21 e22
        have Hg := hid (And.intro g1 g2)
        clear g1 g2
        have hd := hid (chg_dec x1 x2)
        by_cases ht : x1.op = x2.op
        · have f1 : (x1.op != x2.op) = false := by rw [bne_eq_false_iff_eq]; exact ht
          by_cases hv : x1.att = x2.att
          · have Hd := hid (show decide ([x1.att] = [x2.att]) = true by simp [hv])
            have Hx : Hid (x1 = x2) := chg_eq.2 ⟨ht, hv⟩
            clear ht hv
            go_wp2
            refine wp_region_plan (.read 0 (.read 1 (.read 2 (.read 3 (.read 4 (.read 5 (.read 6 (.read 7 (.read 8 (.read 9 (.read 10 (.read 11 (.read 12 (.read 13 (.read 14 (.read 15 (.read 16 (.read 18 (.read 19 (.read 20 (.read 21 (.read 22 (.alt 17 (.main 23 (.main 24 (.read 25 (.read 26 .done)))) (.main 23 (.main 17 (.main 24 (.read 25 (.read 26 .done)))))))))))))))))))))))))))) (by kernel_rfl) (by kernel_rfl) ?_
            intro wD hxD
            have c10 := cell_later (cell_later e10 _ hxD); have c11 := cell_later (cell_later e11 _ hxD); have c12 := cell_later (cell_later e12 _ hxD); have c22 := cell_later (cell_later e22 _ hxD); have c20 := cell_later (cell_later e20 _ hxD); have c21 := cell_later (cell_later e21 _ hxD)
            have hE := hid hxD
            have Rx := hid r1
            have Ry := hid r2
            clear r1 r2
            repeat' (first
              | (refine walks_move rfl rfl ?_; simp only [Act.put, Act.eval, List.setIfInBounds_toArray, List.set_cons_zero, List.set_cons_succ, Array.getD_eq_getD_getElem?, List.getElem?_toArray, List.getElem?_cons_zero, List.getElem?_cons_succ, Option.getD_some])
              | (refine walks_assign rfl rfl ?_; simp only [Act.put, Act.eval, List.setIfInBounds_toArray, List.set_cons_zero, List.set_cons_succ, Array.getD_eq_getD_getElem?, List.getElem?_toArray, List.getElem?_cons_zero, List.getElem?_cons_succ, Option.getD_some])
              | (refine walks_skip rfl rfl ?_; simp only [Act.put, List.setIfInBounds_toArray, List.set_cons_zero, List.set_cons_succ])
              | (refine walks_unwanted rfl rfl ?_; simp only [Act.put, List.setIfInBounds_toArray, List.set_cons_zero, List.set_cons_succ])
              | (refine walks_read (v := ?_) rfl rfl (fun w' hE => ?_) ?_; rotate_left 1; (· ((try (have hEx := Ext.trans (Hid.out XE) hE)); go_simp; (try go_bits); with_reducible rfl)); simp only [Act.put, List.setIfInBounds_toArray, List.set_cons_zero, List.set_cons_succ])
              | (refine walks_main rfl rfl (fun K hK => ?_); (first | (refine litatt_wp (.tmp 32) rfl x1.att A1 n1 c1 rfl (Rx.out.ext hE.out) ?_; intro wa hxa hla; have La := hid hla; (try have Lb := hid (Lb.out.ext hxa)); have hE2 := hid (hE.out.trans hxa); clear hE; have hE := hE2; clear hE2) | (refine litatt_wp (.tmp 38) rfl x2.att A2 n2 c2 rfl (Ry.out.ext hE.out) ?_; intro wb hxb hlb; have Lb := hid hlb; (try have La := hid (La.out.ext hxb)); have hE2 := hid (hE.out.trans hxb); clear hE; have hE := hE2; clear hE2)); refine hK _ _ (by first | assumption | exact Ext.alloc _ _ | exact Ext.refl _) ?_; clear hK K; try simp only [Act.put, List.setIfInBounds_toArray, List.set_cons_zero, List.set_cons_succ])
              | (refine walks_alt ?_ ?_)
              | (refine walks_main rfl rfl (fun K hK => ?_); go_wp2_with ((go_at_call 35; (with_reducible refine (rsameatts_any La.out Lb.out).mono ?_); rintro e w1 ⟨he, hx1⟩; rw [Hd.out] at he; subst he)); refine hK _ _ (by first | assumption | exact Ext.alloc _ _ | exact Ext.refl _) ?_; clear hK K; try simp only [Act.put, List.setIfInBounds_toArray, List.set_cons_zero, List.set_cons_succ]))
            all_goals
              refine walks_done ?_
              go_wp2
              refine ⟨⟨j + 1, by omega, by go_num, ?_, hx.out.trans (hE.out.trans hx1)⟩, by simp [intOf]; omega⟩
              show _ = _
              rw [List.take_add_one, List.take_add_one, Htk.out, Hg.out.1, Hg.out.2, Hx.out]
          · have Hd := hid (show decide ([x1.att] = [x2.att]) = false by simp [hv])
            have Hx : Hid (¬ x1 = x2) := fun e => hv (chg_eq.1 e).2
            clear ht hv
            go_wp2
            refine wp_region_plan (.read 0 (.read 1 (.read 2 (.read 3 (.read 4 (.read 5 (.read 6 (.read 7 (.read 8 (.read 9 (.read 10 (.read 11 (.read 12 (.read 13 (.read 14 (.read 15 (.read 16 (.read 18 (.read 19 (.read 20 (.read 21 (.read 22 (.alt 17 (.main 23 (.main 24 (.read 25 (.read 26 .done)))) (.main 23 (.main 17 (.main 24 (.read 25 (.read 26 .done)))))))))))))))))))))))))))) (by kernel_rfl) (by kernel_rfl) ?_
            intro wD hxD
            have c10 := cell_later (cell_later e10 _ hxD); have c11 := cell_later (cell_later e11 _ hxD); have c12 := cell_later (cell_later e12 _ hxD); have c22 := cell_later (cell_later e22 _ hxD); have c20 := cell_later (cell_later e20 _ hxD); have c21 := cell_later (cell_later e21 _ hxD)
            have hE := hid hxD
            have Rx := hid r1
            have Ry := hid r2
            clear r1 r2
            repeat' (first
              | (refine walks_move rfl rfl ?_; simp only [Act.put, Act.eval, List.setIfInBounds_toArray, List.set_cons_zero, List.set_cons_succ, Array.getD_eq_getD_getElem?, List.getElem?_toArray, List.getElem?_cons_zero, List.getElem?_cons_succ, Option.getD_some])
              | (refine walks_assign rfl rfl ?_; simp only [Act.put, Act.eval, List.setIfInBounds_toArray, List.set_cons_zero, List.set_cons_succ, Array.getD_eq_getD_getElem?, List.getElem?_toArray, List.getElem?_cons_zero, List.getElem?_cons_succ, Option.getD_some])
              | (refine walks_skip rfl rfl ?_; simp only [Act.put, List.setIfInBounds_toArray, List.set_cons_zero, List.set_cons_succ])
              | (refine walks_unwanted rfl rfl ?_; simp only [Act.put, List.setIfInBounds_toArray, List.set_cons_zero, List.set_cons_succ])
              | (refine walks_read (v := ?_) rfl rfl (fun w' hE => ?_) ?_; rotate_left 1; (· ((try (have hEx := Ext.trans (Hid.out XE) hE)); go_simp; (try go_bits); with_reducible rfl)); simp only [Act.put, List.setIfInBounds_toArray, List.set_cons_zero, List.set_cons_succ])
              | (refine walks_main rfl rfl (fun K hK => ?_); (first | (refine litatt_wp (.tmp 32) rfl x1.att A1 n1 c1 rfl (Rx.out.ext hE.out) ?_; intro wa hxa hla; have La := hid hla; (try have Lb := hid (Lb.out.ext hxa)); have hE2 := hid (hE.out.trans hxa); clear hE; have hE := hE2; clear hE2) | (refine litatt_wp (.tmp 38) rfl x2.att A2 n2 c2 rfl (Ry.out.ext hE.out) ?_; intro wb hxb hlb; have Lb := hid hlb; (try have La := hid (La.out.ext hxb)); have hE2 := hid (hE.out.trans hxb); clear hE; have hE := hE2; clear hE2)); refine hK _ _ (by first | assumption | exact Ext.alloc _ _ | exact Ext.refl _) ?_; clear hK K; try simp only [Act.put, List.setIfInBounds_toArray, List.set_cons_zero, List.set_cons_succ])
              | (refine walks_alt ?_ ?_)
              | (refine walks_main rfl rfl (fun K hK => ?_); go_wp2_with ((go_at_call 35; (with_reducible refine (rsameatts_any La.out Lb.out).mono ?_); rintro e w1 ⟨he, hx1⟩; rw [Hd.out] at he; subst he)); refine hK _ _ (by first | assumption | exact Ext.alloc _ _ | exact Ext.refl _) ?_; clear hK K; try simp only [Act.put, List.setIfInBounds_toArray, List.set_cons_zero, List.set_cons_succ]))
            all_goals
              refine walks_done ?_
              go_wp2
              go_ret
              exact ⟨ret_bool (decide_eq_false (fun e => by subst e; exact Hx.out (Option.some.inj (Hg.out.1.symm.trans Hg.out.2)))), hx.out.trans (hE.out.trans hx1)⟩
        · have f1 : (x1.op != x2.op) = true := by rw [bne_iff_ne]; exact ht
          have Hx : Hid (¬ x1 = x2) := fun e => ht (chg_eq.1 e).1
          clear ht
          go_wp2
          refine wp_region_plan (.read 0 (.read 1 (.read 2 (.read 3 (.read 4 (.read 5 (.read 6 (.read 7 (.read 8 (.read 9 (.read 10 (.read 11 (.read 12 (.read 13 (.read 14 (.read 15 (.read 16 (.read 18 (.read 19 (.read 20 (.read 21 (.read 22 (.alt 17 (.main 23 (.main 24 (.read 25 (.read 26 .done)))) (.main 23 (.main 17 (.main 24 (.read 25 (.read 26 .done)))))))))))))))))))))))))))) (by kernel_rfl) (by kernel_rfl) ?_
          intro wD hxD
          have c10 := cell_later (cell_later e10 _ hxD); have c11 := cell_later (cell_later e11 _ hxD); have c12 := cell_later (cell_later e12 _ hxD); have c22 := cell_later (cell_later e22 _ hxD); have c20 := cell_later (cell_later e20 _ hxD); have c21 := cell_later (cell_later e21 _ hxD)
          repeat' (first
            | (refine walks_move rfl rfl ?_; simp only [Act.put, Act.eval, List.setIfInBounds_toArray, List.set_cons_zero, List.set_cons_succ, Array.getD_eq_getD_getElem?, List.getElem?_toArray, List.getElem?_cons_zero, List.getElem?_cons_succ, Option.getD_some])
            | (refine walks_assign rfl rfl ?_; simp only [Act.put, Act.eval, List.setIfInBounds_toArray, List.set_cons_zero, List.set_cons_succ, Array.getD_eq_getD_getElem?, List.getElem?_toArray, List.getElem?_cons_zero, List.getElem?_cons_succ, Option.getD_some])
            | (refine walks_skip rfl rfl ?_; simp only [Act.put, List.setIfInBounds_toArray, List.set_cons_zero, List.set_cons_succ])
            | (refine walks_unwanted rfl rfl ?_; simp only [Act.put, List.setIfInBounds_toArray, List.set_cons_zero, List.set_cons_succ])
            | (refine walks_read (v := ?_) rfl rfl (fun w' hE => ?_) ?_; rotate_left 1; (· ((try (have hEx := Ext.trans (Hid.out XE) hE)); go_simp; (try go_bits); with_reducible rfl)); simp only [Act.put, List.setIfInBounds_toArray, List.set_cons_zero, List.set_cons_succ])
            | (refine walks_alt ?_ ?_)
            | (refine walks_main rfl rfl (fun K hK => ?_); go_wp2_with (fail); refine hK _ _ (by first | assumption | exact Ext.alloc _ _ | exact Ext.refl _) ?_; clear hK K; try simp only [Act.put, List.setIfInBounds_toArray, List.set_cons_zero, List.set_cons_succ]))
          all_goals
            refine walks_done ?_
            go_wp2
            go_ret
            exact ⟨ret_bool (decide_eq_false (fun e => by subst e; exact Hx.out (Option.some.inj (Hg.out.1.symm.trans Hg.out.2)))), hx.out.trans hxD⟩
      · obtain rfl : j = n := by omega
        go_wp2
        go_ret
        exact ⟨ret_bool (decide_eq_true (take_eq_all hl.out kl2.out Htk.out)), hx.out⟩
  · have hne : ((n : Int) != (m : Int)) = true := by rw [bne_iff_ne]; omega
    have hfin : Hid (decide (l = r) = false) := by
      refine decide_eq_false fun e => ?_
      subst e
      have := hl.out
      have := kl.out
      omega
    clear hnm
    go_enter Try.func36, Try.ntmps36
    go_wp2
    go_ret
    exact ⟨ret_bool hfin.out, Ext.refl w⟩
end Go.Proofs.Ytabaeiolpbdjnaa
