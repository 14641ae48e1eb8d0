/- The walks of what compares controls. -/
import Derived.Test.YtabaeiolpbdjnaaDt
namespace Go.Proofs.Ytabaeiolpbdjnaa
open Go.RowKit
set_option maxRecDepth 100000

theorem ctl_eq {a b : Ctl} : a = b ↔ a.oid = b.oid ∧ a.crit = b.crit ∧ a.has = b.has ∧ a.val = b.val := by
  obtain ⟨a1, a2, a3, a4⟩ := a
  obtain ⟨b1, b2, b3, b4⟩ := b
  simp
instance : DecidableEq Ctl := fun _ _ => decidable_of_iff _ ctl_eq.symm
theorem ctl_split (x y : Ctl) : (x = y ∧ (x.oid.toList == y.oid.toList) = true ∧ (x.crit == y.crit) = true ∧ (x.has == y.has) = true ∧ (x.val.toList == y.val.toList) = true) ∨
    (¬ x = y ∧ (x.oid.toList == y.oid.toList) = false) ∨ (¬ x = y ∧ (x.oid.toList == y.oid.toList) = true ∧ (x.crit == y.crit) = false) ∨ (¬ x = y ∧ (x.oid.toList == y.oid.toList) = true ∧ (x.crit == y.crit) = true ∧ (x.has == y.has) = false) ∨
    (¬ x = y ∧ (x.oid.toList == y.oid.toList) = true ∧ (x.crit == y.crit) = true ∧ (x.has == y.has) = true ∧ (x.val.toList == y.val.toList) = false) := by
  by_cases h1 : x.oid = y.oid
  · by_cases h2 : x.crit = y.crit
    · by_cases h3 : x.has = y.has
      · by_cases h4 : x.val = y.val
        · exact .inl ⟨ctl_eq.2 ⟨h1, h2, h3, h4⟩, str_eq h1, by rw [beq_iff_eq]; exact h2, by rw [beq_iff_eq]; exact h3, str_eq h4⟩
        · exact .inr (.inr (.inr (.inr ⟨fun e => h4 (ctl_eq.1 e).2.2.2, str_eq h1, by rw [beq_iff_eq]; exact h2, by rw [beq_iff_eq]; exact h3, str_ne h4⟩)))
      · exact .inr (.inr (.inr (.inl ⟨fun e => h3 (ctl_eq.1 e).2.2.1, str_eq h1, by rw [beq_iff_eq]; exact h2, by rw [beq_eq_false_iff_ne]; exact h3⟩)))
    · exact .inr (.inr (.inl ⟨fun e => h2 (ctl_eq.1 e).2.1, str_eq h1, by rw [beq_eq_false_iff_ne]; exact h2⟩))
  · exact .inr (.inl ⟨fun e => h1 (ctl_eq.1 e).1, str_ne h1⟩)
set_option maxHeartbeats 1000000 in
theorem samectls_any {S T : Nat → Prop} {A B : Option Addr} {n c m d : Nat} {l r : List Ctl} {w : World} (h : Row Elem.ctl S w A n c l) (k : Row Elem.ctl T w B m d r) :
    Calls Try.prog 37 #[.slice A n c, .slice B m d] w fun e w' => e = .returned (.bool (decide (l = r))) ∧ Ext w w' := by
  have hl := hid h.len
  have kl := hid k.len
  have hnl : n ≤ 9223372036854775807 := by have := h.cap; have := h.most; simp only [maxLen] at this; omega
  have hml : m ≤ 9223372036854775807 := by have := k.cap; have := k.most; simp only [maxLen] at this; omega
  by_cases hnm : n = m
  · subst hnm
    have kl2 := kl
    clear kl
    go_enter Try.func37, Try.ntmps37
    go_wp2
    go_loopw [13] (fun i wr => ∃ j : Nat, j ≤ n ∧ i = .int .i64 j ∧ Hid (l.take j = r.take j) ∧ Hid (Ext w wr)) (fun i _ => n - (intOf i).toNat)
    case atStart => exact ⟨0, by omega, rfl, by simp [Hid], Ext.refl w⟩
    case round =>
      obtain ⟨j, hj, rfl, Htk, hx⟩ := hrel
      by_cases hlt : j < n
      · obtain ⟨b1, o1, v1, x1, rfl, g1, _, rfl, q1⟩ := (h.ext hx.out).at_ hlt
        obtain ⟨b2, o2, v2, x2, rfl, g2, _, rfl, q2⟩ := (k.ext hx.out).at_ hlt
        have e10 := q1 0 _ rfl; have e11 := q1 1 _ rfl; have e12 := q1 2 _ rfl; have e13 := q1 3 _ rfl
        have e20 := q2 0 _ rfl; have e21 := q2 1 _ rfl; have e22 := q2 2 _ rfl; have e23 := q2 3 _ rfl
        clear q1 q2
        simp only [Elem.ctl, Nat.add_zero] at e10 e11 e12 e13 e20 e21 e22 e23
        have Hg := hid (And.intro g1 g2)
        clear g1 g2
        rcases ctl_split x1 x2 with ⟨hh, f1, f2, f3, f4⟩ | ⟨hh, f1⟩ | ⟨hh, f1, f2⟩ | ⟨hh, f1, f2, f3⟩ | ⟨hh, f1, f2, f3, f4⟩
        case inl =>
          have He := hid hh
          clear hh
          go_wp2
          refine wp_region_plan (.read 0 (.read 1 (.read 2 (.read 3 (.read 4 (.read 5 (.read 6 (.read 7 (.read 8 .done))))))))) (by kernel_rfl) (by kernel_rfl) ?_
          intro wD hxD
          have c10 := cell_later (cell_later e10 _ hxD); have c11 := cell_later (cell_later e11 _ hxD); have c12 := cell_later (cell_later e12 _ hxD); have c13 := cell_later (cell_later e13 _ hxD)
          have c20 := cell_later (cell_later e20 _ hxD); have c21 := cell_later (cell_later e21 _ hxD); have c22 := cell_later (cell_later e22 _ hxD); have c23 := cell_later (cell_later e23 _ hxD)
          repeat' (first
            | (refine walks_move rfl rfl ?_; simp only [Act.put, Act.eval, List.setIfInBounds_toArray, List.set_cons_zero, List.set_cons_succ, Array.getD_eq_getD_getElem?, List.getElem?_toArray, List.getElem?_cons_zero, List.getElem?_cons_succ, Option.getD_some])
            | (refine walks_assign rfl rfl ?_; simp only [Act.put, Act.eval, List.setIfInBounds_toArray, List.set_cons_zero, List.set_cons_succ, Array.getD_eq_getD_getElem?, List.getElem?_toArray, List.getElem?_cons_zero, List.getElem?_cons_succ, Option.getD_some])
            | (refine walks_skip rfl rfl ?_; simp only [Act.put, List.setIfInBounds_toArray, List.set_cons_zero, List.set_cons_succ])
            | (refine walks_unwanted rfl rfl ?_; simp only [Act.put, List.setIfInBounds_toArray, List.set_cons_zero, List.set_cons_succ])
            | (refine walks_read (v := ?_) rfl rfl (fun w' hE => ?_) ?_; rotate_left 1; (· ((try (have hEx := Ext.trans (Hid.out XE) hE)); go_simp; (try go_bits); with_reducible rfl)); simp only [Act.put, List.setIfInBounds_toArray, List.set_cons_zero, List.set_cons_succ])
            | (refine walks_alt ?_ ?_)
            | (refine walks_main rfl rfl (fun K hK => ?_); go_wp2_with (fail); refine hK _ _ (by first | assumption | exact Ext.alloc _ _ | exact Ext.refl _) ?_; clear hK K; try simp only [Act.put, List.setIfInBounds_toArray, List.set_cons_zero, List.set_cons_succ]))
          refine walks_read (v := .bool false) rfl rfl (fun w' hE => ?_) ?_
          · go_simp
            simp only [List.getElem?_cons_zero]
            go_simp
          simp only [Act.put, List.setIfInBounds_toArray, List.set_cons_zero, List.set_cons_succ]
          refine walks_done ?_
          go_wp2
          refine ⟨⟨j + 1, by omega, by go_num, ?_, hx.out.trans hxD⟩, by simp [intOf]; omega⟩
          show _ = _
          rw [List.take_add_one, List.take_add_one, Htk.out, Hg.out.1, Hg.out.2, He.out]
        all_goals
          have He := hid hh
          clear hh
          go_wp2
          refine wp_region_plan (.read 0 (.read 1 (.read 2 (.read 3 (.read 4 (.read 5 (.read 6 (.read 7 (.read 8 .done))))))))) (by kernel_rfl) (by kernel_rfl) ?_
          intro wD hxD
          have c10 := cell_later (cell_later e10 _ hxD); have c11 := cell_later (cell_later e11 _ hxD); have c12 := cell_later (cell_later e12 _ hxD); have c13 := cell_later (cell_later e13 _ hxD)
          have c20 := cell_later (cell_later e20 _ hxD); have c21 := cell_later (cell_later e21 _ hxD); have c22 := cell_later (cell_later e22 _ hxD); have c23 := cell_later (cell_later e23 _ hxD)
          repeat' (first
            | (refine walks_move rfl rfl ?_; simp only [Act.put, Act.eval, List.setIfInBounds_toArray, List.set_cons_zero, List.set_cons_succ, Array.getD_eq_getD_getElem?, List.getElem?_toArray, List.getElem?_cons_zero, List.getElem?_cons_succ, Option.getD_some])
            | (refine walks_assign rfl rfl ?_; simp only [Act.put, Act.eval, List.setIfInBounds_toArray, List.set_cons_zero, List.set_cons_succ, Array.getD_eq_getD_getElem?, List.getElem?_toArray, List.getElem?_cons_zero, List.getElem?_cons_succ, Option.getD_some])
            | (refine walks_skip rfl rfl ?_; simp only [Act.put, List.setIfInBounds_toArray, List.set_cons_zero, List.set_cons_succ])
            | (refine walks_unwanted rfl rfl ?_; simp only [Act.put, List.setIfInBounds_toArray, List.set_cons_zero, List.set_cons_succ])
            | (refine walks_read (v := ?_) rfl rfl (fun w' hE => ?_) ?_; rotate_left 1; (· ((try (have hEx := Ext.trans (Hid.out XE) hE)); go_simp; (try go_bits); with_reducible rfl)); simp only [Act.put, List.setIfInBounds_toArray, List.set_cons_zero, List.set_cons_succ])
            | (refine walks_alt ?_ ?_)
            | (refine walks_main rfl rfl (fun K hK => ?_); go_wp2_with (fail); refine hK _ _ (by first | assumption | exact Ext.alloc _ _ | exact Ext.refl _) ?_; clear hK K; try simp only [Act.put, List.setIfInBounds_toArray, List.set_cons_zero, List.set_cons_succ]))
          refine walks_read (v := .bool true) rfl rfl (fun w' hE => ?_) ?_
          · go_simp
            simp only [List.getElem?_cons_zero]
            go_simp
          simp only [Act.put, List.setIfInBounds_toArray, List.set_cons_zero, List.set_cons_succ]
          refine walks_done ?_
          go_wp2
          go_ret
          exact ⟨ret_bool (decide_eq_false (fun e => by subst e; exact He.out (Option.some.inj (Hg.out.1.symm.trans Hg.out.2)))), hx.out.trans hxD⟩
      · obtain rfl : j = n := by omega
        go_wp2
        go_ret
        exact ⟨ret_bool (decide_eq_true (take_eq_all hl.out kl2.out Htk.out)), hx.out⟩
  · have hne : ((n : Int) != (m : Int)) = true := by rw [bne_iff_ne]; omega
    have hfin : Hid (decide (l = r) = false) := by
      refine decide_eq_false fun e => ?_
      subst e
      have := hl.out
      have := kl.out
      omega
    clear hnm
    go_enter Try.func37, Try.ntmps37
    go_wp2
    go_ret
    exact ⟨ret_bool hfin.out, Ext.refl w⟩
set_option maxHeartbeats 1000000 in
theorem equalctls_any {S T : Nat → Prop} {A B : Option Addr} {n c m d : Nat} {l r : List Ctl} {w : World} (h : Row Elem.ctl S w A n c l) (k : Row Elem.ctl T w B m d r) :
    Calls Try.prog 32 #[.slice A n c, .slice B m d] w fun e w' => e = .returned (.bool (decide (l = r))) ∧ Ext w w' := by
  have hl := hid h.len
  have kl := hid k.len
  have hnl : n ≤ 9223372036854775807 := by have := h.cap; have := h.most; simp only [maxLen] at this; omega
  have hml : m ≤ 9223372036854775807 := by have := k.cap; have := k.most; simp only [maxLen] at this; omega
  by_cases hnm : n = m
  · subst hnm
    have kl2 := kl
    clear kl
    go_enter Try.func32, Try.ntmps32
    go_wp2
    go_loopw [13] (fun i wr => ∃ j : Nat, j ≤ n ∧ i = .int .i64 j ∧ Hid (l.take j = r.take j) ∧ Hid (Ext w wr)) (fun i _ => n - (intOf i).toNat)
    case atStart => exact ⟨0, by omega, rfl, by simp [Hid], Ext.refl w⟩
    case round =>
      obtain ⟨j, hj, rfl, Htk, hx⟩ := hrel
      by_cases hlt : j < n
      · obtain ⟨b1, o1, v1, x1, rfl, g1, _, rfl, q1⟩ := (h.ext hx.out).at_ hlt
        obtain ⟨b2, o2, v2, x2, rfl, g2, _, rfl, q2⟩ := (k.ext hx.out).at_ hlt
        have e10 := q1 0 _ rfl; have e11 := q1 1 _ rfl; have e12 := q1 2 _ rfl; have e13 := q1 3 _ rfl
        have e20 := q2 0 _ rfl; have e21 := q2 1 _ rfl; have e22 := q2 2 _ rfl; have e23 := q2 3 _ rfl
        clear q1 q2
        simp only [Elem.ctl, Nat.add_zero] at e10 e11 e12 e13 e20 e21 e22 e23
        have Hg := hid (And.intro g1 g2)
        clear g1 g2
        rcases ctl_split x1 x2 with ⟨hh, f1, f2, f3, f4⟩ | ⟨hh, f1⟩ | ⟨hh, f1, f2⟩ | ⟨hh, f1, f2, f3⟩ | ⟨hh, f1, f2, f3, f4⟩
        case inl =>
          have He := hid hh
          clear hh
          go_wp2
          refine wp_region_plan (.read 0 (.read 1 (.read 2 (.read 3 (.read 4 (.read 5 (.read 6 (.read 7 (.read 8 .done))))))))) (by kernel_rfl) (by kernel_rfl) ?_
          intro wD hxD
          have c10 := cell_later (cell_later e10 _ hxD); have c11 := cell_later (cell_later e11 _ hxD); have c12 := cell_later (cell_later e12 _ hxD); have c13 := cell_later (cell_later e13 _ hxD)
          have c20 := cell_later (cell_later e20 _ hxD); have c21 := cell_later (cell_later e21 _ hxD); have c22 := cell_later (cell_later e22 _ hxD); have c23 := cell_later (cell_later e23 _ hxD)
          repeat' (first
            | (refine walks_move rfl rfl ?_; simp only [Act.put, Act.eval, List.setIfInBounds_toArray, List.set_cons_zero, List.set_cons_succ, Array.getD_eq_getD_getElem?, List.getElem?_toArray, List.getElem?_cons_zero, List.getElem?_cons_succ, Option.getD_some])
            | (refine walks_assign rfl rfl ?_; simp only [Act.put, Act.eval, List.setIfInBounds_toArray, List.set_cons_zero, List.set_cons_succ, Array.getD_eq_getD_getElem?, List.getElem?_toArray, List.getElem?_cons_zero, List.getElem?_cons_succ, Option.getD_some])
            | (refine walks_skip rfl rfl ?_; simp only [Act.put, List.setIfInBounds_toArray, List.set_cons_zero, List.set_cons_succ])
            | (refine walks_unwanted rfl rfl ?_; simp only [Act.put, List.setIfInBounds_toArray, List.set_cons_zero, List.set_cons_succ])
            | (refine walks_read (v := ?_) rfl rfl (fun w' hE => ?_) ?_; rotate_left 1; (· ((try (have hEx := Ext.trans (Hid.out XE) hE)); go_simp; (try go_bits); with_reducible rfl)); simp only [Act.put, List.setIfInBounds_toArray, List.set_cons_zero, List.set_cons_succ])
            | (refine walks_alt ?_ ?_)
            | (refine walks_main rfl rfl (fun K hK => ?_); go_wp2_with (fail); refine hK _ _ (by first | assumption | exact Ext.alloc _ _ | exact Ext.refl _) ?_; clear hK K; try simp only [Act.put, List.setIfInBounds_toArray, List.set_cons_zero, List.set_cons_succ]))
          refine walks_read (v := .bool false) rfl rfl (fun w' hE => ?_) ?_
          · go_simp
            simp only [List.getElem?_cons_zero]
            go_simp
          simp only [Act.put, List.setIfInBounds_toArray, List.set_cons_zero, List.set_cons_succ]
          refine walks_done ?_
          go_wp2
          refine ⟨⟨j + 1, by omega, by go_num, ?_, hx.out.trans hxD⟩, by simp [intOf]; omega⟩
          show _ = _
          rw [List.take_add_one, List.take_add_one, Htk.out, Hg.out.1, Hg.out.2, He.out]
        all_goals
          have He := hid hh
          clear hh
          go_wp2
          refine wp_region_plan (.read 0 (.read 1 (.read 2 (.read 3 (.read 4 (.read 5 (.read 6 (.read 7 (.read 8 .done))))))))) (by kernel_rfl) (by kernel_rfl) ?_
          intro wD hxD
          have c10 := cell_later (cell_later e10 _ hxD); have c11 := cell_later (cell_later e11 _ hxD); have c12 := cell_later (cell_later e12 _ hxD); have c13 := cell_later (cell_later e13 _ hxD)
          have c20 := cell_later (cell_later e20 _ hxD); have c21 := cell_later (cell_later e21 _ hxD); have c22 := cell_later (cell_later e22 _ hxD); have c23 := cell_later (cell_later e23 _ hxD)
          repeat' (first
            | (refine walks_move rfl rfl ?_; simp only [Act.put, Act.eval, List.setIfInBounds_toArray, List.set_cons_zero, List.set_cons_succ, Array.getD_eq_getD_getElem?, List.getElem?_toArray, List.getElem?_cons_zero, List.getElem?_cons_succ, Option.getD_some])
            | (refine walks_assign rfl rfl ?_; simp only [Act.put, Act.eval, List.setIfInBounds_toArray, List.set_cons_zero, List.set_cons_succ, Array.getD_eq_getD_getElem?, List.getElem?_toArray, List.getElem?_cons_zero, List.getElem?_cons_succ, Option.getD_some])
            | (refine walks_skip rfl rfl ?_; simp only [Act.put, List.setIfInBounds_toArray, List.set_cons_zero, List.set_cons_succ])
            | (refine walks_unwanted rfl rfl ?_; simp only [Act.put, List.setIfInBounds_toArray, List.set_cons_zero, List.set_cons_succ])
            | (refine walks_read (v := ?_) rfl rfl (fun w' hE => ?_) ?_; rotate_left 1; (· ((try (have hEx := Ext.trans (Hid.out XE) hE)); go_simp; (try go_bits); with_reducible rfl)); simp only [Act.put, List.setIfInBounds_toArray, List.set_cons_zero, List.set_cons_succ])
            | (refine walks_alt ?_ ?_)
            | (refine walks_main rfl rfl (fun K hK => ?_); go_wp2_with (fail); refine hK _ _ (by first | assumption | exact Ext.alloc _ _ | exact Ext.refl _) ?_; clear hK K; try simp only [Act.put, List.setIfInBounds_toArray, List.set_cons_zero, List.set_cons_succ]))
          refine walks_read (v := .bool true) rfl rfl (fun w' hE => ?_) ?_
          · go_simp
            simp only [List.getElem?_cons_zero]
            go_simp
          simp only [Act.put, List.setIfInBounds_toArray, List.set_cons_zero, List.set_cons_succ]
          refine walks_done ?_
          go_wp2
          go_ret
          exact ⟨ret_bool (decide_eq_false (fun e => by subst e; exact He.out (Option.some.inj (Hg.out.1.symm.trans Hg.out.2)))), hx.out.trans hxD⟩
      · obtain rfl : j = n := by omega
        go_wp2
        go_ret
        exact ⟨ret_bool (decide_eq_true (take_eq_all hl.out kl2.out Htk.out)), hx.out⟩
  · have hne : ((n : Int) != (m : Int)) = true := by rw [bne_iff_ne]; omega
    have hfin : Hid (decide (l = r) = false) := by
      refine decide_eq_false fun e => ?_
      subst e
      have := hl.out
      have := kl.out
      omega
    clear hnm
    go_enter Try.func32, Try.ntmps32
    go_wp2
    go_ret
    exact ⟨ret_bool hfin.out, Ext.refl w⟩
end Go.Proofs.Ytabaeiolpbdjnaa
