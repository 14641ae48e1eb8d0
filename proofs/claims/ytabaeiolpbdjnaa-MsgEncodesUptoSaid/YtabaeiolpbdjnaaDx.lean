/- The walk of the reference's comparison of filters. -/
import Derived.Test.YtabaeiolpbdjnaaDw
namespace Go.Proofs.Ytabaeiolpbdjnaa
open Go.RowKit
set_option maxRecDepth 100000

set_option maxHeartbeats 2000000 in
theorem rfiltersame_any : ∀ x, SameSays 33 x := by
  refine Fil.ind fun k a v f l any parts ih => ?_
  rintro ⟨k', a', v', f', l', any', parts'⟩ S T vs us w h h'
  obtain ⟨A1, n1, c1, B1, m1, d1, rfl, r1, p1⟩ := FilAt.open_ h
  obtain ⟨A2, n2, c2, B2, m2, d2, rfl, r2, p2⟩ := FilAt.open_ h'
  have hx2 : ∀ o1 o2, Ext w ((w.alloc o1).alloc o2) := fun o1 o2 => (Ext.alloc _ _).trans (Ext.alloc _ _)
  have HX := hid hx2
  have IH := hid ih
  have L1 := hid p1.len
  have L2 := hid p2.len
  have hm1 : m1 ≤ 9223372036854775807 := by have := p1.cap; have := p1.most; simp only [maxLen] at this; omega
  have hm2 : m2 ≤ 9223372036854775807 := by have := p2.cap; have := p2.most; simp only [maxLen] at this; omega
  clear h h' hx2 ih
  rcases filhead k a v f l k' a' v' f' l' with ⟨h1, h2, h3, h4, h5⟩ | h1 | ⟨h1, h2⟩ | ⟨h1, h2, h3⟩ | ⟨h1, h2, h3, h4⟩ | ⟨h1, h2, h3, h4, h5⟩
  case inl =>
    have t1 := int_eq' h1; have t2 := str_eq h2; have t3 := str_eq h3; have t4 := str_eq h4; have t5 := str_eq h5
    by_cases h6 : any = any'
    · have Hd := hid (decide_eq_true h6)
      have Hf : Hid (decide (Fil.mk k a v f l any parts = Fil.mk k' a' v' f' l' any' parts') = decide (parts = parts')) := by
        refine decide_eq_decide.2 ?_
        simp [h1, h2, h3, h4, h5, h6]
      clear h1 h2 h3 h4 h5 h6
      by_cases h7 : m1 = m2
      · subst h7
        go_enter Try.func33, Try.ntmps33
        go_wp2_with (go_at_call 34; (with_reducible refine (sametexts_any (r1.ext (HX.out _ _)) (r2.ext (HX.out _ _))).mono ?_); rintro e w1 ⟨he, hx1⟩; rw [Hd.out] at he; subst he; have bc := bcell hx1; have y1 : w1.cell? ⟨w.heap.size, 6, none⟩ = some (.slice B1 m1 d1) := (by rw [bc _ _ (by simp <;> omega)]; exact box_ab _ _ _ _ 6 _ rfl); have y2 : w1.cell? ⟨w.heap.size + 1, 6, none⟩ = some (.slice B2 m1 d2) := (by rw [bc _ _ (by simp <;> omega)]; exact box_b _ _ _ _ 6))
        have X1 : Hid (Ext w w1) := (HX.out _ _).trans hx1
        clear bc hx1
        go_loopw [59] (fun i wr => ∃ j : Nat, j ≤ m1 ∧ i = .int .i64 j ∧ Hid (parts.take j = parts'.take j) ∧ Hid (Ext w1 wr)) (fun i _ => m1 - (intOf i).toNat)
        case atStart => exact ⟨0, by omega, rfl, by simp [Hid], Ext.refl w1⟩
        case round =>
          obtain ⟨j, hj, rfl, Htk, hx⟩ := hrel
          have z1 := cell_later y1 _ hx.out
          have z2 := cell_later y2 _ hx.out
          have X2 : Hid (Ext w wr) := X1.out.trans hx.out
          by_cases hlt : j < m1
          · obtain ⟨b1, o1, v1, x1, rfl, g1, _, R1, q1⟩ := (p1.ext X2.out).at_ hlt
            obtain ⟨b2, o2, v2, x2, rfl, g2, _, R2, q2⟩ := (p2.ext X2.out).at_ hlt
            have hsx := hid (IH.out x1 (List.mem_of_getElem? g1))
            obtain ⟨ka, aa, va, fa, la, anya, pa⟩ := x1
            obtain ⟨kb, ab, vb, fb, lb, anyb, pb⟩ := x2
            obtain ⟨E1, e1, i1, F1, f1, j1, rfl, -, -⟩ := FilAt.open_ R1
            obtain ⟨E2, e2, i2, F2, f2, j2, rfl, -, -⟩ := FilAt.open_ R2
            have e10 := q1 0 _ rfl; have e11 := q1 1 _ rfl; have e12 := q1 2 _ rfl; have e13 := q1 3 _ rfl; have e14 := q1 4 _ rfl; have e15 := q1 5 _ rfl; have e16 := q1 6 _ rfl
            have e20 := q2 0 _ rfl; have e21 := q2 1 _ rfl; have e22 := q2 2 _ rfl; have e23 := q2 3 _ rfl; have e24 := q2 4 _ rfl; have e25 := q2 5 _ rfl; have e26 := q2 6 _ rfl
            clear q1 q2
            simp only [Elem.fil, Nat.add_zero] at e10 e11 e12 e13 e14 e15 e16 e20 e21 e22 e23 e24 e25 e26
            have Hg := hid (And.intro g1 g2)
            have HC : Hid (∀ w2, Ext wr w2 → Calls Try.prog 33 #[.agg #[.int .i64 ka, .string aa, .string va, .string fa, .string la, .slice E1 e1 i1, .slice F1 f1 j1], .agg #[.int .i64 kb, .string ab, .string vb, .string fb, .string lb, .slice E2 e2 i2, .slice F2 f2 j2]] w2
                fun e w' => e = .returned (.bool (decide (Fil.mk ka aa va fa la anya pa = Fil.mk kb ab vb fb lb anyb pb))) ∧ Ext w2 w') := fun w2 hx2 => hsx.out _ _ _ _ _ w2 (FilAt.ext R1 hx2) (FilAt.ext R2 hx2)
            clear g1 g2 R1 R2
            by_cases hxx : Fil.mk ka aa va fa la anya pa = Fil.mk kb ab vb fb lb anyb pb
            · have Hd2 := hid (decide_eq_true hxx)
              have Hx := hid hxx
              clear hxx
              go_wp2
              refine wp_region_plan (.read 0 (.read 1 (.read 2 (.read 3 (.read 4 (.read 5 (.read 6 (.read 7 (.read 8 (.read 9 (.main 10 (.read 11 .done)))))))))))) (by kernel_rfl) (by kernel_rfl) ?_
              intro wD hxD
              have lz1 := cell_later (cell_later z1 _ hxD); have lz2 := cell_later (cell_later z2 _ hxD); have le10 := cell_later (cell_later e10 _ hxD); have le11 := cell_later (cell_later e11 _ hxD); have le12 := cell_later (cell_later e12 _ hxD); have le13 := cell_later (cell_later e13 _ hxD); have le14 := cell_later (cell_later e14 _ hxD); have le15 := cell_later (cell_later e15 _ hxD); have le16 := cell_later (cell_later e16 _ hxD); have le20 := cell_later (cell_later e20 _ hxD); have le21 := cell_later (cell_later e21 _ hxD); have le22 := cell_later (cell_later e22 _ hxD); have le23 := cell_later (cell_later e23 _ hxD); have le24 := cell_later (cell_later e24 _ hxD); have le25 := cell_later (cell_later e25 _ hxD); have le26 := cell_later (cell_later e26 _ hxD)
              repeat' (first
                | (refine walks_move rfl rfl ?_; simp only [Act.put, Act.eval, List.setIfInBounds_toArray, List.set_cons_zero, List.set_cons_succ, Array.getD_eq_getD_getElem?, List.getElem?_toArray, List.getElem?_cons_zero, List.getElem?_cons_succ, Option.getD_some])
                | (refine walks_assign rfl rfl ?_; simp only [Act.put, Act.eval, List.setIfInBounds_toArray, List.set_cons_zero, List.set_cons_succ, Array.getD_eq_getD_getElem?, List.getElem?_toArray, List.getElem?_cons_zero, List.getElem?_cons_succ, Option.getD_some])
                | (refine walks_skip rfl rfl ?_; simp only [Act.put, List.setIfInBounds_toArray, List.set_cons_zero, List.set_cons_succ])
                | (refine walks_unwanted rfl rfl ?_; simp only [Act.put, List.setIfInBounds_toArray, List.set_cons_zero, List.set_cons_succ])
                | (refine walks_read (v := ?_) rfl rfl (fun w' hE => ?_) ?_; rotate_left 1; (· ((try (have hEx := Ext.trans (Hid.out XE) hE)); go_simp; (try go_bits); with_reducible rfl)); simp only [Act.put, List.setIfInBounds_toArray, List.set_cons_zero, List.set_cons_succ])
                | (refine walks_alt ?_ ?_)
                | (refine walks_main rfl rfl (fun K hK => ?_); go_wp2_with ((go_at_call 33; (with_reducible refine (HC.out _ hxD).mono ?_); rintro e w4 ⟨he, hx4⟩; rw [Hd2.out] at he; subst he)); refine hK _ _ (by first | assumption | exact Ext.alloc _ _ | exact Ext.refl _) ?_; clear hK K; try simp only [Act.put, List.setIfInBounds_toArray, List.set_cons_zero, List.set_cons_succ]))
              refine walks_done ?_
              go_wp2
              refine ⟨⟨j + 1, by omega, by go_num, ?_, hx.out.trans (hxD.trans hx4)⟩, by simp [intOf]; omega⟩
              show _ = _
              rw [List.take_add_one, List.take_add_one, Htk.out, Hg.out.1, Hg.out.2, Hx.out]
            · have Hd2 := hid (decide_eq_false hxx)
              have Hx := hid hxx
              clear hxx
              go_wp2
              refine wp_region_plan (.read 0 (.read 1 (.read 2 (.read 3 (.read 4 (.read 5 (.read 6 (.read 7 (.read 8 (.read 9 (.main 10 (.read 11 .done)))))))))))) (by kernel_rfl) (by kernel_rfl) ?_
              intro wD hxD
              have lz1 := cell_later (cell_later z1 _ hxD); have lz2 := cell_later (cell_later z2 _ hxD); have le10 := cell_later (cell_later e10 _ hxD); have le11 := cell_later (cell_later e11 _ hxD); have le12 := cell_later (cell_later e12 _ hxD); have le13 := cell_later (cell_later e13 _ hxD); have le14 := cell_later (cell_later e14 _ hxD); have le15 := cell_later (cell_later e15 _ hxD); have le16 := cell_later (cell_later e16 _ hxD); have le20 := cell_later (cell_later e20 _ hxD); have le21 := cell_later (cell_later e21 _ hxD); have le22 := cell_later (cell_later e22 _ hxD); have le23 := cell_later (cell_later e23 _ hxD); have le24 := cell_later (cell_later e24 _ hxD); have le25 := cell_later (cell_later e25 _ hxD); have le26 := cell_later (cell_later e26 _ hxD)
              repeat' (first
                | (refine walks_move rfl rfl ?_; simp only [Act.put, Act.eval, List.setIfInBounds_toArray, List.set_cons_zero, List.set_cons_succ, Array.getD_eq_getD_getElem?, List.getElem?_toArray, List.getElem?_cons_zero, List.getElem?_cons_succ, Option.getD_some])
                | (refine walks_assign rfl rfl ?_; simp only [Act.put, Act.eval, List.setIfInBounds_toArray, List.set_cons_zero, List.set_cons_succ, Array.getD_eq_getD_getElem?, List.getElem?_toArray, List.getElem?_cons_zero, List.getElem?_cons_succ, Option.getD_some])
                | (refine walks_skip rfl rfl ?_; simp only [Act.put, List.setIfInBounds_toArray, List.set_cons_zero, List.set_cons_succ])
                | (refine walks_unwanted rfl rfl ?_; simp only [Act.put, List.setIfInBounds_toArray, List.set_cons_zero, List.set_cons_succ])
                | (refine walks_read (v := ?_) rfl rfl (fun w' hE => ?_) ?_; rotate_left 1; (· ((try (have hEx := Ext.trans (Hid.out XE) hE)); go_simp; (try go_bits); with_reducible rfl)); simp only [Act.put, List.setIfInBounds_toArray, List.set_cons_zero, List.set_cons_succ])
                | (refine walks_alt ?_ ?_)
                | (refine walks_main rfl rfl (fun K hK => ?_); go_wp2_with ((go_at_call 33; (with_reducible refine (HC.out _ hxD).mono ?_); rintro e w4 ⟨he, hx4⟩; rw [Hd2.out] at he; subst he)); refine hK _ _ (by first | assumption | exact Ext.alloc _ _ | exact Ext.refl _) ?_; clear hK K; try simp only [Act.put, List.setIfInBounds_toArray, List.set_cons_zero, List.set_cons_succ]))
              refine walks_done ?_
              go_wp2
              go_ret
              exact ⟨ret_bool (Hf.out.trans (decide_eq_false (fun e => by subst e; exact Hx.out (Option.some.inj (Hg.out.1.symm.trans Hg.out.2))))), X2.out.trans (hxD.trans hx4)⟩
          · obtain rfl : j = m1 := by omega
            go_wp2
            go_ret
            exact ⟨ret_bool (Hf.out.trans (decide_eq_true (take_eq_all L1.out L2.out Htk.out))), X2.out⟩
      · have t6 : ((m1 : Int) != (m2 : Int)) = true := by rw [bne_iff_ne]; omega
        have Hn : Hid (decide (parts = parts') = false) := decide_eq_false fun e => h7 (by rw [L1.out, L2.out, e])
        clear h7
        go_enter Try.func33, Try.ntmps33
        go_wp2_with (go_at_call 34; (with_reducible refine (sametexts_any (r1.ext (HX.out _ _)) (r2.ext (HX.out _ _))).mono ?_); rintro e w1 ⟨he, hx1⟩; rw [Hd.out] at he; subst he; have bc := bcell hx1)
        go_ret
        exact ⟨ret_bool (Hf.out.trans Hn.out), (HX.out _ _).trans hx1⟩
    · have Hd := hid (decide_eq_false h6)
      have Hf : Hid (decide (Fil.mk k a v f l any parts = Fil.mk k' a' v' f' l' any' parts') = false) := decide_eq_false fun e => h6 (fil_eq.1 e).2.2.2.2.2.1
      clear h1 h2 h3 h4 h5 h6
      go_enter Try.func33, Try.ntmps33
      go_wp2_with (go_at_call 34; (with_reducible refine (sametexts_any (r1.ext (HX.out _ _)) (r2.ext (HX.out _ _))).mono ?_); rintro e w1 ⟨he, hx1⟩; rw [Hd.out] at he; subst he; have bc := bcell hx1)
      go_ret
      exact ⟨ret_bool Hf.out, (HX.out _ _).trans hx1⟩
  all_goals
    have Hf : Hid (decide (Fil.mk k a v f l any parts = Fil.mk k' a' v' f' l' any' parts') = false) := decide_eq_false fun e => by
      have e' := fil_eq.1 e
      first | exact h5 e'.2.2.2.2.1 | exact h4 e'.2.2.2.1 | exact h3 e'.2.2.1 | exact h2 e'.2.1 | exact h1 e'.1
    have t1 : True := trivial
    first | (have t1 := int_ne' h1; clear h1) | (have t1 := int_eq' h1; clear h1)
    try first | (have t2 := str_ne h2; clear h2) | (have t2 := str_eq h2; clear h2)
    try first | (have t3 := str_ne h3; clear h3) | (have t3 := str_eq h3; clear h3)
    try first | (have t4 := str_ne h4; clear h4) | (have t4 := str_eq h4; clear h4)
    try (have t5 := str_ne h5; clear h5)
    go_enter Try.func33, Try.ntmps33
    go_wp2
    go_ret
    exact ⟨ret_bool Hf.out, HX.out _ _⟩
end Go.Proofs.Ytabaeiolpbdjnaa
