import Derived.Test.YtencmdpjiafnaaaGreatDoorZ23
/- The walk of the reference's Formed. -/
namespace Go.Proofs.YtencmdpjiafnaaaGreatDoor
open Go.RowKit
set_option maxRecDepth 100000
set_option linter.unusedSimpArgs false
set_option linter.unusedVariables false

theorem normZ_zero {n v : List UInt8} (h : (typeB n).2 = 1 ∨ (typeB n).2 = 3) : (normZ n v).2 = if (normB (typeB n).2 v).isSome then 0 else 2 := by
  unfold normZ
  rw [if_neg (by omega)]
  exact normE_zero h
/-- The type ahead of a place. -/
def lastT (l : List Ava) (j : Nat) : List UInt8 := if j = 0 then [] else (l[j - 1]?.map (·.type)).getD []
theorem lastT_succ {l : List Ava} {j : Nat} {x : Ava} (h : l[j]? = some x) : lastT l (j + 1) = x.type := by unfold lastT; rw [if_neg (by omega), Nat.add_sub_cancel, h]; rfl
theorem geq_no {a b : List UInt8} (h : ltB a b = true) : Op.bytesLess a b = true := by rw [less_lt]; exact h
theorem geq_yes {a b : List UInt8} (h : ltB a b = false) : Op.bytesLess a b = false := by rw [less_lt]; exact h
set_option maxHeartbeats 4000000 in
theorem rformed_any {S : Nat → Prop} {A : Option Addr} {n c : Nat} {l : List Ava} {w : World} (hG : Gl w) (h : Row Elem.ava S w A n c l) (hb : ∀ a ∈ l, a.type.length ≤ 4000000) :
    Calls Tryz.prog 147 #[.slice A n c] w fun e w' => e = .returned (.bool (formedA l)) ∧ Ext w w' := by
  have HG := hid hG
  have HR := hid h
  have HB := hid hb
  have hl := h.len
  have HF := hid (formedA_ok l)
  clear hG h hb
  by_cases h0 : n = 0
  · have HE : Hid (formedA l = false) := by show _ = _; rw [HF.out, ← hl, h0]; rfl
    have t0 : (n : Int) < 1 := by omega
    clear hl HF
    go_enter Tryz.func147, Tryz.ntmps147
    go_wp2
    go_ret
    exact ⟨by rw [HE.out]; rfl, Ext.refl _⟩
  · have t0 : decide ((n : Int) < 1) = false := by rw [decide_eq_false_iff_not]; omega
    by_cases h3 : 3 < n
    · have HE : Hid (formedA l = false) := by show _ = _; rw [HF.out, ← hl, decide_eq_false (show ¬ n ≤ 3 by omega)]; simp
      have t3 : 3 < (n : Int) := by omega
      clear h0 hl h3 HF
      go_enter Tryz.func147, Tryz.ntmps147
      go_wp2
      go_ret
      exact ⟨by rw [HE.out]; rfl, Ext.refl _⟩
    · have t3 : decide (3 < (n : Int)) = false := by rw [decide_eq_false_iff_not]; omega
      have HE : Hid (formedA l = okFrom [] l) := by show _ = _; rw [HF.out, ← hl, decide_eq_true (show 1 ≤ n by omega), decide_eq_true (show n ≤ 3 by omega)]; rfl
      have hn : n ≤ 3 := by omega
      clear h3 HF hl
      go_enter Tryz.func147, Tryz.ntmps147
      go_wp2
      go_loopw [18] (fun i wr => ∃ (j : Nat), j ≤ n ∧ i = .int .i64 j ∧ Hid (okFrom (lastT l j) (l.drop j) = okFrom [] l) ∧ Hid (Ext w wr)) (fun i _ => n - (intOf i).toNat)
      case atStart => exact ⟨0, by omega, rfl, rfl, Ext.refl _⟩
      case round =>
        obtain ⟨j, hj, rfl, HO, HX⟩ := hrel
        by_cases hlt : j < n
        · have hlt' : (j : Int) < (n : Int) := by omega
          obtain ⟨b, o, x, rfl, hx, e1, e2⟩ := ava_at (HR.out.ext HX.out) hlt
          have hd : Hid (l.drop j = x :: l.drop (j + 1)) := by
            show _ = _
            obtain ⟨h1, h2⟩ := List.getElem?_eq_some_iff.1 hx
            rw [List.drop_eq_getElem_cons h1, h2]
          have hxs := hid (HB.out x (List.mem_of_getElem? hx))
          have HL1 := hid (lastT_succ hx)
          have HT : ∀ w, Calls Tryz.prog 111 #[.string (str x.type)] w (TypeSays w x.type) := fun w => by
            have := rtype_any (str x.type) w (by have := hxs.out; rw [str_size]; simp only [maxLen]; omega)
            rwa [bys_str] at this
          have HNA : ∀ w, Gl w → Calls Tryz.prog 117 #[.string (str x.type), .string (str x.val)] w (NormZSays w x.type x.val) := fun w hG => by
            have := rnormal_any (str x.type) (str x.val) w hG (by have := hxs.out; rw [str_size]; exact this)
            rwa [bys_str, bys_str] at this
          have HAV : Hid (avaOk x = (decide ((typeB x.type).1 = x.type) && (decide ((typeB x.type).2 = 1) || decide ((typeB x.type).2 = 3)) && (normB (typeB x.type).2 x.val).isSome)) := rfl
          have HNE : Hid ((typeB x.type).2 = 1 ∨ (typeB x.type).2 = 3 → (normZ x.type x.val).2 = if (normB (typeB x.type).2 x.val).isSome then 0 else 2) := normZ_zero
          have HST : Hid (okFrom (lastT l j) (x :: l.drop (j + 1)) = (avaOk x && ltB (lastT l j) x.type && okFrom x.type (l.drop (j + 1)))) := rfl
          rw [← hd.out, HO.out] at HST
          unfold TypeSays at HT
          unfold NormZSays at HNA
          obtain ⟨p, hp⟩ : ∃ p, p = typeB x.type := ⟨_, rfl⟩
          rw [← hp] at HT HAV HNE
          clear hp
          obtain ⟨t, k⟩ := p
          generalize normZ x.type x.val = q at *
          obtain ⟨nv, ne⟩ := q
          simp only at HT HAV HNE HNA
          by_cases hj0 : j = 0
          · have tj : decide (0 < j) = false := by rw [decide_eq_false_iff_not]; omega
            have HLT : Hid (lastT l j = []) := by show _ = _; rw [hj0]; rfl
            clear hj0 hx
            by_cases ht : t = x.type
            · subst ht
              have te : (x.type == x.type) = true := beq_self_eq_true _
              by_cases hk : k = 1 ∨ k = 3
              · have hne := HNE.out hk
                have hk2 : ((k : Int) != 1) = false ∨ (((k : Int) != 1) = true ∧ ((k : Int) != 3) = false) := by
                  rcases hk with h | h
                  · left; rw [h]; rfl
                  · right; rw [h]; exact ⟨rfl, rfl⟩
                cases hnb : (normB k x.val).isSome with
                | false =>
                  have e3 : (ne != 0) = true := by rw [hne, hnb]; rfl
                  have HF : Hid (okFrom [] l = false) := by show _ = _; rw [HST.out, HAV.out, hnb, Bool.and_false, Bool.false_and, Bool.false_and]
                  clear hnb hne HNE HAV HST hk
                  rcases hk2 with k1 | ⟨k1, k2⟩
                  all_goals
                    go_wp2_with (first
                      | (go_at_call 111; (with_reducible refine (HT _).mono ?_); rintro e w1 ⟨rfl, hx1⟩; have HX1 := hid (HX.out.trans hx1); have HXR := hid hx1; clear hx1))
                    refine wp_region_plan (.read 0 (.read 1 (.read 2 (.read 3 (.read 4 (.read 5 (.read 6 (.read 7 (.read 8 (.read 9 (.main 10 (.read 11 (.read 12 (.read 13 (.read 14 (.read 15 .done)))))))))))))))) (by kernel_rfl) (by kernel_rfl) ?_
                    intro wD hxD
                    have XE : Hid (Ext wD wD) := Ext.refl _
                    have HXD := hid (HX1.out.trans hxD)
                    have p1 := cell_later (cell_later e1 _ (HXR.out.trans hxD))
                    have p2 := cell_later (cell_later e2 _ (HXR.out.trans hxD))
                    skip
                    repeat' (first
                      | (refine walks_move rfl rfl ?_; simp only [Act.put, Act.eval, List.setIfInBounds_toArray, List.set_cons_zero, List.set_cons_succ, Array.getD_eq_getD_getElem?, List.getElem?_toArray, List.getElem?_cons_zero, List.getElem?_cons_succ, Option.getD_some])
                      | (refine walks_assign rfl rfl ?_; simp only [Act.put, Act.eval, List.setIfInBounds_toArray, List.set_cons_zero, List.set_cons_succ, Array.getD_eq_getD_getElem?, List.getElem?_toArray, List.getElem?_cons_zero, List.getElem?_cons_succ, Option.getD_some])
                      | (refine walks_skip rfl rfl ?_; simp only [Act.put, List.setIfInBounds_toArray, List.set_cons_zero, List.set_cons_succ])
                      | (refine walks_unwanted rfl rfl ?_; simp only [Act.put, List.setIfInBounds_toArray, List.set_cons_zero, List.set_cons_succ])
                      | (refine walks_read (v := ?_) rfl rfl (fun w' hE => ?_) ?_; rotate_left 1; (· ((try (have hEx := Ext.trans (Hid.out XE) hE)); go_simp; (try go_bits); with_reducible rfl)); simp only [Act.put, List.setIfInBounds_toArray, List.set_cons_zero, List.set_cons_succ])
                      | (refine walks_alt ?_ ?_)
                      | (refine walks_main rfl rfl (fun K hK => ?_); go_wp2_with ((go_at_call 117; (with_reducible refine (HNA _ (HG.out.ext (HXD.out.trans XE.out))).mono ?_); rintro e w2 ⟨rfl, hx2⟩; have XE' := hid (Ext.trans (Hid.out XE) hx2); clear XE; have XE := XE'; clear XE')); refine hK _ _ (by first | assumption | exact Ext.alloc _ _ | exact Ext.refl _) ?_; clear hK K; try simp only [Act.put, List.setIfInBounds_toArray, List.set_cons_zero, List.set_cons_succ]))
                    refine walks_done ?_
                    have q1 := p1 _ XE.out
                    clear p1 p2
                    skip
                    go_wp2
                    go_ret
                    exact ⟨by rw [HE.out, HF.out]; rfl, HXD.out.trans XE.out⟩
                | true =>
                  have e3 : (ne != 0) = false := by rw [hne, hnb]; rfl
                  have HAV1 : Hid (avaOk x = true) := by show _ = _; rw [HAV.out, hnb, decide_eq_true rfl]; rcases hk with h | h <;> simp [h]
                  clear hnb hne HNE HAV hk
                  have HF : Hid (okFrom (lastT l (j + 1)) (l.drop (j + 1)) = okFrom [] l) := by show _ = _; rw [HST.out, HAV1.out, HL1.out, HLT.out, lt_nil (ok_ne HAV1.out)]; rfl
                  clear HST
                  rcases hk2 with k1 | ⟨k1, k2⟩
                  all_goals
                    go_wp2_with (first
                      | (go_at_call 111; (with_reducible refine (HT _).mono ?_); rintro e w1 ⟨rfl, hx1⟩; have HX1 := hid (HX.out.trans hx1); have HXR := hid hx1; clear hx1))
                    refine wp_region_plan (.read 0 (.read 1 (.read 2 (.read 3 (.read 4 (.read 5 (.read 6 (.read 7 (.read 8 (.read 9 (.main 10 (.read 11 (.read 12 (.read 13 (.read 14 (.read 15 .done)))))))))))))))) (by kernel_rfl) (by kernel_rfl) ?_
                    intro wD hxD
                    have XE : Hid (Ext wD wD) := Ext.refl _
                    have HXD := hid (HX1.out.trans hxD)
                    have p1 := cell_later (cell_later e1 _ (HXR.out.trans hxD))
                    have p2 := cell_later (cell_later e2 _ (HXR.out.trans hxD))
                    skip
                    repeat' (first
                      | (refine walks_move rfl rfl ?_; simp only [Act.put, Act.eval, List.setIfInBounds_toArray, List.set_cons_zero, List.set_cons_succ, Array.getD_eq_getD_getElem?, List.getElem?_toArray, List.getElem?_cons_zero, List.getElem?_cons_succ, Option.getD_some])
                      | (refine walks_assign rfl rfl ?_; simp only [Act.put, Act.eval, List.setIfInBounds_toArray, List.set_cons_zero, List.set_cons_succ, Array.getD_eq_getD_getElem?, List.getElem?_toArray, List.getElem?_cons_zero, List.getElem?_cons_succ, Option.getD_some])
                      | (refine walks_skip rfl rfl ?_; simp only [Act.put, List.setIfInBounds_toArray, List.set_cons_zero, List.set_cons_succ])
                      | (refine walks_unwanted rfl rfl ?_; simp only [Act.put, List.setIfInBounds_toArray, List.set_cons_zero, List.set_cons_succ])
                      | (refine walks_read (v := ?_) rfl rfl (fun w' hE => ?_) ?_; rotate_left 1; (· ((try (have hEx := Ext.trans (Hid.out XE) hE)); go_simp; (try go_bits); with_reducible rfl)); simp only [Act.put, List.setIfInBounds_toArray, List.set_cons_zero, List.set_cons_succ])
                      | (refine walks_alt ?_ ?_)
                      | (refine walks_main rfl rfl (fun K hK => ?_); go_wp2_with ((go_at_call 117; (with_reducible refine (HNA _ (HG.out.ext (HXD.out.trans XE.out))).mono ?_); rintro e w2 ⟨rfl, hx2⟩; have XE' := hid (Ext.trans (Hid.out XE) hx2); clear XE; have XE := XE'; clear XE')); refine hK _ _ (by first | assumption | exact Ext.alloc _ _ | exact Ext.refl _) ?_; clear hK K; try simp only [Act.put, List.setIfInBounds_toArray, List.set_cons_zero, List.set_cons_succ]))
                    refine walks_done ?_
                    have q1 := p1 _ XE.out
                    clear p1 p2
                    skip
                    go_wp2
                    exact ⟨⟨j + 1, by omega, by go_num, HF, HXD.out.trans XE.out⟩, by simp [intOf]; omega⟩
              · have hk1 : ((k : Int) != 1) = true := by rw [bne_iff_ne]; omega
                have hk2 : ((k : Int) != 3) = true := by rw [bne_iff_ne]; omega
                have HF : Hid (okFrom [] l = false) := by
                  show _ = _
                  rw [HST.out, HAV.out, decide_eq_false (show ¬ k = 1 by omega), decide_eq_false (show ¬ k = 3 by omega)]
                  simp
                clear hk HNE HAV HST
                go_wp2_with (first
                  | (go_at_call 111; (with_reducible refine (HT _).mono ?_); rintro e w1 ⟨rfl, hx1⟩; have HX1 := hid (HX.out.trans hx1); have HXR := hid hx1; clear hx1))
                refine wp_region_plan (.read 0 (.read 1 (.read 2 (.read 3 (.read 4 (.read 5 (.read 6 (.read 7 (.read 8 (.read 9 (.main 10 (.read 11 (.read 12 (.read 13 (.read 14 (.read 15 .done)))))))))))))))) (by kernel_rfl) (by kernel_rfl) ?_
                intro wD hxD
                have XE : Hid (Ext wD wD) := Ext.refl _
                have HXD := hid (HX1.out.trans hxD)
                have p1 := cell_later (cell_later e1 _ (HXR.out.trans hxD))
                have p2 := cell_later (cell_later e2 _ (HXR.out.trans hxD))
                skip
                repeat' (first
                  | (refine walks_move rfl rfl ?_; simp only [Act.put, Act.eval, List.setIfInBounds_toArray, List.set_cons_zero, List.set_cons_succ, Array.getD_eq_getD_getElem?, List.getElem?_toArray, List.getElem?_cons_zero, List.getElem?_cons_succ, Option.getD_some])
                  | (refine walks_assign rfl rfl ?_; simp only [Act.put, Act.eval, List.setIfInBounds_toArray, List.set_cons_zero, List.set_cons_succ, Array.getD_eq_getD_getElem?, List.getElem?_toArray, List.getElem?_cons_zero, List.getElem?_cons_succ, Option.getD_some])
                  | (refine walks_skip rfl rfl ?_; simp only [Act.put, List.setIfInBounds_toArray, List.set_cons_zero, List.set_cons_succ])
                  | (refine walks_unwanted rfl rfl ?_; simp only [Act.put, List.setIfInBounds_toArray, List.set_cons_zero, List.set_cons_succ])
                  | (refine walks_read (v := ?_) rfl rfl (fun w' hE => ?_) ?_; rotate_left 1; (· ((try (have hEx := Ext.trans (Hid.out XE) hE)); go_simp; (try go_bits); with_reducible rfl)); simp only [Act.put, List.setIfInBounds_toArray, List.set_cons_zero, List.set_cons_succ])
                  | (refine walks_alt ?_ ?_)
                  | (refine walks_main rfl rfl (fun K hK => ?_); go_wp2_with ((go_at_call 117; (with_reducible refine (HNA _ (HG.out.ext (HXD.out.trans XE.out))).mono ?_); rintro e w2 ⟨rfl, hx2⟩; have XE' := hid (Ext.trans (Hid.out XE) hx2); clear XE; have XE := XE'; clear XE')); refine hK _ _ (by first | assumption | exact Ext.alloc _ _ | exact Ext.refl _) ?_; clear hK K; try simp only [Act.put, List.setIfInBounds_toArray, List.set_cons_zero, List.set_cons_succ]))
                refine walks_done ?_
                have q1 := p1 _ XE.out
                clear p1 p2
                skip
                go_wp2
                go_ret
                exact ⟨by rw [HE.out, HF.out]; rfl, HXD.out.trans XE.out⟩
            · have te : (t == x.type) = false := by rw [beq_eq_false_iff_ne]; exact ht
              have HF : Hid (okFrom [] l = false) := by show _ = _; rw [HST.out, HAV.out, decide_eq_false ht]; simp
              clear ht HNE HAV HST
              go_wp2_with (first
                | (go_at_call 111; (with_reducible refine (HT _).mono ?_); rintro e w1 ⟨rfl, hx1⟩; have HX1 := hid (HX.out.trans hx1); have HXR := hid hx1; clear hx1))
              refine wp_region_plan (.read 0 (.read 1 (.read 2 (.read 3 (.read 4 (.read 5 (.read 6 (.read 7 (.read 8 (.read 9 (.main 10 (.read 11 (.read 12 (.read 13 (.read 14 (.read 15 .done)))))))))))))))) (by kernel_rfl) (by kernel_rfl) ?_
              intro wD hxD
              have XE : Hid (Ext wD wD) := Ext.refl _
              have HXD := hid (HX1.out.trans hxD)
              have p1 := cell_later (cell_later e1 _ (HXR.out.trans hxD))
              have p2 := cell_later (cell_later e2 _ (HXR.out.trans hxD))
              skip
              repeat' (first
                | (refine walks_move rfl rfl ?_; simp only [Act.put, Act.eval, List.setIfInBounds_toArray, List.set_cons_zero, List.set_cons_succ, Array.getD_eq_getD_getElem?, List.getElem?_toArray, List.getElem?_cons_zero, List.getElem?_cons_succ, Option.getD_some])
                | (refine walks_assign rfl rfl ?_; simp only [Act.put, Act.eval, List.setIfInBounds_toArray, List.set_cons_zero, List.set_cons_succ, Array.getD_eq_getD_getElem?, List.getElem?_toArray, List.getElem?_cons_zero, List.getElem?_cons_succ, Option.getD_some])
                | (refine walks_skip rfl rfl ?_; simp only [Act.put, List.setIfInBounds_toArray, List.set_cons_zero, List.set_cons_succ])
                | (refine walks_unwanted rfl rfl ?_; simp only [Act.put, List.setIfInBounds_toArray, List.set_cons_zero, List.set_cons_succ])
                | (refine walks_read (v := ?_) rfl rfl (fun w' hE => ?_) ?_; rotate_left 1; (· ((try (have hEx := Ext.trans (Hid.out XE) hE)); go_simp; (try go_bits); with_reducible rfl)); simp only [Act.put, List.setIfInBounds_toArray, List.set_cons_zero, List.set_cons_succ])
                | (refine walks_alt ?_ ?_)
                | (refine walks_main rfl rfl (fun K hK => ?_); go_wp2_with ((go_at_call 117; (with_reducible refine (HNA _ (HG.out.ext (HXD.out.trans XE.out))).mono ?_); rintro e w2 ⟨rfl, hx2⟩; have XE' := hid (Ext.trans (Hid.out XE) hx2); clear XE; have XE := XE'; clear XE')); refine hK _ _ (by first | assumption | exact Ext.alloc _ _ | exact Ext.refl _) ?_; clear hK K; try simp only [Act.put, List.setIfInBounds_toArray, List.set_cons_zero, List.set_cons_succ]))
              refine walks_done ?_
              have q1 := p1 _ XE.out
              clear p1 p2
              skip
              go_wp2
              go_ret
              exact ⟨by rw [HE.out, HF.out]; rfl, HXD.out.trans XE.out⟩
          · have tj : 0 < (j : Int) := by omega
            obtain ⟨b', o', y, hA, hy, e0, -⟩ := ava_at (HR.out.ext HX.out) (show j - 1 < n by omega)
            injection hA with hA
            injection hA with hA1 hA2
            subst hA1 hA2
            have z1 : ((j : Int) - 1).toNat = j - 1 := by omega
            have z2 : 0 ≤ (j : Int) - 1 := by omega
            have z3 : (j : Int) - 1 < (n : Int) := by omega
            have HLT : Hid (lastT l j = y.type) := by show _ = _; unfold lastT; rw [if_neg hj0, hy]; rfl
            clear hj0 hx hy
            by_cases ht : t = x.type
            · subst ht
              have te : (x.type == x.type) = true := beq_self_eq_true _
              by_cases hk : k = 1 ∨ k = 3
              · have hne := HNE.out hk
                have hk2 : ((k : Int) != 1) = false ∨ (((k : Int) != 1) = true ∧ ((k : Int) != 3) = false) := by
                  rcases hk with h | h
                  · left; rw [h]; rfl
                  · right; rw [h]; exact ⟨rfl, rfl⟩
                cases hnb : (normB k x.val).isSome with
                | false =>
                  have e3 : (ne != 0) = true := by rw [hne, hnb]; rfl
                  have HF : Hid (okFrom [] l = false) := by show _ = _; rw [HST.out, HAV.out, hnb, Bool.and_false, Bool.false_and, Bool.false_and]
                  clear hnb hne HNE HAV HST hk
                  rcases hk2 with k1 | ⟨k1, k2⟩
                  all_goals
                    go_wp2_with (first
                      | (go_at_call 111; (with_reducible refine (HT _).mono ?_); rintro e w1 ⟨rfl, hx1⟩; have HX1 := hid (HX.out.trans hx1); have HXR := hid hx1; clear hx1))
                    refine wp_region_plan (.read 0 (.read 1 (.read 2 (.read 3 (.read 4 (.read 5 (.read 6 (.read 7 (.read 8 (.read 9 (.main 10 (.read 11 (.read 12 (.read 13 (.read 14 (.read 15 .done)))))))))))))))) (by kernel_rfl) (by kernel_rfl) ?_
                    intro wD hxD
                    have XE : Hid (Ext wD wD) := Ext.refl _
                    have HXD := hid (HX1.out.trans hxD)
                    have p1 := cell_later (cell_later e1 _ (HXR.out.trans hxD))
                    have p2 := cell_later (cell_later e2 _ (HXR.out.trans hxD))
                    skip
                    repeat' (first
                      | (refine walks_move rfl rfl ?_; simp only [Act.put, Act.eval, List.setIfInBounds_toArray, List.set_cons_zero, List.set_cons_succ, Array.getD_eq_getD_getElem?, List.getElem?_toArray, List.getElem?_cons_zero, List.getElem?_cons_succ, Option.getD_some])
                      | (refine walks_assign rfl rfl ?_; simp only [Act.put, Act.eval, List.setIfInBounds_toArray, List.set_cons_zero, List.set_cons_succ, Array.getD_eq_getD_getElem?, List.getElem?_toArray, List.getElem?_cons_zero, List.getElem?_cons_succ, Option.getD_some])
                      | (refine walks_skip rfl rfl ?_; simp only [Act.put, List.setIfInBounds_toArray, List.set_cons_zero, List.set_cons_succ])
                      | (refine walks_unwanted rfl rfl ?_; simp only [Act.put, List.setIfInBounds_toArray, List.set_cons_zero, List.set_cons_succ])
                      | (refine walks_read (v := ?_) rfl rfl (fun w' hE => ?_) ?_; rotate_left 1; (· ((try (have hEx := Ext.trans (Hid.out XE) hE)); go_simp; (try go_bits); with_reducible rfl)); simp only [Act.put, List.setIfInBounds_toArray, List.set_cons_zero, List.set_cons_succ])
                      | (refine walks_alt ?_ ?_)
                      | (refine walks_main rfl rfl (fun K hK => ?_); go_wp2_with ((go_at_call 117; (with_reducible refine (HNA _ (HG.out.ext (HXD.out.trans XE.out))).mono ?_); rintro e w2 ⟨rfl, hx2⟩; have XE' := hid (Ext.trans (Hid.out XE) hx2); clear XE; have XE := XE'; clear XE')); refine hK _ _ (by first | assumption | exact Ext.alloc _ _ | exact Ext.refl _) ?_; clear hK K; try simp only [Act.put, List.setIfInBounds_toArray, List.set_cons_zero, List.set_cons_succ]))
                    refine walks_done ?_
                    have q1 := p1 _ XE.out
                    clear p1 p2
                    have q0 := (cell_later (cell_later e0 _ (HXR.out.trans hxD))) _ XE.out
                    go_wp2
                    go_ret
                    exact ⟨by rw [HE.out, HF.out]; rfl, HXD.out.trans XE.out⟩
                | true =>
                  have e3 : (ne != 0) = false := by rw [hne, hnb]; rfl
                  have HAV1 : Hid (avaOk x = true) := by show _ = _; rw [HAV.out, hnb, decide_eq_true rfl]; rcases hk with h | h <;> simp [h]
                  clear hnb hne HNE HAV hk
                  cases hlt2 : ltB y.type x.type with
                  | false =>
                    have q9 := geq_yes hlt2
                    have HF : Hid (okFrom [] l = false) := by show _ = _; rw [HST.out, HLT.out, hlt2, Bool.and_false, Bool.false_and]
                    clear hlt2 HST
                    rcases hk2 with k1 | ⟨k1, k2⟩
                    all_goals
                      go_wp2_with (first
                        | (go_at_call 111; (with_reducible refine (HT _).mono ?_); rintro e w1 ⟨rfl, hx1⟩; have HX1 := hid (HX.out.trans hx1); have HXR := hid hx1; clear hx1))
                      refine wp_region_plan (.read 0 (.read 1 (.read 2 (.read 3 (.read 4 (.read 5 (.read 6 (.read 7 (.read 8 (.read 9 (.main 10 (.read 11 (.read 12 (.read 13 (.read 14 (.read 15 .done)))))))))))))))) (by kernel_rfl) (by kernel_rfl) ?_
                      intro wD hxD
                      have XE : Hid (Ext wD wD) := Ext.refl _
                      have HXD := hid (HX1.out.trans hxD)
                      have p1 := cell_later (cell_later e1 _ (HXR.out.trans hxD))
                      have p2 := cell_later (cell_later e2 _ (HXR.out.trans hxD))
                      skip
                      repeat' (first
                        | (refine walks_move rfl rfl ?_; simp only [Act.put, Act.eval, List.setIfInBounds_toArray, List.set_cons_zero, List.set_cons_succ, Array.getD_eq_getD_getElem?, List.getElem?_toArray, List.getElem?_cons_zero, List.getElem?_cons_succ, Option.getD_some])
                        | (refine walks_assign rfl rfl ?_; simp only [Act.put, Act.eval, List.setIfInBounds_toArray, List.set_cons_zero, List.set_cons_succ, Array.getD_eq_getD_getElem?, List.getElem?_toArray, List.getElem?_cons_zero, List.getElem?_cons_succ, Option.getD_some])
                        | (refine walks_skip rfl rfl ?_; simp only [Act.put, List.setIfInBounds_toArray, List.set_cons_zero, List.set_cons_succ])
                        | (refine walks_unwanted rfl rfl ?_; simp only [Act.put, List.setIfInBounds_toArray, List.set_cons_zero, List.set_cons_succ])
                        | (refine walks_read (v := ?_) rfl rfl (fun w' hE => ?_) ?_; rotate_left 1; (· ((try (have hEx := Ext.trans (Hid.out XE) hE)); go_simp; (try go_bits); with_reducible rfl)); simp only [Act.put, List.setIfInBounds_toArray, List.set_cons_zero, List.set_cons_succ])
                        | (refine walks_alt ?_ ?_)
                        | (refine walks_main rfl rfl (fun K hK => ?_); go_wp2_with ((go_at_call 117; (with_reducible refine (HNA _ (HG.out.ext (HXD.out.trans XE.out))).mono ?_); rintro e w2 ⟨rfl, hx2⟩; have XE' := hid (Ext.trans (Hid.out XE) hx2); clear XE; have XE := XE'; clear XE')); refine hK _ _ (by first | assumption | exact Ext.alloc _ _ | exact Ext.refl _) ?_; clear hK K; try simp only [Act.put, List.setIfInBounds_toArray, List.set_cons_zero, List.set_cons_succ]))
                      refine walks_done ?_
                      have q1 := p1 _ XE.out
                      clear p1 p2
                      have q0 := (cell_later (cell_later e0 _ (HXR.out.trans hxD))) _ XE.out
                      go_wp2
                      go_ret
                      exact ⟨by rw [HE.out, HF.out]; rfl, HXD.out.trans XE.out⟩
                  | true =>
                    have q9 := geq_no hlt2
                    have HF : Hid (okFrom (lastT l (j + 1)) (l.drop (j + 1)) = okFrom [] l) := by show _ = _; rw [HST.out, HAV1.out, HL1.out, HLT.out, hlt2]; rfl
                    clear hlt2 HST
                    rcases hk2 with k1 | ⟨k1, k2⟩
                    all_goals
                      go_wp2_with (first
                        | (go_at_call 111; (with_reducible refine (HT _).mono ?_); rintro e w1 ⟨rfl, hx1⟩; have HX1 := hid (HX.out.trans hx1); have HXR := hid hx1; clear hx1))
                      refine wp_region_plan (.read 0 (.read 1 (.read 2 (.read 3 (.read 4 (.read 5 (.read 6 (.read 7 (.read 8 (.read 9 (.main 10 (.read 11 (.read 12 (.read 13 (.read 14 (.read 15 .done)))))))))))))))) (by kernel_rfl) (by kernel_rfl) ?_
                      intro wD hxD
                      have XE : Hid (Ext wD wD) := Ext.refl _
                      have HXD := hid (HX1.out.trans hxD)
                      have p1 := cell_later (cell_later e1 _ (HXR.out.trans hxD))
                      have p2 := cell_later (cell_later e2 _ (HXR.out.trans hxD))
                      skip
                      repeat' (first
                        | (refine walks_move rfl rfl ?_; simp only [Act.put, Act.eval, List.setIfInBounds_toArray, List.set_cons_zero, List.set_cons_succ, Array.getD_eq_getD_getElem?, List.getElem?_toArray, List.getElem?_cons_zero, List.getElem?_cons_succ, Option.getD_some])
                        | (refine walks_assign rfl rfl ?_; simp only [Act.put, Act.eval, List.setIfInBounds_toArray, List.set_cons_zero, List.set_cons_succ, Array.getD_eq_getD_getElem?, List.getElem?_toArray, List.getElem?_cons_zero, List.getElem?_cons_succ, Option.getD_some])
                        | (refine walks_skip rfl rfl ?_; simp only [Act.put, List.setIfInBounds_toArray, List.set_cons_zero, List.set_cons_succ])
                        | (refine walks_unwanted rfl rfl ?_; simp only [Act.put, List.setIfInBounds_toArray, List.set_cons_zero, List.set_cons_succ])
                        | (refine walks_read (v := ?_) rfl rfl (fun w' hE => ?_) ?_; rotate_left 1; (· ((try (have hEx := Ext.trans (Hid.out XE) hE)); go_simp; (try go_bits); with_reducible rfl)); simp only [Act.put, List.setIfInBounds_toArray, List.set_cons_zero, List.set_cons_succ])
                        | (refine walks_alt ?_ ?_)
                        | (refine walks_main rfl rfl (fun K hK => ?_); go_wp2_with ((go_at_call 117; (with_reducible refine (HNA _ (HG.out.ext (HXD.out.trans XE.out))).mono ?_); rintro e w2 ⟨rfl, hx2⟩; have XE' := hid (Ext.trans (Hid.out XE) hx2); clear XE; have XE := XE'; clear XE')); refine hK _ _ (by first | assumption | exact Ext.alloc _ _ | exact Ext.refl _) ?_; clear hK K; try simp only [Act.put, List.setIfInBounds_toArray, List.set_cons_zero, List.set_cons_succ]))
                      refine walks_done ?_
                      have q1 := p1 _ XE.out
                      clear p1 p2
                      have q0 := (cell_later (cell_later e0 _ (HXR.out.trans hxD))) _ XE.out
                      go_wp2
                      exact ⟨⟨j + 1, by omega, by go_num, HF, HXD.out.trans XE.out⟩, by simp [intOf]; omega⟩
              · have hk1 : ((k : Int) != 1) = true := by rw [bne_iff_ne]; omega
                have hk2 : ((k : Int) != 3) = true := by rw [bne_iff_ne]; omega
                have HF : Hid (okFrom [] l = false) := by
                  show _ = _
                  rw [HST.out, HAV.out, decide_eq_false (show ¬ k = 1 by omega), decide_eq_false (show ¬ k = 3 by omega)]
                  simp
                clear hk HNE HAV HST
                go_wp2_with (first
                  | (go_at_call 111; (with_reducible refine (HT _).mono ?_); rintro e w1 ⟨rfl, hx1⟩; have HX1 := hid (HX.out.trans hx1); have HXR := hid hx1; clear hx1))
                refine wp_region_plan (.read 0 (.read 1 (.read 2 (.read 3 (.read 4 (.read 5 (.read 6 (.read 7 (.read 8 (.read 9 (.main 10 (.read 11 (.read 12 (.read 13 (.read 14 (.read 15 .done)))))))))))))))) (by kernel_rfl) (by kernel_rfl) ?_
                intro wD hxD
                have XE : Hid (Ext wD wD) := Ext.refl _
                have HXD := hid (HX1.out.trans hxD)
                have p1 := cell_later (cell_later e1 _ (HXR.out.trans hxD))
                have p2 := cell_later (cell_later e2 _ (HXR.out.trans hxD))
                skip
                repeat' (first
                  | (refine walks_move rfl rfl ?_; simp only [Act.put, Act.eval, List.setIfInBounds_toArray, List.set_cons_zero, List.set_cons_succ, Array.getD_eq_getD_getElem?, List.getElem?_toArray, List.getElem?_cons_zero, List.getElem?_cons_succ, Option.getD_some])
                  | (refine walks_assign rfl rfl ?_; simp only [Act.put, Act.eval, List.setIfInBounds_toArray, List.set_cons_zero, List.set_cons_succ, Array.getD_eq_getD_getElem?, List.getElem?_toArray, List.getElem?_cons_zero, List.getElem?_cons_succ, Option.getD_some])
                  | (refine walks_skip rfl rfl ?_; simp only [Act.put, List.setIfInBounds_toArray, List.set_cons_zero, List.set_cons_succ])
                  | (refine walks_unwanted rfl rfl ?_; simp only [Act.put, List.setIfInBounds_toArray, List.set_cons_zero, List.set_cons_succ])
                  | (refine walks_read (v := ?_) rfl rfl (fun w' hE => ?_) ?_; rotate_left 1; (· ((try (have hEx := Ext.trans (Hid.out XE) hE)); go_simp; (try go_bits); with_reducible rfl)); simp only [Act.put, List.setIfInBounds_toArray, List.set_cons_zero, List.set_cons_succ])
                  | (refine walks_alt ?_ ?_)
                  | (refine walks_main rfl rfl (fun K hK => ?_); go_wp2_with ((go_at_call 117; (with_reducible refine (HNA _ (HG.out.ext (HXD.out.trans XE.out))).mono ?_); rintro e w2 ⟨rfl, hx2⟩; have XE' := hid (Ext.trans (Hid.out XE) hx2); clear XE; have XE := XE'; clear XE')); refine hK _ _ (by first | assumption | exact Ext.alloc _ _ | exact Ext.refl _) ?_; clear hK K; try simp only [Act.put, List.setIfInBounds_toArray, List.set_cons_zero, List.set_cons_succ]))
                refine walks_done ?_
                have q1 := p1 _ XE.out
                clear p1 p2
                have q0 := (cell_later (cell_later e0 _ (HXR.out.trans hxD))) _ XE.out
                go_wp2
                go_ret
                exact ⟨by rw [HE.out, HF.out]; rfl, HXD.out.trans XE.out⟩
            · have te : (t == x.type) = false := by rw [beq_eq_false_iff_ne]; exact ht
              have HF : Hid (okFrom [] l = false) := by show _ = _; rw [HST.out, HAV.out, decide_eq_false ht]; simp
              clear ht HNE HAV HST
              go_wp2_with (first
                | (go_at_call 111; (with_reducible refine (HT _).mono ?_); rintro e w1 ⟨rfl, hx1⟩; have HX1 := hid (HX.out.trans hx1); have HXR := hid hx1; clear hx1))
              refine wp_region_plan (.read 0 (.read 1 (.read 2 (.read 3 (.read 4 (.read 5 (.read 6 (.read 7 (.read 8 (.read 9 (.main 10 (.read 11 (.read 12 (.read 13 (.read 14 (.read 15 .done)))))))))))))))) (by kernel_rfl) (by kernel_rfl) ?_
              intro wD hxD
              have XE : Hid (Ext wD wD) := Ext.refl _
              have HXD := hid (HX1.out.trans hxD)
              have p1 := cell_later (cell_later e1 _ (HXR.out.trans hxD))
              have p2 := cell_later (cell_later e2 _ (HXR.out.trans hxD))
              skip
              repeat' (first
                | (refine walks_move rfl rfl ?_; simp only [Act.put, Act.eval, List.setIfInBounds_toArray, List.set_cons_zero, List.set_cons_succ, Array.getD_eq_getD_getElem?, List.getElem?_toArray, List.getElem?_cons_zero, List.getElem?_cons_succ, Option.getD_some])
                | (refine walks_assign rfl rfl ?_; simp only [Act.put, Act.eval, List.setIfInBounds_toArray, List.set_cons_zero, List.set_cons_succ, Array.getD_eq_getD_getElem?, List.getElem?_toArray, List.getElem?_cons_zero, List.getElem?_cons_succ, Option.getD_some])
                | (refine walks_skip rfl rfl ?_; simp only [Act.put, List.setIfInBounds_toArray, List.set_cons_zero, List.set_cons_succ])
                | (refine walks_unwanted rfl rfl ?_; simp only [Act.put, List.setIfInBounds_toArray, List.set_cons_zero, List.set_cons_succ])
                | (refine walks_read (v := ?_) rfl rfl (fun w' hE => ?_) ?_; rotate_left 1; (· ((try (have hEx := Ext.trans (Hid.out XE) hE)); go_simp; (try go_bits); with_reducible rfl)); simp only [Act.put, List.setIfInBounds_toArray, List.set_cons_zero, List.set_cons_succ])
                | (refine walks_alt ?_ ?_)
                | (refine walks_main rfl rfl (fun K hK => ?_); go_wp2_with ((go_at_call 117; (with_reducible refine (HNA _ (HG.out.ext (HXD.out.trans XE.out))).mono ?_); rintro e w2 ⟨rfl, hx2⟩; have XE' := hid (Ext.trans (Hid.out XE) hx2); clear XE; have XE := XE'; clear XE')); refine hK _ _ (by first | assumption | exact Ext.alloc _ _ | exact Ext.refl _) ?_; clear hK K; try simp only [Act.put, List.setIfInBounds_toArray, List.set_cons_zero, List.set_cons_succ]))
              refine walks_done ?_
              have q1 := p1 _ XE.out
              clear p1 p2
              have q0 := (cell_later (cell_later e0 _ (HXR.out.trans hxD))) _ XE.out
              go_wp2
              go_ret
              exact ⟨by rw [HE.out, HF.out]; rfl, HXD.out.trans XE.out⟩
        · obtain rfl : j = n := by omega
          have HF : Hid (okFrom [] l = true) := by show _ = _; rw [← HO.out, List.drop_of_length_le (Nat.le_of_eq HR.out.len.symm)]; rfl
          go_wp2
          go_ret
          exact ⟨by rw [HE.out, HF.out]; rfl, HX.out⟩
end Go.Proofs.YtencmdpjiafnaaaGreatDoor
