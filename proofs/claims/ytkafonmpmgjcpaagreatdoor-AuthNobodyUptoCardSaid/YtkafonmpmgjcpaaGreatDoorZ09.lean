import Derived.Test.YtkafonmpmgjcpaaGreatDoorZ08
/- The walk of vergerref21.Controls. -/
namespace Go.Proofs.YtkafonmpmgjcpaaGreatDoor
open Go.RowKit
set_option maxRecDepth 100000
set_option linter.unusedSimpArgs false
set_option linter.unusedVariables false

theorem rwsh_error {w0 w : World} {g : Nat} {R : Wsh × Int} {c : Int} (hb : Bx w0 w g 32 #[.bool false, .bool false, .string ByteArray.empty]) (hR : R = (wsh0, c)) : CtlSays w0 R (.returned (.tuple #[.agg #[.bool false, .bool false, .string ByteArray.empty], .int .i64 c])) w := by
  subst hR
  exact ⟨rfl, hb.ext⟩
set_option maxHeartbeats 4000000 in
theorem rcontrols_any {S : Nat → Prop} {A : Option Addr} {n c : Nat} {l : List Ctl} {w : World} (h : Row Elem.ctl S w A n c l) (kind : Int) :
    Calls Tryz.prog 8 #[.int .i64 kind, .slice A n c] w (CtlSays w (runC (noneK kind) [] l wsh0)) := by
  have HR := hid h
  have HLN := hid h.len
  have hn : n ≤ 9223372036854775807 := by have := h.cap; have := h.most; simp only [maxLen] at this; omega
  have HB0 : Hid (∀ w', Ext ((w.alloc (.cells #[.bool false, .bool false, .string ByteArray.empty] 32)).alloc (.cells #[.bool false, .bool false, .string ByteArray.empty] 32)) w' → Bx w w' w.heap.size 32 #[.bool false, .bool false, .string ByteArray.empty] ∧ Bx w w' (w.heap.size + 1) 32 #[.bool false, .bool false, .string ByteArray.empty]) := fun w' hx => two_boxes hx
  clear h
  obtain ⟨R, HRD⟩ : ∃ R, Hid (runC (noneK kind) [] l wsh0 = R) := ⟨_, rfl⟩
  rw [HRD.out]
  obtain ⟨b, HBN⟩ : ∃ b, Hid (noneK kind = b) := ⟨_, rfl⟩
  have HK0 := none_cases kind
  rw [HBN.out] at HRD HK0
  go_enter Tryz.func8, Tryz.ntmps8
  go_upto_region 2 with fail
  go_cut [7] (fun c wx => c = .bool b ∧ Hid (Bx w wx w.heap.size 32 #[.bool false, .bool false, .string ByteArray.empty] ∧ Bx w wx (w.heap.size + 1) 32 #[.bool false, .bool false, .string ByteArray.empty]))
  case first =>
    as_aux_lemma =>
      rcases HK0 with ⟨k0, HK⟩ | ⟨k0, k1, HK⟩ | ⟨k0, k1, k2, HK⟩ | ⟨k0, k1, k2, HK⟩
      all_goals
        go_wp2
        go_meet
        exact ⟨by rw [HK.out], HB0.out _ (Ext.refl _)⟩
  case' rest =>
    obtain ⟨rfl, HBX⟩ := hcut
    clear HK0 HBN
    cases b
    · go_wp2
      go_loopw [23] (fun i wr => ∃ (j : Nat) (v : Wsh), j ≤ n ∧ i = .int .i64 j ∧ Hid (Bx w wr w.heap.size 32 #[.bool false, .bool false, .string ByteArray.empty]) ∧ Hid (Bx w wr (w.heap.size + 1) 32 #[.bool v.man, .bool v.has, .string v.prox]) ∧ Hid (runC false ((l.take j).map (·.oid)) (l.drop j) v = R)) (fun i _ => n - (intOf i).toNat)
      case atStart => exact ⟨0, wsh0, by omega, rfl, HBX.out.1, HBX.out.2, HRD⟩
      case round =>
        obtain ⟨j, v, hj, rfl, HB, HBV, HRJ⟩ := hrel
        by_cases hlt : j < n
        · obtain ⟨b1, o1, v1, x1, rfl, g1, -, r1, q1⟩ := HR.out.at_ hlt
          obtain ⟨oid, crit, has, val⟩ := x1
          cases r1
          have e10 := cell_later (q1 0 _ rfl) _ HB.out.ext
          have e11 := cell_later (q1 1 _ rfl) _ HB.out.ext
          have e12 := cell_later (q1 2 _ rfl) _ HB.out.ext
          have e13 := cell_later (q1 3 _ rfl) _ HB.out.ext
          simp only [Elem.ctl, Nat.add_zero] at e10 e11 e12 e13
          clear q1
          have Hg := hid g1
          clear g1
          have HST := hid (run_step Hg.out HRJ.out)
          have HSE := hid (stepC_mk false ((l.take j).map (·.oid)) oid crit has val v)
          have HNG : Hid (w.heap.size ≠ w.heap.size + 1) := by show _ ≠ _; omega
          have HNG0 : Hid (w.heap.size ≤ w.heap.size + 1) := by show _ ≤ _; omega
          go_wp2
          have HX0 := hid (Ext.alloc wr (.cells #[.string oid, .bool crit, .bool has, .string val] 26))
          have HT0 := hid (Bx.make (Ext.refl wr) #[.string oid, .bool crit, .bool has, .string val] 26)
          go_loopw [31] (fun i wx => ∃ (k : Nat), k ≤ j ∧ i = .int .i64 k ∧ Hid (Ext (wr.alloc (.cells #[.string oid, .bool crit, .bool has, .string val] 26)) wx) ∧ Hid (((l.take k).map (·.oid)).any (fun t => decide (t = oid)) = false)) (fun i _ => j - (intOf i).toNat)
          case atStart => exact ⟨0, by omega, rfl, Ext.refl _, by simp [Hid]⟩
          case round =>
            obtain ⟨k, hk, rfl, HXK, HKS⟩ := hrel
            have HT9 := hid (HT0.out.later HXK.out)
            have HB3 := hid (HB.out.later (HX0.out.trans HXK.out))
            have HB6 := hid (HBV.out.later (HX0.out.trans HXK.out))
            by_cases hlk : k < j
            · have hkn : k < n := by omega
              obtain ⟨b2, o2, v2, x2, hbe, g2, -, r2, q2⟩ := HR.out.at_ hkn
              injection hbe with hbe
              injection hbe with hbe1 hbe2
              subst hbe1 hbe2
              obtain ⟨oid2, crit2, has2, val2⟩ := x2
              cases r2
              have e20 := cell_later (q2 0 _ rfl) _ (HB3.out.ext)
              simp only [Elem.ctl, Nat.add_zero] at e20
              have c90 := HT9.out.cell (i := 0) rfl
              have Hg2 := hid g2
              clear q2 g2 e10 e11 e12 e13
              have HTK : Hid ((l.take (k + 1)).map (·.oid) = (l.take k).map (·.oid) ++ [oid2]) := by show _ = _; rw [List.take_add_one, Hg2.out]; simp
              by_cases he : oid2 = oid
              · have HSN : Hid (((l.take j).map (·.oid)).any (fun t => decide (t = oid)) = true) := by
                  show _ = _
                  rw [List.any_eq_true]
                  exact ⟨oid2, List.mem_map.2 ⟨_, List.mem_of_getElem? (by rw [List.getElem?_take, if_pos hlk]; exact Hg2.out), rfl⟩, decide_eq_true he⟩
                have Hne := str_eq he
                have HSTEP := hid (HSE.out.trans (show _ = (Except.error 2 : Except Int Wsh) by (rw [if_pos HSN.out])))
                have HF : Hid (R = (wsh0, 2)) := by show _ = _; rw [← HST.out, HSTEP.out]
                clear he
                go_wp2
                refine wp_region_plan (.read 0 (.read 1 (.read 2 (.read 3 (.read 4 (.read 5 (.read 6 (.read 7 .done)))))))) (by kernel_rfl) (by kernel_rfl) ?_
                intro wD hxD
                have XE : Hid (Ext wD wD) := Ext.refl _
                have c1 := cell_later (cell_later e20 _ hxD)
                have c2 := cell_later (cell_later c90 _ hxD)
                repeat' (first
                  | (refine walks_move rfl rfl ?_; simp only [Act.put, Act.eval, List.setIfInBounds_toArray, List.set_cons_zero, List.set_cons_succ, Array.getD_eq_getD_getElem?, List.getElem?_toArray, List.getElem?_cons_zero, List.getElem?_cons_succ, Option.getD_some])
                  | (refine walks_assign rfl rfl ?_; simp only [Act.put, Act.eval, List.setIfInBounds_toArray, List.set_cons_zero, List.set_cons_succ, Array.getD_eq_getD_getElem?, List.getElem?_toArray, List.getElem?_cons_zero, List.getElem?_cons_succ, Option.getD_some])
                  | (refine walks_skip rfl rfl ?_; simp only [Act.put, List.setIfInBounds_toArray, List.set_cons_zero, List.set_cons_succ])
                  | (refine walks_unwanted rfl rfl ?_; simp only [Act.put, List.setIfInBounds_toArray, List.set_cons_zero, List.set_cons_succ])
                  | (refine walks_read (v := ?_) rfl rfl (fun w' hE => ?_) ?_; rotate_left 1; (· ((try (have hEx := Ext.trans (Hid.out XE) hE)); go_simp; (try go_bits); with_reducible rfl)); simp only [Act.put, List.setIfInBounds_toArray, List.set_cons_zero, List.set_cons_succ])
                  | (refine walks_alt ?_ ?_)
                  | (refine walks_main rfl rfl (fun K hK => ?_); go_wp2_with (fail); refine hK _ _ (by first | assumption | exact Ext.alloc _ _ | exact Ext.refl _) ?_; clear hK K; try simp only [Act.put, List.setIfInBounds_toArray, List.set_cons_zero, List.set_cons_succ]))
                refine walks_done ?_
                have HB5 := HB3.out.later hxD
                have r0 := HB5.cell (i := 0) rfl
                have r1 := HB5.cell (i := 1) rfl
                have r2 := HB5.cell (i := 2) rfl
                have f0 := HB5.frozen 0
                have f1 := HB5.frozen 1
                have f2 := HB5.frozen 2
                have HB4 := hid HB5
                clear HB5
                go_wp2
                (try simp only [Exit.inBlock, Exit.then])
                refine ret_cell_tmp _ rfl rfl (HB4.out.set012 _ _ _) Tryz.underlying32 rfl (by kernel_rfl) rfl ?_
                exact rwsh_error (HB4.out.set012 _ _ _) HF.out
              · have Hne := str_ne he
                have HNE := hid he
                clear he
                go_wp2
                refine wp_region_plan (.read 0 (.read 1 (.read 2 (.read 3 (.read 4 (.read 5 (.read 6 (.read 7 .done)))))))) (by kernel_rfl) (by kernel_rfl) ?_
                intro wD hxD
                have XE : Hid (Ext wD wD) := Ext.refl _
                have c1 := cell_later (cell_later e20 _ hxD)
                have c2 := cell_later (cell_later c90 _ hxD)
                repeat' (first
                  | (refine walks_move rfl rfl ?_; simp only [Act.put, Act.eval, List.setIfInBounds_toArray, List.set_cons_zero, List.set_cons_succ, Array.getD_eq_getD_getElem?, List.getElem?_toArray, List.getElem?_cons_zero, List.getElem?_cons_succ, Option.getD_some])
                  | (refine walks_assign rfl rfl ?_; simp only [Act.put, Act.eval, List.setIfInBounds_toArray, List.set_cons_zero, List.set_cons_succ, Array.getD_eq_getD_getElem?, List.getElem?_toArray, List.getElem?_cons_zero, List.getElem?_cons_succ, Option.getD_some])
                  | (refine walks_skip rfl rfl ?_; simp only [Act.put, List.setIfInBounds_toArray, List.set_cons_zero, List.set_cons_succ])
                  | (refine walks_unwanted rfl rfl ?_; simp only [Act.put, List.setIfInBounds_toArray, List.set_cons_zero, List.set_cons_succ])
                  | (refine walks_read (v := ?_) rfl rfl (fun w' hE => ?_) ?_; rotate_left 1; (· ((try (have hEx := Ext.trans (Hid.out XE) hE)); go_simp; (try go_bits); with_reducible rfl)); simp only [Act.put, List.setIfInBounds_toArray, List.set_cons_zero, List.set_cons_succ])
                  | (refine walks_alt ?_ ?_)
                  | (refine walks_main rfl rfl (fun K hK => ?_); go_wp2_with (fail); refine hK _ _ (by first | assumption | exact Ext.alloc _ _ | exact Ext.refl _) ?_; clear hK K; try simp only [Act.put, List.setIfInBounds_toArray, List.set_cons_zero, List.set_cons_succ]))
                refine walks_done ?_
                go_wp2
                exact ⟨⟨k + 1, by omega, by go_num, HXK.out.trans hxD, by show _ = _; rw [HTK.out, List.any_append, HKS.out]; simpa using HNE.out⟩, by simp [intOf]; omega⟩
            · obtain rfl : j = k := by omega
              have HSE2 := HSE.out
              rw [HKS.out, if_neg (by simp)] at HSE2
              have HSE := hid HSE2
              clear HSE2 e10 e11 e12 e13
              have c90 := HT9.out.cell (i := 0) rfl
              have c91 := HT9.out.cell (i := 1) rfl
              have c92 := HT9.out.cell (i := 2) rfl
              have c93 := HT9.out.cell (i := 3) rfl
              have r0 := HB3.out.cell (i := 0) rfl
              have r1 := HB3.out.cell (i := 1) rfl
              have r2 := HB3.out.cell (i := 2) rfl
              have f0 := HB3.out.frozen 0
              have f1 := HB3.out.frozen 1
              have f2 := HB3.out.frozen 2
              have s0 := HB6.out.cell (i := 0) rfl
              have s1 := HB6.out.cell (i := 1) rfl
              have s2 := HB6.out.cell (i := 2) rfl
              have p0 := HB6.out.frozen 0
              have p1 := HB6.out.frozen 1
              have p2 := HB6.out.frozen 2
              have HB4 := hid HB3.out
              by_cases hm : oid = manB
              · have HM9 := hid hm
                unfold manB at hm
                subst hm
                cases has with
                | true =>
                  have HSTEP := hid (HSE.out.trans (show _ = (Except.error 2 : Except Int Wsh) by (rw [if_pos HM9.out]; rfl)))
                  have HF : Hid (R = (wsh0, 2)) := by show _ = _; rw [← HST.out, HSTEP.out]
                  go_wp2
                  (try simp only [Exit.inBlock, Exit.then])
                  refine ret_cell_tmp _ rfl rfl (HB4.out.set012 _ _ _) Tryz.underlying32 rfl (by kernel_rfl) rfl ?_
                  exact rwsh_error (HB4.out.set012 _ _ _) HF.out
                | false =>
                  have HSTEP := hid (HSE.out.trans (show _ = (Except.ok ⟨true, v.has, v.prox⟩ : Except Int Wsh) by (rw [if_pos HM9.out]; rfl)))
                  have HRN0 := HST.out
                  rw [HSTEP.out] at HRN0
                  have HRN := hid HRN0
                  clear HRN0
                  go_wp2
                  exact ⟨⟨j + 1, ⟨true, v.has, v.prox⟩, by omega, by go_num, HB3.out.aside HNG0.out HNG.out _ _, HB6.out.set 0 _, HRN⟩, by simp [intOf]; omega⟩
              · have HNM9 := hid hm
                unfold manB at hm
                have n1 : ¬ oid.toList = [50, 46, 49, 54, 46, 56, 52, 48, 46, 49, 46, 49, 49, 51, 55, 51, 48, 46, 51, 46, 52, 46, 50] := lit_ne hm
                have n1b := beq_eq_false_iff_ne.2 n1
                by_cases hp : oid = proxB
                · have HP9 := hid hp
                  unfold proxB at hp
                  subst hp
                  clear n1 n1b hm
                  cases crit with
                  | false =>
                    have HSTEP := hid (HSE.out.trans (show _ = (Except.error 2 : Except Int Wsh) by (rw [if_neg HNM9.out, if_pos HP9.out]; rfl)))
                    have HF : Hid (R = (wsh0, 2)) := by show _ = _; rw [← HST.out, HSTEP.out]
                    go_wp2
                    (try simp only [Exit.inBlock, Exit.then])
                    refine ret_cell_tmp _ rfl rfl (HB4.out.set012 _ _ _) Tryz.underlying32 rfl (by kernel_rfl) rfl ?_
                    exact rwsh_error (HB4.out.set012 _ _ _) HF.out
                  | true =>
                    cases has with
                    | false =>
                      have HSTEP := hid (HSE.out.trans (show _ = (Except.error 2 : Except Int Wsh) by (rw [if_neg HNM9.out, if_pos HP9.out]; rfl)))
                      have HF : Hid (R = (wsh0, 2)) := by show _ = _; rw [← HST.out, HSTEP.out]
                      go_wp2
                      (try simp only [Exit.inBlock, Exit.then])
                      refine ret_cell_tmp _ rfl rfl (HB4.out.set012 _ _ _) Tryz.underlying32 rfl (by kernel_rfl) rfl ?_
                      exact rwsh_error (HB4.out.set012 _ _ _) HF.out
                    | true =>
                      have HSTEP := hid (HSE.out.trans (show _ = (Except.ok ⟨v.man, true, val⟩ : Except Int Wsh) by (rw [if_neg HNM9.out, if_pos HP9.out]; rfl)))
                      have HRN0 := HST.out
                      rw [HSTEP.out] at HRN0
                      have HRN := hid HRN0
                      clear HRN0
                      go_wp2
                      go_region
                      go_wp2
                      exact ⟨⟨j + 1, ⟨v.man, true, val⟩, by omega, by go_num, ((HB3.out.aside HNG0.out HNG.out _ _).aside HNG0.out HNG.out _ _).later (Ext.drew _), ((HB6.out.set 1 _).set 2 _).later (Ext.drew _), HRN⟩, by simp [intOf]; omega⟩
                · have HNP9 := hid hp
                  unfold proxB at hp
                  have n2 : ¬ oid.toList = [50, 46, 49, 54, 46, 56, 52, 48, 46, 49, 46, 49, 49, 51, 55, 51, 48, 46, 51, 46, 52, 46, 49, 56] := lit_ne hp
                  have n2b := beq_eq_false_iff_ne.2 n2
                  clear hm hp
                  cases crit with
                  | true =>
                    have HSTEP := hid (HSE.out.trans (show _ = (Except.error 12 : Except Int Wsh) by (rw [if_neg HNM9.out, if_neg HNP9.out]; rfl)))
                    have HF : Hid (R = (wsh0, 12)) := by show _ = _; rw [← HST.out, HSTEP.out]
                    go_wp2
                    (try simp only [Exit.inBlock, Exit.then])
                    refine ret_cell_tmp _ rfl rfl (HB4.out.set012 _ _ _) Tryz.underlying32 rfl (by kernel_rfl) rfl ?_
                    exact rwsh_error (HB4.out.set012 _ _ _) HF.out
                  | false =>
                    have HSTEP := hid (HSE.out.trans (show _ = (Except.ok v : Except Int Wsh) by (rw [if_neg HNM9.out, if_neg HNP9.out]; rfl)))
                    have HRN0 := HST.out
                    rw [HSTEP.out] at HRN0
                    have HRN := hid HRN0
                    clear HRN0
                    go_wp2
                    exact ⟨⟨j + 1, v, by omega, by go_num, HB3, HB6, HRN⟩, by simp [intOf]; omega⟩
        · obtain rfl : j = n := by omega
          have HF : Hid (R = (v, 0)) := by
            show _ = _
            have := HRJ.out
            rw [List.drop_eq_nil_of_le (Nat.le_of_eq HLN.out.symm)] at this
            exact this.symm
          have r0 := HB.out.cell (i := 0) rfl
          have r1 := HB.out.cell (i := 1) rfl
          have r2 := HB.out.cell (i := 2) rfl
          have f0 := HB.out.frozen 0
          have f1 := HB.out.frozen 1
          have f2 := HB.out.frozen 2
          have s0 := HBV.out.cell (i := 0) rfl
          have s1 := HBV.out.cell (i := 1) rfl
          have s2 := HBV.out.cell (i := 2) rfl
          go_wp2
          (try simp only [Exit.inBlock, Exit.then])
          refine ret_cell_tmp _ rfl rfl (HB.out.set012 _ _ _) Tryz.underlying32 rfl (by kernel_rfl) rfl ?_
          rw [HF.out]
          exact ⟨rfl, (HB.out.set012 _ _ _).ext⟩
    · go_wp2
      go_loopw [23] (fun i wr => ∃ (j : Nat) (v : Wsh), j ≤ n ∧ i = .int .i64 j ∧ Hid (Bx w wr w.heap.size 32 #[.bool false, .bool false, .string ByteArray.empty]) ∧ Hid (Bx w wr (w.heap.size + 1) 32 #[.bool v.man, .bool v.has, .string v.prox]) ∧ Hid (runC true ((l.take j).map (·.oid)) (l.drop j) v = R)) (fun i _ => n - (intOf i).toNat)
      case atStart => exact ⟨0, wsh0, by omega, rfl, HBX.out.1, HBX.out.2, HRD⟩
      case round =>
        obtain ⟨j, v, hj, rfl, HB, HBV, HRJ⟩ := hrel
        by_cases hlt : j < n
        · obtain ⟨b1, o1, v1, x1, rfl, g1, -, r1, q1⟩ := HR.out.at_ hlt
          obtain ⟨oid, crit, has, val⟩ := x1
          cases r1
          have e10 := cell_later (q1 0 _ rfl) _ HB.out.ext
          have e11 := cell_later (q1 1 _ rfl) _ HB.out.ext
          have e12 := cell_later (q1 2 _ rfl) _ HB.out.ext
          have e13 := cell_later (q1 3 _ rfl) _ HB.out.ext
          simp only [Elem.ctl, Nat.add_zero] at e10 e11 e12 e13
          clear q1
          have Hg := hid g1
          clear g1
          have HST := hid (run_step Hg.out HRJ.out)
          have HSE := hid (stepC_mk true ((l.take j).map (·.oid)) oid crit has val v)
          have HNG : Hid (w.heap.size ≠ w.heap.size + 1) := by show _ ≠ _; omega
          have HNG0 : Hid (w.heap.size ≤ w.heap.size + 1) := by show _ ≤ _; omega
          go_wp2
          have HX0 := hid (Ext.alloc wr (.cells #[.string oid, .bool crit, .bool has, .string val] 26))
          have HT0 := hid (Bx.make (Ext.refl wr) #[.string oid, .bool crit, .bool has, .string val] 26)
          go_loopw [31] (fun i wx => ∃ (k : Nat), k ≤ j ∧ i = .int .i64 k ∧ Hid (Ext (wr.alloc (.cells #[.string oid, .bool crit, .bool has, .string val] 26)) wx) ∧ Hid (((l.take k).map (·.oid)).any (fun t => decide (t = oid)) = false)) (fun i _ => j - (intOf i).toNat)
          case atStart => exact ⟨0, by omega, rfl, Ext.refl _, by simp [Hid]⟩
          case round =>
            obtain ⟨k, hk, rfl, HXK, HKS⟩ := hrel
            have HT9 := hid (HT0.out.later HXK.out)
            have HB3 := hid (HB.out.later (HX0.out.trans HXK.out))
            have HB6 := hid (HBV.out.later (HX0.out.trans HXK.out))
            by_cases hlk : k < j
            · have hkn : k < n := by omega
              obtain ⟨b2, o2, v2, x2, hbe, g2, -, r2, q2⟩ := HR.out.at_ hkn
              injection hbe with hbe
              injection hbe with hbe1 hbe2
              subst hbe1 hbe2
              obtain ⟨oid2, crit2, has2, val2⟩ := x2
              cases r2
              have e20 := cell_later (q2 0 _ rfl) _ (HB3.out.ext)
              simp only [Elem.ctl, Nat.add_zero] at e20
              have c90 := HT9.out.cell (i := 0) rfl
              have Hg2 := hid g2
              clear q2 g2 e10 e11 e12 e13
              have HTK : Hid ((l.take (k + 1)).map (·.oid) = (l.take k).map (·.oid) ++ [oid2]) := by show _ = _; rw [List.take_add_one, Hg2.out]; simp
              by_cases he : oid2 = oid
              · have HSN : Hid (((l.take j).map (·.oid)).any (fun t => decide (t = oid)) = true) := by
                  show _ = _
                  rw [List.any_eq_true]
                  exact ⟨oid2, List.mem_map.2 ⟨_, List.mem_of_getElem? (by rw [List.getElem?_take, if_pos hlk]; exact Hg2.out), rfl⟩, decide_eq_true he⟩
                have Hne := str_eq he
                have HSTEP := hid (HSE.out.trans (show _ = (Except.error 2 : Except Int Wsh) by (rw [if_pos HSN.out])))
                have HF : Hid (R = (wsh0, 2)) := by show _ = _; rw [← HST.out, HSTEP.out]
                clear he
                go_wp2
                refine wp_region_plan (.read 0 (.read 1 (.read 2 (.read 3 (.read 4 (.read 5 (.read 6 (.read 7 .done)))))))) (by kernel_rfl) (by kernel_rfl) ?_
                intro wD hxD
                have XE : Hid (Ext wD wD) := Ext.refl _
                have c1 := cell_later (cell_later e20 _ hxD)
                have c2 := cell_later (cell_later c90 _ hxD)
                repeat' (first
                  | (refine walks_move rfl rfl ?_; simp only [Act.put, Act.eval, List.setIfInBounds_toArray, List.set_cons_zero, List.set_cons_succ, Array.getD_eq_getD_getElem?, List.getElem?_toArray, List.getElem?_cons_zero, List.getElem?_cons_succ, Option.getD_some])
                  | (refine walks_assign rfl rfl ?_; simp only [Act.put, Act.eval, List.setIfInBounds_toArray, List.set_cons_zero, List.set_cons_succ, Array.getD_eq_getD_getElem?, List.getElem?_toArray, List.getElem?_cons_zero, List.getElem?_cons_succ, Option.getD_some])
                  | (refine walks_skip rfl rfl ?_; simp only [Act.put, List.setIfInBounds_toArray, List.set_cons_zero, List.set_cons_succ])
                  | (refine walks_unwanted rfl rfl ?_; simp only [Act.put, List.setIfInBounds_toArray, List.set_cons_zero, List.set_cons_succ])
                  | (refine walks_read (v := ?_) rfl rfl (fun w' hE => ?_) ?_; rotate_left 1; (· ((try (have hEx := Ext.trans (Hid.out XE) hE)); go_simp; (try go_bits); with_reducible rfl)); simp only [Act.put, List.setIfInBounds_toArray, List.set_cons_zero, List.set_cons_succ])
                  | (refine walks_alt ?_ ?_)
                  | (refine walks_main rfl rfl (fun K hK => ?_); go_wp2_with (fail); refine hK _ _ (by first | assumption | exact Ext.alloc _ _ | exact Ext.refl _) ?_; clear hK K; try simp only [Act.put, List.setIfInBounds_toArray, List.set_cons_zero, List.set_cons_succ]))
                refine walks_done ?_
                have HB5 := HB3.out.later hxD
                have r0 := HB5.cell (i := 0) rfl
                have r1 := HB5.cell (i := 1) rfl
                have r2 := HB5.cell (i := 2) rfl
                have f0 := HB5.frozen 0
                have f1 := HB5.frozen 1
                have f2 := HB5.frozen 2
                have HB4 := hid HB5
                clear HB5
                go_wp2
                (try simp only [Exit.inBlock, Exit.then])
                refine ret_cell_tmp _ rfl rfl (HB4.out.set012 _ _ _) Tryz.underlying32 rfl (by kernel_rfl) rfl ?_
                exact rwsh_error (HB4.out.set012 _ _ _) HF.out
              · have Hne := str_ne he
                have HNE := hid he
                clear he
                go_wp2
                refine wp_region_plan (.read 0 (.read 1 (.read 2 (.read 3 (.read 4 (.read 5 (.read 6 (.read 7 .done)))))))) (by kernel_rfl) (by kernel_rfl) ?_
                intro wD hxD
                have XE : Hid (Ext wD wD) := Ext.refl _
                have c1 := cell_later (cell_later e20 _ hxD)
                have c2 := cell_later (cell_later c90 _ hxD)
                repeat' (first
                  | (refine walks_move rfl rfl ?_; simp only [Act.put, Act.eval, List.setIfInBounds_toArray, List.set_cons_zero, List.set_cons_succ, Array.getD_eq_getD_getElem?, List.getElem?_toArray, List.getElem?_cons_zero, List.getElem?_cons_succ, Option.getD_some])
                  | (refine walks_assign rfl rfl ?_; simp only [Act.put, Act.eval, List.setIfInBounds_toArray, List.set_cons_zero, List.set_cons_succ, Array.getD_eq_getD_getElem?, List.getElem?_toArray, List.getElem?_cons_zero, List.getElem?_cons_succ, Option.getD_some])
                  | (refine walks_skip rfl rfl ?_; simp only [Act.put, List.setIfInBounds_toArray, List.set_cons_zero, List.set_cons_succ])
                  | (refine walks_unwanted rfl rfl ?_; simp only [Act.put, List.setIfInBounds_toArray, List.set_cons_zero, List.set_cons_succ])
                  | (refine walks_read (v := ?_) rfl rfl (fun w' hE => ?_) ?_; rotate_left 1; (· ((try (have hEx := Ext.trans (Hid.out XE) hE)); go_simp; (try go_bits); with_reducible rfl)); simp only [Act.put, List.setIfInBounds_toArray, List.set_cons_zero, List.set_cons_succ])
                  | (refine walks_alt ?_ ?_)
                  | (refine walks_main rfl rfl (fun K hK => ?_); go_wp2_with (fail); refine hK _ _ (by first | assumption | exact Ext.alloc _ _ | exact Ext.refl _) ?_; clear hK K; try simp only [Act.put, List.setIfInBounds_toArray, List.set_cons_zero, List.set_cons_succ]))
                refine walks_done ?_
                go_wp2
                exact ⟨⟨k + 1, by omega, by go_num, HXK.out.trans hxD, by show _ = _; rw [HTK.out, List.any_append, HKS.out]; simpa using HNE.out⟩, by simp [intOf]; omega⟩
            · obtain rfl : j = k := by omega
              have HSE2 := HSE.out
              rw [HKS.out, if_neg (by simp)] at HSE2
              have HSE := hid HSE2
              clear HSE2 e10 e11 e12 e13
              have c90 := HT9.out.cell (i := 0) rfl
              have c91 := HT9.out.cell (i := 1) rfl
              have c92 := HT9.out.cell (i := 2) rfl
              have c93 := HT9.out.cell (i := 3) rfl
              have r0 := HB3.out.cell (i := 0) rfl
              have r1 := HB3.out.cell (i := 1) rfl
              have r2 := HB3.out.cell (i := 2) rfl
              have f0 := HB3.out.frozen 0
              have f1 := HB3.out.frozen 1
              have f2 := HB3.out.frozen 2
              have s0 := HB6.out.cell (i := 0) rfl
              have s1 := HB6.out.cell (i := 1) rfl
              have s2 := HB6.out.cell (i := 2) rfl
              have p0 := HB6.out.frozen 0
              have p1 := HB6.out.frozen 1
              have p2 := HB6.out.frozen 2
              have HB4 := hid HB3.out
              by_cases hm : oid = manB
              · have HM9 := hid hm
                unfold manB at hm
                subst hm
                cases has with
                | true =>
                  have HSTEP := hid (HSE.out.trans (show _ = (Except.error 2 : Except Int Wsh) by (rw [if_pos HM9.out]; rfl)))
                  have HF : Hid (R = (wsh0, 2)) := by show _ = _; rw [← HST.out, HSTEP.out]
                  go_wp2
                  (try simp only [Exit.inBlock, Exit.then])
                  refine ret_cell_tmp _ rfl rfl (HB4.out.set012 _ _ _) Tryz.underlying32 rfl (by kernel_rfl) rfl ?_
                  exact rwsh_error (HB4.out.set012 _ _ _) HF.out
                | false =>
                  cases crit with
                  | true =>
                    have HSTEP := hid (HSE.out.trans (show _ = (Except.error 12 : Except Int Wsh) by (rw [if_pos HM9.out]; rfl)))
                    have HF : Hid (R = (wsh0, 12)) := by show _ = _; rw [← HST.out, HSTEP.out]
                    go_wp2
                    (try simp only [Exit.inBlock, Exit.then])
                    refine ret_cell_tmp _ rfl rfl (HB4.out.set012 _ _ _) Tryz.underlying32 rfl (by kernel_rfl) rfl ?_
                    exact rwsh_error (HB4.out.set012 _ _ _) HF.out
                  | false =>
                    have HSTEP := hid (HSE.out.trans (show _ = (Except.ok ⟨false, v.has, v.prox⟩ : Except Int Wsh) by (rw [if_pos HM9.out]; rfl)))
                    have HRN0 := HST.out
                    rw [HSTEP.out] at HRN0
                    have HRN := hid HRN0
                    clear HRN0
                    go_wp2
                    exact ⟨⟨j + 1, ⟨false, v.has, v.prox⟩, by omega, by go_num, HB3.out.aside HNG0.out HNG.out _ _, HB6.out.set 0 _, HRN⟩, by simp [intOf]; omega⟩
              · have HNM9 := hid hm
                unfold manB at hm
                have n1 : ¬ oid.toList = [50, 46, 49, 54, 46, 56, 52, 48, 46, 49, 46, 49, 49, 51, 55, 51, 48, 46, 51, 46, 52, 46, 50] := lit_ne hm
                have n1b := beq_eq_false_iff_ne.2 n1
                by_cases hp : oid = proxB
                · have HP9 := hid hp
                  unfold proxB at hp
                  subst hp
                  clear n1 n1b hm
                  cases crit with
                  | false =>
                    have HSTEP := hid (HSE.out.trans (show _ = (Except.error 2 : Except Int Wsh) by (rw [if_neg HNM9.out, if_pos HP9.out]; rfl)))
                    have HF : Hid (R = (wsh0, 2)) := by show _ = _; rw [← HST.out, HSTEP.out]
                    go_wp2
                    (try simp only [Exit.inBlock, Exit.then])
                    refine ret_cell_tmp _ rfl rfl (HB4.out.set012 _ _ _) Tryz.underlying32 rfl (by kernel_rfl) rfl ?_
                    exact rwsh_error (HB4.out.set012 _ _ _) HF.out
                  | true =>
                    cases has with
                    | false =>
                      have HSTEP := hid (HSE.out.trans (show _ = (Except.error 2 : Except Int Wsh) by (rw [if_neg HNM9.out, if_pos HP9.out]; rfl)))
                      have HF : Hid (R = (wsh0, 2)) := by show _ = _; rw [← HST.out, HSTEP.out]
                      go_wp2
                      (try simp only [Exit.inBlock, Exit.then])
                      refine ret_cell_tmp _ rfl rfl (HB4.out.set012 _ _ _) Tryz.underlying32 rfl (by kernel_rfl) rfl ?_
                      exact rwsh_error (HB4.out.set012 _ _ _) HF.out
                    | true =>
                      have HSTEP := hid (HSE.out.trans (show _ = (Except.error 12 : Except Int Wsh) by (rw [if_neg HNM9.out, if_pos HP9.out]; rfl)))
                      have HF : Hid (R = (wsh0, 12)) := by show _ = _; rw [← HST.out, HSTEP.out]
                      go_wp2
                      (try simp only [Exit.inBlock, Exit.then])
                      refine ret_cell_tmp _ rfl rfl (HB4.out.set012 _ _ _) Tryz.underlying32 rfl (by kernel_rfl) rfl ?_
                      exact rwsh_error (HB4.out.set012 _ _ _) HF.out
                · have HNP9 := hid hp
                  unfold proxB at hp
                  have n2 : ¬ oid.toList = [50, 46, 49, 54, 46, 56, 52, 48, 46, 49, 46, 49, 49, 51, 55, 51, 48, 46, 51, 46, 52, 46, 49, 56] := lit_ne hp
                  have n2b := beq_eq_false_iff_ne.2 n2
                  clear hm hp
                  cases crit with
                  | true =>
                    have HSTEP := hid (HSE.out.trans (show _ = (Except.error 12 : Except Int Wsh) by (rw [if_neg HNM9.out, if_neg HNP9.out]; rfl)))
                    have HF : Hid (R = (wsh0, 12)) := by show _ = _; rw [← HST.out, HSTEP.out]
                    go_wp2
                    (try simp only [Exit.inBlock, Exit.then])
                    refine ret_cell_tmp _ rfl rfl (HB4.out.set012 _ _ _) Tryz.underlying32 rfl (by kernel_rfl) rfl ?_
                    exact rwsh_error (HB4.out.set012 _ _ _) HF.out
                  | false =>
                    have HSTEP := hid (HSE.out.trans (show _ = (Except.ok v : Except Int Wsh) by (rw [if_neg HNM9.out, if_neg HNP9.out]; rfl)))
                    have HRN0 := HST.out
                    rw [HSTEP.out] at HRN0
                    have HRN := hid HRN0
                    clear HRN0
                    go_wp2
                    exact ⟨⟨j + 1, v, by omega, by go_num, HB3, HB6, HRN⟩, by simp [intOf]; omega⟩
        · obtain rfl : j = n := by omega
          have HF : Hid (R = (v, 0)) := by
            show _ = _
            have := HRJ.out
            rw [List.drop_eq_nil_of_le (Nat.le_of_eq HLN.out.symm)] at this
            exact this.symm
          have r0 := HB.out.cell (i := 0) rfl
          have r1 := HB.out.cell (i := 1) rfl
          have r2 := HB.out.cell (i := 2) rfl
          have f0 := HB.out.frozen 0
          have f1 := HB.out.frozen 1
          have f2 := HB.out.frozen 2
          have s0 := HBV.out.cell (i := 0) rfl
          have s1 := HBV.out.cell (i := 1) rfl
          have s2 := HBV.out.cell (i := 2) rfl
          go_wp2
          (try simp only [Exit.inBlock, Exit.then])
          refine ret_cell_tmp _ rfl rfl (HB.out.set012 _ _ _) Tryz.underlying32 rfl (by kernel_rfl) rfl ?_
          rw [HF.out]
          exact ⟨rfl, (HB.out.set012 _ _ _).ext⟩
end Go.Proofs.YtkafonmpmgjcpaaGreatDoor
