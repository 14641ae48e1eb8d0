/- Ep, Eq, in one text. -/
import Derived.Test.YtabaeiolpbdjnaaGe
import Derived.Test.YtabaeiolpbdjnaaSo
/- The walks of msg's parts, a theorem a kind. -/
namespace Go.Proofs.Ytabaeiolpbdjnaa
open Go.RowKit
set_option maxRecDepth 100000
set_option linter.unusedSimpArgs false
set_option linter.unusedVariables false

/-- What parts answers. -/
def RowsNew (w : World) (L : List (List UInt8)) (e : Ending) (w' : World) : Prop := ∃ A n c, e = .returned (.slice A n c) ∧ Sls w' A n c L ∧ Ext w w'
structure MsgFits (m : Msg) : Prop where
  ok : MsgOk m
  list : (∀ a ∈ m.list, AttFits a) ∧ (m.list.map attB).flatten.length ≤ 100000000000000
  chgs : (∀ a ∈ m.chgs, ChgFits a) ∧ (m.chgs.map chgB).flatten.length ≤ 100000000000000
  fil : m.kind = 3 → Fil.allok m.fil = true ∧ m.fil.nod ≤ 40
/-- The parts of a renaming; of an answer. -/
def renL (m : Msg) : List (List UInt8) := [textB 4 m.name, textB 4 m.nrdn, fieldB 1 (boolB m.dold)] ++ if m.hsup then [textB 128 m.sup] else []
def ansL (m : Msg) : List (List UInt8) := [fieldB 10 (intB m.code), textB 4 m.matched, textB 4 m.text] ++ if m.refs.length = 0 then [] else [fieldB 163 (textsB m.refs)]
theorem renL_no {m : Msg} (h : m.hsup = false) : renL m = [textB 4 m.name, textB 4 m.nrdn, fieldB 1 (boolB m.dold)] := by unfold renL; rw [h]; rfl
theorem renL_yes {m : Msg} (h : m.hsup = true) : renL m = [textB 4 m.name, textB 4 m.nrdn, fieldB 1 (boolB m.dold)] ++ [textB 128 m.sup] := by unfold renL; rw [h]; rfl
theorem ansL_no {m : Msg} (h : m.refs.length = 0) : ansL m = [fieldB 10 (intB m.code), textB 4 m.matched, textB 4 m.text] := by unfold ansL; rw [if_pos h, List.append_nil]
theorem ansL_yes {m : Msg} (h : ¬ m.refs.length = 0) : ansL m = [fieldB 10 (intB m.code), textB 4 m.matched, textB 4 m.text] ++ [fieldB 163 (textsB m.refs)] := by unfold ansL; rw [if_neg h]
set_option maxHeartbeats 400000 in
theorem parts_0 {m : Msg} {d : MsgD} {cs : Array Value} {S : Nat → Prop} (hcs : Hid (cs = (msgCells m d).toArray)) (w : World) (hm : MsgRows S w m d) (hf : MsgFits m) (hk : m.kind = 0) :
    Calls Try.prog 18 #[.agg cs] w (RowsNew w [fieldB 2 (intB m.ver), textB 4 m.name, textB 128 m.pw]) := by
  have Hm := hid hm
  have HV := hid hf.ok.ver
  have HN := hid hf.ok.name
  have HP := hid hf.ok.pw
  have t0 : (m.kind == 0) = true := by rw [hk]; rfl
  have t3 : (m.kind == 3) = false := by rw [hk]; rfl
  have t6 : (m.kind == 6) = false := by rw [hk]; rfl
  have t8 : (m.kind == 8) = false := by rw [hk]; rfl
  have t4 : (m.kind == 4) = false := by rw [hk]; rfl
  have t10 : (m.kind == 10) = false := by rw [hk]; rfl
  have t12 : (m.kind == 12) = false := by rw [hk]; rfl
  have t14 : (m.kind == 14) = false := by rw [hk]; rfl
  have t16 : (m.kind == 16) = false := by rw [hk]; rfl
  have t19 : (m.kind == 19) = false := by rw [hk]; rfl
  clear hk
  clear hm hf
  go_enter Try.func18, Try.ntmps18
  go_wp2_with (refine box_arm rfl 42 (.tmp 0) rfl cs rfl ?_; intro w1 hx1 hz1 hg1; have Hg1 := hid hg1; have X1 := hid hx1; have y1 := (boxCell hg1 1 hcs rfl).out; clear hz1 hg1 hx1)
  refine wp_region_plan (.read 0 (.read 1 (.read 3 (.read 4 (.read 6 (.read 7 (.main 2 (.main 5 (.main 8 (.main 9 (.read 10 .done))))))))))) (by kernel_rfl) (by kernel_rfl) ?_
  intro wD hxD
  have XE : Hid (Ext wD wD) := Ext.refl _
  have XD := hid (X1.out.trans hxD)
  have p4 := box2 Hg1.out 4 hcs rfl hxD
  have p2 := box2 Hg1.out 2 hcs rfl hxD
  have p3 := box2 Hg1.out 3 hcs rfl hxD
  repeat' (first
    | (refine walks_move rfl rfl ?_; simp only [Act.put, Act.eval, List.setIfInBounds_toArray, List.set_cons_zero, List.set_cons_succ, Array.getD_eq_getD_getElem?, List.getElem?_toArray, List.getElem?_cons_zero, List.getElem?_cons_succ, Option.getD_some])
    | (refine walks_assign rfl rfl ?_; simp only [Act.put, Act.eval, List.setIfInBounds_toArray, List.set_cons_zero, List.set_cons_succ, Array.getD_eq_getD_getElem?, List.getElem?_toArray, List.getElem?_cons_zero, List.getElem?_cons_succ, Option.getD_some])
    | (refine walks_skip rfl rfl ?_; simp only [Act.put, List.setIfInBounds_toArray, List.set_cons_zero, List.set_cons_succ])
    | (refine walks_unwanted rfl rfl ?_; simp only [Act.put, List.setIfInBounds_toArray, List.set_cons_zero, List.set_cons_succ])
    | (refine walks_read (v := ?_) rfl rfl (fun w' hE => ?_) ?_; rotate_left 1; (· ((try (have hEx := Ext.trans (Hid.out XE) hE)); go_simp; (try go_bits); with_reducible rfl)); simp only [Act.put, List.setIfInBounds_toArray, List.set_cons_zero, List.set_cons_succ])
    | (refine walks_main rfl rfl (fun K hK => ?_); (first | (refine lits3_wp (.tmp 14) (.tmp 17) (.tmp 20) rfl rfl rfl rfl (.cons HS1.out (.cons HS2.out (.cons HS3.out .nil))) ?_; intro w30 hx30 hl30; have HL30 := hid (hl30.base (ext_sz (Ext.trans hxD XE.out))); clear hl30; have XE' := hid (Ext.trans (Hid.out XE) hx30); clear XE; have XE := XE'; clear XE')); refine hK _ _ (by first | assumption | exact Ext.alloc _ _ | exact Ext.refl _) ?_; clear hK K; try simp only [Act.put, List.setIfInBounds_toArray, List.set_cons_zero, List.set_cons_succ])
    | (refine walks_alt ?_ ?_)
    | (refine walks_main rfl rfl (fun K hK => ?_); go_wp2_with (first | (go_at_call 48; (have tok := HS2; clear tok; with_reducible refine (text_at 128 128 rfl _ _ HP.out).mono ?_); rintro e w13 ⟨A3, n3, c3, rfl, -, hs3, hx3⟩; have HS3 := hid (own_sl hs3); have HS1 := hid (HS1.out.ext hx3); have HS2 := hid (HS2.out.ext hx3); clear hs3; have XE' := hid (Ext.trans (Hid.out XE) hx3); clear XE; have XE := XE'; clear XE') | (go_at_call 47; (have tok := HS1; clear tok; with_reducible refine (plain_text _ _ HN.out).mono ?_); rintro e w12 ⟨A2, n2, c2, rfl, -, hs2, hx2⟩; have HS2 := hid (own_sl hs2); have HS1 := hid (HS1.out.ext hx2); clear hs2; have XE' := hid (Ext.trans (Hid.out XE) hx2); clear XE; have XE := XE'; clear XE') | (go_at_call 14; (with_reducible refine (integer_own 2 2 rfl _ _ HV.out).mono ?_); rintro e w11 ⟨A1, n1, c1, rfl, -, hs1, hx1⟩; have HS1 := hid (own_sl hs1); clear hs1; have XE' := hid (Ext.trans (Hid.out XE) hx1); clear XE; have XE := XE'; clear XE')); refine hK _ _ (by first | assumption | exact Ext.alloc _ _ | exact Ext.refl _) ?_; clear hK K; try simp only [Act.put, List.setIfInBounds_toArray, List.set_cons_zero, List.set_cons_succ]))
  refine walks_done ?_
  clear p4
  clear p2
  clear p3
  go_wp2
  go_ret
  exact ⟨_, _, _, rfl, HL30.out.sls', XD.out.trans XE.out⟩
set_option maxHeartbeats 1000000 in
theorem parts_3 {m : Msg} {d : MsgD} {cs : Array Value} {S : Nat → Prop} (hcs : Hid (cs = (msgCells m d).toArray)) (w : World) (hm : MsgRows S w m d) (hf : MsgFits m) (hk : m.kind = 3) :
    Calls Try.prog 18 #[.agg cs] w (RowsNew w [textB 4 m.name, fieldB 10 (intB m.scope), fieldB 10 (intB m.deref), fieldB 2 (intB m.size), fieldB 2 (intB m.time), fieldB 1 (boolB m.tonly), filB m.fil, fieldB 48 (textsB m.attrs)]) := by
  have Hm := hid hm
  have HN := hid hf.ok.name
  have H2 := hid hf.ok.scope
  have H3 := hid hf.ok.deref
  have H4 := hid hf.ok.size
  have H5 := hid hf.ok.time
  have HA2 := hid hf.ok.attrs.2
  have HA3 := hid (Nat.le_trans (texts_len (t := 4) hf.ok.attrs) (show 1100000000000 ≤ 140737488350000 by decide))
  have HC : Hid (∀ w2, Ext w w2 → Calls Try.prog 50 #[.agg #[.int .i64 m.fil.kind, .string m.fil.attr, .string m.fil.value, .string m.fil.first, .string m.fil.last, .slice d.any.A d.any.n d.any.c, .slice d.parts.A d.parts.n d.parts.c]] w2 (BytesOwn w2 (filB m.fil))) := fun w2 hx => filt_any m.fil hf.ok.fil (hf.fil hk).1 (hf.fil hk).2 _ _ _ (hm.ext hx).fil
  have t0 : (m.kind == 0) = false := by rw [hk]; rfl
  have t3 : (m.kind == 3) = true := by rw [hk]; rfl
  have t6 : (m.kind == 6) = false := by rw [hk]; rfl
  have t8 : (m.kind == 8) = false := by rw [hk]; rfl
  have t4 : (m.kind == 4) = false := by rw [hk]; rfl
  have t10 : (m.kind == 10) = false := by rw [hk]; rfl
  have t12 : (m.kind == 12) = false := by rw [hk]; rfl
  have t14 : (m.kind == 14) = false := by rw [hk]; rfl
  have t16 : (m.kind == 16) = false := by rw [hk]; rfl
  have t19 : (m.kind == 19) = false := by rw [hk]; rfl
  clear hk
  clear hm hf
  go_enter Try.func18, Try.ntmps18
  go_wp2_with (refine box_arm rfl 42 (.tmp 0) rfl cs rfl ?_; intro w1 hx1 hz1 hg1; have Hg1 := hid hg1; have X1 := hid hx1; have y1 := (boxCell hg1 1 hcs rfl).out; clear hz1 hg1 hx1)
  refine wp_region_plan (.read 0 (.read 1 (.read 3 (.read 4 (.read 6 (.read 7 (.read 9 (.read 10 (.read 12 (.read 13 (.read 15 (.read 16 (.read 18 (.read 19 (.read 21 (.read 22 (.main 2 (.main 5 (.main 8 (.main 11 (.main 14 (.main 17 (.main 20 (.main 23 (.main 24 (.read 25 .done)))))))))))))))))))))))))) (by kernel_rfl) (by kernel_rfl) ?_
  intro wD hxD
  have XE : Hid (Ext wD wD) := Ext.refl _
  have XD := hid (X1.out.trans hxD)
  have p2 := box2 Hg1.out 2 hcs rfl hxD
  have p5 := box2 Hg1.out 5 hcs rfl hxD
  have p6 := box2 Hg1.out 6 hcs rfl hxD
  have p7 := box2 Hg1.out 7 hcs rfl hxD
  have p8 := box2 Hg1.out 8 hcs rfl hxD
  have p9 := box2 Hg1.out 9 hcs rfl hxD
  have p10 := box2 Hg1.out 10 hcs rfl hxD
  have p11 := box2 Hg1.out 11 hcs rfl hxD
  have p12 := box2 Hg1.out 12 hcs rfl hxD
  have p13 := box2 Hg1.out 13 hcs rfl hxD
  have p14 := box2 Hg1.out 14 hcs rfl hxD
  have p15 := box2 Hg1.out 15 hcs rfl hxD
  have p16 := box2 Hg1.out 16 hcs rfl hxD
  have p17 := box2 Hg1.out 17 hcs rfl hxD
  repeat' (first
    | (refine walks_move rfl rfl ?_; simp only [Act.put, Act.eval, List.setIfInBounds_toArray, List.set_cons_zero, List.set_cons_succ, Array.getD_eq_getD_getElem?, List.getElem?_toArray, List.getElem?_cons_zero, List.getElem?_cons_succ, Option.getD_some])
    | (refine walks_assign rfl rfl ?_; simp only [Act.put, Act.eval, List.setIfInBounds_toArray, List.set_cons_zero, List.set_cons_succ, Array.getD_eq_getD_getElem?, List.getElem?_toArray, List.getElem?_cons_zero, List.getElem?_cons_succ, Option.getD_some])
    | (refine walks_skip rfl rfl ?_; simp only [Act.put, List.setIfInBounds_toArray, List.set_cons_zero, List.set_cons_succ])
    | (refine walks_unwanted rfl rfl ?_; simp only [Act.put, List.setIfInBounds_toArray, List.set_cons_zero, List.set_cons_succ])
    | (refine walks_read (v := ?_) rfl rfl (fun w' hE => ?_) ?_; rotate_left 1; (· ((try (have hEx := Ext.trans (Hid.out XE) hE)); go_simp; (try go_bits); with_reducible rfl)); simp only [Act.put, List.setIfInBounds_toArray, List.set_cons_zero, List.set_cons_succ])
    | (refine walks_main rfl rfl (fun K hK => ?_); (first | (refine lits8_wp (.tmp 26) (.tmp 29) (.tmp 32) (.tmp 35) (.tmp 38) (.tmp 41) (.tmp 44) (.tmp 47) rfl rfl rfl rfl rfl rfl rfl rfl rfl (.cons HS1.out (.cons HS2.out (.cons HS3.out (.cons HS4.out (.cons HS5.out (.cons HS6.out (.cons HS7.out (.cons HS8.out .nil)))))))) ?_; intro w30 hx30 hl30; have HL30 := hid (hl30.base (ext_sz (Ext.trans hxD XE.out))); clear hl30; have XE' := hid (Ext.trans (Hid.out XE) hx30); clear XE; have XE := XE'; clear XE')); refine hK _ _ (by first | assumption | exact Ext.alloc _ _ | exact Ext.refl _) ?_; clear hK K; try simp only [Act.put, List.setIfInBounds_toArray, List.set_cons_zero, List.set_cons_succ])
    | (refine walks_alt ?_ ?_)
    | (refine walks_main rfl rfl (fun K hK => ?_); go_wp2_with (first | (go_at_call 51; (have tok := HS7; clear tok; with_reducible refine (manystr_any 48 48 rfl (Hm.out.attrs.ext (XD.out.trans XE.out)) HA2.out HA3.out).mono ?_); rintro e w18 ⟨A8, n8, c8, rfl, -, hs8, hx8⟩; have HS8 := hid (own_sl hs8); have HS1 := hid (HS1.out.ext hx8); have HS2 := hid (HS2.out.ext hx8); have HS3 := hid (HS3.out.ext hx8); have HS4 := hid (HS4.out.ext hx8); have HS5 := hid (HS5.out.ext hx8); have HS6 := hid (HS6.out.ext hx8); have HS7 := hid (HS7.out.ext hx8); clear hs8; have XE' := hid (Ext.trans (Hid.out XE) hx8); clear XE; have XE := XE'; clear XE') | (go_at_call 50; (have tok := HS6; clear tok; with_reducible refine (HC.out _ (XD.out.trans XE.out)).mono ?_); rintro e w17 ⟨A7, n7, c7, rfl, -, hs7, hx7⟩; have HS7 := hid (own_sl hs7); have HS1 := hid (HS1.out.ext hx7); have HS2 := hid (HS2.out.ext hx7); have HS3 := hid (HS3.out.ext hx7); have HS4 := hid (HS4.out.ext hx7); have HS5 := hid (HS5.out.ext hx7); have HS6 := hid (HS6.out.ext hx7); clear hs7; have XE' := hid (Ext.trans (Hid.out XE) hx7); clear XE; have XE := XE'; clear XE') | (go_at_call 49; (have tok := HS5; clear tok; with_reducible refine (boolean_any _ _).mono ?_); rintro e w16 ⟨A6, n6, c6, rfl, -, hs6, hx6⟩; have HS6 := hid (own_sl hs6); have HS1 := hid (HS1.out.ext hx6); have HS2 := hid (HS2.out.ext hx6); have HS3 := hid (HS3.out.ext hx6); have HS4 := hid (HS4.out.ext hx6); have HS5 := hid (HS5.out.ext hx6); clear hs6; have XE' := hid (Ext.trans (Hid.out XE) hx6); clear XE; have XE := XE'; clear XE') | (go_at_call 14; (have tok := HS4; clear tok; with_reducible refine (integer_own 2 2 rfl _ _ H5.out).mono ?_); rintro e w15 ⟨A5, n5, c5, rfl, -, hs5, hx5⟩; have HS5 := hid (own_sl hs5); have HS1 := hid (HS1.out.ext hx5); have HS2 := hid (HS2.out.ext hx5); have HS3 := hid (HS3.out.ext hx5); have HS4 := hid (HS4.out.ext hx5); clear hs5; have XE' := hid (Ext.trans (Hid.out XE) hx5); clear XE; have XE := XE'; clear XE') | (go_at_call 14; (have tok := HS3; clear tok; with_reducible refine (integer_own 2 2 rfl _ _ H4.out).mono ?_); rintro e w14 ⟨A4, n4, c4, rfl, -, hs4, hx4⟩; have HS4 := hid (own_sl hs4); have HS1 := hid (HS1.out.ext hx4); have HS2 := hid (HS2.out.ext hx4); have HS3 := hid (HS3.out.ext hx4); clear hs4; have XE' := hid (Ext.trans (Hid.out XE) hx4); clear XE; have XE := XE'; clear XE') | (go_at_call 14; (have tok := HS2; clear tok; with_reducible refine (integer_own 10 10 rfl _ _ H3.out).mono ?_); rintro e w13 ⟨A3, n3, c3, rfl, -, hs3, hx3⟩; have HS3 := hid (own_sl hs3); have HS1 := hid (HS1.out.ext hx3); have HS2 := hid (HS2.out.ext hx3); clear hs3; have XE' := hid (Ext.trans (Hid.out XE) hx3); clear XE; have XE := XE'; clear XE') | (go_at_call 14; (have tok := HS1; clear tok; with_reducible refine (integer_own 10 10 rfl _ _ H2.out).mono ?_); rintro e w12 ⟨A2, n2, c2, rfl, -, hs2, hx2⟩; have HS2 := hid (own_sl hs2); have HS1 := hid (HS1.out.ext hx2); clear hs2; have XE' := hid (Ext.trans (Hid.out XE) hx2); clear XE; have XE := XE'; clear XE') | (go_at_call 47; (with_reducible refine (plain_text _ _ HN.out).mono ?_); rintro e w11 ⟨A1, n1, c1, rfl, -, hs1, hx1⟩; have HS1 := hid (own_sl hs1); clear hs1; have XE' := hid (Ext.trans (Hid.out XE) hx1); clear XE; have XE := XE'; clear XE')); refine hK _ _ (by first | assumption | exact Ext.alloc _ _ | exact Ext.refl _) ?_; clear hK K; try simp only [Act.put, List.setIfInBounds_toArray, List.set_cons_zero, List.set_cons_succ]))
  refine walks_done ?_
  clear p2
  clear p5
  clear p6
  clear p7
  clear p8
  clear p9
  clear p10
  clear p11
  clear p12
  clear p13
  clear p14
  clear p15
  clear p16
  clear p17
  go_wp2
  go_ret
  exact ⟨_, _, _, rfl, HL30.out.sls', XD.out.trans XE.out⟩
set_option maxHeartbeats 400000 in
theorem parts_6 {m : Msg} {d : MsgD} {cs : Array Value} {S : Nat → Prop} (hcs : Hid (cs = (msgCells m d).toArray)) (w : World) (hm : MsgRows S w m d) (hf : MsgFits m) (hk : m.kind = 6) :
    Calls Try.prog 18 #[.agg cs] w (RowsNew w [textB 4 m.name, fieldB 48 (m.chgs.map chgB).flatten]) := by
  have Hm := hid hm
  have HN := hid hf.ok.name
  have HC := hid hf.chgs
  have t0 : (m.kind == 0) = false := by rw [hk]; rfl
  have t3 : (m.kind == 3) = false := by rw [hk]; rfl
  have t6 : (m.kind == 6) = true := by rw [hk]; rfl
  have t8 : (m.kind == 8) = false := by rw [hk]; rfl
  have t4 : (m.kind == 4) = false := by rw [hk]; rfl
  have t10 : (m.kind == 10) = false := by rw [hk]; rfl
  have t12 : (m.kind == 12) = false := by rw [hk]; rfl
  have t14 : (m.kind == 14) = false := by rw [hk]; rfl
  have t16 : (m.kind == 16) = false := by rw [hk]; rfl
  have t19 : (m.kind == 19) = false := by rw [hk]; rfl
  clear hk
  clear hm hf
  go_enter Try.func18, Try.ntmps18
  go_wp2_with (refine box_arm rfl 42 (.tmp 0) rfl cs rfl ?_; intro w1 hx1 hz1 hg1; have Hg1 := hid hg1; have X1 := hid hx1; have y1 := (boxCell hg1 1 hcs rfl).out; clear hz1 hg1 hx1)
  refine wp_region_plan (.read 0 (.read 1 (.read 3 (.read 4 (.main 2 (.main 5 (.main 6 (.read 7 .done)))))))) (by kernel_rfl) (by kernel_rfl) ?_
  intro wD hxD
  have XE : Hid (Ext wD wD) := Ext.refl _
  have XD := hid (X1.out.trans hxD)
  have p2 := box2 Hg1.out 2 hcs rfl hxD
  have p19 := box2 Hg1.out 19 hcs rfl hxD
  repeat' (first
    | (refine walks_move rfl rfl ?_; simp only [Act.put, Act.eval, List.setIfInBounds_toArray, List.set_cons_zero, List.set_cons_succ, Array.getD_eq_getD_getElem?, List.getElem?_toArray, List.getElem?_cons_zero, List.getElem?_cons_succ, Option.getD_some])
    | (refine walks_assign rfl rfl ?_; simp only [Act.put, Act.eval, List.setIfInBounds_toArray, List.set_cons_zero, List.set_cons_succ, Array.getD_eq_getD_getElem?, List.getElem?_toArray, List.getElem?_cons_zero, List.getElem?_cons_succ, Option.getD_some])
    | (refine walks_skip rfl rfl ?_; simp only [Act.put, List.setIfInBounds_toArray, List.set_cons_zero, List.set_cons_succ])
    | (refine walks_unwanted rfl rfl ?_; simp only [Act.put, List.setIfInBounds_toArray, List.set_cons_zero, List.set_cons_succ])
    | (refine walks_read (v := ?_) rfl rfl (fun w' hE => ?_) ?_; rotate_left 1; (· ((try (have hEx := Ext.trans (Hid.out XE) hE)); go_simp; (try go_bits); with_reducible rfl)); simp only [Act.put, List.setIfInBounds_toArray, List.set_cons_zero, List.set_cons_succ])
    | (refine walks_main rfl rfl (fun K hK => ?_); (first | (refine lits2_wp (.tmp 53) (.tmp 56) rfl rfl rfl (.cons HS1.out (.cons HS2.out .nil)) ?_; intro w30 hx30 hl30; have HL30 := hid (hl30.base (ext_sz (Ext.trans hxD XE.out))); clear hl30; have XE' := hid (Ext.trans (Hid.out XE) hx30); clear XE; have XE := XE'; clear XE')); refine hK _ _ (by first | assumption | exact Ext.alloc _ _ | exact Ext.refl _) ?_; clear hK K; try simp only [Act.put, List.setIfInBounds_toArray, List.set_cons_zero, List.set_cons_succ])
    | (refine walks_alt ?_ ?_)
    | (refine walks_main rfl rfl (fun K hK => ?_); go_wp2_with (first | (go_at_call 52; (have tok := HS1; clear tok; with_reducible refine (manychg_any 48 48 rfl (Hm.out.chgs.ext (XD.out.trans XE.out)) HC.out.1 (Nat.le_trans HC.out.2 (by decide))).mono ?_); rintro e w12 ⟨A2, n2, c2, rfl, -, hs2, hx2⟩; have HS2 := hid (own_sl hs2); have HS1 := hid (HS1.out.ext hx2); clear hs2; have XE' := hid (Ext.trans (Hid.out XE) hx2); clear XE; have XE := XE'; clear XE') | (go_at_call 47; (with_reducible refine (plain_text _ _ HN.out).mono ?_); rintro e w11 ⟨A1, n1, c1, rfl, -, hs1, hx1⟩; have HS1 := hid (own_sl hs1); clear hs1; have XE' := hid (Ext.trans (Hid.out XE) hx1); clear XE; have XE := XE'; clear XE')); refine hK _ _ (by first | assumption | exact Ext.alloc _ _ | exact Ext.refl _) ?_; clear hK K; try simp only [Act.put, List.setIfInBounds_toArray, List.set_cons_zero, List.set_cons_succ]))
  refine walks_done ?_
  clear p2
  clear p19
  go_wp2
  go_ret
  exact ⟨_, _, _, rfl, HL30.out.sls', XD.out.trans XE.out⟩
set_option maxHeartbeats 400000 in
theorem parts_8 {m : Msg} {d : MsgD} {cs : Array Value} {S : Nat → Prop} (hcs : Hid (cs = (msgCells m d).toArray)) (w : World) (hm : MsgRows S w m d) (hf : MsgFits m) (hk : m.kind = 8) :
    Calls Try.prog 18 #[.agg cs] w (RowsNew w [textB 4 m.name, fieldB 48 (m.list.map attB).flatten]) := by
  have Hm := hid hm
  have HN := hid hf.ok.name
  have HC := hid hf.list
  have t0 : (m.kind == 0) = false := by rw [hk]; rfl
  have t3 : (m.kind == 3) = false := by rw [hk]; rfl
  have t6 : (m.kind == 6) = false := by rw [hk]; rfl
  have t8 : (m.kind == 8) = true := by rw [hk]; rfl
  have t4 : (m.kind == 4) = false := by rw [hk]; rfl
  have t10 : (m.kind == 10) = false := by rw [hk]; rfl
  have t12 : (m.kind == 12) = false := by rw [hk]; rfl
  have t14 : (m.kind == 14) = false := by rw [hk]; rfl
  have t16 : (m.kind == 16) = false := by rw [hk]; rfl
  have t19 : (m.kind == 19) = false := by rw [hk]; rfl
  clear hk
  clear hm hf
  go_enter Try.func18, Try.ntmps18
  go_wp2_with (refine box_arm rfl 42 (.tmp 0) rfl cs rfl ?_; intro w1 hx1 hz1 hg1; have Hg1 := hid hg1; have X1 := hid hx1; have y1 := (boxCell hg1 1 hcs rfl).out; clear hz1 hg1 hx1)
  refine wp_region_plan (.read 0 (.read 1 (.read 3 (.read 4 (.main 2 (.main 5 (.main 6 (.read 7 .done)))))))) (by kernel_rfl) (by kernel_rfl) ?_
  intro wD hxD
  have XE : Hid (Ext wD wD) := Ext.refl _
  have XD := hid (X1.out.trans hxD)
  have p2 := box2 Hg1.out 2 hcs rfl hxD
  have p18 := box2 Hg1.out 18 hcs rfl hxD
  repeat' (first
    | (refine walks_move rfl rfl ?_; simp only [Act.put, Act.eval, List.setIfInBounds_toArray, List.set_cons_zero, List.set_cons_succ, Array.getD_eq_getD_getElem?, List.getElem?_toArray, List.getElem?_cons_zero, List.getElem?_cons_succ, Option.getD_some])
    | (refine walks_assign rfl rfl ?_; simp only [Act.put, Act.eval, List.setIfInBounds_toArray, List.set_cons_zero, List.set_cons_succ, Array.getD_eq_getD_getElem?, List.getElem?_toArray, List.getElem?_cons_zero, List.getElem?_cons_succ, Option.getD_some])
    | (refine walks_skip rfl rfl ?_; simp only [Act.put, List.setIfInBounds_toArray, List.set_cons_zero, List.set_cons_succ])
    | (refine walks_unwanted rfl rfl ?_; simp only [Act.put, List.setIfInBounds_toArray, List.set_cons_zero, List.set_cons_succ])
    | (refine walks_read (v := ?_) rfl rfl (fun w' hE => ?_) ?_; rotate_left 1; (· ((try (have hEx := Ext.trans (Hid.out XE) hE)); go_simp; (try go_bits); with_reducible rfl)); simp only [Act.put, List.setIfInBounds_toArray, List.set_cons_zero, List.set_cons_succ])
    | (refine walks_main rfl rfl (fun K hK => ?_); (first | (refine lits2_wp (.tmp 63) (.tmp 66) rfl rfl rfl (.cons HS1.out (.cons HS2.out .nil)) ?_; intro w30 hx30 hl30; have HL30 := hid (hl30.base (ext_sz (Ext.trans hxD XE.out))); clear hl30; have XE' := hid (Ext.trans (Hid.out XE) hx30); clear XE; have XE := XE'; clear XE')); refine hK _ _ (by first | assumption | exact Ext.alloc _ _ | exact Ext.refl _) ?_; clear hK K; try simp only [Act.put, List.setIfInBounds_toArray, List.set_cons_zero, List.set_cons_succ])
    | (refine walks_alt ?_ ?_)
    | (refine walks_main rfl rfl (fun K hK => ?_); go_wp2_with (first | (go_at_call 54; (have tok := HS1; clear tok; with_reducible refine (manyatt_any 48 48 rfl (Hm.out.list.ext (XD.out.trans XE.out)) HC.out.1 (Nat.le_trans HC.out.2 (by decide))).mono ?_); rintro e w12 ⟨A2, n2, c2, rfl, -, hs2, hx2⟩; have HS2 := hid (own_sl hs2); have HS1 := hid (HS1.out.ext hx2); clear hs2; have XE' := hid (Ext.trans (Hid.out XE) hx2); clear XE; have XE := XE'; clear XE') | (go_at_call 47; (with_reducible refine (plain_text _ _ HN.out).mono ?_); rintro e w11 ⟨A1, n1, c1, rfl, -, hs1, hx1⟩; have HS1 := hid (own_sl hs1); clear hs1; have XE' := hid (Ext.trans (Hid.out XE) hx1); clear XE; have XE := XE'; clear XE')); refine hK _ _ (by first | assumption | exact Ext.alloc _ _ | exact Ext.refl _) ?_; clear hK K; try simp only [Act.put, List.setIfInBounds_toArray, List.set_cons_zero, List.set_cons_succ]))
  refine walks_done ?_
  clear p2
  clear p18
  go_wp2
  go_ret
  exact ⟨_, _, _, rfl, HL30.out.sls', XD.out.trans XE.out⟩
set_option maxHeartbeats 400000 in
theorem parts_4 {m : Msg} {d : MsgD} {cs : Array Value} {S : Nat → Prop} (hcs : Hid (cs = (msgCells m d).toArray)) (w : World) (hm : MsgRows S w m d) (hf : MsgFits m) (hk : m.kind = 4) :
    Calls Try.prog 18 #[.agg cs] w (RowsNew w [textB 4 m.name, fieldB 48 (m.list.map attB).flatten]) := by
  have Hm := hid hm
  have HN := hid hf.ok.name
  have HC := hid hf.list
  have t0 : (m.kind == 0) = false := by rw [hk]; rfl
  have t3 : (m.kind == 3) = false := by rw [hk]; rfl
  have t6 : (m.kind == 6) = false := by rw [hk]; rfl
  have t8 : (m.kind == 8) = false := by rw [hk]; rfl
  have t4 : (m.kind == 4) = true := by rw [hk]; rfl
  have t10 : (m.kind == 10) = false := by rw [hk]; rfl
  have t12 : (m.kind == 12) = false := by rw [hk]; rfl
  have t14 : (m.kind == 14) = false := by rw [hk]; rfl
  have t16 : (m.kind == 16) = false := by rw [hk]; rfl
  have t19 : (m.kind == 19) = false := by rw [hk]; rfl
  clear hk
  clear hm hf
  go_enter Try.func18, Try.ntmps18
  go_wp2_with (refine box_arm rfl 42 (.tmp 0) rfl cs rfl ?_; intro w1 hx1 hz1 hg1; have Hg1 := hid hg1; have X1 := hid hx1; have y1 := (boxCell hg1 1 hcs rfl).out; clear hz1 hg1 hx1)
  refine wp_region_plan (.read 0 (.read 1 (.read 3 (.read 4 (.main 2 (.main 5 (.main 6 (.read 7 .done)))))))) (by kernel_rfl) (by kernel_rfl) ?_
  intro wD hxD
  have XE : Hid (Ext wD wD) := Ext.refl _
  have XD := hid (X1.out.trans hxD)
  have p2 := box2 Hg1.out 2 hcs rfl hxD
  have p18 := box2 Hg1.out 18 hcs rfl hxD
  repeat' (first
    | (refine walks_move rfl rfl ?_; simp only [Act.put, Act.eval, List.setIfInBounds_toArray, List.set_cons_zero, List.set_cons_succ, Array.getD_eq_getD_getElem?, List.getElem?_toArray, List.getElem?_cons_zero, List.getElem?_cons_succ, Option.getD_some])
    | (refine walks_assign rfl rfl ?_; simp only [Act.put, Act.eval, List.setIfInBounds_toArray, List.set_cons_zero, List.set_cons_succ, Array.getD_eq_getD_getElem?, List.getElem?_toArray, List.getElem?_cons_zero, List.getElem?_cons_succ, Option.getD_some])
    | (refine walks_skip rfl rfl ?_; simp only [Act.put, List.setIfInBounds_toArray, List.set_cons_zero, List.set_cons_succ])
    | (refine walks_unwanted rfl rfl ?_; simp only [Act.put, List.setIfInBounds_toArray, List.set_cons_zero, List.set_cons_succ])
    | (refine walks_read (v := ?_) rfl rfl (fun w' hE => ?_) ?_; rotate_left 1; (· ((try (have hEx := Ext.trans (Hid.out XE) hE)); go_simp; (try go_bits); with_reducible rfl)); simp only [Act.put, List.setIfInBounds_toArray, List.set_cons_zero, List.set_cons_succ])
    | (refine walks_main rfl rfl (fun K hK => ?_); (first | (refine lits2_wp (.tmp 63) (.tmp 66) rfl rfl rfl (.cons HS1.out (.cons HS2.out .nil)) ?_; intro w30 hx30 hl30; have HL30 := hid (hl30.base (ext_sz (Ext.trans hxD XE.out))); clear hl30; have XE' := hid (Ext.trans (Hid.out XE) hx30); clear XE; have XE := XE'; clear XE')); refine hK _ _ (by first | assumption | exact Ext.alloc _ _ | exact Ext.refl _) ?_; clear hK K; try simp only [Act.put, List.setIfInBounds_toArray, List.set_cons_zero, List.set_cons_succ])
    | (refine walks_alt ?_ ?_)
    | (refine walks_main rfl rfl (fun K hK => ?_); go_wp2_with (first | (go_at_call 54; (have tok := HS1; clear tok; with_reducible refine (manyatt_any 48 48 rfl (Hm.out.list.ext (XD.out.trans XE.out)) HC.out.1 (Nat.le_trans HC.out.2 (by decide))).mono ?_); rintro e w12 ⟨A2, n2, c2, rfl, -, hs2, hx2⟩; have HS2 := hid (own_sl hs2); have HS1 := hid (HS1.out.ext hx2); clear hs2; have XE' := hid (Ext.trans (Hid.out XE) hx2); clear XE; have XE := XE'; clear XE') | (go_at_call 47; (with_reducible refine (plain_text _ _ HN.out).mono ?_); rintro e w11 ⟨A1, n1, c1, rfl, -, hs1, hx1⟩; have HS1 := hid (own_sl hs1); clear hs1; have XE' := hid (Ext.trans (Hid.out XE) hx1); clear XE; have XE := XE'; clear XE')); refine hK _ _ (by first | assumption | exact Ext.alloc _ _ | exact Ext.refl _) ?_; clear hK K; try simp only [Act.put, List.setIfInBounds_toArray, List.set_cons_zero, List.set_cons_succ]))
  refine walks_done ?_
  clear p2
  clear p18
  go_wp2
  go_ret
  exact ⟨_, _, _, rfl, HL30.out.sls', XD.out.trans XE.out⟩
set_option maxHeartbeats 400000 in
theorem parts_10 {m : Msg} {d : MsgD} {cs : Array Value} {S : Nat → Prop} (hcs : Hid (cs = (msgCells m d).toArray)) (w : World) (hm : MsgRows S w m d) (hf : MsgFits m) (hk : m.kind = 10) :
    Calls Try.prog 18 #[.agg cs] w (RowsNew w [bys m.name]) := by
  have Hm := hid hm
  have HN : Hid (m.name.size ≤ maxLen) := by have := hf.ok.name; show _ ≤ _; unfold maxLen; omega
  have t0 : (m.kind == 0) = false := by rw [hk]; rfl
  have t3 : (m.kind == 3) = false := by rw [hk]; rfl
  have t6 : (m.kind == 6) = false := by rw [hk]; rfl
  have t8 : (m.kind == 8) = false := by rw [hk]; rfl
  have t4 : (m.kind == 4) = false := by rw [hk]; rfl
  have t10 : (m.kind == 10) = true := by rw [hk]; rfl
  have t12 : (m.kind == 12) = false := by rw [hk]; rfl
  have t14 : (m.kind == 14) = false := by rw [hk]; rfl
  have t16 : (m.kind == 16) = false := by rw [hk]; rfl
  have t19 : (m.kind == 19) = false := by rw [hk]; rfl
  clear hk
  clear hm hf
  go_enter Try.func18, Try.ntmps18
  go_wp2_with (first
    | (refine box_arm rfl 42 (.tmp 0) rfl cs rfl ?_; intro w1 hx1 hz1 hg1; have Hg1 := hid hg1; have X1 := hid hx1; have y1 := (boxCell hg1 1 hcs rfl).out; have y2 := (boxCell hg1 2 hcs rfl).out; clear hz1 hg1 hx1)
    | (refine tobytes_arm rfl (.tmp 71) rfl m.name rfl HN.out ?_; intro A c w2 hs2 hf2; have HS2 := hid hs2; have X2 := hid hf2.ext; clear hs2 hf2)
    | (refine lits1_arm rfl (.tmp 72) rfl rfl ?_; intro w3 hx3 hc3 hl3; have HL3 := hid (hl3 _ w1.heap.size HS2.out (ext_sz X2.out)); have X3 := hid hx3; clear hx3 hc3 hl3))
  go_ret
  exact ⟨_, _, _, rfl, HL3.out.sls', X1.out.trans (X2.out.trans X3.out)⟩
set_option maxHeartbeats 400000 in
theorem parts_16 {m : Msg} {d : MsgD} {cs : Array Value} {S : Nat → Prop} (hcs : Hid (cs = (msgCells m d).toArray)) (w : World) (hm : MsgRows S w m d) (hf : MsgFits m) (hk : m.kind = 16) :
    Calls Try.prog 18 #[.agg cs] w (RowsNew w [intB m.target]) := by
  have Hm := hid hm
  have HT1 := hid hf.ok.target.1
  have HT2 := hid hf.ok.target.2
  have t0 : (m.kind == 0) = false := by rw [hk]; rfl
  have t3 : (m.kind == 3) = false := by rw [hk]; rfl
  have t6 : (m.kind == 6) = false := by rw [hk]; rfl
  have t8 : (m.kind == 8) = false := by rw [hk]; rfl
  have t4 : (m.kind == 4) = false := by rw [hk]; rfl
  have t10 : (m.kind == 10) = false := by rw [hk]; rfl
  have t12 : (m.kind == 12) = false := by rw [hk]; rfl
  have t14 : (m.kind == 14) = false := by rw [hk]; rfl
  have t16 : (m.kind == 16) = true := by rw [hk]; rfl
  have t19 : (m.kind == 19) = false := by rw [hk]; rfl
  clear hk
  clear hm hf
  go_enter Try.func18, Try.ntmps18
  go_wp2_with (first
    | (refine box_arm rfl 42 (.tmp 0) rfl cs rfl ?_; intro w1 hx1 hz1 hg1; have Hg1 := hid hg1; have X1 := hid hx1; have y1 := (boxCell hg1 1 hcs rfl).out; have y26 := (boxCell hg1 26 hcs rfl).out; clear hz1 hg1 hx1)
    | (go_at_call 44; (with_reducible refine (int_any _ _ HT1.out HT2.out).mono ?_); rintro e w2 ⟨A2, n2, c2, rfl, hs2, hx2⟩; have HS2 := hid hs2; have X2 := hid hx2; clear hs2 hx2)
    | (refine lits1_arm rfl (.tmp 113) rfl rfl ?_; intro w3 hx3 hc3 hl3; have HL3 := hid (hl3 _ w1.heap.size HS2.out (ext_sz X2.out)); have X3 := hid hx3; clear hx3 hc3 hl3))
  go_ret
  exact ⟨_, _, _, rfl, HL3.out.sls', X1.out.trans (X2.out.trans X3.out)⟩
set_option maxHeartbeats 400000 in
theorem parts_14 {m : Msg} {d : MsgD} {cs : Array Value} {S : Nat → Prop} (hcs : Hid (cs = (msgCells m d).toArray)) (w : World) (hm : MsgRows S w m d) (hf : MsgFits m) (hk : m.kind = 14) :
    Calls Try.prog 18 #[.agg cs] w (RowsNew w [textB 4 m.name, fieldB 48 ([textB 4 m.attr, textB 4 m.value] : List (List UInt8)).flatten]) := by
  have Hm := hid hm
  have HN := hid hf.ok.name
  have HA := hid hf.ok.attr
  have HV := hid hf.ok.value
  have HL : Hid (([textB 4 m.attr, textB 4 m.value] : List (List UInt8)).flatten.length ≤ 3000000) := by
    have e1 := textB_len 4 m.attr
    have e2 := textB_len 4 m.value
    have e3 := hf.ok.attr
    have e4 := hf.ok.value
    show _ ≤ _
    rw [two_len]
    omega
  have t0 : (m.kind == 0) = false := by rw [hk]; rfl
  have t3 : (m.kind == 3) = false := by rw [hk]; rfl
  have t6 : (m.kind == 6) = false := by rw [hk]; rfl
  have t8 : (m.kind == 8) = false := by rw [hk]; rfl
  have t4 : (m.kind == 4) = false := by rw [hk]; rfl
  have t10 : (m.kind == 10) = false := by rw [hk]; rfl
  have t12 : (m.kind == 12) = false := by rw [hk]; rfl
  have t14 : (m.kind == 14) = true := by rw [hk]; rfl
  have t16 : (m.kind == 16) = false := by rw [hk]; rfl
  have t19 : (m.kind == 19) = false := by rw [hk]; rfl
  clear hk
  clear hm hf
  go_enter Try.func18, Try.ntmps18
  go_wp2_with (refine box_arm rfl 42 (.tmp 0) rfl cs rfl ?_; intro w1 hx1 hz1 hg1; have Hg1 := hid hg1; have X1 := hid hx1; have y1 := (boxCell hg1 1 hcs rfl).out; clear hz1 hg1 hx1)
  refine wp_region_plan (.read 0 (.read 1 (.read 3 (.read 4 (.read 6 (.read 7 (.main 2 (.main 5 (.main 8 (.main 9 (.main 10 (.main 11 (.read 12 .done))))))))))))) (by kernel_rfl) (by kernel_rfl) ?_
  intro wD hxD
  have XE : Hid (Ext wD wD) := Ext.refl _
  have XD := hid (X1.out.trans hxD)
  have p2 := box2 Hg1.out 2 hcs rfl hxD
  have p24 := box2 Hg1.out 24 hcs rfl hxD
  have p25 := box2 Hg1.out 25 hcs rfl hxD
  repeat' (first
    | (refine walks_move rfl rfl ?_; simp only [Act.put, Act.eval, List.setIfInBounds_toArray, List.set_cons_zero, List.set_cons_succ, Array.getD_eq_getD_getElem?, List.getElem?_toArray, List.getElem?_cons_zero, List.getElem?_cons_succ, Option.getD_some])
    | (refine walks_assign rfl rfl ?_; simp only [Act.put, Act.eval, List.setIfInBounds_toArray, List.set_cons_zero, List.set_cons_succ, Array.getD_eq_getD_getElem?, List.getElem?_toArray, List.getElem?_cons_zero, List.getElem?_cons_succ, Option.getD_some])
    | (refine walks_skip rfl rfl ?_; simp only [Act.put, List.setIfInBounds_toArray, List.set_cons_zero, List.set_cons_succ])
    | (refine walks_unwanted rfl rfl ?_; simp only [Act.put, List.setIfInBounds_toArray, List.set_cons_zero, List.set_cons_succ])
    | (refine walks_read (v := ?_) rfl rfl (fun w' hE => ?_) ?_; rotate_left 1; (· ((try (have hEx := Ext.trans (Hid.out XE) hE)); go_simp; (try go_bits); with_reducible rfl)); simp only [Act.put, List.setIfInBounds_toArray, List.set_cons_zero, List.set_cons_succ])
    | (refine walks_main rfl rfl (fun K hK => ?_); (first | (refine lits2_wp (.tmp 102) (.tmp 105) rfl rfl rfl (.cons HS2.out (.cons HS3.out .nil)) ?_; intro w14 hx4 hl4; have HL4 := hid hl4; have HS1 := hid (HS1.out.ext hx4); clear hl4; have XE' := hid (Ext.trans (Hid.out XE) hx4); clear XE; have XE := XE'; clear XE') | (refine lits2_wp (.tmp 99) (.tmp 107) rfl rfl rfl (.cons HS1.out (.cons HS5.out .nil)) ?_; intro w16 hx6 hl6; have HL6 := hid hl6; clear hl6; have XE' := hid (Ext.trans (Hid.out XE) hx6); clear XE; have XE := XE'; clear XE')); refine hK _ _ (by first | assumption | exact Ext.alloc _ _ | exact Ext.refl _) ?_; clear hK K; try simp only [Act.put, List.setIfInBounds_toArray, List.set_cons_zero, List.set_cons_succ])
    | (refine walks_alt ?_ ?_)
    | (refine walks_main rfl rfl (fun K hK => ?_); go_wp2_with (first | (go_at_call 47; (have tok := HS2; clear tok; with_reducible refine (plain_text _ _ HV.out).mono ?_); rintro e w13 ⟨A3, n3, c3, rfl, -, hs3, hx3⟩; have HS3 := hid (own_sl hs3); have HS1 := hid (HS1.out.ext hx3); have HS2 := hid (HS2.out.ext hx3); clear hs3; have XE' := hid (Ext.trans (Hid.out XE) hx3); clear XE; have XE := XE'; clear XE') | (go_at_call 47; (have tok := HS1; clear tok; with_reducible refine (plain_text _ _ HA.out).mono ?_); rintro e w12 ⟨A2, n2, c2, rfl, -, hs2, hx2⟩; have HS2 := hid (own_sl hs2); have HS1 := hid (HS1.out.ext hx2); clear hs2; have XE' := hid (Ext.trans (Hid.out XE) hx2); clear XE; have XE := XE'; clear XE') | (go_at_call 47; (with_reducible refine (plain_text _ _ HN.out).mono ?_); rintro e w11 ⟨A1, n1, c1, rfl, -, hs1, hx1⟩; have HS1 := hid (own_sl hs1); clear hs1; have XE' := hid (Ext.trans (Hid.out XE) hx1); clear XE; have XE := XE'; clear XE') | (go_at_call 21; (with_reducible refine (sequence_own HL4.out.sls' (Nat.le_trans HL.out (by decide))).mono ?_); rintro e w15 ⟨A5, n5, c5, rfl, -, hs5, hx5⟩; have HS5 := hid (own_sl hs5); have HS1 := hid (HS1.out.ext hx5); clear hs5; have XE' := hid (Ext.trans (Hid.out XE) hx5); clear XE; have XE := XE'; clear XE')); refine hK _ _ (by first | assumption | exact Ext.alloc _ _ | exact Ext.refl _) ?_; clear hK K; try simp only [Act.put, List.setIfInBounds_toArray, List.set_cons_zero, List.set_cons_succ]))
  refine walks_done ?_
  clear p2 p24 p25
  go_wp2
  go_ret
  exact ⟨_, _, _, rfl, HL6.out.sls', XD.out.trans XE.out⟩
set_option maxHeartbeats 400000 in
theorem parts_12 {m : Msg} {d : MsgD} {cs : Array Value} {S : Nat → Prop} (hcs : Hid (cs = (msgCells m d).toArray)) (w : World) (hm : MsgRows S w m d) (hf : MsgFits m) (hk : m.kind = 12) :
    Calls Try.prog 18 #[.agg cs] w (RowsNew w (renL m)) := by
  have Hm := hid hm
  have HN := hid hf.ok.name
  have HR := hid hf.ok.nrdn
  have HU := hid hf.ok.sup
  have t0 : (m.kind == 0) = false := by rw [hk]; rfl
  have t3 : (m.kind == 3) = false := by rw [hk]; rfl
  have t6 : (m.kind == 6) = false := by rw [hk]; rfl
  have t8 : (m.kind == 8) = false := by rw [hk]; rfl
  have t4 : (m.kind == 4) = false := by rw [hk]; rfl
  have t10 : (m.kind == 10) = false := by rw [hk]; rfl
  have t12 : (m.kind == 12) = true := by rw [hk]; rfl
  have t14 : (m.kind == 14) = false := by rw [hk]; rfl
  have t16 : (m.kind == 16) = false := by rw [hk]; rfl
  have t19 : (m.kind == 19) = false := by rw [hk]; rfl
  clear hk
  clear hm hf
  go_enter Try.func18, Try.ntmps18
  go_wp2_with (refine box_arm rfl 42 (.tmp 0) rfl cs rfl ?_; intro w1 hx1 hz1 hg1; have Hg1 := hid hg1; have X1 := hid hx1; have y1 := (boxCell hg1 1 hcs rfl).out; clear hz1 hg1 hx1)
  refine wp_region_plan (.read 0 (.read 1 (.read 3 (.read 4 (.read 6 (.read 7 (.main 2 (.main 5 (.main 8 (.main 9 (.read 10 .done))))))))))) (by kernel_rfl) (by kernel_rfl) ?_
  intro wD hxD
  have XE : Hid (Ext wD wD) := Ext.refl _
  have XD := hid (X1.out.trans hxD)
  have p2 := box2 Hg1.out 2 hcs rfl hxD
  have p20 := box2 Hg1.out 20 hcs rfl hxD
  have p21 := box2 Hg1.out 21 hcs rfl hxD
  repeat' (first
    | (refine walks_move rfl rfl ?_; simp only [Act.put, Act.eval, List.setIfInBounds_toArray, List.set_cons_zero, List.set_cons_succ, Array.getD_eq_getD_getElem?, List.getElem?_toArray, List.getElem?_cons_zero, List.getElem?_cons_succ, Option.getD_some])
    | (refine walks_assign rfl rfl ?_; simp only [Act.put, Act.eval, List.setIfInBounds_toArray, List.set_cons_zero, List.set_cons_succ, Array.getD_eq_getD_getElem?, List.getElem?_toArray, List.getElem?_cons_zero, List.getElem?_cons_succ, Option.getD_some])
    | (refine walks_skip rfl rfl ?_; simp only [Act.put, List.setIfInBounds_toArray, List.set_cons_zero, List.set_cons_succ])
    | (refine walks_unwanted rfl rfl ?_; simp only [Act.put, List.setIfInBounds_toArray, List.set_cons_zero, List.set_cons_succ])
    | (refine walks_read (v := ?_) rfl rfl (fun w' hE => ?_) ?_; rotate_left 1; (· ((try (have hEx := Ext.trans (Hid.out XE) hE)); go_simp; (try go_bits); with_reducible rfl)); simp only [Act.put, List.setIfInBounds_toArray, List.set_cons_zero, List.set_cons_succ])
    | (refine walks_main rfl rfl (fun K hK => ?_); (first | (refine lits3_wp (.tmp 78) (.tmp 81) (.tmp 84) rfl rfl rfl rfl (.cons HS1.out (.cons HS2.out (.cons HS3.out .nil))) ?_; intro w30 hx30 hl30; have HL30 := hid (hl30.base (ext_sz (Ext.trans hxD XE.out))); clear hl30; have XE' := hid (Ext.trans (Hid.out XE) hx30); clear XE; have XE := XE'; clear XE')); refine hK _ _ (by first | assumption | exact Ext.alloc _ _ | exact Ext.refl _) ?_; clear hK K; try simp only [Act.put, List.setIfInBounds_toArray, List.set_cons_zero, List.set_cons_succ])
    | (refine walks_alt ?_ ?_)
    | (refine walks_main rfl rfl (fun K hK => ?_); go_wp2_with (first | (go_at_call 49; (have tok := HS2; clear tok; with_reducible refine (boolean_any _ _).mono ?_); rintro e w13 ⟨A3, n3, c3, rfl, -, hs3, hx3⟩; have HS3 := hid (own_sl hs3); have HS1 := hid (HS1.out.ext hx3); have HS2 := hid (HS2.out.ext hx3); clear hs3; have XE' := hid (Ext.trans (Hid.out XE) hx3); clear XE; have XE := XE'; clear XE') | (go_at_call 47; (have tok := HS1; clear tok; with_reducible refine (plain_text _ _ HR.out).mono ?_); rintro e w12 ⟨A2, n2, c2, rfl, -, hs2, hx2⟩; have HS2 := hid (own_sl hs2); have HS1 := hid (HS1.out.ext hx2); clear hs2; have XE' := hid (Ext.trans (Hid.out XE) hx2); clear XE; have XE := XE'; clear XE') | (go_at_call 47; (with_reducible refine (plain_text _ _ HN.out).mono ?_); rintro e w11 ⟨A1, n1, c1, rfl, -, hs1, hx1⟩; have HS1 := hid (own_sl hs1); clear hs1; have XE' := hid (Ext.trans (Hid.out XE) hx1); clear XE; have XE := XE'; clear XE')); refine hK _ _ (by first | assumption | exact Ext.alloc _ _ | exact Ext.refl _) ?_; clear hK K; try simp only [Act.put, List.setIfInBounds_toArray, List.set_cons_zero, List.set_cons_succ]))
  refine walks_done ?_
  clear p2
  clear p20
  clear p21
  have Y := hid (Ext.trans hxD XE.out)
  have HLc := HL30
  clear HL30
  have y22 := (boxCell Hg1.out 22 hcs rfl).ext Y.out
  cases hb : m.hsup
  all_goals
    rw [hb] at y22
    have HB := hid hb
    clear hb
    have y23 := (boxCell Hg1.out 23 hcs rfl).ext Y.out
    go_wp2_with (first
      | (go_at_call 48; (with_reducible refine (text_at 128 128 rfl _ _ HU.out).mono ?_); rintro e w2 ⟨A2, n2, c2, rfl, -, hs2, hx2⟩; have HSc := hid (own_sl hs2); have HOc := hid (HLc.out.off (New.of_own hs2) (Nat.le_refl _)); have HLc := hid (HLc.out.ext hx2); have Y := hid (Y.out.trans hx2); clear hs2 hx2)
      | (refine lits1_arm rfl (.tmp 91) rfl rfl ?_; intro w5 hx5 hc5 hl5; have HCc := hid hc5; have HLc := hid (HLc.out.ext hx5); have HSc := hid (HSc.out.ext hx5); have Y := hid (Y.out.trans hx5); clear hx5 hc5 hl5)
      | (at_builtin; refine append_lst rfl (.tmp 88) (.tmp 92) rfl w1.heap.size _ _ _ rfl HLc.out _ _ _ _ _ rfl HCc.out HSc.out HOc.out (by decide) (ext_sz Y.out) ?_; intro A6 c6 w6 hl6 hb6; have HLc := hid hl6; have Y : Hid (Ext w1 w6) := hid (Below.trans Y.out hb6); clear hl6 hb6))
    go_ret
    exact ⟨_, _, _, rfl, by first | (rw [renL_no HB.out]; exact HLc.out.sls') | (rw [renL_yes HB.out]; exact HLc.out.sls'), X1.out.trans Y.out⟩
set_option maxHeartbeats 400000 in
theorem parts_ans {m : Msg} {d : MsgD} {cs : Array Value} {S : Nat → Prop} (hcs : Hid (cs = (msgCells m d).toArray)) (w : World) (hm : MsgRows S w m d) (hf : MsgFits m) (hk : ansB m.kind = true) :
    Calls Try.prog 18 #[.agg cs] w (RowsNew w (ansL m)) := by
  have Hm := hid hm
  have HC := hid hf.ok.code
  have HM := hid hf.ok.matched
  have HT := hid hf.ok.text
  have HA2 := hid hf.ok.refs.2
  have HA3 := hid (Nat.le_trans (texts_len (t := 4) hf.ok.refs) (show 1100000000000 ≤ 140737488350000 by decide))
  have hrl := hid hm.refs.len
  have ta := hid hk
  have t0 : (m.kind == 0) = false := ansB_ne hk rfl
  have t3 : (m.kind == 3) = false := ansB_ne hk rfl
  have t6 : (m.kind == 6) = false := ansB_ne hk rfl
  have t8 : (m.kind == 8) = false := ansB_ne hk rfl
  have t4 : (m.kind == 4) = false := ansB_ne hk rfl
  have t10 : (m.kind == 10) = false := ansB_ne hk rfl
  have t12 : (m.kind == 12) = false := ansB_ne hk rfl
  have t14 : (m.kind == 14) = false := ansB_ne hk rfl
  have t16 : (m.kind == 16) = false := ansB_ne hk rfl
  have t19 : (m.kind == 19) = false := ansB_ne hk rfl
  clear hk
  clear hm hf
  go_enter Try.func18, Try.ntmps18
  go_wp2_with (first | (refine box_arm rfl 42 (.tmp 0) rfl cs rfl ?_; intro w1 hx1 hz1 hg1; have Hg1 := hid hg1; have X1 := hid hx1; have y1 := (boxCell hg1 1 hcs rfl).out; clear hz1 hg1 hx1) | (go_at_call 56; (with_reducible refine (answer_any _ _).mono ?_); rintro e w5 ⟨he, rfl⟩; rw [ta.out] at he; subst he))
  refine wp_region_plan (.read 0 (.read 1 (.read 3 (.read 4 (.read 6 (.read 7 (.main 2 (.main 5 (.main 8 (.main 9 (.read 10 .done))))))))))) (by kernel_rfl) (by kernel_rfl) ?_
  intro wD hxD
  have XE : Hid (Ext wD wD) := Ext.refl _
  have XD := hid (X1.out.trans hxD)
  have p27 := box2 Hg1.out 27 hcs rfl hxD
  have p28 := box2 Hg1.out 28 hcs rfl hxD
  have p29 := box2 Hg1.out 29 hcs rfl hxD
  repeat' (first
    | (refine walks_move rfl rfl ?_; simp only [Act.put, Act.eval, List.setIfInBounds_toArray, List.set_cons_zero, List.set_cons_succ, Array.getD_eq_getD_getElem?, List.getElem?_toArray, List.getElem?_cons_zero, List.getElem?_cons_succ, Option.getD_some])
    | (refine walks_assign rfl rfl ?_; simp only [Act.put, Act.eval, List.setIfInBounds_toArray, List.set_cons_zero, List.set_cons_succ, Array.getD_eq_getD_getElem?, List.getElem?_toArray, List.getElem?_cons_zero, List.getElem?_cons_succ, Option.getD_some])
    | (refine walks_skip rfl rfl ?_; simp only [Act.put, List.setIfInBounds_toArray, List.set_cons_zero, List.set_cons_succ])
    | (refine walks_unwanted rfl rfl ?_; simp only [Act.put, List.setIfInBounds_toArray, List.set_cons_zero, List.set_cons_succ])
    | (refine walks_read (v := ?_) rfl rfl (fun w' hE => ?_) ?_; rotate_left 1; (· ((try (have hEx := Ext.trans (Hid.out XE) hE)); go_simp; (try go_bits); with_reducible rfl)); simp only [Act.put, List.setIfInBounds_toArray, List.set_cons_zero, List.set_cons_succ])
    | (refine walks_main rfl rfl (fun K hK => ?_); (first | (refine lits3_wp (.tmp 137) (.tmp 140) (.tmp 143) rfl rfl rfl rfl (.cons HS1.out (.cons HS2.out (.cons HS3.out .nil))) ?_; intro w30 hx30 hl30; have HL30 := hid (hl30.base (ext_sz (Ext.trans hxD XE.out))); clear hl30; have XE' := hid (Ext.trans (Hid.out XE) hx30); clear XE; have XE := XE'; clear XE')); refine hK _ _ (by first | assumption | exact Ext.alloc _ _ | exact Ext.refl _) ?_; clear hK K; try simp only [Act.put, List.setIfInBounds_toArray, List.set_cons_zero, List.set_cons_succ])
    | (refine walks_alt ?_ ?_)
    | (refine walks_main rfl rfl (fun K hK => ?_); go_wp2_with (first | (go_at_call 47; (have tok := HS2; clear tok; with_reducible refine (plain_text _ _ HT.out).mono ?_); rintro e w13 ⟨A3, n3, c3, rfl, -, hs3, hx3⟩; have HS3 := hid (own_sl hs3); have HS1 := hid (HS1.out.ext hx3); have HS2 := hid (HS2.out.ext hx3); clear hs3; have XE' := hid (Ext.trans (Hid.out XE) hx3); clear XE; have XE := XE'; clear XE') | (go_at_call 47; (have tok := HS1; clear tok; with_reducible refine (plain_text _ _ HM.out).mono ?_); rintro e w12 ⟨A2, n2, c2, rfl, -, hs2, hx2⟩; have HS2 := hid (own_sl hs2); have HS1 := hid (HS1.out.ext hx2); clear hs2; have XE' := hid (Ext.trans (Hid.out XE) hx2); clear XE; have XE := XE'; clear XE') | (go_at_call 14; (with_reducible refine (integer_own 10 10 rfl _ _ HC.out).mono ?_); rintro e w11 ⟨A1, n1, c1, rfl, -, hs1, hx1⟩; have HS1 := hid (own_sl hs1); clear hs1; have XE' := hid (Ext.trans (Hid.out XE) hx1); clear XE; have XE := XE'; clear XE')); refine hK _ _ (by first | assumption | exact Ext.alloc _ _ | exact Ext.refl _) ?_; clear hK K; try simp only [Act.put, List.setIfInBounds_toArray, List.set_cons_zero, List.set_cons_succ]))
  refine walks_done ?_
  clear p27
  clear p28
  clear p29
  have Y := hid (Ext.trans hxD XE.out)
  have HLc := HL30
  clear HL30
  have y30 := (boxCell Hg1.out 30 hcs rfl).ext Y.out
  by_cases hz : d.refs.n = 0
  · have HZ := hid hz
    have z0 : ¬ (0 < (d.refs.n : Int)) := by omega
    clear hz
    go_wp2
    go_ret
    exact ⟨_, _, _, rfl, by rw [ansL_no (by rw [← hrl.out]; exact HZ.out)]; exact HLc.out.sls', X1.out.trans Y.out⟩
  · have HZ := hid hz
    have z0 : 0 < (d.refs.n : Int) := by omega
    clear hz
    go_wp2_with (first
      | (go_at_call 51; (with_reducible refine (manystr_any 163 163 rfl (Hm.out.refs.ext (X1.out.trans Y.out)) HA2.out HA3.out).mono ?_); rintro e w2 ⟨A2, n2, c2, rfl, -, hs2, hx2⟩; have HSc := hid (own_sl hs2); have HOc := hid (HLc.out.off (New.of_own hs2) (Nat.le_refl _)); have HLc := hid (HLc.out.ext hx2); have Y := hid (Y.out.trans hx2); clear hs2 hx2)
      | (refine lits1_arm rfl (.tmp 152) rfl rfl ?_; intro w5 hx5 hc5 hl5; have HCc := hid hc5; have HLc := hid (HLc.out.ext hx5); have HSc := hid (HSc.out.ext hx5); have Y := hid (Y.out.trans hx5); clear hx5 hc5 hl5)
      | (at_builtin; refine append_lst rfl (.tmp 149) (.tmp 153) rfl w1.heap.size _ _ _ rfl HLc.out _ _ _ _ _ rfl HCc.out HSc.out HOc.out (by decide) (ext_sz Y.out) ?_; intro A6 c6 w6 hl6 hb6; have HLc := hid hl6; have Y : Hid (Ext w1 w6) := hid (Below.trans Y.out hb6); clear hl6 hb6))
    go_ret
    exact ⟨_, _, _, rfl, by rw [ansL_yes (by rw [← hrl.out]; exact HZ.out)]; exact HLc.out.sls', X1.out.trans Y.out⟩
set_option maxHeartbeats 1000000 in
theorem parts_19 {m : Msg} {d : MsgD} {cs : Array Value} {S : Nat → Prop} (hcs : Hid (cs = (msgCells m d).toArray)) (w : World) (hm : MsgRows S w m d) (hf : MsgFits m) (hk : m.kind = 19) :
    Calls Try.prog 18 #[.agg cs] w (RowsNew w (m.refs.map (textB 4))) := by
  have Hm := hid hm
  have HR := hid hf.ok.refs
  have hrl := hid hm.refs.len
  have hrn : d.refs.n ≤ 1048576 := by have := hf.ok.refs.1; have := hm.refs.len; omega
  have t0 : (m.kind == 0) = false := by rw [hk]; rfl
  have t3 : (m.kind == 3) = false := by rw [hk]; rfl
  have t6 : (m.kind == 6) = false := by rw [hk]; rfl
  have t8 : (m.kind == 8) = false := by rw [hk]; rfl
  have t4 : (m.kind == 4) = false := by rw [hk]; rfl
  have t10 : (m.kind == 10) = false := by rw [hk]; rfl
  have t12 : (m.kind == 12) = false := by rw [hk]; rfl
  have t14 : (m.kind == 14) = false := by rw [hk]; rfl
  have t16 : (m.kind == 16) = false := by rw [hk]; rfl
  have t19 : (m.kind == 19) = true := by rw [hk]; rfl
  clear hk
  clear hm hf
  go_enter Try.func18, Try.ntmps18
  go_wp2_with (refine box_arm rfl 42 (.tmp 0) rfl cs rfl ?_; intro w1 hx1 hz1 hg1; have Hg1 := hid hg1; have X1 := hid hx1; have y1 := (boxCell hg1 1 hcs rfl).out; have y30 := (boxCell hg1 30 hcs rfl).out; clear hz1 hg1 hx1)
  obtain ⟨RA, hRA⟩ : ∃ RA, RA = d.refs.A := ⟨_, rfl⟩
  have HRA := hid hRA
  clear y30
  go_loopw [4, 120] (fun v i wr => ∃ j : Nat, j ≤ d.refs.n ∧ i = .int .i64 j ∧ Hid (LG w1 wr v ((m.refs.take j).map (textB 4)))) (fun _ i _ => d.refs.n - (intOf i).toNat)
  case atStart => exact ⟨0, by omega, rfl, by simpa [Hid] using LG.start (pre := []) (Lst.nil w1 w1.heap.size) (Ext.refl _) rfl⟩
  case round =>
    obtain ⟨j, hj, rfl, HG⟩ := hrel
    obtain ⟨AL, cL, rfl, hLL⟩ := HG.out.row
    have HLc := hid hLL
    have Y := hid HG.out.ext
    clear hLL
    have HLn : Hid (((m.refs.take j).map (textB 4)).length ≤ 1048577) := by
      show _ ≤ _
      rw [List.length_map, List.length_take]
      omega
    obtain ⟨LL, hLL⟩ : ∃ LL, LL = (m.refs.take j).map (textB 4) := ⟨_, rfl⟩
    rw [← hLL] at HLc HLn ⊢
    have HLL := hid hLL
    clear hLL HG
    by_cases hlt : j < d.refs.n
    · obtain ⟨b1, o1, hA, q1⟩ := (Hm.out.refs.ext (X1.out.trans Y.out)).str_cell (by omega)
      have hA' := HRA.out.trans hA
      have e9 := q1 j hlt
      clear q1
      rw [hA]
      have g1 : m.refs[j]? = some (m.refs[j]?.getD ByteArray.empty) := by have := hrl.out; rw [List.getElem?_eq_getElem (by omega)]; simp
      have Hg := hid g1
      clear g1
      generalize m.refs[j]?.getD ByteArray.empty = x1 at *
      have Hx := hid (HR.out.2 x1 (List.mem_of_getElem? Hg.out))
      have HT9 : Hid ((m.refs.take (j + 1)).map (textB 4) = LL ++ [textB 4 x1]) := by show _ = _; rw [HLL.out, map_take _ Hg.out]
      clear hA hA' hRA
      go_wp2_with (first
        | (go_at_call 47; (with_reducible refine (plain_text _ _ Hx.out).mono ?_); rintro e w2 ⟨A2, n2, c2, rfl, -, hs2, hx2⟩; have HSc := hid (own_sl hs2); have HOc := hid (HLc.out.off (New.of_own hs2) (Nat.le_refl _)); have HLc := hid (HLc.out.ext hx2); have Y := hid (Y.out.trans hx2); clear hs2 hx2)
        | (refine lits1_arm rfl (.tmp 126) rfl rfl ?_; intro w5 hx5 hc5 hl5; have HCc := hid hc5; have HLc := hid (HLc.out.ext hx5); have HSc := hid (HSc.out.ext hx5); have Y := hid (Y.out.trans hx5); clear hx5 hc5 hl5)
        | (at_builtin; refine append_lst rfl (.tmp 124) (.tmp 127) rfl w1.heap.size _ _ _ rfl HLc.out _ _ _ _ _ rfl HCc.out HSc.out HOc.out (by have := HLn.out; omega) (ext_sz Y.out) ?_; intro A6 c6 w6 hl6 hb6; have HLc := hid hl6; have Y : Hid (Ext w1 w6) := hid (Below.trans Y.out hb6); clear hl6 hb6))
      exact ⟨⟨j + 1, by omega, by go_num, LG.push HLc.out Y.out HT9.out⟩, by simp [intOf]; omega⟩
    · obtain hjn : j = d.refs.n := by omega
      have HL9 : Hid (m.refs.map (textB 4) = LL) := by
        show _ = _
        rw [HLL.out, List.take_of_length_le (by rw [hjn, hrl.out]; exact Nat.le_refl _)]
      clear hjn hRA
      go_wp2
      go_ret
      exact ⟨_, _, _, rfl, by rw [HL9.out]; exact HLc.out.sls', X1.out.trans Y.out⟩
set_option maxHeartbeats 400000 in
theorem parts_none' {m : Msg} {d : MsgD} {cs : Array Value} {S : Nat → Prop} (hcs : Hid (cs = (msgCells m d).toArray)) (w : World) (hm : MsgRows S w m d) (hf : MsgFits m) (hk : m.kind = 2) :
    Calls Try.prog 18 #[.agg cs] w (RowsNew w []) := by
  have Hm := hid hm
  have ta : Hid (ansB m.kind = false) := by rw [hk]; rfl
  have t0 : (m.kind == 0) = false := by rw [hk]; rfl
  have t3 : (m.kind == 3) = false := by rw [hk]; rfl
  have t6 : (m.kind == 6) = false := by rw [hk]; rfl
  have t8 : (m.kind == 8) = false := by rw [hk]; rfl
  have t4 : (m.kind == 4) = false := by rw [hk]; rfl
  have t10 : (m.kind == 10) = false := by rw [hk]; rfl
  have t12 : (m.kind == 12) = false := by rw [hk]; rfl
  have t14 : (m.kind == 14) = false := by rw [hk]; rfl
  have t16 : (m.kind == 16) = false := by rw [hk]; rfl
  have t19 : (m.kind == 19) = false := by rw [hk]; rfl
  clear hk
  clear hm hf
  go_enter Try.func18, Try.ntmps18
  go_wp2_with (first
    | (refine box_arm rfl 42 (.tmp 0) rfl cs rfl ?_; intro w1 hx1 hz1 hg1; have Hg1 := hid hg1; have X1 := hid hx1; have y1 := (boxCell hg1 1 hcs rfl).out; clear hz1 hg1 hx1)
    | (go_at_call 56; (with_reducible refine (answer_any _ _).mono ?_); rintro e w5 ⟨he, rfl⟩; rw [ta.out] at he; subst he))
  go_ret
  exact ⟨_, _, _, rfl, Sls.nil _, X1.out⟩
end Go.Proofs.Ytabaeiolpbdjnaa
/- The walk of msg's Encode. -/
namespace Go.Proofs.Ytabaeiolpbdjnaa
open Go.RowKit
set_option maxRecDepth 100000
set_option linter.unusedSimpArgs false
set_option linter.unusedVariables false

/-- The parts of an operation's content. -/
def partsL (m : Msg) : List (List UInt8) :=
  if m.kind = 0 then [fieldB 2 (intB m.ver), textB 4 m.name, textB 128 m.pw]
  else if m.kind = 3 then [textB 4 m.name, fieldB 10 (intB m.scope), fieldB 10 (intB m.deref), fieldB 2 (intB m.size), fieldB 2 (intB m.time), fieldB 1 (boolB m.tonly), filB m.fil, fieldB 48 (textsB m.attrs)]
  else if m.kind = 6 then [textB 4 m.name, fieldB 48 (m.chgs.map chgB).flatten]
  else if m.kind = 4 ∨ m.kind = 8 then [textB 4 m.name, fieldB 48 (m.list.map attB).flatten]
  else if m.kind = 10 then [bys m.name]
  else if m.kind = 12 then renL m
  else if m.kind = 14 then [textB 4 m.name, fieldB 48 ([textB 4 m.attr, textB 4 m.value] : List (List UInt8)).flatten]
  else if m.kind = 16 then [intB m.target]
  else if m.kind = 19 then m.refs.map (textB 4)
  else if m.kind = 2 then []
  else ansL m
theorem known_kind {k : Int} (h : knownB k = true) : k = 0 ∨ k = 1 ∨ k = 2 ∨ k = 3 ∨ k = 4 ∨ k = 5 ∨ k = 6 ∨ k = 7 ∨ k = 8 ∨ k = 9 ∨ k = 10 ∨ k = 11 ∨ k = 12 ∨ k = 13 ∨ k = 14 ∨ k = 15 ∨ k = 16 ∨ k = 19 ∨ k = 24 := by
  simp only [knownB, Bool.or_eq_true, Bool.and_eq_true, decide_eq_true_eq, beq_iff_eq] at h
  omega
theorem parts_any {m : Msg} {d : MsgD} {cs : Array Value} {S : Nat → Prop} (hcs : Hid (cs = (msgCells m d).toArray)) (w : World) (hm : MsgRows S w m d) (hf : MsgFits m) (hk : knownB m.kind = true) :
    Calls Try.prog 18 #[.agg cs] w (RowsNew w (partsL m)) := by
  rcases known_kind hk with h | h | h | h | h | h | h | h | h | h | h | h | h | h | h | h | h | h | h
  · have e : partsL m = [fieldB 2 (intB m.ver), textB 4 m.name, textB 128 m.pw] := by unfold partsL; rw [if_pos h]
    rw [e]; exact parts_0 hcs w hm hf h
  · have e : partsL m = ansL m := by unfold partsL; rw [h]; rfl
    rw [e]; exact parts_ans hcs w hm hf (by rw [h]; rfl)
  · have e : partsL m = [] := by unfold partsL; rw [h]; rfl
    rw [e]; exact parts_none' hcs w hm hf h
  · have e : partsL m = [textB 4 m.name, fieldB 10 (intB m.scope), fieldB 10 (intB m.deref), fieldB 2 (intB m.size), fieldB 2 (intB m.time), fieldB 1 (boolB m.tonly), filB m.fil, fieldB 48 (textsB m.attrs)] := by unfold partsL; rw [if_neg (by rw [h]; decide), if_pos h]
    rw [e]; exact parts_3 hcs w hm hf h
  · have e : partsL m = [textB 4 m.name, fieldB 48 (m.list.map attB).flatten] := by unfold partsL; rw [if_neg (by rw [h]; decide), if_neg (by rw [h]; decide), if_neg (by rw [h]; decide), if_pos (.inl h)]
    rw [e]; exact parts_4 hcs w hm hf h
  · have e : partsL m = ansL m := by unfold partsL; rw [h]; rfl
    rw [e]; exact parts_ans hcs w hm hf (by rw [h]; rfl)
  · have e : partsL m = [textB 4 m.name, fieldB 48 (m.chgs.map chgB).flatten] := by unfold partsL; rw [if_neg (by rw [h]; decide), if_neg (by rw [h]; decide), if_pos h]
    rw [e]; exact parts_6 hcs w hm hf h
  · have e : partsL m = ansL m := by unfold partsL; rw [h]; rfl
    rw [e]; exact parts_ans hcs w hm hf (by rw [h]; rfl)
  · have e : partsL m = [textB 4 m.name, fieldB 48 (m.list.map attB).flatten] := by unfold partsL; rw [if_neg (by rw [h]; decide), if_neg (by rw [h]; decide), if_neg (by rw [h]; decide), if_pos (.inr h)]
    rw [e]; exact parts_8 hcs w hm hf h
  · have e : partsL m = ansL m := by unfold partsL; rw [h]; rfl
    rw [e]; exact parts_ans hcs w hm hf (by rw [h]; rfl)
  · have e : partsL m = [bys m.name] := by unfold partsL; rw [h]; rfl
    rw [e]; exact parts_10 hcs w hm hf h
  · have e : partsL m = ansL m := by unfold partsL; rw [h]; rfl
    rw [e]; exact parts_ans hcs w hm hf (by rw [h]; rfl)
  · have e : partsL m = renL m := by unfold partsL; rw [h]; rfl
    rw [e]; exact parts_12 hcs w hm hf h
  · have e : partsL m = ansL m := by unfold partsL; rw [h]; rfl
    rw [e]; exact parts_ans hcs w hm hf (by rw [h]; rfl)
  · have e : partsL m = [textB 4 m.name, fieldB 48 ([textB 4 m.attr, textB 4 m.value] : List (List UInt8)).flatten] := by unfold partsL; rw [h]; rfl
    rw [e]; exact parts_14 hcs w hm hf h
  · have e : partsL m = ansL m := by unfold partsL; rw [h]; rfl
    rw [e]; exact parts_ans hcs w hm hf (by rw [h]; rfl)
  · have e : partsL m = [intB m.target] := by unfold partsL; rw [h]; rfl
    rw [e]; exact parts_16 hcs w hm hf h
  · have e : partsL m = m.refs.map (textB 4) := by unfold partsL; rw [h]; rfl
    rw [e]; exact parts_19 hcs w hm hf h
  · have e : partsL m = ansL m := by unfold partsL; rw [h]; rfl
    rw [e]; exact parts_ans hcs w hm hf (by rw [h]; rfl)
/-! ## How long it is -/
theorem flat_cons (x : List UInt8) (L : List (List UInt8)) : (x :: L).flatten.length = x.length + L.flatten.length := by simp
theorem flat_nil : ([] : List (List UInt8)).flatten.length = 0 := rfl
theorem renL_len {m : Msg} (h : MsgOk m) : (renL m).flatten.length ≤ 10000000 := by
  have n1 := textB_len 4 m.name
  have n2 := h.name
  have e1 := textB_len 4 m.nrdn
  have e2 := h.nrdn
  have e3 := fieldB_length 1 (boolB m.dold)
  have e4 : (boolB m.dold).length = 1 := rfl
  have e5 := textB_len 128 m.sup
  have e6 := h.sup
  unfold renL
  split <;> simp only [List.flatten_append, List.length_append, flat_cons, flat_nil] <;> omega
theorem ansL_len {m : Msg} (h : MsgOk m) : (ansL m).flatten.length ≤ 2000000000000 := by
  have k1 := texts_len (t := 4) h.refs
  have k2 := fieldB_length 163 (textsB m.refs)
  have k3 : (textsB m.refs).length = (m.refs.map (textB 4)).flatten.length := rfl
  have l1 := intF_len 10 m.code
  have l2 := textB_len 4 m.matched
  have l3 := h.matched
  have l4 := textB_len 4 m.text
  have l5 := h.text
  unfold ansL
  split <;> simp only [List.flatten_append, List.length_append, flat_cons, flat_nil] <;> omega
theorem searchL_len {m : Msg} (h : MsgOk m) (hn : m.fil.nod ≤ 40) : ([textB 4 m.name, fieldB 10 (intB m.scope), fieldB 10 (intB m.deref), fieldB 2 (intB m.size), fieldB 2 (intB m.time), fieldB 1 (boolB m.tonly), filB m.fil, fieldB 48 (textsB m.attrs)] : List (List UInt8)).flatten.length ≤ 60000000000000 := by
  have n1 := textB_len 4 m.name
  have n2 := h.name
  have a1 := texts_len (t := 4) h.attrs
  have a2 := fieldB_length 48 (textsB m.attrs)
  have a3 : (textsB m.attrs).length = (m.attrs.map (textB 4)).flatten.length := rfl
  have b1 := intF_len 10 m.scope
  have b2 := intF_len 10 m.deref
  have b3 := intF_len 2 m.size
  have b4 := intF_len 2 m.time
  have b5 := fieldB_length 1 (boolB m.tonly)
  have b6 : (boolB m.tonly).length = 1 := rfl
  have f1 := filB_len h.fil hn
  simp only [flat_cons, flat_nil]
  omega
theorem cmpL_len {m : Msg} (h : MsgOk m) : ([textB 4 m.name, fieldB 48 ([textB 4 m.attr, textB 4 m.value] : List (List UInt8)).flatten] : List (List UInt8)).flatten.length ≤ 10000000 := by
  have n1 := textB_len 4 m.name
  have n2 := h.name
  have g1 := textB_len 4 m.attr
  have g2 := h.attr
  have g3 := textB_len 4 m.value
  have g4 := h.value
  have g5 := fieldB_length 48 ([textB 4 m.attr, textB 4 m.value] : List (List UInt8)).flatten
  rw [two_len] at g5
  rw [two_len]
  omega
theorem parts_len {m : Msg} (hf : MsgFits m) : (partsL m).flatten.length ≤ 110000000000000 := by
  have n1 := textB_len 4 m.name
  have n2 := hf.ok.name
  unfold partsL
  split
  · have i1 := intF_len 2 m.ver
    have i2 := textB_len 128 m.pw
    have i3 := hf.ok.pw
    simp only [flat_cons, flat_nil]; omega
  split
  · exact Nat.le_trans (searchL_len hf.ok (hf.fil (by assumption)).2) (by decide)
  split
  · have c1 := fieldB_length 48 (m.chgs.map chgB).flatten
    have c2 := hf.chgs.2
    simp only [flat_cons, flat_nil]; omega
  split
  · have d1 := fieldB_length 48 (m.list.map attB).flatten
    have d2 := hf.list.2
    simp only [flat_cons, flat_nil]; omega
  split
  · have m1 := bys_len m.name
    simp only [flat_cons, flat_nil]; omega
  split
  · exact Nat.le_trans (renL_len hf.ok) (by decide)
  split
  · exact Nat.le_trans (cmpL_len hf.ok) (by decide)
  split
  · have h1 := intB_length m.target
    simp only [flat_cons, flat_nil]; omega
  split
  · exact Nat.le_trans (texts_len hf.ok.refs) (by decide)
  split
  · simp only [flat_nil]; omega
  · exact Nat.le_trans (ansL_len hf.ok) (by decide)
def bodyL (m : Msg) : List (List UInt8) := [fieldB 2 (intB m.id), fieldB (tagB m.kind) (partsL m).flatten] ++ if m.ctls.length = 0 then [] else [fieldB 160 (m.ctls.map ctlB).flatten]
theorem bodyL_no {m : Msg} (h : m.ctls.length = 0) : bodyL m = [fieldB 2 (intB m.id), fieldB (tagB m.kind) (partsL m).flatten] := by unfold bodyL; rw [if_pos h, List.append_nil]
theorem bodyL_yes {m : Msg} (h : ¬ m.ctls.length = 0) : bodyL m = [fieldB 2 (intB m.id), fieldB (tagB m.kind) (partsL m).flatten] ++ [fieldB 160 (m.ctls.map ctlB).flatten] := by unfold bodyL; rw [if_neg h]
/-- A message's bytes. -/
def msgB (m : Msg) : List UInt8 := fieldB 48 (bodyL m).flatten
theorem ctls_len {m : Msg} (h : MsgOk m) : (m.ctls.map ctlB).flatten.length ≤ 4000000000000 := by
  have h1 := flat_sum (f := ctlB) (g := fun _ => 1) (C := 3000006) (l := m.ctls) (fun x hx => by
    have e1 := ctl_len (h.ctls.2 x hx)
    have e2 := fieldB_length 48 (ctlL x.oid x.crit x.has x.val).flatten
    unfold ctlB
    omega)
  rw [ones_sum] at h1
  have := h.ctls.1
  omega
theorem body_len {m : Msg} (hf : MsgFits m) : (bodyL m).flatten.length ≤ 130000000000000 := by
  have h1 := parts_len hf
  have h2 := ctls_len hf.ok
  have h3 := fieldB_length (tagB m.kind) (partsL m).flatten
  have h4 := fieldB_length 160 (m.ctls.map ctlB).flatten
  have h5 := intF_len 2 m.id
  unfold bodyL
  split <;> simp only [List.flatten_append, List.length_append, flat_cons, flat_nil] <;> omega
/-! ## The walk -/
/-- A filter's form, as a message's form asks for it. -/
noncomputable def fbM (m : Msg) : Bool := decide (m.fil.nod ≤ 40) && Fil.fok 1 m.fil
theorem formed_of {m : Msg} (h : MsgOk m) : m.kind = 3 → ∀ (T : Nat → Prop) (vs : List Value) (w : World), FilAt T w vs m.fil → Calls Try.prog 41 #[.agg vs.toArray] w fun e w' => e = .returned (.bool (fbM m)) ∧ Ext w w' :=
  fun _ _ _ _ hv => fformed_any hv h.fil.sz
set_option maxHeartbeats 1000000 in
theorem encode_unsound {m : Msg} {d : MsgD} {cs : Array Value} {S : Nat → Prop} (hcs : Hid (cs = (msgCells m d).toArray)) (w : World) (hm : MsgRows S w m d) (ho : MsgOk m) (hs : soundB (fbM m) m = false) :
    Calls Try.prog 7 #[.agg cs] w fun e w' => e = .returned (.tuple #[.slice none 0 0, .int .i64 1]) ∧ Ext w w' := by
  have Hm := hid hm
  have HF := hid (formed_of ho)
  have Zc := hid (msgSize hcs)
  have HS := hid hs
  clear hm ho hs
  go_enter Try.func7, Try.ntmps7
  go_wp2_with (first
    | (refine box_arm rfl 42 (.tmp 0) rfl cs rfl ?_; intro w1 hx1 hz1 hg1; have Hg1 := hid hg1; have X1 := hid hx1; clear hz1 hg1 hx1)
    | (refine wpList_load_row rfl 42 (.tmp 1) rfl w.heap.size rfl _ _ _ _ Hg1.out Try.underlying42 rfl Zc.out ?_)
    | (go_at_call 13; (with_reducible refine (sound_any (fb := fbM m) hcs _ (Hm.out.ext X1.out) HF.out).mono ?_); rintro e w2 ⟨he, hx2⟩; rw [HS.out] at he; subst he))
  go_ret2
  exact ⟨rfl, X1.out.trans hx2⟩
set_option maxHeartbeats 2000000 in
theorem encode_sound {m : Msg} {d : MsgD} {cs : Array Value} {S : Nat → Prop} (hcs : Hid (cs = (msgCells m d).toArray)) (w : World) (hm : MsgRows S w m d) (hf : MsgFits m) (hk : knownB m.kind = true) (hs : soundB (fbM m) m = true) :
    Calls Try.prog 7 #[.agg cs] w fun e w' => ∃ A n c, e = .returned (.tuple #[.slice A n c, .int .i64 (if (msgB m).length ≤ 16384 then 0 else 1)]) ∧ Sl w' A n c (if (msgB m).length ≤ 16384 then msgB m else []) ∧ Ext w w' := by
  have Hm := hid hm
  have HF := hid (formed_of hf.ok)
  have Zc := hid (msgSize hcs)
  have HS := hid hs
  have HI := hid hf.ok.id
  have HBL := hid (body_len hf)
  have HPL := hid (parts_len hf)
  have HFi := hid hf
  have HCt := hid hf.ok.ctls.2
  have HCl := hid (Nat.le_trans (ctls_len hf.ok) (show 4000000000000 ≤ 140737488350000 by decide))
  have HK := hid hk
  have hrl := hid hm.ctls.len
  have hk24 : Hid (0 ≤ m.kind ∧ m.kind ≤ 24) := by have := known_kind hk; show _ ∧ _; omega
  obtain ⟨T, hT⟩ : ∃ T : List UInt8 → World → Ending → World → Prop, T = fun xs w e w' => ∃ A n c, e = .returned (.tuple #[.slice A n c, .int .i64 (if xs.length ≤ 16384 then 0 else 1)]) ∧ Sl w' A n c (if xs.length ≤ 16384 then xs else []) ∧ Ext w w' := ⟨_, rfl⟩
  have hg : Calls Try.prog 7 #[.agg cs] w (T (msgB m) w) := by
    have HT := hid hT
    clear hm hf hs hk hT
    go_enter Try.func7, Try.ntmps7
    go_wp2_with (first
      | (refine box_arm rfl 42 (.tmp 0) rfl cs rfl ?_; intro w1 hx1 hz1 hg1; have Hg1 := hid hg1; have X1 := hid hx1; clear hz1 hg1 hx1)
      | (refine wpList_load_row rfl 42 (.tmp 1) rfl w.heap.size rfl _ _ _ _ Hg1.out Try.underlying42 rfl Zc.out ?_)
      | (go_at_call 13; (with_reducible refine (sound_any (fb := fbM m) hcs _ (Hm.out.ext X1.out) HF.out).mono ?_); rintro e w2 ⟨he, hx2⟩; rw [HS.out] at he; subst he))
    refine wp_region_plan (.read 0 (.read 1 (.read 3 (.read 4 (.read 6 (.main 2 (.main 5 (.main 7 (.main 8 (.main 9 (.main 10 (.read 11 .done)))))))))))) (by kernel_rfl) (by kernel_rfl) ?_
    intro wD hxD
    have XE : Hid (Ext wD wD) := Ext.refl _
    have X2D := hid (Ext.trans hx2 hxD)
    have p0 := box2 Hg1.out 0 hcs rfl X2D.out
    have p1 := box2 Hg1.out 1 hcs rfl X2D.out
    repeat' (first
      | (refine walks_move rfl rfl ?_; simp only [Act.put, Act.eval, List.setIfInBounds_toArray, List.set_cons_zero, List.set_cons_succ, Array.getD_eq_getD_getElem?, List.getElem?_toArray, List.getElem?_cons_zero, List.getElem?_cons_succ, Option.getD_some])
      | (refine walks_assign rfl rfl ?_; simp only [Act.put, Act.eval, List.setIfInBounds_toArray, List.set_cons_zero, List.set_cons_succ, Array.getD_eq_getD_getElem?, List.getElem?_toArray, List.getElem?_cons_zero, List.getElem?_cons_succ, Option.getD_some])
      | (refine walks_skip rfl rfl ?_; simp only [Act.put, List.setIfInBounds_toArray, List.set_cons_zero, List.set_cons_succ])
      | (refine walks_read (v := .agg cs) rfl rfl (fun w' hE => run_load_row 42 (.tmp 1) rfl _ rfl _ cs _ (row_later Hg1.out (X2D.out.trans (XE.out.trans hE))) Try.underlying42 rfl Zc.out) ?_; simp only [Act.put, List.setIfInBounds_toArray, List.set_cons_zero, List.set_cons_succ])
      | (refine walks_unwanted rfl rfl ?_; simp only [Act.put, List.setIfInBounds_toArray, List.set_cons_zero, List.set_cons_succ])
      | (refine walks_read (v := ?_) rfl rfl (fun w' hE => ?_) ?_; rotate_left 1; (· ((try (have hEx := Ext.trans (Hid.out XE) hE)); go_simp; (try go_bits); with_reducible rfl)); simp only [Act.put, List.setIfInBounds_toArray, List.set_cons_zero, List.set_cons_succ])
      | (refine walks_main rfl rfl (fun K hK => ?_); (first | (refine lits2_wp (.tmp 11) (.tmp 18) rfl rfl rfl (.cons HS3.out (.cons HS7.out .nil)) ?_; intro w8 hx8 hl8; have HL30 := hid (hl8.base (ext_sz (Ext.trans X2D.out XE.out))); clear hl8; have XE' := hid (Ext.trans (Hid.out XE) hx8); clear XE; have XE := XE'; clear XE')); refine hK _ _ (by first | assumption | exact Ext.alloc _ _ | exact Ext.refl _) ?_; clear hK K; try simp only [Act.put, List.setIfInBounds_toArray, List.set_cons_zero, List.set_cons_succ])
      | (refine walks_alt ?_ ?_)
      | (refine walks_main rfl rfl (fun K hK => ?_); go_wp2_with (first | (go_at_call 14; (with_reducible refine (integer_own 2 2 rfl _ _ HI.out).mono ?_); rintro e w3 ⟨A3, n3, c3, rfl, -, hs3, hx3⟩; have HS3 := hid (own_sl hs3); clear hs3; have XE' := hid (Ext.trans (Hid.out XE) hx3); clear XE; have XE := XE'; clear XE') | (go_at_call 16; (with_reducible refine (tag_any _ _ hk24.out.1 hk24.out.2).mono ?_); rintro e w4 ⟨rfl, rfl⟩) | (go_at_call 18; (with_reducible refine (parts_any hcs _ (Hm.out.ext (X1.out.trans (X2D.out.trans XE.out))) HFi.out HK.out).mono ?_); rintro e w5 ⟨A5, n5, c5, rfl, hs5, hx5⟩; have HS5 := hid hs5; have HS3 := hid (HS3.out.ext hx5); clear hs5; have XE' := hid (Ext.trans (Hid.out XE) hx5); clear XE; have XE := XE'; clear XE') | (go_at_call 17; (with_reducible refine (concat_own _ _ _ _ _ HS5.out (Nat.le_trans HPL.out (by decide))).mono ?_); rintro e w6 ⟨A6, n6, c6, rfl, hn6, hs6, hx6⟩; have HS6 := hid (own_sl hs6); have HN6 := hid hn6; have HS3 := hid (HS3.out.ext hx6); clear hs6 hn6; have XE' := hid (Ext.trans (Hid.out XE) hx6); clear XE; have XE := XE'; clear XE') | (go_at_call 15; (with_reducible refine (field_own (tagB m.kind) _ rfl _ _ _ _ _ HS6.out (by rw [HN6.out]; exact Nat.le_trans HPL.out (by decide))).mono ?_); rintro e w7 ⟨A7, n7, c7, rfl, -, hs7, hx7⟩; have HS7 := hid (own_sl hs7); have HS3 := hid (HS3.out.ext hx7); clear hs7; have XE' := hid (Ext.trans (Hid.out XE) hx7); clear XE; have XE := XE'; clear XE')); refine hK _ _ (by first | assumption | exact Ext.alloc _ _ | exact Ext.refl _) ?_; clear hK K; try simp only [Act.put, List.setIfInBounds_toArray, List.set_cons_zero, List.set_cons_succ]))
    refine walks_done ?_
    clear p0 p1
    have Y := hid (Ext.trans X2D.out XE.out)
    have HLc := HL30
    clear HL30
    have y31 := (boxCell Hg1.out 31 hcs rfl).ext Y.out
    by_cases hz : d.ctls.n = 0
    case' pos =>
      have HB : Hid (bodyL m = _) := bodyL_no (by rw [← hrl.out]; exact hz)
      have z0 : ¬ (0 < (d.ctls.n : Int)) := by omega
    case' neg =>
      have HB : Hid (bodyL m = _) := bodyL_yes (by rw [← hrl.out]; exact hz)
      have z0 : 0 < (d.ctls.n : Int) := by omega
    all_goals
      have HBL := HBL.out
      rw [HB.out] at HBL
      have HBL := hid HBL
      clear hz
      go_wp2_with (first
        | (go_at_call 19; (with_reducible refine (manyctl_any 160 160 rfl (Hm.out.ctls.ext (X1.out.trans Y.out)) HCt.out HCl.out).mono ?_); rintro e w9 ⟨A2, n2, c2, rfl, -, hs2, hx2⟩; have HSc := hid (own_sl hs2); have HOc := hid (HLc.out.off (New.of_own hs2) (Nat.le_refl _)); have HLc := hid (HLc.out.ext hx2); have Y := hid (Y.out.trans hx2); clear hs2 hx2)
        | (refine lits1_arm rfl (.tmp 27) rfl rfl ?_; intro w5 hx5 hc5 hl5; have HCc := hid hc5; have HLc := hid (HLc.out.ext hx5); have HSc := hid (HSc.out.ext hx5); have Y := hid (Y.out.trans hx5); clear hx5 hc5 hl5)
        | (at_builtin; refine append_lst rfl (.tmp 24) (.tmp 28) rfl w1.heap.size _ _ _ rfl HLc.out _ _ _ _ _ rfl HCc.out HSc.out HOc.out (by decide) (ext_sz Y.out) ?_; intro A6 c6 w6 hl6 hb6; have HLc := hid hl6; have Y : Hid (Ext w1 w6) := hid (Below.trans Y.out hb6); clear hl6 hb6)
        | (go_at_call 21; (with_reducible refine (sequence_own HLc.out.sls' (Nat.le_trans HBL.out (by decide))).mono ?_); rintro e w19 ⟨A9, n9, c9, rfl, hn9, hs9, hx9⟩; rw [← HB.out] at hn9 hs9; have HN9 := hid hn9; have HS9 := hid (own_sl hs9); have Y := hid (Y.out.trans hx9); clear hs9 hn9 hx9))
      all_goals
        try go_ret2
        rw [HT.out]
        first
          | (have hle : (msgB m).length ≤ 16384 := by have h1 := HN9.out; unfold msgB; omega
             exact ⟨_, _, _, by rw [if_pos hle]; rfl, by rw [if_pos hle]; exact HS9.out, X1.out.trans Y.out⟩)
          | (have hle : ¬ (msgB m).length ≤ 16384 := by have h1 := HN9.out; unfold msgB; omega
             exact ⟨_, _, _, by rw [if_neg hle]; rfl, by rw [if_neg hle]; exact Sl.nil _, X1.out.trans Y.out⟩)
  rw [hT] at hg
  exact hg
end Go.Proofs.Ytabaeiolpbdjnaa
