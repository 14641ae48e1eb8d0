/- The walk of msg's Same. -/
import Derived.Test.YtabaeiolpbdjnaaMh
namespace Go.Proofs.Ytabaeiolpbdjnaa
open Go.RowKit
set_option maxRecDepth 100000

theorem run_plain_op {o : Oper} {ac : Act} {w : World} (a b : Msg) (x y : Operand) (ho : o.op = .binOp .eql 67 x y 67) (hx : ac.eval x = .agg (plainCells a).toArray) (hy : ac.eval y = .agg (plainCells b).toArray) {r : Bool} (hr : headB a b = r) :
    (execOp ac.eval o).run Try.prog w = .ok (.value (.bool r)) w := by
  have hg : Try.prog.eqGuardType Try.prog.depth 67 = false := by kernel_rfl
  unfold execOp
  simp only [ho, hx, hy, Sem.run_bind, plain_eql, hr]
  simp [eqGuard, hg]
theorem first_false (b0 b1 b2 b3 b4 b5 b6 : Bool) :
    (b0 = true ∧ b1 = true ∧ b2 = true ∧ b3 = true ∧ b4 = true ∧ b5 = true ∧ b6 = true) ∨ (b0 = false) ∨ (b0 = true ∧ b1 = false) ∨ (b0 = true ∧ b1 = true ∧ b2 = false) ∨ (b0 = true ∧ b1 = true ∧ b2 = true ∧ b3 = false) ∨
    (b0 = true ∧ b1 = true ∧ b2 = true ∧ b3 = true ∧ b4 = false) ∨ (b0 = true ∧ b1 = true ∧ b2 = true ∧ b3 = true ∧ b4 = true ∧ b5 = false) ∨ (b0 = true ∧ b1 = true ∧ b2 = true ∧ b3 = true ∧ b4 = true ∧ b5 = true ∧ b6 = false) := by
  cases b0 <;> cases b1 <;> cases b2 <;> cases b3 <;> cases b4 <;> cases b5 <;> cases b6 <;> simp
/-- Two messages are alike. -/
noncomputable def sameB (a b : Msg) : Bool := headB a b && decide (a.fil = b.fil) && decide (a.attrs = b.attrs) && decide (a.list = b.list) && decide (a.chgs = b.chgs) && decide (a.refs = b.refs) && decide (a.ctls = b.ctls)
theorem msgSize {m : Msg} {d : MsgD} {cs : Array Value} (h : Hid (cs = (msgCells m d).toArray)) : (Try.prog.info? 42).map (·.size) = some cs.size := by
  rw [h.out]; kernel_rfl
theorem row_later {w w1 : World} {g : Nat} {cs : Array Value} {T : TypeId} (h : w.heap[g]? = some (.cells cs T (0, 0))) (hx : Ext w w1) : w1.heap[g]? = some (.cells cs T (0, 0)) :=
  (hx.block g (Array.getElem?_eq_some_iff.1 h).1).trans h
theorem box2 {w w2 : World} {g : Nat} {m : Msg} {d : MsgD} {cs : Array Value} {T : TypeId} (hg : w.heap[g]? = some (.cells cs T (0, 0))) (i : Nat) (h : Hid (cs = (msgCells m d).toArray)) {v : Value} (hv : (msgCells m d)[i]? = some v) (hx : Ext w w2) :
    ∀ w', Ext w2 w' → w'.cell? ⟨g, i, none⟩ = some v := fun _ h' => (boxCell hg i h hv).ext (hx.trans h')

set_option maxHeartbeats 4000000 in
theorem msgsame_any {a b : Msg} {d e' : MsgD} {cs ds : Array Value} {S T : Nat → Prop} (hcs : Hid (cs = (msgCells a d).toArray)) (hds : Hid (ds = (msgCells b e').toArray)) (w : World) (ha : MsgRows S w a d) (hb : MsgRows T w b e') :
    Calls Try.prog 10 #[.agg cs, .agg ds] w fun e w' => e = .returned (.bool (sameB a b)) ∧ Ext w w' := by
  have Ha := hid ha
  have Hb := hid hb
  have Zc := hid (msgSize hcs)
  have Zd := hid (msgSize hds)
  clear ha hb
  rcases first_false (headB a b) (decide (a.fil = b.fil)) (decide (a.attrs = b.attrs)) (decide (a.list = b.list)) (decide (a.chgs = b.chgs)) (decide (a.refs = b.refs)) (decide (a.ctls = b.ctls)) with ⟨h0, h1, h2, h3, h4, h5, h6⟩ | h0 | ⟨h0, h1⟩ | ⟨h0, h1, h2⟩ | ⟨h0, h1, h2, h3⟩ | ⟨h0, h1, h2, h3, h4⟩ | ⟨h0, h1, h2, h3, h4, h5⟩ | ⟨h0, h1, h2, h3, h4, h5, h6⟩
  all_goals
    have B0 := hid h0
    try have B1 := hid h1
    try have B2 := hid h2
    try have B3 := hid h3
    try have B4 := hid h4
    try have B5 := hid h5
    try have B6 := hid h6
    first
      | (have HF : Hid (sameB a b = true) := (by show _ = _; unfold sameB; rw [h0, h1, h2, h3, h4, h5, h6]; rfl))
      | (have HF : Hid (sameB a b = false) := (by show _ = _; unfold sameB; (first | rw [h0, h1, h2, h3, h4, h5, h6] | rw [h0, h1, h2, h3, h4, h5] | rw [h0, h1, h2, h3, h4] | rw [h0, h1, h2, h3] | rw [h0, h1, h2] | rw [h0, h1] | rw [h0]); simp only [Bool.true_and, Bool.false_and, Bool.and_false]))
    clear h0
    try clear h1
    try clear h2
    try clear h3
    try clear h4
    try clear h5
    try clear h6
    go_enter Try.func10, Try.ntmps10
    go_wp2_with (first
      | (refine box_arm rfl 42 (.tmp 0) rfl cs rfl ?_; intro w1 hx1 hz1 hg1; have Hg1 := hid hg1; clear hz1 hg1)
      | (refine box_arm rfl 42 (.tmp 1) rfl ds rfl ?_; intro w2 hx2 hz2 hg2; have Hg2 := hid hg2; have Hg3 := hid (row_later Hg1.out hx2); have X2 := hid (hx1.trans hx2); clear hz2 hg2 Hg1))
    refine wp_region_plan (.read 0 (.read 2 (.main 1 (.main 3 (.read 4 (.read 5 (.read 6 (.read 7 (.read 8 (.read 9 (.main 10 (.read 11 (.read 12 (.read 13 (.read 14 (.read 15 (.read 16 (.main 17 (.read 18 (.read 19 (.read 20 (.read 21 (.read 22 (.read 23 (.main 24 (.read 25 (.read 26 (.read 27 (.read 28 (.read 29 (.read 30 (.main 31 (.read 32 (.read 33 (.read 34 (.read 35 (.read 36 (.read 37 (.main 38 (.read 39 (.read 40 (.read 41 (.read 42 (.read 43 (.read 44 (.main 45 (.read 46 (.read 47 .done)))))))))))))))))))))))))))))))))))))))))))))))) (by kernel_rfl) (by kernel_rfl) ?_
    intro wD hxD
    have XE : Hid (Ext wD wD) := Ext.refl _
    have Ha2 := hid (Ha.out.ext X2.out)
    have Hb2 := hid (Hb.out.ext X2.out)
    have HFS : Hid (∀ w', Ext w2 w' → Calls Try.prog 26 #[.agg #[.int .i64 a.fil.kind, .string a.fil.attr, .string a.fil.value, .string a.fil.first, .string a.fil.last, .slice d.any.A d.any.n d.any.c, .slice d.parts.A d.parts.n d.parts.c], .agg #[.int .i64 b.fil.kind, .string b.fil.attr, .string b.fil.value, .string b.fil.first, .string b.fil.last, .slice e'.any.A e'.any.n e'.any.c, .slice e'.parts.A e'.parts.n e'.parts.c]] w' fun e w'' => e = .returned (.bool (decide (a.fil = b.fil))) ∧ Ext w' w'') := fun w' hE => filtersame_any a.fil b.fil _ _ _ _ w' (Ha2.out.ext hE).fil (Hb2.out.ext hE).fil
    have p10 := box2 Hg3.out 10 hcs rfl hxD; have q10 := box2 Hg2.out 10 hds rfl hxD; have p11 := box2 Hg3.out 11 hcs rfl hxD; have q11 := box2 Hg2.out 11 hds rfl hxD; have p12 := box2 Hg3.out 12 hcs rfl hxD; have q12 := box2 Hg2.out 12 hds rfl hxD; have p13 := box2 Hg3.out 13 hcs rfl hxD; have q13 := box2 Hg2.out 13 hds rfl hxD; have p14 := box2 Hg3.out 14 hcs rfl hxD; have q14 := box2 Hg2.out 14 hds rfl hxD; have p15 := box2 Hg3.out 15 hcs rfl hxD; have q15 := box2 Hg2.out 15 hds rfl hxD; have p16 := box2 Hg3.out 16 hcs rfl hxD; have q16 := box2 Hg2.out 16 hds rfl hxD; have p17 := box2 Hg3.out 17 hcs rfl hxD; have q17 := box2 Hg2.out 17 hds rfl hxD; have p18 := box2 Hg3.out 18 hcs rfl hxD; have q18 := box2 Hg2.out 18 hds rfl hxD; have p19 := box2 Hg3.out 19 hcs rfl hxD; have q19 := box2 Hg2.out 19 hds rfl hxD; have p30 := box2 Hg3.out 30 hcs rfl hxD; have q30 := box2 Hg2.out 30 hds rfl hxD; have p31 := box2 Hg3.out 31 hcs rfl hxD; have q31 := box2 Hg2.out 31 hds rfl hxD
    repeat' (first
      | (refine walks_move rfl rfl ?_; simp only [Act.put, Act.eval, List.setIfInBounds_toArray, List.set_cons_zero, List.set_cons_succ, Array.getD_eq_getD_getElem?, List.getElem?_toArray, List.getElem?_cons_zero, List.getElem?_cons_succ, Option.getD_some])
      | (refine walks_assign rfl rfl ?_; simp only [Act.put, Act.eval, List.setIfInBounds_toArray, List.set_cons_zero, List.set_cons_succ, Array.getD_eq_getD_getElem?, List.getElem?_toArray, List.getElem?_cons_zero, List.getElem?_cons_succ, Option.getD_some])
      | (refine walks_skip rfl rfl ?_; simp only [Act.put, List.setIfInBounds_toArray, List.set_cons_zero, List.set_cons_succ])
      | (refine walks_read (v := .agg cs) rfl rfl (fun w' hE => run_load_row 42 (.tmp 2) rfl _ rfl _ cs _ (row_later Hg3.out (hxD.trans hE)) Try.underlying42 rfl Zc.out) ?_; simp only [Act.put, List.setIfInBounds_toArray, List.set_cons_zero, List.set_cons_succ])
      | (refine walks_read (v := .agg ds) rfl rfl (fun w' hE => run_load_row 42 (.tmp 3) rfl _ rfl _ ds _ (row_later Hg2.out (hxD.trans hE)) Try.underlying42 rfl Zd.out) ?_; simp only [Act.put, List.setIfInBounds_toArray, List.set_cons_zero, List.set_cons_succ])
      | (refine walks_read rfl rfl (fun w' hE => run_plain_op a b (.tmp 6) (.tmp 8) rfl rfl rfl B0.out) ?_; simp only [Act.put, List.setIfInBounds_toArray, List.set_cons_zero, List.set_cons_succ])
      | (refine walks_unwanted rfl rfl ?_; simp only [Act.put, List.setIfInBounds_toArray, List.set_cons_zero, List.set_cons_succ])
      | (refine walks_read (v := ?_) rfl rfl (fun w' hE => ?_) ?_; rotate_left 1; (· ((try (have hEx := Ext.trans (Hid.out XE) hE)); go_simp; (try go_bits); with_reducible rfl)); simp only [Act.put, List.setIfInBounds_toArray, List.set_cons_zero, List.set_cons_succ])
      | (refine walks_alt ?_ ?_)
      | (refine walks_main rfl rfl (fun K hK => ?_); go_wp2_with (first | (go_at_call 25; (with_reducible refine (plain_any hcs _).mono ?_); rintro e w3 ⟨rfl, hx3⟩; have XE' := hid (Ext.trans (Hid.out XE) hx3); clear XE; have XE := XE'; clear XE'; have X3 := hid (hxD.trans hx3)) | (go_at_call 25; (with_reducible refine (plain_any hds _).mono ?_); rintro e w4 ⟨rfl, hx4⟩; have XE' := hid (Ext.trans (Hid.out XE) hx4); clear XE; have XE := XE'; clear XE'; have X4 := hid (X3.out.trans hx4)) | (go_at_call 26; (with_reducible refine (HFS.out _ X4.out).mono ?_); rintro e w5 ⟨he, hx5⟩; have XE' := hid (Ext.trans (Hid.out XE) hx5); clear XE; have XE := XE'; clear XE'; rw [B1.out] at he; subst he; have X5 := hid (X4.out.trans hx5)) | (go_at_call 27; (with_reducible refine (equaltexts_any (Ha2.out.attrs.ext X5.out) (Hb2.out.attrs.ext X5.out)).mono ?_); rintro e w6 ⟨he, hx6⟩; have XE' := hid (Ext.trans (Hid.out XE) hx6); clear XE; have XE := XE'; clear XE'; rw [B2.out] at he; subst he; have X6 := hid (X5.out.trans hx6)) | (go_at_call 28; (with_reducible refine (equalatts_any (Ha2.out.list.ext X6.out) (Hb2.out.list.ext X6.out)).mono ?_); rintro e w7 ⟨he, hx7⟩; have XE' := hid (Ext.trans (Hid.out XE) hx7); clear XE; have XE := XE'; clear XE'; rw [B3.out] at he; subst he; have X7 := hid (X6.out.trans hx7)) | (go_at_call 30; (with_reducible refine (equalchanges_any (Ha2.out.chgs.ext X7.out) (Hb2.out.chgs.ext X7.out)).mono ?_); rintro e w8 ⟨he, hx8⟩; have XE' := hid (Ext.trans (Hid.out XE) hx8); clear XE; have XE := XE'; clear XE'; rw [B4.out] at he; subst he; have X8 := hid (X7.out.trans hx8)) | (go_at_call 27; (with_reducible refine (equaltexts_any (Ha2.out.refs.ext X8.out) (Hb2.out.refs.ext X8.out)).mono ?_); rintro e w9 ⟨he, hx9⟩; have XE' := hid (Ext.trans (Hid.out XE) hx9); clear XE; have XE := XE'; clear XE'; rw [B5.out] at he; subst he; have X9 := hid (X8.out.trans hx9)) | (go_at_call 32; (with_reducible refine (equalctls_any (Ha2.out.ctls.ext X9.out) (Hb2.out.ctls.ext X9.out)).mono ?_); rintro e w10 ⟨he, hx10⟩; have XE' := hid (Ext.trans (Hid.out XE) hx10); clear XE; have XE := XE'; clear XE'; rw [B6.out] at he; subst he)); refine hK _ _ (by first | assumption | exact Ext.alloc _ _ | exact Ext.refl _) ?_; clear hK K; try simp only [Act.put, List.setIfInBounds_toArray, List.set_cons_zero, List.set_cons_succ]))
    refine walks_done ?_
    go_wp2
    go_ret
    exact ⟨ret_bool HF.out, X2.out.trans (hxD.trans XE.out)⟩
end Go.Proofs.Ytabaeiolpbdjnaa
