/- MsgSame: the walk of the law, where what comes in is of bulk at most 1048576. -/
import Derived.Test.YtabaeiolpbdjnaaEb
import Derived.Test.YtabaeiolpbdjnaaMj
import Derived.Test.YtabaeiolpbdjnaaMk
import Derived.Test.YtabaeiolpbdjnaaMo
namespace Go.Proofs.Ytabaeiolpbdjnaa
open Go.RowKit
set_option maxRecDepth 100000
set_option linter.unusedSimpArgs false

def idM : Msg := ⟨3, 2, ByteArray.empty, ByteArray.empty, 0, 0, 0, 0, 0, false, zeroFil, [], [], [], ByteArray.empty, false, false, ByteArray.empty, ByteArray.empty, ByteArray.empty, 0, 0, ByteArray.empty, ByteArray.empty, [], []⟩
def nilD : MsgD := ⟨nilS, nilS, nilS, nilS, nilS, nilS, nilS⟩
theorem id_rows (w : World) : MsgRows (fun _ => True) w idM nilD := ⟨Row.nil _ _ _, Row.nil _ _ _, Row.nil _ _ _, Row.nil _ _ _, Row.nil _ _ _, Row.nil _ _ _, Row.nil _ _ _⟩
theorem headB_refl (m : Msg) : headB m m = true := by simp [headB]
theorem sameB_refl (m : Msg) : sameB m m = true := by unfold sameB; rw [headB_refl]; simp
theorem own_id : ownM idM = idM := by rfl
theorem sound_id : soundB false idM = true := by
  unfold soundB
  rw [own_id, sameB_refl]
  rfl
theorem unbind_id : unbindB idM = [48, 5, 2, 1, 3, 66, 0] := by decide
section
variable {P : Program} {w : World} {o : Oper} {a : Act} {Q : Exit → Act → World → Prop} {ops : Array Oper} {rest : List Oper}
/-- A guarded operation that comes up. -/
theorem wpList_wanted (hw : Region.wanted o (yielded ops a.tmps) = true) (h : ∀ K : Act → World → Prop, (∀ a' w', wpList P ops Q rest a' w' → K a' w') → o.wp P a w K Q) : wpList P ops Q (o :: rest) a w := by
  unfold wpList
  rw [if_pos hw]
  exact .inl (h _ fun _ _ h => h)
theorem load_row_wanted (hw : Region.wanted o (yielded ops a.tmps) = true) (ty : TypeId) (x : Operand) (ho : o.op = .load ty x)
    (g : Nat) (hx : a.eval x = .pointer (some ⟨g, 0, none⟩)) (t : TypeId) (cs : Array Value) (d : TypeDesc) (hg : w.heap[g]? = some (.cells cs t (0, 0)))
    (hu : P.underlying ty = some d) (hd : (match d with | .struct _ | .array _ _ => true | _ => false) = true) (hi : (P.info? ty).map (·.size) = some cs.size)
    (h : wpList P ops Q rest (a.put o.dst (.agg cs)) w) : wpList P ops Q (o :: rest) a w :=
  wpList_wanted hw fun _ hK => wp_load_row ty x ho g hx t cs (0, 0) d hg hu hd hi (hK _ _ h)
end
theorem awake_any (w : World) : Calls Try.prog 5 #[] w fun e w' => e = .returned (.bool true) ∧ Ext w w' := by
  have HU := hid unbind_id
  obtain ⟨cs, hcs⟩ : ∃ cs, cs = (msgCells idM nilD).toArray := ⟨_, rfl⟩
  have HE : Hid (∀ w, Calls Try.prog 7 #[.agg cs] w fun e w' => ∃ A n c, e = .returned (.tuple #[.slice A n c, .int .i64 0]) ∧ Sl w' A n c [48, 5, 2, 1, 3, 66, 0] ∧ Ext w w') := fun w => by
    have h := encode_bare (m := idM) (d := nilD) (S := fun _ => True) (cs := cs) hcs w (id_rows _) rfl rfl (by decide) sound_id
    rw [unbind_id] at h
    exact h
  have HC := hid hcs
  clear hcs
  go_enter Try.func5, Try.ntmps5
  go_wp2_with (first
    | (refine value_arm rfl 4 rfl (.agg cs) (by rw [HC.out]; kernel_rfl) ?_)
    | (go_at_call 7; (with_reducible refine (HE.out _).mono ?_); rintro e w1 ⟨A1, n1, c1, rfl, hs1, hx1⟩; have hcv := hs1.conv _ (Ext.refl _); clear hs1))
  go_ret
  exact ⟨rfl, hx1⟩
set_option maxHeartbeats 4000000 in
theorem msgSame_walk (a : Msg) (d : MsgD) (b : Msg) (e' : MsgD) (w : World) (ha : MsgRows (fun _ => True) w a d) (oa : MsgOk a) (hb : MsgRows (fun _ => True) w b e') (ob : MsgOk b) :
    Calls Try.prog 4 #[.agg (msgCells a d).toArray, .agg (msgCells b e').toArray] w fun e w' => e = .returned (.bool true) ∧ Below w.heap.size w w' := by
  obtain ⟨cs, hcs0⟩ : ∃ cs, cs = (msgCells a d).toArray := ⟨_, rfl⟩
  obtain ⟨ds, hds0⟩ : ∃ ds, ds = (msgCells b e').toArray := ⟨_, rfl⟩
  rw [← hcs0, ← hds0]
  have hcs := hid hcs0
  have hds := hid hds0
  have Ha := hid ha
  have Hb := hid hb
  have Zc : Hid ((Try.prog.info? 30).map (·.size) = some cs.size) := by show _ = _; rw [hcs0]; kernel_rfl
  have Zd : Hid ((Try.prog.info? 30).map (·.size) = some ds.size) := by show _ = _; rw [hds0]; kernel_rfl
  have Fa := hid oa.fil.ok
  have Fb := hid ob.fil.ok
  have Ka := hid oa.ctls.1
  have Kb := hid ob.ctls.1
  have HRF := hid (sameB_refl a)
  clear hcs0 hds0 ha hb oa ob
  go_enter Try.func4, Try.ntmps4
  go_wp2_with (first
    | (refine box_arm rfl 30 (.tmp 0) rfl cs rfl ?_; intro w1 hx1 hz1 hg1; have Hg1 := hid hg1; clear hz1 hg1)
    | (refine box_arm rfl 30 (.tmp 1) rfl ds rfl ?_; intro w2 hx2 hz2 hg2; have Hg2 := hid hg2; have Hg3 := hid (row_later Hg1.out hx2); have X2 := hid (hx1.trans hx2); clear hz2 hg2 Hg1)
    | (go_at_call 5; (with_reducible refine (awake_any _).mono ?_); rintro e w3 ⟨rfl, hx3⟩; have X3 := hid hx3; clear hx3)
    | (refine load_row_wanted (by kernel_rfl) 30 (.tmp 2) rfl w.heap.size rfl _ _ _ (row_later Hg3.out X3.out) Try.underlying30 rfl Zc.out ?_))
  refine (msgsmall_any hcs _ (Ha.out.ext (X2.out.trans X3.out))).mono ?_
  rintro e w4 ⟨r, rfl, hx4⟩
  have X4 := hid (X3.out.trans hx4)
  clear hx4 X3
  cases r
  · go_wp2_with (go_at_call 5; (with_reducible refine (awake_any _).mono ?_); rintro e w5 ⟨rfl, hx5⟩)
    go_ret
    exact ⟨rfl, X2.out.trans (X4.out.trans hx5)⟩
  go_wp2_with (refine load_row_wanted (by kernel_rfl) 30 (.tmp 3) rfl w1.heap.size rfl _ _ _ (row_later Hg2.out X4.out) Try.underlying30 rfl Zd.out ?_)
  refine (msgsmall_any hds _ (Hb.out.ext (X2.out.trans X4.out))).mono ?_
  rintro e w6 ⟨r, rfl, hx6⟩
  have X6 := hid (X4.out.trans hx6)
  clear hx6 X4
  cases r
  · go_wp2_with (go_at_call 5; (with_reducible refine (awake_any _).mono ?_); rintro e w5 ⟨rfl, hx5⟩)
    go_ret
    exact ⟨rfl, X2.out.trans (X6.out.trans hx5)⟩
  cases hab : sameB a b
  all_goals
    have HAB := hid hab
    clear hab
    go_wp2
    refine wp_region_plan (.read 0 (.read 2 (.read 5 (.read 6 (.main 1 (.main 3 (.main 4 (.main 7 (.read 8 (.read 9 (.read 10 (.read 12 (.main 11 (.main 13 (.main 14 (.read 15 (.read 16 .done))))))))))))))))) (by kernel_rfl) (by kernel_rfl) ?_
    intro wD hxD
    have XE : Hid (Ext wD wD) := Ext.refl _
    have XW := hid (X2.out.trans (X6.out.trans hxD))
    have XG := hid (X6.out.trans hxD)
    repeat' (first
      | (refine walks_move rfl rfl ?_; simp only [Act.put, Act.eval, List.setIfInBounds_toArray, List.set_cons_zero, List.set_cons_succ, Array.getD_eq_getD_getElem?, List.getElem?_toArray, List.getElem?_cons_zero, List.getElem?_cons_succ, Option.getD_some])
      | (refine walks_assign rfl rfl ?_; simp only [Act.put, Act.eval, List.setIfInBounds_toArray, List.set_cons_zero, List.set_cons_succ, Array.getD_eq_getD_getElem?, List.getElem?_toArray, List.getElem?_cons_zero, List.getElem?_cons_succ, Option.getD_some])
      | (refine walks_skip rfl rfl ?_; simp only [Act.put, List.setIfInBounds_toArray, List.set_cons_zero, List.set_cons_succ])
      | (refine walks_read (v := .agg cs) rfl rfl (fun w' hE => run_load_row 30 (.tmp 2) rfl _ rfl _ cs _ (row_later Hg3.out (XG.out.trans (XE.out.trans hE))) Try.underlying30 rfl Zc.out) ?_; simp only [Act.put, List.setIfInBounds_toArray, List.set_cons_zero, List.set_cons_succ])
      | (refine walks_read (v := .agg ds) rfl rfl (fun w' hE => run_load_row 30 (.tmp 3) rfl _ rfl _ ds _ (row_later Hg2.out (XG.out.trans (XE.out.trans hE))) Try.underlying30 rfl Zd.out) ?_; simp only [Act.put, List.setIfInBounds_toArray, List.set_cons_zero, List.set_cons_succ])
      | (refine walks_unwanted rfl rfl ?_; simp only [Act.put, List.setIfInBounds_toArray, List.set_cons_zero, List.set_cons_succ])
      | (refine walks_read (v := ?_) rfl rfl (fun w' hE => ?_) ?_; rotate_left 1; (· ((try (have hEx := Ext.trans (Hid.out XE) hE)); go_simp; (try go_bits); with_reducible rfl)); simp only [Act.put, List.setIfInBounds_toArray, List.set_cons_zero, List.set_cons_succ])
      | (refine walks_alt ?_ ?_)
      | (refine walks_main rfl rfl (fun K hK => ?_); go_wp2_with (first | (have chk := HU5; clear chk; go_at_call 8; (with_reducible refine (theirsmsg_any hcs _ (Ha.out.ext (XW.out.trans XE.out)) Fa.out Ka.out).mono ?_); rintro e w12 ⟨us6, d6, rfl, hu6, hr6, hx12⟩; have HU6 := hid hu6; have HR6 := hid hr6; have HR5' := hid (HR5.out.ext hx12); clear hu6 hr6; have XE' := hid (Ext.trans (Hid.out XE) hx12); clear XE; have XE := XE'; clear XE') | (have chk := XS; clear chk; go_at_call 8; (with_reducible refine (theirsmsg_any hcs _ (Ha.out.ext (XW.out.trans XE.out)) Fa.out Ka.out).mono ?_); rintro e w11 ⟨us5, d5, rfl, hu5, hr5, hx11⟩; have HU5 := hid hu5; have HR5 := hid hr5; clear hu5 hr5; have XE' := hid (Ext.trans (Hid.out XE) hx11); clear XE; have XE := XE'; clear XE') | (go_at_call 8; (with_reducible refine (theirsmsg_any hcs _ (Ha.out.ext (XW.out.trans XE.out)) Fa.out Ka.out).mono ?_); rintro e w7 ⟨us1, d1, rfl, hu1, hr1, hx7⟩; have HU1 := hid hu1; have HR1 := hid hr1; clear hu1 hr1; have XE' := hid (Ext.trans (Hid.out XE) hx7); clear XE; have XE := XE'; clear XE') | (go_at_call 8; (with_reducible refine (theirsmsg_any hds _ (Hb.out.ext (XW.out.trans XE.out)) Fb.out Kb.out).mono ?_); rintro e w8 ⟨us2, d2, rfl, hu2, hr2, hx8⟩; have HU2 := hid hu2; have HR2 := hid hr2; have HR1' := hid (HR1.out.ext hx8); clear hu2 hr2; have XE' := hid (Ext.trans (Hid.out XE) hx8); clear XE; have XE := XE'; clear XE') | (go_at_call 10; (with_reducible refine (msgsame_any HU1 HU2 _ HR1'.out HR2.out).mono ?_); rintro e w9 ⟨he, hx9⟩; rw [HAB.out] at he; subst he; have XE' := hid (Ext.trans (Hid.out XE) hx9); clear XE; have XE := XE'; clear XE') | (go_at_call 10; (with_reducible refine (msgsame_any HU5 HU6 _ HR5'.out HR6.out).mono ?_); rintro e w13 ⟨he, hx13⟩; rw [HRF.out] at he; subst he; have XE' := hid (Ext.trans (Hid.out XE) hx13); clear XE; have XE := XE'; clear XE') | (go_at_call 11; (with_reducible refine (rmsgsame_any hcs hds _ (Ha.out.ext (XW.out.trans XE.out)) (Hb.out.ext (XW.out.trans XE.out))).mono ?_); rintro e w10 ⟨he, hx10⟩; rw [HAB.out] at he; subst he; have XS := hid hx10; have XE' := hid (Ext.trans (Hid.out XE) hx10); clear XE; have XE := XE'; clear XE')); refine hK _ _ (by first | assumption | exact Ext.alloc _ _ | exact Ext.refl _) ?_; clear hK K; try simp only [Act.put, List.setIfInBounds_toArray, List.set_cons_zero, List.set_cons_succ]))
    refine walks_done ?_
    go_wp2
    go_ret
    exact ⟨rfl, XW.out.trans XE.out⟩
end Go.Proofs.Ytabaeiolpbdjnaa
