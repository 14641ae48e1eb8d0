/- The walk of msg's sound. -/
import Derived.Test.YtabaeiolpbdjnaaOx
import Derived.Test.YtabaeiolpbdjnaaSi
import Derived.Test.YtabaeiolpbdjnaaMi
import Derived.Test.YtabaeiolpbdjnaaCv
import Derived.Deep.Cut
import Derived.Deep.DeepCutAuto
namespace Go.Proofs.Ytabaeiolpbdjnaa
open Go.RowKit
set_option maxRecDepth 100000
set_option linter.unusedSimpArgs false

/-- An integer within a message. -/
def msgIntB (n : Int) : Bool := !(decide (n < 0) || decide (2147483647 < n))
def fiveInts (m : Msg) : List Int := [m.id, m.size, m.time, m.target, m.code]
def rangeB (m : Msg) : Bool := !(decide (m.ver < 0) || decide (127 < m.ver) || decide (m.scope < 0) || decide (2 < m.scope) || decide (m.deref < 0) || decide (3 < m.deref))
def chgShortB (c : Chg) : Bool := !(decide (c.op < 0) || decide (3 < c.op) || !(shortAttB c.att))
def ctlShortB (c : Ctl) : Bool := !(!(shortB [c.oid, c.val]) || (c.val.toList != ByteArray.empty.toList && !c.has))
noncomputable def soundB (fb : Bool) (m : Msg) : Bool :=
  (fiveInts m).all msgIntB && (knownB m.kind && sameB m (ownM m)) && rangeB m && !(m.kind == 3 && !fb) && !(m.kind == 19 && m.refs.length == 0) &&
    (shortB [m.name, m.pw, m.nrdn, m.sup, m.attr, m.value, m.matched, m.text] && shortB m.attrs && shortB m.refs) && m.list.all shortAttB && m.chgs.all chgShortB && m.ctls.all ctlShortB
theorem intCell {cs : Array Value} {l : List Int} {w : World} {g : Nat} {T : TypeId} (hg : w.heap[g]? = some (.cells cs T (0, 0))) (hl : cs = (l.map (Value.int .i64)).toArray) {j : Nat} {x : Int} (hx : l[j]? = some x) : w.cell? ⟨g, j, none⟩ = some (.int .i64 x) := by
  rw [cell_of_row _ _ j cs T (0, 0) hg, hl]
  simp [hx]
theorem all_take {α : Type} {p : α → Bool} {l : List α} {j : Nat} {x : α} (h : (l.take j).all p = true) (hx : l[j]? = some x) (hp : p x = true) : (l.take (j + 1)).all p = true := by
  rw [List.take_add_one, hx]
  simp only [Option.toList, List.all_append, h, List.all_cons, hp, List.all_nil, Bool.and_self]
theorem all_at {α : Type} {p : α → Bool} {l : List α} {j : Nat} {x : α} (hx : l[j]? = some x) (hp : p x = false) : l.all p = false := by
  rw [List.all_eq_false]
  exact ⟨x, List.mem_of_getElem? hx, by rw [hp]; simp⟩
theorem alloc_name (w : World) (o : Obj) : ∃ w', w' = w.alloc o ∧ Ext w w' ∧ w'.heap.size = w.heap.size + 1 ∧ w'.heap[w.heap.size]? = some o := ⟨_, rfl, Ext.alloc _ _, by simp, heap_alloc_new _ _⟩
theorem fin_false {fb : Bool} {m : Msg} {w w' : World} (h : soundB fb m = false) (hx : Ext w w') : Ending.returned (.bool false) = .returned (.bool (soundB fb m)) ∧ Ext w w' := ⟨by rw [h], hx⟩
section
variable {fb : Bool} {m : Msg}
theorem sound_f1 (h : (fiveInts m).all msgIntB = false) : soundB fb m = false := by simp [soundB, h]
theorem sound_f2 (h : (knownB m.kind && sameB m (ownM m)) = false) : soundB fb m = false := by unfold soundB; rw [h]; simp
theorem sound_f3 (h : rangeB m = false) : soundB fb m = false := by simp [soundB, h]
theorem sound_f4 (h : (m.kind == 3 && !fb) = true) : soundB fb m = false := by unfold soundB; rw [h]; simp
theorem sound_f5 (h : (m.kind == 19 && m.refs.length == 0) = true) : soundB fb m = false := by unfold soundB; rw [h]; simp
theorem sound_f6 (h : (shortB [m.name, m.pw, m.nrdn, m.sup, m.attr, m.value, m.matched, m.text] && shortB m.attrs && shortB m.refs) = false) : soundB fb m = false := by unfold soundB; rw [h]; simp
theorem sound_f7 (h : m.list.all shortAttB = false) : soundB fb m = false := by simp [soundB, h]
theorem sound_f8 (h : m.chgs.all chgShortB = false) : soundB fb m = false := by simp [soundB, h]
theorem sound_f9 (h : m.ctls.all ctlShortB = false) : soundB fb m = false := by simp [soundB, h]
theorem sound_t (h1 : (fiveInts m).all msgIntB = true) (h2 : (knownB m.kind && sameB m (ownM m)) = true) (h3 : rangeB m = true) (h4 : (m.kind == 3 && !fb) = false) (h5 : (m.kind == 19 && m.refs.length == 0) = false)
    (h6 : (shortB [m.name, m.pw, m.nrdn, m.sup, m.attr, m.value, m.matched, m.text] && shortB m.attrs && shortB m.refs) = true) (h7 : m.list.all shortAttB = true) (h8 : m.chgs.all chgShortB = true) (h9 : m.ctls.all ctlShortB = true) : soundB fb m = true := by
  unfold soundB
  rw [h1, h2, h3, h4, h5, h6, h7, h8, h9]
  rfl
end
set_option maxHeartbeats 8000000 in
theorem sound_any {m : Msg} {d : MsgD} {cs : Array Value} {S : Nat → Prop} {fb : Bool} (hcs : Hid (cs = (msgCells m d).toArray)) (w : World) (hm : MsgRows S w m d)
    (hF : m.kind = 3 → ∀ (T : Nat → Prop) (vs : List Value) (w : World), FilAt T w vs m.fil → Calls Try.prog 41 #[.agg vs.toArray] w fun e w' => e = .returned (.bool fb) ∧ Ext w w') :
    Calls Try.prog 13 #[.agg cs] w fun e w' => e = .returned (.bool (soundB fb m)) ∧ Ext w w' := by
  have Hm := hid hm
  have HF := hid hF
  have Zc := hid (msgSize hcs)
  clear hm hF
  go_enter Try.func13, Try.ntmps13
  go_wp2_with (first
    | (refine box_arm rfl 42 (.tmp 0) rfl cs rfl ?_; intro w1 hx1 hz1 hg1; have Hg1 := hid hg1; have X1 := hid hx1; have y0 := (boxCell Hg1.out 0 hcs rfl).out; have y7 := (boxCell Hg1.out 7 hcs rfl).out; have y8 := (boxCell Hg1.out 8 hcs rfl).out; have y26 := (boxCell Hg1.out 26 hcs rfl).out; have y27 := (boxCell Hg1.out 27 hcs rfl).out; clear hz1 hg1 hx1))
  clear y0 y7 y8 y26 y27
  obtain ⟨w2, hw2, hx2, hz2, hg2⟩ := alloc_name w1 (.cells #[.int .i64 m.id, .int .i64 m.size, .int .i64 m.time, .int .i64 m.target, .int .i64 m.code] 2)
  rw [← hw2]
  have HI : Hid (∀ (j : Nat) (x : Int), (fiveInts m)[j]? = some x → w2.cell? ⟨w1.heap.size, j, none⟩ = some (.int .i64 x)) := fun j x hx => intCell hg2 rfl hx
  have X12 := hid hx2
  have X2 := hid (X1.out.trans hx2)
  have hlt1 : w1.heap.size < w2.heap.size := by omega
  clear hw2 hg2 hx2 hz2
  go_loopw [23] (fun i wr => ∃ j : Nat, j ≤ 5 ∧ i = .int .i64 j ∧ wr = w2 ∧ Hid (((fiveInts m).take j).all msgIntB = true)) (fun i _ => 5 - (intOf i).toNat)
  case atStart => exact ⟨0, by omega, by simp [Hid]⟩
  case round =>
    obtain ⟨j, hj, rfl, rfl, HJ⟩ := hrel
    by_cases hlt : j < 5
    · obtain ⟨x, hx⟩ : ∃ x, (fiveInts m)[j]? = some x := ⟨_, List.getElem?_eq_getElem (by simpa [fiveInts] using hlt)⟩
      have e1 := HI.out j x hx
      have HX := hid hx
      clear hx
      by_cases hn : x < 0
      · have HP : Hid (msgIntB x = false) := by show _ = _; simp [msgIntB, hn]
        go_wp2
        go_ret
        exact fin_false (sound_f1 (all_at HX.out HP.out)) X2.out
      · by_cases hb : 2147483647 < x
        · have HP : Hid (msgIntB x = false) := by show _ = _; simp [msgIntB, hb]
          go_wp2
          go_ret
          exact fin_false (sound_f1 (all_at HX.out HP.out)) X2.out
        · have HP : Hid (msgIntB x = true) := by show _ = _; simp only [msgIntB, decide_eq_false hn, decide_eq_false hb]; rfl
          go_wp2
          exact ⟨⟨j + 1, by omega, by go_num, trivial, all_take HJ.out HX.out HP.out⟩, by simp [intOf]; omega⟩
    · obtain rfl : j = 5 := by omega
      have H1 : Hid ((fiveInts m).all msgIntB = true) := HJ.out
      clear HJ hj hlt
      go_wp2
      cases hk : knownB m.kind
      case false =>
        have HK := hid hk
        clear hk
        have HB : Hid (False) → True := fun _ => trivial
        refine wp_region_plan (.read 0 (.read 1 (.main 2 (.read 3 (.read 4 (.read 5 (.read 6 (.main 7 (.main 8 (.read 9 (.read 10 (.read 11 .done)))))))))))) (by kernel_rfl) (by kernel_rfl) ?_
        intro wD hxD
        have XE : Hid (Ext wD wD) := Ext.refl _
        have p1 := box2 Hg1.out 1 hcs rfl (X12.out.trans hxD)
        repeat' (first
          | (refine walks_move rfl rfl ?_; simp only [Act.put, Act.eval, List.setIfInBounds_toArray, List.set_cons_zero, List.set_cons_succ, Array.getD_eq_getD_getElem?, List.getElem?_toArray, List.getElem?_cons_zero, List.getElem?_cons_succ, Option.getD_some])
          | (refine walks_assign rfl rfl ?_; simp only [Act.put, Act.eval, List.setIfInBounds_toArray, List.set_cons_zero, List.set_cons_succ, Array.getD_eq_getD_getElem?, List.getElem?_toArray, List.getElem?_cons_zero, List.getElem?_cons_succ, Option.getD_some])
          | (refine walks_skip rfl rfl ?_; simp only [Act.put, List.setIfInBounds_toArray, List.set_cons_zero, List.set_cons_succ])
          | (refine walks_read (v := .agg cs) rfl rfl (fun w' hE => run_load_row 42 (.tmp 1) rfl _ rfl _ cs _ (row_later Hg1.out (X12.out.trans (hxD.trans (XE.out.trans hE)))) Try.underlying42 rfl Zc.out) ?_; simp only [Act.put, List.setIfInBounds_toArray, List.set_cons_zero, List.set_cons_succ])
          | (refine walks_unwanted rfl rfl ?_; simp only [Act.put, List.setIfInBounds_toArray, List.set_cons_zero, List.set_cons_succ])
          | (refine walks_read (v := ?_) rfl rfl (fun w' hE => ?_) ?_; rotate_left 1; (· ((try (have hEx := Ext.trans (Hid.out XE) hE)); go_simp; (try go_bits); with_reducible rfl)); simp only [Act.put, List.setIfInBounds_toArray, List.set_cons_zero, List.set_cons_succ])
          | (refine walks_alt ?_ ?_)
          | (refine walks_main rfl rfl (fun K hK => ?_); go_wp2_with (first | (go_at_call 39; (with_reducible refine (known_any _ _).mono ?_); rintro e w3 ⟨he, rfl⟩; rw [HK.out] at he; subst he) | (go_at_call 40; (with_reducible refine (own_any hcs _ (Hm.out.ext (X2.out.trans (hxD.trans XE.out))) HK.out).mono ?_); rintro e w4 ⟨us, d4, rfl, hus, hr4, hx4⟩; have Hus := hid hus; have HR4 := hid hr4; clear hus hr4; have XE' := hid (Ext.trans (Hid.out XE) hx4); clear XE; have XE := XE'; clear XE') | (go_at_call 10; (with_reducible refine (msgsame_any hcs Hus _ (Hm.out.ext (X2.out.trans (hxD.trans XE.out))) HR4.out).mono ?_); rintro e w5 ⟨he, hx5⟩; rw [HB.out] at he; subst he; have XE' := hid (Ext.trans (Hid.out XE) hx5); clear XE; have XE := XE'; clear XE')); refine hK _ _ (by first | assumption | exact Ext.alloc _ _ | exact Ext.refl _) ?_; clear hK K; try simp only [Act.put, List.setIfInBounds_toArray, List.set_cons_zero, List.set_cons_succ]))
        refine walks_done ?_
        have X7 := hid (X2.out.trans (hxD.trans XE.out))
        have X17 := hid (X12.out.trans (hxD.trans XE.out))
        clear p1 XE hxD
        go_wp2
        go_ret
        exact fin_false (sound_f2 (by rw [HK.out]; rfl)) X7.out
      case true =>
        have HK := hid hk
        clear hk
        cases hb : sameB m (ownM m)
        case false =>
          have HB := hid hb
          clear hb
          refine wp_region_plan (.read 0 (.read 1 (.main 2 (.read 3 (.read 4 (.read 5 (.read 6 (.main 7 (.main 8 (.read 9 (.read 10 (.read 11 .done)))))))))))) (by kernel_rfl) (by kernel_rfl) ?_
          intro wD hxD
          have XE : Hid (Ext wD wD) := Ext.refl _
          have p1 := box2 Hg1.out 1 hcs rfl (X12.out.trans hxD)
          repeat' (first
            | (refine walks_move rfl rfl ?_; simp only [Act.put, Act.eval, List.setIfInBounds_toArray, List.set_cons_zero, List.set_cons_succ, Array.getD_eq_getD_getElem?, List.getElem?_toArray, List.getElem?_cons_zero, List.getElem?_cons_succ, Option.getD_some])
            | (refine walks_assign rfl rfl ?_; simp only [Act.put, Act.eval, List.setIfInBounds_toArray, List.set_cons_zero, List.set_cons_succ, Array.getD_eq_getD_getElem?, List.getElem?_toArray, List.getElem?_cons_zero, List.getElem?_cons_succ, Option.getD_some])
            | (refine walks_skip rfl rfl ?_; simp only [Act.put, List.setIfInBounds_toArray, List.set_cons_zero, List.set_cons_succ])
            | (refine walks_read (v := .agg cs) rfl rfl (fun w' hE => run_load_row 42 (.tmp 1) rfl _ rfl _ cs _ (row_later Hg1.out (X12.out.trans (hxD.trans (XE.out.trans hE)))) Try.underlying42 rfl Zc.out) ?_; simp only [Act.put, List.setIfInBounds_toArray, List.set_cons_zero, List.set_cons_succ])
            | (refine walks_unwanted rfl rfl ?_; simp only [Act.put, List.setIfInBounds_toArray, List.set_cons_zero, List.set_cons_succ])
            | (refine walks_read (v := ?_) rfl rfl (fun w' hE => ?_) ?_; rotate_left 1; (· ((try (have hEx := Ext.trans (Hid.out XE) hE)); go_simp; (try go_bits); with_reducible rfl)); simp only [Act.put, List.setIfInBounds_toArray, List.set_cons_zero, List.set_cons_succ])
            | (refine walks_alt ?_ ?_)
            | (refine walks_main rfl rfl (fun K hK => ?_); go_wp2_with (first | (go_at_call 39; (with_reducible refine (known_any _ _).mono ?_); rintro e w3 ⟨he, rfl⟩; rw [HK.out] at he; subst he) | (go_at_call 40; (with_reducible refine (own_any hcs _ (Hm.out.ext (X2.out.trans (hxD.trans XE.out))) HK.out).mono ?_); rintro e w4 ⟨us, d4, rfl, hus, hr4, hx4⟩; have Hus := hid hus; have HR4 := hid hr4; clear hus hr4; have XE' := hid (Ext.trans (Hid.out XE) hx4); clear XE; have XE := XE'; clear XE') | (go_at_call 10; (with_reducible refine (msgsame_any hcs Hus _ (Hm.out.ext (X2.out.trans (hxD.trans XE.out))) HR4.out).mono ?_); rintro e w5 ⟨he, hx5⟩; rw [HB.out] at he; subst he; have XE' := hid (Ext.trans (Hid.out XE) hx5); clear XE; have XE := XE'; clear XE')); refine hK _ _ (by first | assumption | exact Ext.alloc _ _ | exact Ext.refl _) ?_; clear hK K; try simp only [Act.put, List.setIfInBounds_toArray, List.set_cons_zero, List.set_cons_succ]))
          refine walks_done ?_
          have X7 := hid (X2.out.trans (hxD.trans XE.out))
          have X17 := hid (X12.out.trans (hxD.trans XE.out))
          clear p1 XE hxD
          go_wp2
          go_ret
          exact fin_false (sound_f2 (by rw [HK.out, HB.out]; rfl)) X7.out
        case true =>
          have HB := hid hb
          clear hb
          refine wp_region_plan (.read 0 (.read 1 (.main 2 (.read 3 (.read 4 (.read 5 (.read 6 (.main 7 (.main 8 (.read 9 (.read 10 (.read 11 .done)))))))))))) (by kernel_rfl) (by kernel_rfl) ?_
          intro wD hxD
          have XE : Hid (Ext wD wD) := Ext.refl _
          have p1 := box2 Hg1.out 1 hcs rfl (X12.out.trans hxD)
          repeat' (first
            | (refine walks_move rfl rfl ?_; simp only [Act.put, Act.eval, List.setIfInBounds_toArray, List.set_cons_zero, List.set_cons_succ, Array.getD_eq_getD_getElem?, List.getElem?_toArray, List.getElem?_cons_zero, List.getElem?_cons_succ, Option.getD_some])
            | (refine walks_assign rfl rfl ?_; simp only [Act.put, Act.eval, List.setIfInBounds_toArray, List.set_cons_zero, List.set_cons_succ, Array.getD_eq_getD_getElem?, List.getElem?_toArray, List.getElem?_cons_zero, List.getElem?_cons_succ, Option.getD_some])
            | (refine walks_skip rfl rfl ?_; simp only [Act.put, List.setIfInBounds_toArray, List.set_cons_zero, List.set_cons_succ])
            | (refine walks_read (v := .agg cs) rfl rfl (fun w' hE => run_load_row 42 (.tmp 1) rfl _ rfl _ cs _ (row_later Hg1.out (X12.out.trans (hxD.trans (XE.out.trans hE)))) Try.underlying42 rfl Zc.out) ?_; simp only [Act.put, List.setIfInBounds_toArray, List.set_cons_zero, List.set_cons_succ])
            | (refine walks_unwanted rfl rfl ?_; simp only [Act.put, List.setIfInBounds_toArray, List.set_cons_zero, List.set_cons_succ])
            | (refine walks_read (v := ?_) rfl rfl (fun w' hE => ?_) ?_; rotate_left 1; (· ((try (have hEx := Ext.trans (Hid.out XE) hE)); go_simp; (try go_bits); with_reducible rfl)); simp only [Act.put, List.setIfInBounds_toArray, List.set_cons_zero, List.set_cons_succ])
            | (refine walks_alt ?_ ?_)
            | (refine walks_main rfl rfl (fun K hK => ?_); go_wp2_with (first | (go_at_call 39; (with_reducible refine (known_any _ _).mono ?_); rintro e w3 ⟨he, rfl⟩; rw [HK.out] at he; subst he) | (go_at_call 40; (with_reducible refine (own_any hcs _ (Hm.out.ext (X2.out.trans (hxD.trans XE.out))) HK.out).mono ?_); rintro e w4 ⟨us, d4, rfl, hus, hr4, hx4⟩; have Hus := hid hus; have HR4 := hid hr4; clear hus hr4; have XE' := hid (Ext.trans (Hid.out XE) hx4); clear XE; have XE := XE'; clear XE') | (go_at_call 10; (with_reducible refine (msgsame_any hcs Hus _ (Hm.out.ext (X2.out.trans (hxD.trans XE.out))) HR4.out).mono ?_); rintro e w5 ⟨he, hx5⟩; rw [HB.out] at he; subst he; have XE' := hid (Ext.trans (Hid.out XE) hx5); clear XE; have XE := XE'; clear XE')); refine hK _ _ (by first | assumption | exact Ext.alloc _ _ | exact Ext.refl _) ?_; clear hK K; try simp only [Act.put, List.setIfInBounds_toArray, List.set_cons_zero, List.set_cons_succ]))
          refine walks_done ?_
          have X7 := hid (X2.out.trans (hxD.trans XE.out))
          have X17 := hid (X12.out.trans (hxD.trans XE.out))
          clear p1 XE hxD
          have H2 : Hid ((knownB m.kind && sameB m (ownM m)) = true) := by show _ = _; rw [HK.out, HB.out]; rfl
          go_upto_region 8 with fail
          clear HB HR4 Hus hx4 hx5
          go_cut [34] (fun c wx => c = .bool (!rangeB m) ∧ wx = w5)
          case first =>
            as_aux_lemma =>
              have y4 := (boxCell Hg1.out 4 hcs rfl).ext X17.out
              have y5 := (boxCell Hg1.out 5 hcs rfl).ext X17.out
              have y6 := (boxCell Hg1.out 6 hcs rfl).ext X17.out
              go_wp2
              all_goals
                go_meet
                clear y4 y5 y6
                refine ⟨?_, rfl⟩
                simp only [rangeB, *, decide_true, decide_false, Bool.true_or, Bool.or_true, Bool.false_or, Bool.or_false, Bool.not_true, Bool.not_false, Bool.not_not]
          case rest =>
            obtain ⟨rfl, rfl⟩ := hcut
            cases h3 : rangeB m
            case false =>
              have H3 := hid h3
              clear h3
              simp only [Bool.not_false]
              go_wp2
              go_ret
              exact fin_false (sound_f3 H3.out) X7.out
            case true =>
              have H3 := hid h3
              clear h3
              simp only [Bool.not_true]
              go_upto_region 9 with fail
              go_cut [34] (fun c wx => c = .bool (m.kind == 3 && !fb) ∧ Hid (Ext wc wx))
              case first =>
                as_aux_lemma =>
                  have y1 := (boxCell Hg1.out 1 hcs rfl).ext X17.out
                  by_cases hk : m.kind = 3
                  · have t3 : (m.kind == 3) = true := by rw [hk]; rfl
                    have HFS := hid (HF.out hk _ _ wc (Hm.out.ext X7.out).fil)
                    have HT := hid t3
                    clear hk
                    have y10 := (boxCell Hg1.out 10 hcs rfl).ext X17.out; have y11 := (boxCell Hg1.out 11 hcs rfl).ext X17.out; have y12 := (boxCell Hg1.out 12 hcs rfl).ext X17.out; have y13 := (boxCell Hg1.out 13 hcs rfl).ext X17.out; have y14 := (boxCell Hg1.out 14 hcs rfl).ext X17.out; have y15 := (boxCell Hg1.out 15 hcs rfl).ext X17.out; have y16 := (boxCell Hg1.out 16 hcs rfl).ext X17.out
                    go_wp2_with (go_at_call 41; (with_reducible refine HFS.out.mono ?_); rintro e w6 ⟨rfl, hx6⟩; have X6 := hid hx6; clear hx6)
                    go_meet
                    exact ⟨by rw [HT.out]; simp, X6.out⟩
                  · have t3 : (m.kind == 3) = false := by rw [beq_eq_false_iff_ne]; exact hk
                    clear hk
                    go_wp2
                    go_meet
                    exact ⟨by simp [t3], Ext.refl _⟩
              case rest =>
                obtain ⟨rfl, hc4⟩ := hcut
                have X74 := hid (X7.out.trans hc4.out)
                have X174 := hid (X17.out.trans hc4.out)
                clear X7 X17 hc4
                cases h4 : (m.kind == 3 && !fb)
                case true =>
                  have H4 := hid h4
                  clear h4
                  go_wp2
                  go_ret
                  exact fin_false (sound_f4 H4.out) X74.out
                case false =>
                  have H4 := hid h4
                  clear h4
                  go_upto_region 10 with fail
                  go_cut [34] (fun c wx => c = .bool (m.kind == 19 && m.refs.length == 0) ∧ wx = wc)
                  case first =>
                    as_aux_lemma =>
                      have y1 := (boxCell Hg1.out 1 hcs rfl).ext X174.out
                      have y30 := (boxCell Hg1.out 30 hcs rfl).ext X174.out
                      have HL := hid Hm.out.refs.len
                      by_cases hk : m.kind = 19
                      · have t19 : (m.kind == 19) = true := by rw [hk]; rfl
                        clear hk
                        by_cases hz : d.refs.n = 0
                        · have z0 : ((d.refs.n : Int) == 0) = true := by rw [hz]; rfl
                          have HZ := hid hz
                          clear hz
                          go_wp2
                          go_meet
                          exact ⟨by rw [← HL.out, HZ.out]; simp [t19], rfl⟩
                        · have z0 : ((d.refs.n : Int) == 0) = false := by rw [beq_eq_false_iff_ne]; omega
                          have HZ := hid hz
                          clear hz
                          go_wp2
                          go_meet
                          exact ⟨by rw [← HL.out]; simp [HZ.out], rfl⟩
                      · have t19 : (m.kind == 19) = false := by rw [beq_eq_false_iff_ne]; exact hk
                        clear hk
                        go_wp2
                        go_meet
                        exact ⟨by simp [t19], rfl⟩
                  case rest =>
                    obtain ⟨rfl, rfl⟩ := hcut
                    cases h5 : (m.kind == 19 && m.refs.length == 0)
                    case true =>
                      have H5 := hid h5
                      clear h5
                      go_wp2
                      go_ret
                      exact fin_false (sound_f5 H5.out) X74.out
                    case false =>
                      have H5 := hid h5
                      clear h5
                      go_upto_region 11 with fail
                      go_cut [34] (fun c wx => c = .bool (!(shortB [m.name, m.pw, m.nrdn, m.sup, m.attr, m.value, m.matched, m.text] && shortB m.attrs && shortB m.refs)) ∧ Hid (Ext wc wx))
                      case first =>
                        · skip
                          have HR := hid (row_lit wc 9 [m.name, m.pw, m.nrdn, m.sup, m.attr, m.value, m.matched, m.text] 8 rfl (by simp [maxLen]) #[.string m.name, .string m.pw, .string m.nrdn, .string m.sup, .string m.attr, .string m.value, .string m.matched, .string m.text] rfl)
                          have XA := hid (Ext.alloc wc (.cells #[.string m.name, .string m.pw, .string m.nrdn, .string m.sup, .string m.attr, .string m.value, .string m.matched, .string m.text] 9))
                          have y2 := (boxCell Hg1.out 2 hcs rfl).ext X174.out; have y3 := (boxCell Hg1.out 3 hcs rfl).ext X174.out; have y20 := (boxCell Hg1.out 20 hcs rfl).ext X174.out; have y23 := (boxCell Hg1.out 23 hcs rfl).ext X174.out; have y24 := (boxCell Hg1.out 24 hcs rfl).ext X174.out; have y25 := (boxCell Hg1.out 25 hcs rfl).ext X174.out; have y28 := (boxCell Hg1.out 28 hcs rfl).ext X174.out; have y29 := (boxCell Hg1.out 29 hcs rfl).ext X174.out
                          cases h1 : shortB [m.name, m.pw, m.nrdn, m.sup, m.attr, m.value, m.matched, m.text]
                          case false =>
                            have H1 := hid h1
                            clear h1
                            go_wp2_with (go_at_call 42; (with_reducible refine (short_any HR.out).mono ?_); rintro e w8 ⟨he, hx8⟩; rw [H1.out] at he; subst he; have X8 := hid (XA.out.trans hx8); clear hx8)
                            go_meet
                            exact ⟨by simp [H1.out], X8.out⟩
                          case true =>
                            have H1 := hid h1
                            clear h1
                            cases h2 : shortB m.attrs
                            case false =>
                              have H2 := hid h2
                              clear h2
                              go_wp2_with (first
                                | (go_at_call 42; (with_reducible refine (short_any HR.out).mono ?_); rintro e w8 ⟨he, hx8⟩; rw [H1.out] at he; subst he; have X8 := hid (XA.out.trans hx8); clear hx8; clear y2 y3 y20 y23 y24 y25 y28 y29; have y17 := (boxCell Hg1.out 17 hcs rfl).ext (X174.out.trans X8.out))
                                | (go_at_call 42; (with_reducible refine (short_any (Hm.out.attrs.ext (X74.out.trans X8.out))).mono ?_); rintro e w9 ⟨he, hx9⟩; rw [H2.out] at he; subst he; have X9 := hid (X8.out.trans hx9); clear hx9))
                              go_meet
                              exact ⟨by simp [H2.out], X9.out⟩
                            case true =>
                              have H2 := hid h2
                              clear h2
                              cases h3 : shortB m.refs
                              all_goals
                                have HH3 := hid h3
                                clear h3
                                go_wp2_with (first
                                  | (go_at_call 42; (with_reducible refine (short_any HR.out).mono ?_); rintro e w8 ⟨he, hx8⟩; rw [H1.out] at he; subst he; have X8 := hid (XA.out.trans hx8); clear hx8; clear y2 y3 y20 y23 y24 y25 y28 y29; have y17 := (boxCell Hg1.out 17 hcs rfl).ext (X174.out.trans X8.out))
                                  | (go_at_call 42; (with_reducible refine (short_any (Hm.out.attrs.ext (X74.out.trans X8.out))).mono ?_); rintro e w9 ⟨he, hx9⟩; rw [H2.out] at he; subst he; have X9 := hid (X8.out.trans hx9); clear hx9; have y30 := (boxCell Hg1.out 30 hcs rfl).ext (X174.out.trans X9.out))
                                  | (go_at_call 42; (with_reducible refine (short_any (Hm.out.refs.ext (X74.out.trans X9.out))).mono ?_); rintro e w10 ⟨he, hx10⟩; rw [HH3.out] at he; subst he; have X10 := hid (X9.out.trans hx10); clear hx10))
                                go_meet
                                exact ⟨by simp [H1.out, H2.out, HH3.out], X10.out⟩
                      case rest =>
                        obtain ⟨rfl, hc6⟩ := hcut
                        have X76 := hid (X74.out.trans hc6.out)
                        have X176 := hid (X174.out.trans hc6.out)
                        clear X74 X174 hc6
                        cases h6 : (shortB [m.name, m.pw, m.nrdn, m.sup, m.attr, m.value, m.matched, m.text] && shortB m.attrs && shortB m.refs)
                        case false =>
                          have H6 := hid h6
                          clear h6
                          go_wp2
                          go_ret
                          exact fin_false (sound_f6 H6.out) X76.out
                        case true =>
                          have H6 := hid h6
                          clear h6
                          simp only [Bool.not_true]
                          have y18 := (boxCell Hg1.out 18 hcs rfl).ext X176.out
                          obtain ⟨LA, hLA⟩ : ∃ LA, LA = d.list.A := ⟨_, rfl⟩
                          rw [← hLA] at y18
                          have HLA := hid hLA
                          have nl : d.list.n ≤ 9223372036854775807 := by have := Hm.out.list.cap; have := Hm.out.list.most; simp only [maxLen] at this; omega
                          clear hLA
                          go_wp2
                          clear y18
                          go_loopw [126] (fun i wr' => ∃ j : Nat, j ≤ d.list.n ∧ i = .int .i64 j ∧ Hid (Ext wc wr') ∧ Hid ((m.list.take j).all shortAttB = true)) (fun i _ => d.list.n - (intOf i).toNat)
                          case atStart => exact ⟨0, by omega, rfl, Ext.refl _, rfl⟩
                          case round =>
                            obtain ⟨j, hj, rfl, XL, HJ⟩ := hrel
                            by_cases hlt : j < d.list.n
                            · obtain ⟨b1, o1, v1, x1, hA, gx, -, ⟨A1, n1, c1, rfl, r1⟩, q1⟩ := (Hm.out.list.ext (X76.out.trans XL.out)).at_ hlt
                              have hA' := HLA.out.trans hA
                              subst hA'
                              have e10 := q1 0 _ rfl
                              have e11 := q1 1 _ rfl
                              simp only [Elem.att, Nat.add_zero] at e10 e11
                              clear q1 hA
                              have HX := hid gx
                              have R1 := hid r1
                              clear gx r1
                              have HZA := hid (zero_of_info (P := Try.prog) (t := 48) (v := .agg #[.string ByteArray.empty, .slice none 0 0]) (n := 2) (by kernel_rfl)).1
                              cases hp : shortAttB x1
                              all_goals
                                have HP := hid hp
                                clear hp
                                go_wp2_with (first
                                  | (refine alloc_arm rfl 48 rfl _ HZA.out ?_; intro wa hxa hza hga; have Hga := hid hga; have Xa := hid hxa; clear hza hga hxa)
                                  | (refine store_arm rfl 48 (.tmp 6) (.tmp 129) rfl wr.heap.size 0 rfl (.agg #[.string x1.type, .slice A1 n1 c1]) rfl _ _ Hga.out (by kernel_rfl) (by simp [Value.cells]) (by simp [Value.cells, Value.oneCell']) ?_; intro ws hgs hzs hrs; have Hrs : Hid (ws.heap[wr.heap.size]? = some (.cells #[.string x1.type, .slice A1 n1 c1] 48 (0, 0))) := hrs; have Xs := hid (ext_grown' Xa.out hgs); clear hgs hzs hrs)
                                  | (refine wpList_load_row rfl 48 (.tmp 6) rfl wr.heap.size rfl _ _ _ _ Hrs.out Try.underlying48 rfl (by kernel_rfl) ?_)
                                  | (go_at_call 43; (with_reducible refine (shortattr_any (a := x1) (R1.out.ext Xs.out)).mono ?_); rintro e wt ⟨he, hxt⟩; rw [HP.out] at he; subst he; have Xt := hid (XL.out.trans (Xs.out.trans hxt)); clear hxt))
                              · go_ret
                                exact fin_false (sound_f7 (all_at HX.out HP.out)) (X76.out.trans Xt.out)
                              · exact ⟨⟨j + 1, by omega, by go_num, Xt.out, all_take HJ.out HX.out HP.out⟩, by simp [intOf]; omega⟩
                            · obtain hjn : j = d.list.n := by omega
                              have H7 : Hid (m.list.all shortAttB = true) := by
                                have h9 := HJ.out
                                rw [List.take_of_length_le (by rw [hjn, Hm.out.list.len]; exact Nat.le_refl _)] at h9
                                exact h9
                              have X77 := hid (X76.out.trans XL.out)
                              have X177 := hid (X176.out.trans XL.out)
                              clear HJ hj hjn HLA nl X76 X176 XL
                              have y19 := (boxCell Hg1.out 19 hcs rfl).ext X177.out
                              obtain ⟨GA, hGA⟩ : ∃ GA, GA = d.chgs.A := ⟨_, rfl⟩
                              rw [← hGA] at y19
                              have HGA := hid hGA
                              have ng : d.chgs.n ≤ 9223372036854775807 := by have := Hm.out.chgs.cap; have := Hm.out.chgs.most; simp only [maxLen] at this; omega
                              clear hGA
                              go_wp2
                              clear y19
                              go_loopw [137] (fun i wr' => ∃ j : Nat, j ≤ d.chgs.n ∧ i = .int .i64 j ∧ Hid (Ext wr wr') ∧ Hid ((m.chgs.take j).all chgShortB = true)) (fun i _ => d.chgs.n - (intOf i).toNat)
                              case atStart => exact ⟨0, by omega, rfl, Ext.refl _, rfl⟩
                              case round =>
                                obtain ⟨j, hj, rfl, XL, HJ⟩ := hrel
                                by_cases hlt : j < d.chgs.n
                                · obtain ⟨b1, o1, v1, x1, hA, gx, -, ⟨A1, n1, c1, rfl, r1⟩, q1⟩ := (Hm.out.chgs.ext (X77.out.trans XL.out)).at_ hlt
                                  have hA' := HGA.out.trans hA
                                  subst hA'
                                  have e10 := q1 0 _ rfl
                                  have e11 := q1 1 _ rfl
                                  have e12 := q1 2 _ rfl
                                  simp only [Elem.chg, Nat.add_zero] at e10 e11 e12
                                  clear q1 hA
                                  have HX := hid gx
                                  have R1 := hid r1
                                  clear gx r1
                                  have HZA := hid (zero_of_info (P := Try.prog) (t := 50) (v := .agg #[.int .i64 0, .string ByteArray.empty, .slice none 0 0]) (n := 3) (by kernel_rfl)).1
                                  by_cases h0 : x1.op < 0
                                  · have HP : Hid (chgShortB x1 = false) := by show _ = _; simp [chgShortB, h0]
                                    go_wp2_with (first
                                      | (refine alloc_arm rfl 50 rfl _ HZA.out ?_; intro wa hxa hza hga; have Hga := hid hga; have Xa := hid hxa; clear hza hga hxa)
                                      | (refine store_arm rfl 50 (.tmp 8) (.tmp 140) rfl wr.heap.size 0 rfl (.agg #[.int .i64 x1.op, .string x1.att.type, .slice A1 n1 c1]) rfl _ _ Hga.out (by kernel_rfl) (by simp [Value.cells]) (by simp [Value.cells, Value.oneCell']) ?_; intro ws hgs hzs hrs; have z0 := boxRow (cs := #[.int .i64 x1.op, .string x1.att.type, .slice A1 n1 c1]) hrs 0 rfl; have z1 := boxRow (cs := #[.int .i64 x1.op, .string x1.att.type, .slice A1 n1 c1]) hrs 1 rfl; have z2 := boxRow (cs := #[.int .i64 x1.op, .string x1.att.type, .slice A1 n1 c1]) hrs 2 rfl; have Xs := hid (ext_grown' Xa.out hgs); clear hgs hzs hrs))
                                    go_ret
                                    exact fin_false (sound_f8 (all_at HX.out HP.out)) (X77.out.trans (XL.out.trans Xs.out))
                                  by_cases h3 : 3 < x1.op
                                  · have HP : Hid (chgShortB x1 = false) := by show _ = _; simp [chgShortB, h3]
                                    go_wp2_with (first
                                      | (refine alloc_arm rfl 50 rfl _ HZA.out ?_; intro wa hxa hza hga; have Hga := hid hga; have Xa := hid hxa; clear hza hga hxa)
                                      | (refine store_arm rfl 50 (.tmp 8) (.tmp 140) rfl wr.heap.size 0 rfl (.agg #[.int .i64 x1.op, .string x1.att.type, .slice A1 n1 c1]) rfl _ _ Hga.out (by kernel_rfl) (by simp [Value.cells]) (by simp [Value.cells, Value.oneCell']) ?_; intro ws hgs hzs hrs; have z0 := boxRow (cs := #[.int .i64 x1.op, .string x1.att.type, .slice A1 n1 c1]) hrs 0 rfl; have z1 := boxRow (cs := #[.int .i64 x1.op, .string x1.att.type, .slice A1 n1 c1]) hrs 1 rfl; have z2 := boxRow (cs := #[.int .i64 x1.op, .string x1.att.type, .slice A1 n1 c1]) hrs 2 rfl; have Xs := hid (ext_grown' Xa.out hgs); clear hgs hzs hrs))
                                    go_ret
                                    exact fin_false (sound_f8 (all_at HX.out HP.out)) (X77.out.trans (XL.out.trans Xs.out))
                                  cases hp : shortAttB x1.att
                                  all_goals
                                    have HQ := hid hp
                                    have HP : Hid (chgShortB x1 = shortAttB x1.att) := by show _ = _; simp only [chgShortB, decide_eq_false h0, decide_eq_false h3, Bool.false_or, Bool.not_not]
                                    clear hp
                                    go_wp2_with (first
                                      | (refine alloc_arm rfl 50 rfl _ HZA.out ?_; intro wa hxa hza hga; have Hga := hid hga; have Xa := hid hxa; clear hza hga hxa)
                                      | (refine store_arm rfl 50 (.tmp 8) (.tmp 140) rfl wr.heap.size 0 rfl (.agg #[.int .i64 x1.op, .string x1.att.type, .slice A1 n1 c1]) rfl _ _ Hga.out (by kernel_rfl) (by simp [Value.cells]) (by simp [Value.cells, Value.oneCell']) ?_; intro ws hgs hzs hrs; have z0 := boxRow (cs := #[.int .i64 x1.op, .string x1.att.type, .slice A1 n1 c1]) hrs 0 rfl; have z1 := boxRow (cs := #[.int .i64 x1.op, .string x1.att.type, .slice A1 n1 c1]) hrs 1 rfl; have z2 := boxRow (cs := #[.int .i64 x1.op, .string x1.att.type, .slice A1 n1 c1]) hrs 2 rfl; have Xs := hid (ext_grown' Xa.out hgs); clear hgs hzs hrs)
                                      | (go_at_call 43; (with_reducible refine (shortattr_any (a := x1.att) (R1.out.ext Xs.out)).mono ?_); rintro e wt ⟨he, hxt⟩; rw [HQ.out] at he; subst he; have Xt := hid (XL.out.trans (Xs.out.trans hxt)); clear hxt))
                                  · go_ret
                                    exact fin_false (sound_f8 (all_at HX.out (HP.out.trans HQ.out))) (X77.out.trans Xt.out)
                                  · exact ⟨⟨j + 1, by omega, by go_num, Xt.out, all_take HJ.out HX.out (HP.out.trans HQ.out)⟩, by simp [intOf]; omega⟩
                                · obtain hjn : j = d.chgs.n := by omega
                                  have H8 : Hid (m.chgs.all chgShortB = true) := by
                                    have h9 := HJ.out
                                    rw [List.take_of_length_le (by rw [hjn, Hm.out.chgs.len]; exact Nat.le_refl _)] at h9
                                    exact h9
                                  have X78 := hid (X77.out.trans XL.out)
                                  have X178 := hid (X177.out.trans XL.out)
                                  clear HJ hj hjn HGA ng X77 X177 XL
                                  have y31 := (boxCell Hg1.out 31 hcs rfl).ext X178.out
                                  obtain ⟨CA, hCA⟩ : ∃ CA, CA = d.ctls.A := ⟨_, rfl⟩
                                  rw [← hCA] at y31
                                  have HCA := hid hCA
                                  have nk : d.ctls.n ≤ 9223372036854775807 := by have := Hm.out.ctls.cap; have := Hm.out.ctls.most; simp only [maxLen] at this; omega
                                  clear hCA
                                  go_wp2
                                  clear y31
                                  go_loopw [159] (fun i wr' => ∃ j : Nat, j ≤ d.ctls.n ∧ i = .int .i64 j ∧ Hid (Ext wr wr') ∧ Hid ((m.ctls.take j).all ctlShortB = true)) (fun i _ => d.ctls.n - (intOf i).toNat)
                                  case atStart => exact ⟨0, by omega, rfl, Ext.refl _, rfl⟩
                                  case round =>
                                    obtain ⟨j, hj, rfl, XL, HJ⟩ := hrel
                                    by_cases hlt : j < d.ctls.n
                                    · obtain ⟨b1, o1, v1, x1, hA, gx, -, R1, q1⟩ := (Hm.out.ctls.ext (X78.out.trans XL.out)).at_ hlt
                                      have hv1 : v1 = [.string x1.oid, .bool x1.crit, .bool x1.has, .string x1.val] := R1
                                      subst hv1
                                      have hA' := HCA.out.trans hA
                                      subst hA'
                                      have e10 := q1 0 _ rfl
                                      have e11 := q1 1 _ rfl
                                      have e12 := q1 2 _ rfl
                                      have e13 := q1 3 _ rfl
                                      simp only [Elem.ctl, Nat.add_zero] at e10 e11 e12 e13
                                      clear q1 hA R1
                                      have HX := hid gx
                                      clear gx
                                      have HZA := hid (zero_of_info (P := Try.prog) (t := 61) (v := .agg #[.string ByteArray.empty, .bool false, .bool false, .string ByteArray.empty]) (n := 4) (by kernel_rfl)).1
                                      cases hp : shortB [x1.oid, x1.val]
                                      case false =>
                                        have HQ := hid hp
                                        have HP : Hid (ctlShortB x1 = false) := by show _ = _; simp [ctlShortB, hp]
                                        clear hp
                                        go_wp2_with (first
                                          | (refine alloc_arm rfl 61 rfl _ HZA.out ?_; intro wa hxa hza hga; have Hga := hid hga; have Xa := hid hxa; clear hza hga hxa)
                                          | (refine store_arm rfl 61 (.tmp 10) (.tmp 162) rfl wr.heap.size 0 rfl (.agg #[.string x1.oid, .bool x1.crit, .bool x1.has, .string x1.val]) rfl _ _ Hga.out (by kernel_rfl) (by simp [Value.cells]) (by simp [Value.cells, Value.oneCell']) ?_; intro ws hgs hzs hrs; have z0 := boxRow (cs := #[.string x1.oid, .bool x1.crit, .bool x1.has, .string x1.val]) hrs 0 rfl; have z3 := boxRow (cs := #[.string x1.oid, .bool x1.crit, .bool x1.has, .string x1.val]) hrs 3 rfl; have Xs := hid (ext_grown' Xa.out hgs); have HR := hid (row_lit ws 9 [x1.oid, x1.val] 2 rfl (by simp [maxLen]) #[.string x1.oid, .string x1.val] rfl); clear hgs hzs hrs))
                                        (with_reducible refine (short_any HR.out).mono ?_)
                                        rintro e wt ⟨he, hxt⟩
                                        rw [HQ.out] at he
                                        subst he
                                        have Xt := hid (XL.out.trans (Xs.out.trans (Ext.trans (Ext.alloc _ _) hxt)))
                                        clear hxt z0 z3
                                        go_wp2
                                        go_ret
                                        exact fin_false (sound_f9 (all_at HX.out HP.out)) (X78.out.trans Xt.out)
                                      case true =>
                                        have HQ := hid hp
                                        obtain ⟨bh, hbh⟩ : ∃ bh, x1.has = bh := ⟨_, rfl⟩
                                        rw [hbh] at e12
                                        have HBH := hid hbh
                                        have HPP := hid hp
                                        clear hbh hp
                                        by_cases hv : x1.val.size = 0
                                        · have HP : Hid (ctlShortB x1 = true) := by show _ = _; unfold ctlShortB; rw [HPP.out, show (x1.val.toList != ByteArray.empty.toList) = false from by rw [str_emp hv]; simp]; rfl
                                          have hve := emp_yes hv
                                          clear hv
                                          go_wp2_with (first
                                            | (refine alloc_arm rfl 61 rfl _ HZA.out ?_; intro wa hxa hza hga; have Hga := hid hga; have Xa := hid hxa; clear hza hga hxa)
                                            | (refine store_arm rfl 61 (.tmp 10) (.tmp 162) rfl wr.heap.size 0 rfl (.agg #[.string x1.oid, .bool x1.crit, .bool bh, .string x1.val]) rfl _ _ Hga.out (by kernel_rfl) (by simp [Value.cells]) (by simp [Value.cells, Value.oneCell']) ?_; intro ws hgs hzs hrs; have z0 := boxRow (cs := #[.string x1.oid, .bool x1.crit, .bool bh, .string x1.val]) hrs 0 rfl; have z2 := boxRow (cs := #[.string x1.oid, .bool x1.crit, .bool bh, .string x1.val]) hrs 2 rfl; have z3 := boxRow (cs := #[.string x1.oid, .bool x1.crit, .bool bh, .string x1.val]) hrs 3 rfl; have Z2 := hid z2; have Z3 := hid z3; clear z2; have Xs := hid (ext_grown' Xa.out hgs); have HR := hid (row_lit ws 9 [x1.oid, x1.val] 2 rfl (by simp [maxLen]) #[.string x1.oid, .string x1.val] rfl); clear hgs hzs hrs))
                                          (with_reducible refine (short_any HR.out).mono ?_)
                                          rintro e wt ⟨he, hxt⟩
                                          rw [HQ.out] at he
                                          subst he
                                          have Xt := hid (XL.out.trans (Xs.out.trans (Ext.trans (Ext.alloc _ _) hxt)))
                                          have z2' := cell_later Z2.out _ (Ext.trans (Ext.alloc _ _) hxt)
                                          have z3' := cell_later Z3.out _ (Ext.trans (Ext.alloc _ _) hxt)
                                          clear hxt z0 z3
                                          go_wp2
                                          exact ⟨⟨j + 1, by omega, by go_num, Xt.out, all_take HJ.out HX.out HP.out⟩, by simp [intOf]; omega⟩
                                        · have HP : Hid (ctlShortB x1 = bh) := by
                                            show _ = _
                                            unfold ctlShortB
                                            rw [HPP.out, show (x1.val.toList != ByteArray.empty.toList) = true from by rw [bne, str_ne (fun e => hv (by rw [e]; rfl))]; rfl, HBH.out]
                                            cases bh <;> rfl
                                          have hve := emp_no hv
                                          have hvb : x1.val.toList.isEmpty = false := by rw [List.isEmpty_eq_false_iff]; exact hve
                                          clear hv
                                          cases bh
                                          · go_wp2_with (first
                                              | (refine alloc_arm rfl 61 rfl _ HZA.out ?_; intro wa hxa hza hga; have Hga := hid hga; have Xa := hid hxa; clear hza hga hxa)
                                              | (refine store_arm rfl 61 (.tmp 10) (.tmp 162) rfl wr.heap.size 0 rfl (.agg #[.string x1.oid, .bool x1.crit, .bool false, .string x1.val]) rfl _ _ Hga.out (by kernel_rfl) (by simp [Value.cells]) (by simp [Value.cells, Value.oneCell']) ?_; intro ws hgs hzs hrs; have z0 := boxRow (cs := #[.string x1.oid, .bool x1.crit, .bool false, .string x1.val]) hrs 0 rfl; have z2 := boxRow (cs := #[.string x1.oid, .bool x1.crit, .bool false, .string x1.val]) hrs 2 rfl; have z3 := boxRow (cs := #[.string x1.oid, .bool x1.crit, .bool false, .string x1.val]) hrs 3 rfl; have Z2 := hid z2; have Z3 := hid z3; clear z2; have Xs := hid (ext_grown' Xa.out hgs); have HR := hid (row_lit ws 9 [x1.oid, x1.val] 2 rfl (by simp [maxLen]) #[.string x1.oid, .string x1.val] rfl); clear hgs hzs hrs))
                                            (with_reducible refine (short_any HR.out).mono ?_)
                                            rintro e wt ⟨he, hxt⟩
                                            rw [HQ.out] at he
                                            subst he
                                            have Xt := hid (XL.out.trans (Xs.out.trans (Ext.trans (Ext.alloc _ _) hxt)))
                                            have z2' := cell_later Z2.out _ (Ext.trans (Ext.alloc _ _) hxt)
                                            have z3' := cell_later Z3.out _ (Ext.trans (Ext.alloc _ _) hxt)
                                            clear hxt z0 z3
                                            go_wp2
                                            go_ret
                                            exact fin_false (sound_f9 (all_at HX.out HP.out)) (X78.out.trans Xt.out)
                                          · go_wp2_with (first
                                              | (refine alloc_arm rfl 61 rfl _ HZA.out ?_; intro wa hxa hza hga; have Hga := hid hga; have Xa := hid hxa; clear hza hga hxa)
                                              | (refine store_arm rfl 61 (.tmp 10) (.tmp 162) rfl wr.heap.size 0 rfl (.agg #[.string x1.oid, .bool x1.crit, .bool true, .string x1.val]) rfl _ _ Hga.out (by kernel_rfl) (by simp [Value.cells]) (by simp [Value.cells, Value.oneCell']) ?_; intro ws hgs hzs hrs; have z0 := boxRow (cs := #[.string x1.oid, .bool x1.crit, .bool true, .string x1.val]) hrs 0 rfl; have z2 := boxRow (cs := #[.string x1.oid, .bool x1.crit, .bool true, .string x1.val]) hrs 2 rfl; have z3 := boxRow (cs := #[.string x1.oid, .bool x1.crit, .bool true, .string x1.val]) hrs 3 rfl; have Z2 := hid z2; have Z3 := hid z3; clear z2; have Xs := hid (ext_grown' Xa.out hgs); have HR := hid (row_lit ws 9 [x1.oid, x1.val] 2 rfl (by simp [maxLen]) #[.string x1.oid, .string x1.val] rfl); clear hgs hzs hrs))
                                            (with_reducible refine (short_any HR.out).mono ?_)
                                            rintro e wt ⟨he, hxt⟩
                                            rw [HQ.out] at he
                                            subst he
                                            have Xt := hid (XL.out.trans (Xs.out.trans (Ext.trans (Ext.alloc _ _) hxt)))
                                            have z2' := cell_later Z2.out _ (Ext.trans (Ext.alloc _ _) hxt)
                                            have z3' := cell_later Z3.out _ (Ext.trans (Ext.alloc _ _) hxt)
                                            clear hxt z0 z3
                                            go_wp2
                                            exact ⟨⟨j + 1, by omega, by go_num, Xt.out, all_take HJ.out HX.out HP.out⟩, by simp [intOf]; omega⟩
                                    · obtain hjn : j = d.ctls.n := by omega
                                      have H9 : Hid (m.ctls.all ctlShortB = true) := by
                                        have h9 := HJ.out
                                        rw [List.take_of_length_le (by rw [hjn, Hm.out.ctls.len]; exact Nat.le_refl _)] at h9
                                        exact h9
                                      have HF9 : Hid (soundB fb m = true) := sound_t H1.out H2.out H3.out H4.out H5.out H6.out H7.out H8.out H9.out
                                      have X79 := hid (X78.out.trans XL.out)
                                      go_wp2
                                      go_ret
                                      exact ⟨by rw [HF9.out]; rfl, X79.out⟩
end Go.Proofs.Ytabaeiolpbdjnaa
