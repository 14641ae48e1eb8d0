/- The walk of the reference's formed. -/
import Derived.Test.YtabaeiolpbdjnaaQe
import Derived.Deep.Cut
import Derived.Deep.DeepCutAuto
namespace Go.Proofs.Ytabaeiolpbdjnaa
open Go.RowKit
set_option maxRecDepth 100000
set_option linter.unusedSimpArgs false
set_option linter.unusedVariables false

theorem head_false {fb : Bool} {m : Msg} (h : headOk m = false) : soundB fb m = false := by
  unfold headOk at h
  cases h2 : (knownB m.kind && sameB m (ownM m))
  · exact sound_f2 h2
  cases h1 : (fiveInts m).all msgIntB
  · exact sound_f1 h1
  · rw [h2, h1] at h
    exact sound_f3 h
theorem kind_false {fb : Bool} {m : Msg} (h : ((m.kind == 3 && !fb) || (m.kind == 19 && m.refs.length == 0)) = true) : soundB fb m = false := by
  cases h4 : (m.kind == 3 && !fb)
  · rw [h4, Bool.false_or] at h
    exact sound_f5 h
  · exact sound_f4 h4
theorem form_true {fb : Bool} {m : Msg} (h : headOk m = true) (hk : ((m.kind == 3 && !fb) || (m.kind == 19 && m.refs.length == 0)) = false)
    (h6 : (shortB [m.name, m.pw, m.nrdn, m.sup, m.attr, m.value, m.matched, m.text] && shortB m.attrs && shortB m.refs) = true) (h7 : m.list.all shortAttB = true) (h8 : m.chgs.all chgShortB = true) (h9 : m.ctls.all ctlShortB = true) : soundB fb m = true := by
  unfold headOk at h
  rw [Bool.and_eq_true, Bool.and_eq_true] at h
  rw [Bool.or_eq_false_iff] at hk
  exact sound_t h.1.2 h.1.1 h.2 hk.1 hk.2 h6 h7 h8 h9
set_option maxHeartbeats 16000000 in
theorem rformed_msg {m : Msg} {d : MsgD} {cs : Array Value} {S : Nat → Prop} (hcs : Hid (cs = (msgCells m d).toArray)) (w : World) (hm : MsgRows S w m d) (ho : MsgOk m) :
    Calls Try.prog 23 #[.agg cs] w fun e w' => e = .returned (.bool (soundB (fbM m) m)) ∧ Ext w w' := by
  have Hm := hid hm
  have HF : Hid (m.kind = 3 → ∀ (T : Nat → Prop) (vs : List Value) (w : World), FilAt T w vs m.fil → Calls Try.prog 60 #[.agg vs.toArray] w fun e w' => e = .returned (.bool (fbM m)) ∧ Ext w w') := fun _ _ _ _ hv => rformed_any hv ho.fil.sz
  have Zc : Hid ((Try.prog.info? 30).map (·.size) = some cs.size) := by show _ = _; rw [hcs.out]; kernel_rfl
  obtain ⟨fb, hfb⟩ : ∃ fb, fb = fbM m := ⟨_, rfl⟩
  rw [← hfb] at HF ⊢
  clear hm hfb
  go_enter Try.func23, Try.ntmps23
  go_upto_region 1 with (refine box_arm rfl 30 (.tmp 0) rfl cs rfl ?_; intro w1 hx1 hz1 hg1; have Hg1 := hid hg1; have X1 := hid hx1; clear hz1 hg1 hx1)
  have hx12 := hid (Ext.refl w1)
  go_cut [62] (fun c wx => c = .bool (!(headOk m)) ∧ Hid (Ext w1 wx))
  case first =>
    as_aux_lemma =>
      cases hk : knownB m.kind
      case false =>
        have HBad : Hid ((!(headOk m)) = true) := by show _ = _; unfold headOk; rw [hk]; rfl
        have HK := hid hk
        clear hk
        refine wp_region_plan (.read 0 (.read 1 (.main 2 (.read 3 (.read 4 (.read 5 (.read 6 (.main 7 (.main 8 (.read 9 (.read 10 (.read 11 (.read 12 (.read 13 (.read 14 (.read 15 (.read 16 (.read 17 (.read 18 (.read 19 (.read 20 (.read 21 (.main 22 (.main 23 (.read 24 (.read 25 (.read 26 (.read 27 (.read 28 (.read 29 (.read 30 (.read 31 (.read 32 (.read 33 (.read 34 (.read 35 (.read 36 (.read 37 (.read 38 (.read 39 (.read 40 (.read 41 (.read 42 (.read 43 (.read 44 (.read 45 (.read 46 (.read 47 (.read 48 (.read 49 (.read 50 (.read 51 (.read 52 (.read 53 (.read 54 (.read 55 .done)))))))))))))))))))))))))))))))))))))))))))))))))))))))) (by kernel_rfl) (by kernel_rfl) ?_
        intro wD hxD
        have XE : Hid (Ext wD wD) := Ext.refl _
        have X1D := hid (Ext.trans hx12.out hxD)
        have p1 := box2 Hg1.out 1 hcs rfl X1D.out
        have p0 := box2 Hg1.out 0 hcs rfl X1D.out
        have p7 := box2 Hg1.out 7 hcs rfl X1D.out
        have p8 := box2 Hg1.out 8 hcs rfl X1D.out
        have p26 := box2 Hg1.out 26 hcs rfl X1D.out
        have p27 := box2 Hg1.out 27 hcs rfl X1D.out
        have p4 := box2 Hg1.out 4 hcs rfl X1D.out
        have p5 := box2 Hg1.out 5 hcs rfl X1D.out
        have p6 := box2 Hg1.out 6 hcs rfl X1D.out
        repeat' (first
          | (refine walks_move rfl rfl ?_; simp only [Act.put, Act.eval, List.setIfInBounds_toArray, List.set_cons_zero, List.set_cons_succ, Array.getD_eq_getD_getElem?, List.getElem?_toArray, List.getElem?_cons_zero, List.getElem?_cons_succ, Option.getD_some])
          | (refine walks_assign rfl rfl ?_; simp only [Act.put, Act.eval, List.setIfInBounds_toArray, List.set_cons_zero, List.set_cons_succ, Array.getD_eq_getD_getElem?, List.getElem?_toArray, List.getElem?_cons_zero, List.getElem?_cons_succ, Option.getD_some])
          | (refine walks_skip rfl rfl ?_; simp only [Act.put, List.setIfInBounds_toArray, List.set_cons_zero, List.set_cons_succ])
          | (refine walks_read (v := .agg cs) rfl rfl (fun w' hE => run_load_row 30 (.tmp 1) rfl _ rfl _ cs _ (row_later Hg1.out (X1D.out.trans (XE.out.trans hE))) Try.underlying30 rfl Zc.out) ?_; simp only [Act.put, List.setIfInBounds_toArray, List.set_cons_zero, List.set_cons_succ])
          | (refine walks_unwanted rfl rfl ?_; simp only [Act.put, List.setIfInBounds_toArray, List.set_cons_zero, List.set_cons_succ])
          | (refine walks_read (v := ?_) rfl rfl (fun w' hE => ?_) ?_; rotate_left 1; (· ((try (have hEx := Ext.trans (Hid.out XE) hE)); go_simp; (try go_bits); with_reducible rfl)); simp only [Act.put, List.setIfInBounds_toArray, List.set_cons_zero, List.set_cons_succ])
          | (refine walks_main rfl rfl (fun K hK => ?_); (first | (refine litints5_wp (.tmp 20) (.tmp 22) (.tmp 24) (.tmp 26) (.tmp 28) rfl rfl rfl rfl rfl rfl ?_; intro w7 hx7 hin7; have HIN := hid hin7; clear hin7; have XE' := hid (Ext.trans (Hid.out XE) hx7); clear XE; have XE := XE'; clear XE')); refine hK _ _ (by first | assumption | exact Ext.alloc _ _ | exact Ext.refl _) ?_; clear hK K; try simp only [Act.put, List.setIfInBounds_toArray, List.set_cons_zero, List.set_cons_succ])
          | (refine walks_alt ?_ ?_)
          | (refine walks_main rfl rfl (fun K hK => ?_); go_wp2_with (first | (go_at_call 57; (with_reducible refine (rknown_any _ _).mono ?_); rintro e w3 ⟨he, rfl⟩; rw [HK.out] at he; subst he) | (go_at_call 58; (with_reducible refine (kept_any hcs _ (Hm.out.ext (X1.out.trans (X1D.out.trans XE.out))) HK.out).mono ?_); rintro e w4 ⟨us, d4, rfl, hus, hr4, hx4⟩; have Hus := hid hus; have HR4 := hid hr4; clear hus hr4; have XE' := hid (Ext.trans (Hid.out XE) hx4); clear XE; have XE := XE'; clear XE') | (go_at_call 11; (with_reducible refine (rmsgsame_any hcs Hus _ (Hm.out.ext (X1.out.trans (X1D.out.trans XE.out))) HR4.out).mono ?_); rintro e w5 ⟨he, hx5⟩; rw [HB.out] at he; subst he; have XE' := hid (Ext.trans (Hid.out XE) hx5); clear XE; have XE := XE'; clear XE') | (go_at_call 59; (with_reducible refine (rints_any HIN.out 5 rfl (by decide)).mono ?_); rintro e w6 ⟨he, rfl⟩; rw [HI5.out] at he; subst he)); refine hK _ _ (by first | assumption | exact Ext.alloc _ _ | exact Ext.refl _) ?_; clear hK K; try simp only [Act.put, List.setIfInBounds_toArray, List.set_cons_zero, List.set_cons_succ]))
        refine walks_done ?_
        clear p1 p0 p7 p8 p26 p27 p4 p5 p6
        go_wp2
        go_meet
        exact ⟨by rw [HBad.out] <;> rfl, hxD.trans XE.out⟩
      case true =>
        have HK := hid hk
        cases hb : sameB m (ownM m)
        case false =>
          have HBad : Hid ((!(headOk m)) = true) := by show _ = _; unfold headOk; rw [hk, hb]; rfl
          have HB := hid hb
          clear hk hb
          refine wp_region_plan (.read 0 (.read 1 (.main 2 (.read 3 (.read 4 (.read 5 (.read 6 (.main 7 (.main 8 (.read 9 (.read 10 (.read 11 (.read 12 (.read 13 (.read 14 (.read 15 (.read 16 (.read 17 (.read 18 (.read 19 (.read 20 (.read 21 (.main 22 (.main 23 (.read 24 (.read 25 (.read 26 (.read 27 (.read 28 (.read 29 (.read 30 (.read 31 (.read 32 (.read 33 (.read 34 (.read 35 (.read 36 (.read 37 (.read 38 (.read 39 (.read 40 (.read 41 (.read 42 (.read 43 (.read 44 (.read 45 (.read 46 (.read 47 (.read 48 (.read 49 (.read 50 (.read 51 (.read 52 (.read 53 (.read 54 (.read 55 .done)))))))))))))))))))))))))))))))))))))))))))))))))))))))) (by kernel_rfl) (by kernel_rfl) ?_
          intro wD hxD
          have XE : Hid (Ext wD wD) := Ext.refl _
          have X1D := hid (Ext.trans hx12.out hxD)
          have p1 := box2 Hg1.out 1 hcs rfl X1D.out
          have p0 := box2 Hg1.out 0 hcs rfl X1D.out
          have p7 := box2 Hg1.out 7 hcs rfl X1D.out
          have p8 := box2 Hg1.out 8 hcs rfl X1D.out
          have p26 := box2 Hg1.out 26 hcs rfl X1D.out
          have p27 := box2 Hg1.out 27 hcs rfl X1D.out
          have p4 := box2 Hg1.out 4 hcs rfl X1D.out
          have p5 := box2 Hg1.out 5 hcs rfl X1D.out
          have p6 := box2 Hg1.out 6 hcs rfl X1D.out
          repeat' (first
            | (refine walks_move rfl rfl ?_; simp only [Act.put, Act.eval, List.setIfInBounds_toArray, List.set_cons_zero, List.set_cons_succ, Array.getD_eq_getD_getElem?, List.getElem?_toArray, List.getElem?_cons_zero, List.getElem?_cons_succ, Option.getD_some])
            | (refine walks_assign rfl rfl ?_; simp only [Act.put, Act.eval, List.setIfInBounds_toArray, List.set_cons_zero, List.set_cons_succ, Array.getD_eq_getD_getElem?, List.getElem?_toArray, List.getElem?_cons_zero, List.getElem?_cons_succ, Option.getD_some])
            | (refine walks_skip rfl rfl ?_; simp only [Act.put, List.setIfInBounds_toArray, List.set_cons_zero, List.set_cons_succ])
            | (refine walks_read (v := .agg cs) rfl rfl (fun w' hE => run_load_row 30 (.tmp 1) rfl _ rfl _ cs _ (row_later Hg1.out (X1D.out.trans (XE.out.trans hE))) Try.underlying30 rfl Zc.out) ?_; simp only [Act.put, List.setIfInBounds_toArray, List.set_cons_zero, List.set_cons_succ])
            | (refine walks_unwanted rfl rfl ?_; simp only [Act.put, List.setIfInBounds_toArray, List.set_cons_zero, List.set_cons_succ])
            | (refine walks_read (v := ?_) rfl rfl (fun w' hE => ?_) ?_; rotate_left 1; (· ((try (have hEx := Ext.trans (Hid.out XE) hE)); go_simp; (try go_bits); with_reducible rfl)); simp only [Act.put, List.setIfInBounds_toArray, List.set_cons_zero, List.set_cons_succ])
            | (refine walks_main rfl rfl (fun K hK => ?_); (first | (refine litints5_wp (.tmp 20) (.tmp 22) (.tmp 24) (.tmp 26) (.tmp 28) rfl rfl rfl rfl rfl rfl ?_; intro w7 hx7 hin7; have HIN := hid hin7; clear hin7; have XE' := hid (Ext.trans (Hid.out XE) hx7); clear XE; have XE := XE'; clear XE')); refine hK _ _ (by first | assumption | exact Ext.alloc _ _ | exact Ext.refl _) ?_; clear hK K; try simp only [Act.put, List.setIfInBounds_toArray, List.set_cons_zero, List.set_cons_succ])
            | (refine walks_alt ?_ ?_)
            | (refine walks_main rfl rfl (fun K hK => ?_); go_wp2_with (first | (go_at_call 57; (with_reducible refine (rknown_any _ _).mono ?_); rintro e w3 ⟨he, rfl⟩; rw [HK.out] at he; subst he) | (go_at_call 58; (with_reducible refine (kept_any hcs _ (Hm.out.ext (X1.out.trans (X1D.out.trans XE.out))) HK.out).mono ?_); rintro e w4 ⟨us, d4, rfl, hus, hr4, hx4⟩; have Hus := hid hus; have HR4 := hid hr4; clear hus hr4; have XE' := hid (Ext.trans (Hid.out XE) hx4); clear XE; have XE := XE'; clear XE') | (go_at_call 11; (with_reducible refine (rmsgsame_any hcs Hus _ (Hm.out.ext (X1.out.trans (X1D.out.trans XE.out))) HR4.out).mono ?_); rintro e w5 ⟨he, hx5⟩; rw [HB.out] at he; subst he; have XE' := hid (Ext.trans (Hid.out XE) hx5); clear XE; have XE := XE'; clear XE') | (go_at_call 59; (with_reducible refine (rints_any HIN.out 5 rfl (by decide)).mono ?_); rintro e w6 ⟨he, rfl⟩; rw [HI5.out] at he; subst he)); refine hK _ _ (by first | assumption | exact Ext.alloc _ _ | exact Ext.refl _) ?_; clear hK K; try simp only [Act.put, List.setIfInBounds_toArray, List.set_cons_zero, List.set_cons_succ]))
          refine walks_done ?_
          clear p1 p0 p7 p8 p26 p27 p4 p5 p6
          go_wp2
          go_meet
          exact ⟨by rw [HBad.out] <;> rfl, hxD.trans XE.out⟩
        case true =>
          have HB := hid hb
          cases hi : (fiveInts m).all msgIntB
          case false =>
            have HBad : Hid ((!(headOk m)) = true) := by show _ = _; unfold headOk; rw [hk, hb, hi]; rfl
            have HI5 : Hid (([m.id, m.size, m.time, m.target, m.code] : List Int).all msgIntB = false) := hi
            clear hk hb hi
            refine wp_region_plan (.read 0 (.read 1 (.main 2 (.read 3 (.read 4 (.read 5 (.read 6 (.main 7 (.main 8 (.read 9 (.read 10 (.read 11 (.read 12 (.read 13 (.read 14 (.read 15 (.read 16 (.read 17 (.read 18 (.read 19 (.read 20 (.read 21 (.main 22 (.main 23 (.read 24 (.read 25 (.read 26 (.read 27 (.read 28 (.read 29 (.read 30 (.read 31 (.read 32 (.read 33 (.read 34 (.read 35 (.read 36 (.read 37 (.read 38 (.read 39 (.read 40 (.read 41 (.read 42 (.read 43 (.read 44 (.read 45 (.read 46 (.read 47 (.read 48 (.read 49 (.read 50 (.read 51 (.read 52 (.read 53 (.read 54 (.read 55 .done)))))))))))))))))))))))))))))))))))))))))))))))))))))))) (by kernel_rfl) (by kernel_rfl) ?_
            intro wD hxD
            have XE : Hid (Ext wD wD) := Ext.refl _
            have X1D := hid (Ext.trans hx12.out hxD)
            have p1 := box2 Hg1.out 1 hcs rfl X1D.out
            have p0 := box2 Hg1.out 0 hcs rfl X1D.out
            have p7 := box2 Hg1.out 7 hcs rfl X1D.out
            have p8 := box2 Hg1.out 8 hcs rfl X1D.out
            have p26 := box2 Hg1.out 26 hcs rfl X1D.out
            have p27 := box2 Hg1.out 27 hcs rfl X1D.out
            have p4 := box2 Hg1.out 4 hcs rfl X1D.out
            have p5 := box2 Hg1.out 5 hcs rfl X1D.out
            have p6 := box2 Hg1.out 6 hcs rfl X1D.out
            repeat' (first
              | (refine walks_move rfl rfl ?_; simp only [Act.put, Act.eval, List.setIfInBounds_toArray, List.set_cons_zero, List.set_cons_succ, Array.getD_eq_getD_getElem?, List.getElem?_toArray, List.getElem?_cons_zero, List.getElem?_cons_succ, Option.getD_some])
              | (refine walks_assign rfl rfl ?_; simp only [Act.put, Act.eval, List.setIfInBounds_toArray, List.set_cons_zero, List.set_cons_succ, Array.getD_eq_getD_getElem?, List.getElem?_toArray, List.getElem?_cons_zero, List.getElem?_cons_succ, Option.getD_some])
              | (refine walks_skip rfl rfl ?_; simp only [Act.put, List.setIfInBounds_toArray, List.set_cons_zero, List.set_cons_succ])
              | (refine walks_read (v := .agg cs) rfl rfl (fun w' hE => run_load_row 30 (.tmp 1) rfl _ rfl _ cs _ (row_later Hg1.out (X1D.out.trans (XE.out.trans hE))) Try.underlying30 rfl Zc.out) ?_; simp only [Act.put, List.setIfInBounds_toArray, List.set_cons_zero, List.set_cons_succ])
              | (refine walks_unwanted rfl rfl ?_; simp only [Act.put, List.setIfInBounds_toArray, List.set_cons_zero, List.set_cons_succ])
              | (refine walks_read (v := ?_) rfl rfl (fun w' hE => ?_) ?_; rotate_left 1; (· ((try (have hEx := Ext.trans (Hid.out XE) hE)); go_simp; (try go_bits); with_reducible rfl)); simp only [Act.put, List.setIfInBounds_toArray, List.set_cons_zero, List.set_cons_succ])
              | (refine walks_main rfl rfl (fun K hK => ?_); (first | (refine litints5_wp (.tmp 20) (.tmp 22) (.tmp 24) (.tmp 26) (.tmp 28) rfl rfl rfl rfl rfl rfl ?_; intro w7 hx7 hin7; have HIN := hid hin7; clear hin7; have XE' := hid (Ext.trans (Hid.out XE) hx7); clear XE; have XE := XE'; clear XE')); refine hK _ _ (by first | assumption | exact Ext.alloc _ _ | exact Ext.refl _) ?_; clear hK K; try simp only [Act.put, List.setIfInBounds_toArray, List.set_cons_zero, List.set_cons_succ])
              | (refine walks_alt ?_ ?_)
              | (refine walks_main rfl rfl (fun K hK => ?_); go_wp2_with (first | (go_at_call 57; (with_reducible refine (rknown_any _ _).mono ?_); rintro e w3 ⟨he, rfl⟩; rw [HK.out] at he; subst he) | (go_at_call 58; (with_reducible refine (kept_any hcs _ (Hm.out.ext (X1.out.trans (X1D.out.trans XE.out))) HK.out).mono ?_); rintro e w4 ⟨us, d4, rfl, hus, hr4, hx4⟩; have Hus := hid hus; have HR4 := hid hr4; clear hus hr4; have XE' := hid (Ext.trans (Hid.out XE) hx4); clear XE; have XE := XE'; clear XE') | (go_at_call 11; (with_reducible refine (rmsgsame_any hcs Hus _ (Hm.out.ext (X1.out.trans (X1D.out.trans XE.out))) HR4.out).mono ?_); rintro e w5 ⟨he, hx5⟩; rw [HB.out] at he; subst he; have XE' := hid (Ext.trans (Hid.out XE) hx5); clear XE; have XE := XE'; clear XE') | (go_at_call 59; (with_reducible refine (rints_any HIN.out 5 rfl (by decide)).mono ?_); rintro e w6 ⟨he, rfl⟩; rw [HI5.out] at he; subst he)); refine hK _ _ (by first | assumption | exact Ext.alloc _ _ | exact Ext.refl _) ?_; clear hK K; try simp only [Act.put, List.setIfInBounds_toArray, List.set_cons_zero, List.set_cons_succ]))
            refine walks_done ?_
            clear p1 p0 p7 p8 p26 p27 p4 p5 p6
            go_wp2
            go_meet
            exact ⟨by rw [HBad.out] <;> rfl, hxD.trans XE.out⟩
          case true =>
            have HI5 : Hid (([m.id, m.size, m.time, m.target, m.code] : List Int).all msgIntB = true) := hi
            have HBr : Hid (∀ b, rangeB m = b → (!(headOk m)) = !b) := by intro b hr; unfold headOk; rw [hk, hb, hi, hr]; cases b <;> rfl
            clear hk hb hi
            rcases range_ways m with ⟨hr, h1, h2, h3, h4, h5, h6⟩ | ⟨hr, h1⟩ | ⟨hr, h1, h2⟩ | ⟨hr, h1, h2, h3⟩ | ⟨hr, h1, h2, h3, h4⟩ | ⟨hr, h1, h2, h3, h4, h5⟩ | ⟨hr, h1, h2, h3, h4, h5, h6⟩
            all_goals
              have HBad := hid (HBr.out _ hr)
              clear hr
              (try have g1 := decide_eq_true h1); (try have g1 := decide_eq_false h1); (try have g2 := decide_eq_true h2); (try have g2 := decide_eq_false h2); (try have g3 := decide_eq_true h3); (try have g3 := decide_eq_false h3); (try have g4 := decide_eq_true h4); (try have g4 := decide_eq_false h4); (try have g5 := decide_eq_true h5); (try have g5 := decide_eq_false h5); (try have g6 := decide_eq_true h6); (try have g6 := decide_eq_false h6)
              refine wp_region_plan (.read 0 (.read 1 (.main 2 (.read 3 (.read 4 (.read 5 (.read 6 (.main 7 (.main 8 (.read 9 (.read 10 (.read 11 (.read 12 (.read 13 (.read 14 (.read 15 (.read 16 (.read 17 (.read 18 (.read 19 (.read 20 (.read 21 (.main 22 (.main 23 (.read 24 (.read 25 (.read 26 (.read 27 (.read 28 (.read 29 (.read 30 (.read 31 (.read 32 (.read 33 (.read 34 (.read 35 (.read 36 (.read 37 (.read 38 (.read 39 (.read 40 (.read 41 (.read 42 (.read 43 (.read 44 (.read 45 (.read 46 (.read 47 (.read 48 (.read 49 (.read 50 (.read 51 (.read 52 (.read 53 (.read 54 (.read 55 .done)))))))))))))))))))))))))))))))))))))))))))))))))))))))) (by kernel_rfl) (by kernel_rfl) ?_
              intro wD hxD
              have XE : Hid (Ext wD wD) := Ext.refl _
              have X1D := hid (Ext.trans hx12.out hxD)
              have p1 := box2 Hg1.out 1 hcs rfl X1D.out
              have p0 := box2 Hg1.out 0 hcs rfl X1D.out
              have p7 := box2 Hg1.out 7 hcs rfl X1D.out
              have p8 := box2 Hg1.out 8 hcs rfl X1D.out
              have p26 := box2 Hg1.out 26 hcs rfl X1D.out
              have p27 := box2 Hg1.out 27 hcs rfl X1D.out
              have p4 := box2 Hg1.out 4 hcs rfl X1D.out
              have p5 := box2 Hg1.out 5 hcs rfl X1D.out
              have p6 := box2 Hg1.out 6 hcs rfl X1D.out
              repeat' (first
                | (refine walks_move rfl rfl ?_; simp only [Act.put, Act.eval, List.setIfInBounds_toArray, List.set_cons_zero, List.set_cons_succ, Array.getD_eq_getD_getElem?, List.getElem?_toArray, List.getElem?_cons_zero, List.getElem?_cons_succ, Option.getD_some])
                | (refine walks_assign rfl rfl ?_; simp only [Act.put, Act.eval, List.setIfInBounds_toArray, List.set_cons_zero, List.set_cons_succ, Array.getD_eq_getD_getElem?, List.getElem?_toArray, List.getElem?_cons_zero, List.getElem?_cons_succ, Option.getD_some])
                | (refine walks_skip rfl rfl ?_; simp only [Act.put, List.setIfInBounds_toArray, List.set_cons_zero, List.set_cons_succ])
                | (refine walks_read (v := .agg cs) rfl rfl (fun w' hE => run_load_row 30 (.tmp 1) rfl _ rfl _ cs _ (row_later Hg1.out (X1D.out.trans (XE.out.trans hE))) Try.underlying30 rfl Zc.out) ?_; simp only [Act.put, List.setIfInBounds_toArray, List.set_cons_zero, List.set_cons_succ])
                | (refine walks_unwanted rfl rfl ?_; simp only [Act.put, List.setIfInBounds_toArray, List.set_cons_zero, List.set_cons_succ])
                | (refine walks_read (v := ?_) rfl rfl (fun w' hE => ?_) ?_; rotate_left 1; (· ((try (have hEx := Ext.trans (Hid.out XE) hE)); go_simp; (try go_bits); with_reducible rfl)); simp only [Act.put, List.setIfInBounds_toArray, List.set_cons_zero, List.set_cons_succ])
                | (refine walks_main rfl rfl (fun K hK => ?_); (first | (refine litints5_wp (.tmp 20) (.tmp 22) (.tmp 24) (.tmp 26) (.tmp 28) rfl rfl rfl rfl rfl rfl ?_; intro w7 hx7 hin7; have HIN := hid hin7; clear hin7; have XE' := hid (Ext.trans (Hid.out XE) hx7); clear XE; have XE := XE'; clear XE')); refine hK _ _ (by first | assumption | exact Ext.alloc _ _ | exact Ext.refl _) ?_; clear hK K; try simp only [Act.put, List.setIfInBounds_toArray, List.set_cons_zero, List.set_cons_succ])
                | (refine walks_alt ?_ ?_)
                | (refine walks_main rfl rfl (fun K hK => ?_); go_wp2_with (first | (go_at_call 57; (with_reducible refine (rknown_any _ _).mono ?_); rintro e w3 ⟨he, rfl⟩; rw [HK.out] at he; subst he) | (go_at_call 58; (with_reducible refine (kept_any hcs _ (Hm.out.ext (X1.out.trans (X1D.out.trans XE.out))) HK.out).mono ?_); rintro e w4 ⟨us, d4, rfl, hus, hr4, hx4⟩; have Hus := hid hus; have HR4 := hid hr4; clear hus hr4; have XE' := hid (Ext.trans (Hid.out XE) hx4); clear XE; have XE := XE'; clear XE') | (go_at_call 11; (with_reducible refine (rmsgsame_any hcs Hus _ (Hm.out.ext (X1.out.trans (X1D.out.trans XE.out))) HR4.out).mono ?_); rintro e w5 ⟨he, hx5⟩; rw [HB.out] at he; subst he; have XE' := hid (Ext.trans (Hid.out XE) hx5); clear XE; have XE := XE'; clear XE') | (go_at_call 59; (with_reducible refine (rints_any HIN.out 5 rfl (by decide)).mono ?_); rintro e w6 ⟨he, rfl⟩; rw [HI5.out] at he; subst he)); refine hK _ _ (by first | assumption | exact Ext.alloc _ _ | exact Ext.refl _) ?_; clear hK K; try simp only [Act.put, List.setIfInBounds_toArray, List.set_cons_zero, List.set_cons_succ]))
              refine walks_done ?_
              clear p1 p0 p7 p8 p26 p27 p4 p5 p6
              go_wp2
              go_meet
              exact ⟨by rw [HBad.out] <;> rfl, hxD.trans XE.out⟩
  case rest =>
    obtain ⟨rfl, hc1⟩ := hcut
    have X7 := hid (X1.out.trans hc1.out)
    have X17 := hid hc1.out
    clear hc1
    cases h1 : headOk m
    case false =>
      have H1 := hid h1
      clear h1
      go_wp2
      go_ret
      exact fin_false (head_false H1.out) X7.out
    case true =>
      have HH := hid h1
      clear h1
      go_upto_region 3 with fail
      go_cut [82] (fun c wx => c = .bool ((m.kind == 3 && !fb) || (m.kind == 19 && m.refs.length == 0)) ∧ Hid (Ext wc wx))
      case first =>
        as_aux_lemma =>
          have y1 := (boxCell Hg1.out 1 hcs rfl).ext X17.out
          have y30 := (boxCell Hg1.out 30 hcs rfl).ext X17.out
          have HL := hid Hm.out.refs.len
          by_cases hk : m.kind = 3
          · have t3 : (m.kind == 3) = true := by rw [hk]; rfl
            have t19 : (m.kind == 19) = false := by rw [hk]; rfl
            have HFS := hid (HF.out hk _ _ wc (Hm.out.ext X7.out).fil)
            clear hk
            have y10 := (boxCell Hg1.out 10 hcs rfl).ext X17.out; have y11 := (boxCell Hg1.out 11 hcs rfl).ext X17.out; have y12 := (boxCell Hg1.out 12 hcs rfl).ext X17.out; have y13 := (boxCell Hg1.out 13 hcs rfl).ext X17.out; have y14 := (boxCell Hg1.out 14 hcs rfl).ext X17.out; have y15 := (boxCell Hg1.out 15 hcs rfl).ext X17.out; have y16 := (boxCell Hg1.out 16 hcs rfl).ext X17.out
            have T3 := hid t3
            have T19 := hid t19
            cases fb
            · go_wp2_with (go_at_call 60; (with_reducible refine HFS.out.mono ?_); rintro e w6 ⟨rfl, hx6⟩; have X6 := hid hx6; clear hx6)
              go_meet
              exact ⟨by rw [T3.out, T19.out]; rfl, X6.out⟩
            · go_wp2_with (go_at_call 60; (with_reducible refine HFS.out.mono ?_); rintro e w6 ⟨rfl, hx6⟩; have X6 := hid hx6; clear hx6; have y1' := (boxCell Hg1.out 1 hcs rfl).ext (X17.out.trans X6.out))
              go_meet
              exact ⟨by rw [T3.out, T19.out]; rfl, X6.out⟩
          · have t3 : (m.kind == 3) = false := by rw [beq_eq_false_iff_ne]; exact hk
            clear hk
            have T3 := hid t3
            by_cases hk9 : m.kind = 19
            · have t19 : (m.kind == 19) = true := by rw [hk9]; rfl
              have T19 := hid t19
              clear hk9
              by_cases hz : d.refs.n = 0
              · have z0 : ((d.refs.n : Int) == 0) = true := by rw [hz]; rfl
                have HZ : Hid ((m.refs.length == 0) = true) := by show _ = _; rw [← HL.out, hz]; rfl
                clear hz
                go_wp2
                go_meet
                exact ⟨by rw [T3.out, T19.out, HZ.out]; rfl, Ext.refl _⟩
              · have z0 : ((d.refs.n : Int) == 0) = false := by rw [beq_eq_false_iff_ne]; omega
                have HZ : Hid ((m.refs.length == 0) = false) := by show _ = _; rw [← HL.out, beq_eq_false_iff_ne]; exact hz
                clear hz
                go_wp2
                go_meet
                exact ⟨by rw [T3.out, T19.out, HZ.out]; rfl, Ext.refl _⟩
            · have t19 : (m.kind == 19) = false := by rw [beq_eq_false_iff_ne]; exact hk9
              have T19 := hid t19
              clear hk9
              go_wp2
              go_meet
              exact ⟨by rw [T3.out, T19.out]; rfl, Ext.refl _⟩
      case rest =>
        obtain ⟨rfl, hc4⟩ := hcut
        have X74 := hid (X7.out.trans hc4.out)
        have X174 := hid (X17.out.trans hc4.out)
        clear X7 X17 hc4
        cases h4 : ((m.kind == 3 && !fb) || (m.kind == 19 && m.refs.length == 0))
        case true =>
          have H4 := hid h4
          clear h4
          go_wp2
          go_ret
          exact fin_false (kind_false H4.out) X74.out
        case false =>
          have H4 := hid h4
          clear h4
          go_upto_region 5 with fail
          go_cut [113] (fun c wx => c = .bool (!(shortB [m.name, m.pw, m.nrdn, m.sup, m.attr, m.value, m.matched, m.text] && shortB m.attrs && shortB m.refs)) ∧ Hid (Ext wc wx))
          case first =>
            · skip
              have HR := hid (row_lit wc 9 [m.name, m.pw, m.nrdn, m.sup, m.attr, m.value, m.matched, m.text] 8 rfl (by simp [maxLen]) #[.string m.name, .string m.pw, .string m.nrdn, .string m.sup, .string m.attr, .string m.value, .string m.matched, .string m.text] rfl)
              have XA := hid (Ext.alloc wc (.cells #[.string m.name, .string m.pw, .string m.nrdn, .string m.sup, .string m.attr, .string m.value, .string m.matched, .string m.text] 9))
              have y2 := (boxCell Hg1.out 2 hcs rfl).ext X174.out; have y3 := (boxCell Hg1.out 3 hcs rfl).ext X174.out; have y20 := (boxCell Hg1.out 20 hcs rfl).ext X174.out; have y23 := (boxCell Hg1.out 23 hcs rfl).ext X174.out; have y24 := (boxCell Hg1.out 24 hcs rfl).ext X174.out; have y25 := (boxCell Hg1.out 25 hcs rfl).ext X174.out; have y28 := (boxCell Hg1.out 28 hcs rfl).ext X174.out; have y29 := (boxCell Hg1.out 29 hcs rfl).ext X174.out
              cases h1 : shortB [m.name, m.pw, m.nrdn, m.sup, m.attr, m.value, m.matched, m.text]
              case false =>
                have H1 := hid h1
                clear h1
                go_wp2_with (go_at_call 61; (with_reducible refine (rshort_any HR.out).mono ?_); rintro e w8 ⟨he, hx8⟩; rw [H1.out] at he; subst he; have X8 := hid (XA.out.trans hx8); clear hx8)
                go_meet
                exact ⟨by simp [H1.out], X8.out⟩
              case true =>
                have H1 := hid h1
                clear h1
                cases h2 : shortB m.attrs
                case false =>
                  have H2 := hid h2
                  clear h2
                  go_wp2_with (first
                    | (go_at_call 61; (with_reducible refine (rshort_any HR.out).mono ?_); rintro e w8 ⟨he, hx8⟩; rw [H1.out] at he; subst he; have X8 := hid (XA.out.trans hx8); clear hx8; clear y2 y3 y20 y23 y24 y25 y28 y29; have y17 := (boxCell Hg1.out 17 hcs rfl).ext (X174.out.trans X8.out))
                    | (go_at_call 61; (with_reducible refine (rshort_any (Hm.out.attrs.ext (X74.out.trans X8.out))).mono ?_); rintro e w9 ⟨he, hx9⟩; rw [H2.out] at he; subst he; have X9 := hid (X8.out.trans hx9); clear hx9))
                  go_meet
                  exact ⟨by simp [H2.out], X9.out⟩
                case true =>
                  have H2 := hid h2
                  clear h2
                  cases h3 : shortB m.refs
                  all_goals
                    have HH3 := hid h3
                    clear h3
                    go_wp2_with (first
                      | (go_at_call 61; (with_reducible refine (rshort_any HR.out).mono ?_); rintro e w8 ⟨he, hx8⟩; rw [H1.out] at he; subst he; have X8 := hid (XA.out.trans hx8); clear hx8; clear y2 y3 y20 y23 y24 y25 y28 y29; have y17 := (boxCell Hg1.out 17 hcs rfl).ext (X174.out.trans X8.out))
                      | (go_at_call 61; (with_reducible refine (rshort_any (Hm.out.attrs.ext (X74.out.trans X8.out))).mono ?_); rintro e w9 ⟨he, hx9⟩; rw [H2.out] at he; subst he; have X9 := hid (X8.out.trans hx9); clear hx9; have y30 := (boxCell Hg1.out 30 hcs rfl).ext (X174.out.trans X9.out))
                      | (go_at_call 61; (with_reducible refine (rshort_any (Hm.out.refs.ext (X74.out.trans X9.out))).mono ?_); rintro e w10 ⟨he, hx10⟩; rw [HH3.out] at he; subst he; have X10 := hid (X9.out.trans hx10); clear hx10))
                    go_meet
                    exact ⟨by simp [H1.out, H2.out, HH3.out], X10.out⟩
          case rest =>
            obtain ⟨rfl, hc6⟩ := hcut
            have X76 := hid (X74.out.trans hc6.out)
            have X176 := hid (X174.out.trans hc6.out)
            clear X74 X174 hc6
            cases h6 : (shortB [m.name, m.pw, m.nrdn, m.sup, m.attr, m.value, m.matched, m.text] && shortB m.attrs && shortB m.refs)
            case false =>
              have H6 := hid h6
              clear h6
              go_wp2
              go_ret
              exact fin_false (sound_f6 H6.out) X76.out
            case true =>
              have H6 := hid h6
              clear h6
              simp only [Bool.not_true]
              have nl : d.list.n ≤ 9223372036854775807 := by have := Hm.out.list.cap; have := Hm.out.list.most; simp only [maxLen] at this; omega
              have y18 := (boxCell Hg1.out 18 hcs rfl).ext X176.out
              go_wp2
              clear y18
              go_loopw [117] (fun i wr' => ∃ j : Nat, j ≤ d.list.n ∧ i = .int .i64 j ∧ Hid (Ext wc wr') ∧ Hid ((m.list.take j).all shortAttB = true)) (fun i _ => d.list.n - (intOf i).toNat)
              case atStart => exact ⟨0, by omega, rfl, Ext.refl _, rfl⟩
              case round =>
                obtain ⟨j, hj, rfl, XL, HJ⟩ := hrel
                by_cases hlt : j < d.list.n
                · have y18 := (boxCell Hg1.out 18 hcs rfl).ext (X176.out.trans XL.out)
                  obtain ⟨b1, o1, v1, x1, hA, gx, -, ⟨A1, n1, c1, rfl, r1⟩, q1⟩ := (Hm.out.list.ext (X76.out.trans XL.out)).at_ hlt
                  have e10 := q1 0 _ rfl
                  have e11 := q1 1 _ rfl
                  simp only [Elem.att, Nat.add_zero] at e10 e11
                  rw [hA] at y18
                  clear q1 hA
                  have HX := hid gx
                  have R1 := hid r1
                  clear gx r1
                  cases hp : shortAttB x1
                  all_goals
                    have HP := hid hp
                    clear hp
                    go_wp2_with (go_at_call 62; (with_reducible refine (rshortattr_any (a := x1) R1.out).mono ?_); rintro e wt ⟨he, hxt⟩; rw [HP.out] at he; subst he; have Xt := hid (XL.out.trans hxt); clear hxt)
                  · go_ret
                    exact fin_false (sound_f7 (all_at HX.out HP.out)) (X76.out.trans Xt.out)
                  · exact ⟨⟨j + 1, by omega, by go_num, Xt.out, all_take HJ.out HX.out HP.out⟩, by simp [intOf]; omega⟩
                · have H7 : Hid (m.list.all shortAttB = true) := by
                    have h9 := HJ.out
                    rw [List.take_of_length_le (by have := Hm.out.list.len; omega)] at h9
                    exact h9
                  have hge : ¬ (j : Int) < (d.list.n : Int) := by omega
                  have X77 := hid (X76.out.trans XL.out)
                  have X177 := hid (X176.out.trans XL.out)
                  have ng : d.chgs.n ≤ 9223372036854775807 := by have := Hm.out.chgs.cap; have := Hm.out.chgs.most; simp only [maxLen] at this; omega
                  have y19 := (boxCell Hg1.out 19 hcs rfl).ext X177.out
                  clear HJ hj hlt nl X76 X176 XL
                  go_wp2
                  clear y19
                  clear hge
                  go_loopw [131] (fun i wr' => ∃ j : Nat, j ≤ d.chgs.n ∧ i = .int .i64 j ∧ Hid (Ext wr wr') ∧ Hid ((m.chgs.take j).all chgShortB = true)) (fun i _ => d.chgs.n - (intOf i).toNat)
                  case atStart => exact ⟨0, by omega, rfl, Ext.refl _, rfl⟩
                  case round =>
                    obtain ⟨j, hj, rfl, XL, HJ⟩ := hrel
                    by_cases hlt : j < d.chgs.n
                    · have y19 := (boxCell Hg1.out 19 hcs rfl).ext (X177.out.trans XL.out)
                      obtain ⟨b1, o1, v1, x1, hA, gx, -, ⟨A1, n1, c1, rfl, r1⟩, q1⟩ := (Hm.out.chgs.ext (X77.out.trans XL.out)).at_ hlt
                      have e10 := q1 0 _ rfl
                      have e11 := q1 1 _ rfl
                      have e12 := q1 2 _ rfl
                      simp only [Elem.chg, Nat.add_zero] at e10 e11 e12
                      rw [hA] at y19
                      clear q1 hA
                      have HX := hid gx
                      have R1 := hid r1
                      clear gx r1
                      by_cases h0 : x1.op < 0
                      · have HP : Hid (chgShortB x1 = false) := by show _ = _; simp [chgShortB, h0]
                        have g0 := decide_eq_true h0
                        go_wp2
                        go_ret
                        exact fin_false (sound_f8 (all_at HX.out HP.out)) (X77.out.trans XL.out)
                      by_cases h3 : 3 < x1.op
                      · have HP : Hid (chgShortB x1 = false) := by show _ = _; simp [chgShortB, h3]
                        have g0 := decide_eq_false h0
                        have g3 := decide_eq_true h3
                        go_wp2
                        go_ret
                        exact fin_false (sound_f8 (all_at HX.out HP.out)) (X77.out.trans XL.out)
                      have g0 := decide_eq_false h0
                      have g3 := decide_eq_false h3
                      cases hp : shortAttB x1.att
                      all_goals
                        have HQ := hid hp
                        have HP : Hid (chgShortB x1 = shortAttB x1.att) := by show _ = _; simp only [chgShortB, decide_eq_false h0, decide_eq_false h3, Bool.false_or, Bool.not_not]
                        clear hp
                        go_wp2_with (go_at_call 62; (with_reducible refine (rshortattr_any (a := x1.att) R1.out).mono ?_); rintro e wt ⟨he, hxt⟩; rw [HQ.out] at he; subst he; have Xt := hid (XL.out.trans hxt); clear hxt)
                      · go_ret
                        exact fin_false (sound_f8 (all_at HX.out (HP.out.trans HQ.out))) (X77.out.trans Xt.out)
                      · exact ⟨⟨j + 1, by omega, by go_num, Xt.out, all_take HJ.out HX.out (HP.out.trans HQ.out)⟩, by simp [intOf]; omega⟩
                    · have H8 : Hid (m.chgs.all chgShortB = true) := by
                        have h9 := HJ.out
                        rw [List.take_of_length_le (by have := Hm.out.chgs.len; omega)] at h9
                        exact h9
                      have hge : ¬ (j : Int) < (d.chgs.n : Int) := by omega
                      have X78 := hid (X77.out.trans XL.out)
                      have X178 := hid (X177.out.trans XL.out)
                      have nk : d.ctls.n ≤ 9223372036854775807 := by have := Hm.out.ctls.cap; have := Hm.out.ctls.most; simp only [maxLen] at this; omega
                      have y31 := (boxCell Hg1.out 31 hcs rfl).ext X178.out
                      clear HJ hj hlt ng X77 X177 XL
                      go_wp2
                      clear y31
                      clear hge
                      go_loopw [164] (fun i wr' => ∃ j : Nat, j ≤ d.ctls.n ∧ i = .int .i64 j ∧ Hid (Ext wr wr') ∧ Hid ((m.ctls.take j).all ctlShortB = true)) (fun i _ => d.ctls.n - (intOf i).toNat)
                      case atStart => exact ⟨0, by omega, rfl, Ext.refl _, rfl⟩
                      case round =>
                        obtain ⟨j, hj, rfl, XL, HJ⟩ := hrel
                        by_cases hlt : j < d.ctls.n
                        · have y31 := (boxCell Hg1.out 31 hcs rfl).ext (X178.out.trans XL.out)
                          obtain ⟨b1, o1, v1, x1, hA, gx, -, R1, q1⟩ := (Hm.out.ctls.ext (X78.out.trans XL.out)).at_ hlt
                          have hv1 : v1 = [.string x1.oid, .bool x1.crit, .bool x1.has, .string x1.val] := R1
                          subst hv1
                          have e10 := q1 0 _ rfl
                          have e11 := q1 1 _ rfl
                          have e12 := q1 2 _ rfl
                          have e13 := q1 3 _ rfl
                          simp only [Elem.ctl, Nat.add_zero] at e10 e11 e12 e13
                          rw [hA] at y31
                          clear q1 hA R1
                          have HX := hid gx
                          clear gx
                          have HZA := hid (zero_of_info (P := Try.prog) (t := 64) (v := .agg #[.string ByteArray.empty, .bool false, .bool false, .string ByteArray.empty]) (n := 4) (by kernel_rfl)).1
                          cases hp : shortB [x1.oid, x1.val]
                          case false =>
                            have HQ := hid hp
                            have HP : Hid (ctlShortB x1 = false) := by show _ = _; simp [ctlShortB, hp]
                            clear hp
                            obtain ⟨bh, hbh⟩ : ∃ bh, x1.has = bh := ⟨_, rfl⟩
                            rw [hbh] at e12
                            clear hbh
                            go_wp2_with (first
                              | (refine alloc_arm rfl 64 rfl _ HZA.out ?_; intro wa hxa hza hga; have Hga := hid hga; have Xa := hid hxa; clear hza hga hxa)
                              | (refine store_arm rfl 64 (.tmp 6) (.tmp 171) rfl wr.heap.size 0 rfl (.agg #[.string x1.oid, .bool x1.crit, .bool bh, .string x1.val]) rfl _ _ Hga.out (by kernel_rfl) (by simp [Value.cells]) (by simp [Value.cells, Value.oneCell']) ?_; intro ws hgs hzs hrs; have z0 := boxRow (cs := #[.string x1.oid, .bool x1.crit, .bool bh, .string x1.val]) hrs 0 rfl; have z2 := boxRow (cs := #[.string x1.oid, .bool x1.crit, .bool bh, .string x1.val]) hrs 2 rfl; have z3 := boxRow (cs := #[.string x1.oid, .bool x1.crit, .bool bh, .string x1.val]) hrs 3 rfl; have Z2 := hid z2; have Z3 := hid z3; clear z2; have Xs := hid (ext_grown' Xa.out hgs); have HR := hid (row_lit ws 9 [x1.oid, x1.val] 2 rfl (by simp [maxLen]) #[.string x1.oid, .string x1.val] rfl); clear hgs hzs hrs))
                            (with_reducible refine (rshort_any HR.out).mono ?_)
                            rintro e wt ⟨he, hxt⟩
                            rw [HQ.out] at he
                            subst he
                            have Xt := hid (XL.out.trans (Xs.out.trans (Ext.trans (Ext.alloc _ _) hxt)))
                            have z2' := cell_later Z2.out _ (Ext.trans (Ext.alloc _ _) hxt)
                            have z3' := cell_later Z3.out _ (Ext.trans (Ext.alloc _ _) hxt)
                            clear hxt z0 z3
                            go_wp2
                            go_ret
                            exact fin_false (sound_f9 (all_at HX.out HP.out)) (X78.out.trans Xt.out)
                          case true =>
                            have HQ := hid hp
                            obtain ⟨bh, hbh⟩ : ∃ bh, x1.has = bh := ⟨_, rfl⟩
                            rw [hbh] at e12
                            have HBH := hid hbh
                            have HPP := hid hp
                            clear hbh hp
                            by_cases hv : x1.val.size = 0
                            · have HP : Hid (ctlShortB x1 = true) := by show _ = _; unfold ctlShortB; rw [HPP.out, show (x1.val.toList != ByteArray.empty.toList) = false from by rw [str_emp hv]; simp]; rfl
                              have hve := emp_yes hv
                              clear hv
                              cases bh
                              · go_wp2_with (first
                                  | (refine alloc_arm rfl 64 rfl _ HZA.out ?_; intro wa hxa hza hga; have Hga := hid hga; have Xa := hid hxa; clear hza hga hxa)
                                  | (refine store_arm rfl 64 (.tmp 6) (.tmp 171) rfl wr.heap.size 0 rfl (.agg #[.string x1.oid, .bool x1.crit, .bool false, .string x1.val]) rfl _ _ Hga.out (by kernel_rfl) (by simp [Value.cells]) (by simp [Value.cells, Value.oneCell']) ?_; intro ws hgs hzs hrs; have z0 := boxRow (cs := #[.string x1.oid, .bool x1.crit, .bool false, .string x1.val]) hrs 0 rfl; have z2 := boxRow (cs := #[.string x1.oid, .bool x1.crit, .bool false, .string x1.val]) hrs 2 rfl; have z3 := boxRow (cs := #[.string x1.oid, .bool x1.crit, .bool false, .string x1.val]) hrs 3 rfl; have Z2 := hid z2; have Z3 := hid z3; clear z2; have Xs := hid (ext_grown' Xa.out hgs); have HR := hid (row_lit ws 9 [x1.oid, x1.val] 2 rfl (by simp [maxLen]) #[.string x1.oid, .string x1.val] rfl); clear hgs hzs hrs))
                                (with_reducible refine (rshort_any HR.out).mono ?_)
                                rintro e wt ⟨he, hxt⟩
                                rw [HQ.out] at he
                                subst he
                                have Xt := hid (XL.out.trans (Xs.out.trans (Ext.trans (Ext.alloc _ _) hxt)))
                                have z2' := cell_later Z2.out _ (Ext.trans (Ext.alloc _ _) hxt)
                                have z3' := cell_later Z3.out _ (Ext.trans (Ext.alloc _ _) hxt)
                                clear hxt z0 z3
                                go_wp2
                                exact ⟨⟨j + 1, by omega, by go_num, Xt.out, all_take HJ.out HX.out HP.out⟩, by simp [intOf]; omega⟩
                              · go_wp2_with (first
                                  | (refine alloc_arm rfl 64 rfl _ HZA.out ?_; intro wa hxa hza hga; have Hga := hid hga; have Xa := hid hxa; clear hza hga hxa)
                                  | (refine store_arm rfl 64 (.tmp 6) (.tmp 171) rfl wr.heap.size 0 rfl (.agg #[.string x1.oid, .bool x1.crit, .bool true, .string x1.val]) rfl _ _ Hga.out (by kernel_rfl) (by simp [Value.cells]) (by simp [Value.cells, Value.oneCell']) ?_; intro ws hgs hzs hrs; have z0 := boxRow (cs := #[.string x1.oid, .bool x1.crit, .bool true, .string x1.val]) hrs 0 rfl; have z2 := boxRow (cs := #[.string x1.oid, .bool x1.crit, .bool true, .string x1.val]) hrs 2 rfl; have z3 := boxRow (cs := #[.string x1.oid, .bool x1.crit, .bool true, .string x1.val]) hrs 3 rfl; have Z2 := hid z2; have Z3 := hid z3; clear z2; have Xs := hid (ext_grown' Xa.out hgs); have HR := hid (row_lit ws 9 [x1.oid, x1.val] 2 rfl (by simp [maxLen]) #[.string x1.oid, .string x1.val] rfl); clear hgs hzs hrs))
                                (with_reducible refine (rshort_any HR.out).mono ?_)
                                rintro e wt ⟨he, hxt⟩
                                rw [HQ.out] at he
                                subst he
                                have Xt := hid (XL.out.trans (Xs.out.trans (Ext.trans (Ext.alloc _ _) hxt)))
                                have z2' := cell_later Z2.out _ (Ext.trans (Ext.alloc _ _) hxt)
                                have z3' := cell_later Z3.out _ (Ext.trans (Ext.alloc _ _) hxt)
                                clear hxt z0 z3
                                go_wp2
                                exact ⟨⟨j + 1, by omega, by go_num, Xt.out, all_take HJ.out HX.out HP.out⟩, by simp [intOf]; omega⟩
                            · have HP : Hid (ctlShortB x1 = bh) := by
                                show _ = _
                                unfold ctlShortB
                                rw [HPP.out, show (x1.val.toList != ByteArray.empty.toList) = true from by rw [bne, str_ne (fun e => hv (by rw [e]; rfl))]; rfl, HBH.out]
                                cases bh <;> rfl
                              have hve := emp_no hv
                              have hvb : x1.val.toList.isEmpty = false := by rw [List.isEmpty_eq_false_iff]; exact hve
                              clear hv
                              cases bh
                              · go_wp2_with (first
                                  | (refine alloc_arm rfl 64 rfl _ HZA.out ?_; intro wa hxa hza hga; have Hga := hid hga; have Xa := hid hxa; clear hza hga hxa)
                                  | (refine store_arm rfl 64 (.tmp 6) (.tmp 171) rfl wr.heap.size 0 rfl (.agg #[.string x1.oid, .bool x1.crit, .bool false, .string x1.val]) rfl _ _ Hga.out (by kernel_rfl) (by simp [Value.cells]) (by simp [Value.cells, Value.oneCell']) ?_; intro ws hgs hzs hrs; have z0 := boxRow (cs := #[.string x1.oid, .bool x1.crit, .bool false, .string x1.val]) hrs 0 rfl; have z2 := boxRow (cs := #[.string x1.oid, .bool x1.crit, .bool false, .string x1.val]) hrs 2 rfl; have z3 := boxRow (cs := #[.string x1.oid, .bool x1.crit, .bool false, .string x1.val]) hrs 3 rfl; have Z2 := hid z2; have Z3 := hid z3; clear z2; have Xs := hid (ext_grown' Xa.out hgs); have HR := hid (row_lit ws 9 [x1.oid, x1.val] 2 rfl (by simp [maxLen]) #[.string x1.oid, .string x1.val] rfl); clear hgs hzs hrs))
                                (with_reducible refine (rshort_any HR.out).mono ?_)
                                rintro e wt ⟨he, hxt⟩
                                rw [HQ.out] at he
                                subst he
                                have Xt := hid (XL.out.trans (Xs.out.trans (Ext.trans (Ext.alloc _ _) hxt)))
                                have z2' := cell_later Z2.out _ (Ext.trans (Ext.alloc _ _) hxt)
                                have z3' := cell_later Z3.out _ (Ext.trans (Ext.alloc _ _) hxt)
                                clear hxt z0 z3
                                go_wp2
                                go_ret
                                exact fin_false (sound_f9 (all_at HX.out HP.out)) (X78.out.trans Xt.out)
                              · go_wp2_with (first
                                  | (refine alloc_arm rfl 64 rfl _ HZA.out ?_; intro wa hxa hza hga; have Hga := hid hga; have Xa := hid hxa; clear hza hga hxa)
                                  | (refine store_arm rfl 64 (.tmp 6) (.tmp 171) rfl wr.heap.size 0 rfl (.agg #[.string x1.oid, .bool x1.crit, .bool true, .string x1.val]) rfl _ _ Hga.out (by kernel_rfl) (by simp [Value.cells]) (by simp [Value.cells, Value.oneCell']) ?_; intro ws hgs hzs hrs; have z0 := boxRow (cs := #[.string x1.oid, .bool x1.crit, .bool true, .string x1.val]) hrs 0 rfl; have z2 := boxRow (cs := #[.string x1.oid, .bool x1.crit, .bool true, .string x1.val]) hrs 2 rfl; have z3 := boxRow (cs := #[.string x1.oid, .bool x1.crit, .bool true, .string x1.val]) hrs 3 rfl; have Z2 := hid z2; have Z3 := hid z3; clear z2; have Xs := hid (ext_grown' Xa.out hgs); have HR := hid (row_lit ws 9 [x1.oid, x1.val] 2 rfl (by simp [maxLen]) #[.string x1.oid, .string x1.val] rfl); clear hgs hzs hrs))
                                (with_reducible refine (rshort_any HR.out).mono ?_)
                                rintro e wt ⟨he, hxt⟩
                                rw [HQ.out] at he
                                subst he
                                have Xt := hid (XL.out.trans (Xs.out.trans (Ext.trans (Ext.alloc _ _) hxt)))
                                have z2' := cell_later Z2.out _ (Ext.trans (Ext.alloc _ _) hxt)
                                have z3' := cell_later Z3.out _ (Ext.trans (Ext.alloc _ _) hxt)
                                clear hxt z0 z3
                                go_wp2
                                exact ⟨⟨j + 1, by omega, by go_num, Xt.out, all_take HJ.out HX.out HP.out⟩, by simp [intOf]; omega⟩
                        · have H9 : Hid (m.ctls.all ctlShortB = true) := by
                            have h9 := HJ.out
                            rw [List.take_of_length_le (by have := Hm.out.ctls.len; omega)] at h9
                            exact h9
                          have hge : ¬ (j : Int) < (d.ctls.n : Int) := by omega
                          have HF9 : Hid (soundB fb m = true) := form_true HH.out H4.out H6.out H7.out H8.out H9.out
                          have X79 := hid (X78.out.trans XL.out)
                          go_wp2
                          go_ret
                          exact ⟨by rw [HF9.out]; rfl, X79.out⟩
end Go.Proofs.Ytabaeiolpbdjnaa
