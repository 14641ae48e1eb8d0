/- The walk of the reference's Same. -/
import Derived.Test.YtabaeiolpbdjnaaMi
import Derived.Test.YtabaeiolpbdjnaaDv
import Derived.Test.YtabaeiolpbdjnaaDx
import Derived.Deep.Cut
import Derived.Deep.DeepCutAuto
namespace Go.Proofs.Ytabaeiolpbdjnaa
open Go.RowKit
set_option maxRecDepth 100000

def scalA (a b : Msg) : Bool := a.id == b.id && a.kind == b.kind && a.name.toList == b.name.toList && a.pw.toList == b.pw.toList && a.ver == b.ver && a.scope == b.scope && a.deref == b.deref && a.size == b.size && a.time == b.time && a.tonly == b.tonly
def scalB (a b : Msg) : Bool := a.nrdn.toList == b.nrdn.toList && a.dold == b.dold && a.hsup == b.hsup && a.sup.toList == b.sup.toList && a.attr.toList == b.attr.toList && a.value.toList == b.value.toList && a.target == b.target && a.code == b.code && a.matched.toList == b.matched.toList && a.text.toList == b.text.toList
theorem headB_scal (a b : Msg) : headB a b = (scalA a b && scalB a b) := by simp [headB, scalA, scalB, Bool.and_assoc]
theorem ext_szJ {w w' : World} (h : Ext w w') : w.heap.size ≤ w'.heap.size := h.size
theorem ret_bool_not {a b : Bool} (h : a = b) : Value.bool (!b) = .bool (!a) := by rw [h]

set_option maxHeartbeats 40000000 in
theorem rmsgsame_any {a b : Msg} {d e' : MsgD} {cs ds : Array Value} {S T : Nat → Prop} (hcs : Hid (cs = (msgCells a d).toArray)) (hds : Hid (ds = (msgCells b e').toArray)) (w : World) (ha : MsgRows S w a d) (hb : MsgRows T w b e') :
    Calls Try.prog 11 #[.agg cs, .agg ds] w fun e w' => e = .returned (.bool (sameB a b)) ∧ Ext w w' := by
  have Ha := hid ha
  have Hb := hid hb
  clear ha hb
  go_enter Try.func11, Try.ntmps11
  go_upto_region 1 with (first
    | (refine box_arm rfl 30 (.tmp 0) rfl cs rfl ?_; intro w1 hx1 hz1 hg1; have Hg1 := hid hg1; clear hz1 hg1)
    | (refine box_arm rfl 30 (.tmp 1) rfl ds rfl ?_; intro w2 hx2 hz2 hg2; have Hg2 := hid hg2; have Hg3 := hid (row_later Hg1.out hx2); have X2 := hid (hx1.trans hx2); clear hz2 hg2 Hg1))
  go_cut [72] (fun c wx => c = .bool (!scalA a b) ∧ wx = w2)
  case first =>
    as_aux_lemma =>
      have p0 := (boxCell Hg3.out 0 hcs rfl).out; have q0 := (boxCell Hg2.out 0 hds rfl).out; have p1 := (boxCell Hg3.out 1 hcs rfl).out; have q1 := (boxCell Hg2.out 1 hds rfl).out; have p2 := (boxCell Hg3.out 2 hcs rfl).out; have q2 := (boxCell Hg2.out 2 hds rfl).out; have p3 := (boxCell Hg3.out 3 hcs rfl).out; have q3 := (boxCell Hg2.out 3 hds rfl).out; have p4 := (boxCell Hg3.out 4 hcs rfl).out; have q4 := (boxCell Hg2.out 4 hds rfl).out; have p5 := (boxCell Hg3.out 5 hcs rfl).out; have q5 := (boxCell Hg2.out 5 hds rfl).out; have p6 := (boxCell Hg3.out 6 hcs rfl).out; have q6 := (boxCell Hg2.out 6 hds rfl).out; have p7 := (boxCell Hg3.out 7 hcs rfl).out; have q7 := (boxCell Hg2.out 7 hds rfl).out; have p8 := (boxCell Hg3.out 8 hcs rfl).out; have q8 := (boxCell Hg2.out 8 hds rfl).out; have p9 := (boxCell Hg3.out 9 hcs rfl).out; have q9 := (boxCell Hg2.out 9 hds rfl).out
      go_wp2
      all_goals
        go_meet
        clear p0 q0 p1 q1 p2 q2 p3 q3 p4 q4 p5 q5 p6 q6 p7 q7 p8 q8 p9 q9
        refine ⟨?_, rfl⟩
        simp [scalA, *]
  case rest =>
    obtain ⟨rfl, rfl⟩ := hcut
    have HS : Hid (sameB a b = (scalA a b && scalB a b && decide (a.fil = b.fil) && decide (a.attrs = b.attrs) && decide (a.list = b.list) && decide (a.chgs = b.chgs) && decide (a.refs = b.refs) && decide (a.ctls = b.ctls))) := by
      show _ = _
      unfold sameB
      rw [headB_scal]
    generalize scalA a b = sA at *
    cases sA
    case false =>
      go_wp2
      go_ret
      exact ⟨ret_bool (by rw [HS.out]; rfl), X2.out⟩
    simp only [Bool.not_true]
    go_upto_region 3 with fail
    go_cut [140] (fun c wx => c = .bool (!scalB a b) ∧ wx = wc)
    case first =>
      as_aux_lemma =>
        have p20 := (boxCell Hg3.out 20 hcs rfl).out; have q20 := (boxCell Hg2.out 20 hds rfl).out; have p21 := (boxCell Hg3.out 21 hcs rfl).out; have q21 := (boxCell Hg2.out 21 hds rfl).out; have p22 := (boxCell Hg3.out 22 hcs rfl).out; have q22 := (boxCell Hg2.out 22 hds rfl).out; have p23 := (boxCell Hg3.out 23 hcs rfl).out; have q23 := (boxCell Hg2.out 23 hds rfl).out; have p24 := (boxCell Hg3.out 24 hcs rfl).out; have q24 := (boxCell Hg2.out 24 hds rfl).out; have p25 := (boxCell Hg3.out 25 hcs rfl).out; have q25 := (boxCell Hg2.out 25 hds rfl).out; have p26 := (boxCell Hg3.out 26 hcs rfl).out; have q26 := (boxCell Hg2.out 26 hds rfl).out; have p27 := (boxCell Hg3.out 27 hcs rfl).out; have q27 := (boxCell Hg2.out 27 hds rfl).out; have p28 := (boxCell Hg3.out 28 hcs rfl).out; have q28 := (boxCell Hg2.out 28 hds rfl).out; have p29 := (boxCell Hg3.out 29 hcs rfl).out; have q29 := (boxCell Hg2.out 29 hds rfl).out
        go_wp2
        all_goals
          go_meet
          clear p20 q20 p21 q21 p22 q22 p23 q23 p24 q24 p25 q25 p26 q26 p27 q27 p28 q28 p29 q29
          refine ⟨?_, rfl⟩
          simp [scalB, *]
    case rest =>
      obtain ⟨rfl, rfl⟩ := hcut
      generalize scalB a b = sB at *
      cases sB
      case false =>
        go_wp2
        go_ret
        exact ⟨ret_bool (by rw [HS.out]; rfl), X2.out⟩
      simp only [Bool.not_true]
      have XE : Hid (Ext wc wc) := Ext.refl _
      have Ha2 := hid (Ha.out.ext X2.out)
      have Hb2 := hid (Hb.out.ext X2.out)
      have HFS : Hid (∀ w', Ext wc w' → Calls Try.prog 33 #[.agg #[.int .i64 a.fil.kind, .string a.fil.attr, .string a.fil.value, .string a.fil.first, .string a.fil.last, .slice d.any.A d.any.n d.any.c, .slice d.parts.A d.parts.n d.parts.c], .agg #[.int .i64 b.fil.kind, .string b.fil.attr, .string b.fil.value, .string b.fil.first, .string b.fil.last, .slice e'.any.A e'.any.n e'.any.c, .slice e'.parts.A e'.parts.n e'.parts.c]] w' fun e w'' => e = .returned (.bool (decide (a.fil = b.fil))) ∧ Ext w' w'') := fun w' hE => rfiltersame_any a.fil b.fil _ _ _ _ w' (Ha2.out.ext hE).fil (Hb2.out.ext hE).fil
      have p10 := (boxCell Hg3.out 10 hcs rfl).out; have q10 := (boxCell Hg2.out 10 hds rfl).out; have p11 := (boxCell Hg3.out 11 hcs rfl).out; have q11 := (boxCell Hg2.out 11 hds rfl).out; have p12 := (boxCell Hg3.out 12 hcs rfl).out; have q12 := (boxCell Hg2.out 12 hds rfl).out; have p13 := (boxCell Hg3.out 13 hcs rfl).out; have q13 := (boxCell Hg2.out 13 hds rfl).out; have p14 := (boxCell Hg3.out 14 hcs rfl).out; have q14 := (boxCell Hg2.out 14 hds rfl).out; have p15 := (boxCell Hg3.out 15 hcs rfl).out; have q15 := (boxCell Hg2.out 15 hds rfl).out; have p16 := (boxCell Hg3.out 16 hcs rfl).out; have q16 := (boxCell Hg2.out 16 hds rfl).out; have p17 := (boxCell Hg3.out 17 hcs rfl).out; have q17 := (boxCell Hg2.out 17 hds rfl).out; have p18 := (boxCell Hg3.out 18 hcs rfl).out; have q18 := (boxCell Hg2.out 18 hds rfl).out; have p19 := (boxCell Hg3.out 19 hcs rfl).out; have q19 := (boxCell Hg2.out 19 hds rfl).out; have p30 := (boxCell Hg3.out 30 hcs rfl).out; have q30 := (boxCell Hg2.out 30 hds rfl).out; have p31 := (boxCell Hg3.out 31 hcs rfl).out; have q31 := (boxCell Hg2.out 31 hds rfl).out
      have r4 : w.heap.size < wc.heap.size := World.block_lt_of_cell? wc _ p10
      have s4 : w1.heap.size < wc.heap.size := World.block_lt_of_cell? wc _ q10
      rcases first_false true (decide (a.fil = b.fil)) (decide (a.attrs = b.attrs)) (decide (a.list = b.list)) (decide (a.chgs = b.chgs)) (decide (a.refs = b.refs)) (decide (a.ctls = b.ctls)) with ⟨h0, h1, h2, h3, h4, h5, h6⟩ | h0 | ⟨h0, h1⟩ | ⟨h0, h1, h2⟩ | ⟨h0, h1, h2, h3⟩ | ⟨h0, h1, h2, h3, h4⟩ | ⟨h0, h1, h2, h3, h4, h5⟩ | ⟨h0, h1, h2, h3, h4, h5, h6⟩
      case inr.inl => cases h0
      all_goals as_aux_lemma =>
        clear h0
        have B1 := hid h1
        try have B2 := hid h2
        try have B3 := hid h3
        try have B4 := hid h4
        try have B5 := hid h5
        try have B6 := hid h6
        first
          | (have HF : Hid (sameB a b = true) := (by show _ = _; rw [HS.out, h1, h2, h3, h4, h5, h6]; rfl))
          | (have HF : Hid (sameB a b = false) := (by show _ = _; rw [HS.out]; (first | rw [h1, h2, h3, h4, h5, h6] | rw [h1, h2, h3, h4, h5] | rw [h1, h2, h3, h4] | rw [h1, h2, h3] | rw [h1, h2] | rw [h1]); simp only [Bool.true_and, Bool.false_and, Bool.and_false]))
        clear h1
        try clear h2
        try clear h3
        try clear h4
        try clear h5
        try clear h6
        go_wp2_with (first
          | (go_at_call 33; (with_reducible refine (HFS.out _ XE.out).mono ?_); rintro e w5 ⟨he, hx5⟩; rw [B1.out] at he; subst he; have bc5 := bcell hx5; have r5 := Nat.lt_of_lt_of_le r4 (ext_szJ hx5); have s5 := Nat.lt_of_lt_of_le s4 (ext_szJ hx5); have XE2 := hid (XE.out.trans hx5); clear XE; have XE := XE2; clear XE2)
          | (go_at_call 34; (with_reducible refine (sametexts_any (Ha2.out.attrs.ext XE.out) (Hb2.out.attrs.ext XE.out)).mono ?_); rintro e w6 ⟨he, hx6⟩; rw [B2.out] at he; subst he; have bc6 := bcell hx6; have r6 := Nat.lt_of_lt_of_le r5 (ext_szJ hx6); have s6 := Nat.lt_of_lt_of_le s5 (ext_szJ hx6); have XE2 := hid (XE.out.trans hx6); clear XE; have XE := XE2; clear XE2)
          | (go_at_call 35; (with_reducible refine (rsameatts_any (Ha2.out.list.ext XE.out) (Hb2.out.list.ext XE.out)).mono ?_); rintro e w7 ⟨he, hx7⟩; rw [B3.out] at he; subst he; have bc7 := bcell hx7; have r7 := Nat.lt_of_lt_of_le r6 (ext_szJ hx7); have s7 := Nat.lt_of_lt_of_le s6 (ext_szJ hx7); have XE2 := hid (XE.out.trans hx7); clear XE; have XE := XE2; clear XE2)
          | (go_at_call 36; (with_reducible refine (rsamechanges_any (Ha2.out.chgs.ext XE.out) (Hb2.out.chgs.ext XE.out)).mono ?_); rintro e w8 ⟨he, hx8⟩; rw [B4.out] at he; subst he; have bc8 := bcell hx8; have r8 := Nat.lt_of_lt_of_le r7 (ext_szJ hx8); have s8 := Nat.lt_of_lt_of_le s7 (ext_szJ hx8); have XE2 := hid (XE.out.trans hx8); clear XE; have XE := XE2; clear XE2)
          | (go_at_call 34; (with_reducible refine (sametexts_any (Ha2.out.refs.ext XE.out) (Hb2.out.refs.ext XE.out)).mono ?_); rintro e w9 ⟨he, hx9⟩; rw [B5.out] at he; subst he; have bc9 := bcell hx9; have r9 := Nat.lt_of_lt_of_le r8 (ext_szJ hx9); have s9 := Nat.lt_of_lt_of_le s8 (ext_szJ hx9); have XE2 := hid (XE.out.trans hx9); clear XE; have XE := XE2; clear XE2)
          | (go_at_call 37; (with_reducible refine (samectls_any (Ha2.out.ctls.ext XE.out) (Hb2.out.ctls.ext XE.out)).mono ?_); rintro e w10 ⟨he, hx10⟩; rw [B6.out] at he; subst he; have bc10 := bcell hx10; have r10 := Nat.lt_of_lt_of_le r9 (ext_szJ hx10); have s10 := Nat.lt_of_lt_of_le s9 (ext_szJ hx10); have XE2 := hid (XE.out.trans hx10); clear XE; have XE := XE2; clear XE2))
        go_ret
        exact ⟨ret_bool HF.out, X2.out.trans XE.out⟩
end Go.Proofs.Ytabaeiolpbdjnaa
