/- MsgEncodes: the walk of the law, where what comes in is of bulk at most 1048576. -/
import Derived.Test.YtabaeiolpbdjnaaLawS
import Derived.Test.YtabaeiolpbdjnaaZe
namespace Go.Proofs.Ytabaeiolpbdjnaa
open Go.RowKit
set_option maxRecDepth 100000
set_option linter.unusedSimpArgs false
set_option linter.unusedVariables false

/-- What both Encodes give. -/
def EncOut (w : World) (ys : List UInt8) (k : Int) (e : Ending) (w' : World) : Prop := ∃ A n c, e = .returned (.tuple #[.slice A n c, .int .i64 k]) ∧ Sl w' A n c ys ∧ Ext w w'
theorem enc_both {m : Msg} (ho : MsgOk m) (hc : attCnt m.list + chgCnt m.chgs ≤ 5000) :
    ∃ (ys : List UInt8) (k : Int), (∀ (w : World) (us : Array Value) (d : MsgD) (S : Nat → Prop), Hid (us = (msgCells m d).toArray) → MsgRows S w m d → Calls Try.prog 7 #[.agg us] w (EncOut w ys k)) ∧
      (∀ (w : World) (us : Array Value) (d : MsgD) (S : Nat → Prop), Hid (us = (msgCells m d).toArray) → MsgRows S w m d → Calls Try.prog 9 #[.agg us] w (EncOut w ys k)) := by
  cases hs : soundB (fbM m) m
  · refine ⟨[], 1, fun w us d S hu hr => (encode_unsound hu w hr ho hs).mono ?_, fun w us d S hu hr => (rencode_unsound hu w hr ho hs).mono ?_⟩
    · rintro e w' ⟨rfl, hx⟩
      exact ⟨_, _, _, rfl, Sl.nil _, hx⟩
    · rintro e w' ⟨rfl, hx⟩
      exact ⟨_, _, _, rfl, Sl.nil _, hx⟩
  · exact ⟨_, _, fun w us d S hu hr => encode_sound hu w hr (fits_of ho hc hs) (known_of hs) hs, fun w us d S hu hr => rencode_sound hu w hr (fits_of ho hc hs) (known_of hs) hs⟩
set_option maxHeartbeats 4000000 in
theorem msgEncodes_walk (m : Msg) (d : MsgD) (w : World) (hm : MsgRows (fun _ => True) w m d) (om : MsgOk m) :
    Calls Try.prog 3 #[.agg (msgCells m d).toArray] w fun e w' => e = .returned (.bool true) ∧ Below w.heap.size w w' := by
  obtain ⟨cs, hcs0⟩ : ∃ cs, cs = (msgCells m d).toArray := ⟨_, rfl⟩
  rw [← hcs0]
  have hcs := hid hcs0
  have Hm := hid hm
  have Zc : Hid ((Try.prog.info? 30).map (·.size) = some cs.size) := by show _ = _; rw [hcs0]; kernel_rfl
  have Ff := hid om.fil.ok
  have Kk := hid om.ctls.1
  have Om := hid om
  clear hcs0 hm om
  go_enter Try.func3, Try.ntmps3
  go_wp2_with (first
    | (refine box_arm rfl 30 (.tmp 0) rfl cs rfl ?_; intro w1 hx1 hz1 hg1; have Hg1 := hid hg1; have X1 := hid hx1; clear hz1 hg1 hx1)
    | (go_at_call 5; (with_reducible refine (awake_any _).mono ?_); rintro e w3 ⟨rfl, hx3⟩; have X3 := hid hx3; clear hx3)
    | (refine load_row_wanted (by kernel_rfl) 30 (.tmp 1) rfl w.heap.size rfl _ _ _ (row_later Hg1.out X3.out) Try.underlying30 rfl Zc.out ?_))
  refine (msgsmall_few hcs _ (Hm.out.ext (X1.out.trans X3.out)) Om.out).mono ?_
  rintro e w4 ⟨r, rfl, hcnt, hx4⟩
  have X4 := hid (X3.out.trans hx4)
  clear hx4 X3
  cases r
  · clear hcnt
    go_wp2_with (go_at_call 5; (with_reducible refine (awake_any _).mono ?_); rintro e w5 ⟨rfl, hx5⟩)
    go_ret
    exact ⟨rfl, X1.out.trans (X4.out.trans hx5)⟩
  obtain ⟨ys, k, he, hr⟩ := enc_both Om.out (hcnt rfl)
  have HE := hid he
  have HR := hid hr
  clear he hr hcnt
  have hkk : (k == k) = true := beq_self_eq_true k
  have hss : ((⟨ys.toArray⟩ : ByteArray).toList == (⟨ys.toArray⟩ : ByteArray).toList) = true := beq_self_eq_true _
  go_wp2_with (first
    | (have chk := X6; clear chk; refine wpList_load_row rfl 30 (.tmp 1) rfl w.heap.size rfl _ _ _ _ (row_later Hg1.out X6.out) Try.underlying30 rfl Zc.out ?_)
    | (refine wpList_load_row rfl 30 (.tmp 1) rfl w.heap.size rfl _ _ _ _ (row_later Hg1.out X4.out) Try.underlying30 rfl Zc.out ?_)
    | (go_at_call 8; (with_reducible refine (theirsmsg_any hcs _ (Hm.out.ext (X1.out.trans X4.out)) Ff.out Kk.out).mono ?_); rintro e w5 ⟨us5, d5, rfl, hu5, hr5, hx5⟩; have HU5 := hid hu5; have HR5 := hid hr5; have X5 := hid (X4.out.trans hx5); clear hu5 hr5 hx5)
    | (go_at_call 7; (with_reducible refine (HE.out _ _ _ _ HU5 HR5.out).mono ?_); rintro e w6 ⟨A6, n6, c6, rfl, hs6, hx6⟩; have HS6 := hid hs6; have X6 := hid (X5.out.trans hx6); clear hs6 hx6)
    | (go_at_call 9; (with_reducible refine (HR.out _ _ _ _ hcs (Hm.out.ext (X1.out.trans X6.out))).mono ?_); rintro e w7 ⟨A7, n7, c7, rfl, hs7, hx7⟩; have hcv6 := HS6.out.conv _ hx7; have hcv7 := hs7.conv _ (Ext.refl _); have X7 := hid (X6.out.trans hx7); clear hs7 hx7))
  go_ret
  exact ⟨rfl, X1.out.trans X7.out⟩
end Go.Proofs.Ytabaeiolpbdjnaa
