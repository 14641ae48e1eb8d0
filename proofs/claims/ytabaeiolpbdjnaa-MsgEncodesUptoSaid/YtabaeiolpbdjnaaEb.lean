/- The walk of msg's Encode at an unbinding, without controls. -/
import Derived.Test.YtabaeiolpbdjnaaEa
import Derived.Test.YtabaeiolpbdjnaaSo
import Derived.Test.YtabaeiolpbdjnaaFrC
namespace Go.Proofs.Ytabaeiolpbdjnaa
open Go.RowKit
set_option maxRecDepth 100000
set_option linter.unusedSimpArgs false

set_option maxHeartbeats 1000000 in
theorem parts_none {m : Msg} {d : MsgD} {cs : Array Value} (hcs : Hid (cs = (msgCells m d).toArray)) (w : World) (hk : m.kind = 2) :
    Calls Try.prog 18 #[.agg cs] w fun e w' => e = .returned (.slice none 0 0) ∧ Ext w w' := by
  have t0 : (m.kind == 0) = false := by rw [hk]; rfl
  have t3 : (m.kind == 3) = false := by rw [hk]; rfl
  have t6 : (m.kind == 6) = false := by rw [hk]; rfl
  have t8 : (m.kind == 8) = false := by rw [hk]; rfl
  have t4 : (m.kind == 4) = false := by rw [hk]; rfl
  have t10 : (m.kind == 10) = false := by rw [hk]; rfl
  have t12 : (m.kind == 12) = false := by rw [hk]; rfl
  have t14 : (m.kind == 14) = false := by rw [hk]; rfl
  have t16 : (m.kind == 16) = false := by rw [hk]; rfl
  have t19 : (m.kind == 19) = false := by rw [hk]; rfl
  have ta : Hid (ansB m.kind = false) := by rw [hk]; rfl
  clear hk
  go_enter Try.func18, Try.ntmps18
  go_wp2_with (first
    | (refine box_arm rfl 42 (.tmp 0) rfl cs rfl ?_; intro w1 hx1 hz1 hg1; have y1 := (boxCell hg1 1 hcs rfl).out; clear hz1 hg1)
    | (go_at_call 56; (with_reducible refine (answer_any _ _).mono ?_); rintro e w5 ⟨he, rfl⟩; rw [ta.out] at he; subst he))
  go_ret
  exact ⟨rfl, hx1⟩
theorem litsl2_wp {w : World} {o : Oper} {a : Act} {K : Act → World → Prop} {Q : Exit → Act → World → Prop} (x y : Operand) (ho : o.op = .buildSlice 57 2 #[(0, x), (1, y)])
    (A1 A2 : Option Addr) (n1 c1 n2 c2 : Nat) (x1 x2 : List UInt8) (hx : a.eval x = .slice A1 n1 c1) (hy : a.eval y = .slice A2 n2 c2) (h1 : Sl w A1 n1 c1 x1) (h2 : Sl w A2 n2 c2 x2)
    (h : ∀ g w', Ext w w' → Sls w' (some ⟨g, 0, none⟩) 2 2 [x1, x2] → K (a.put o.dst (.slice (some ⟨g, 0, none⟩) 2 2)) w') : o.wp Try.prog a w K Q := by
  have hr : (execOp a.eval o).run Try.prog w = .ok (.value (.slice (some ⟨w.heap.size, 0, none⟩) 2 2)) (w.alloc (.cells #[.slice A1 n1 c1, .slice A2 n2 c2] 33)) := by
    unfold execOp
    simp only [ho, List.map_toArray, List.map_cons, List.map_nil, hx, hy]
    kernel_rfl
  unfold Oper.wp
  rw [hr]
  exact h _ _ (Ext.alloc _ _) (sls_two w A1 A2 n1 c1 n2 c2 x1 x2 h1 h2)
/-- The bytes of an unbinding. -/
def unbindB (m : Msg) : List UInt8 := fieldB 48 ([fieldB 2 (intB m.id), fieldB 66 []] : List (List UInt8)).flatten
theorem unbind_len (m : Msg) : ([fieldB 2 (intB m.id), fieldB 66 []] : List (List UInt8)).flatten.length ≤ 100 ∧ (unbindB m).length ≤ 106 := by
  have h1 := fieldB_length 2 (intB m.id)
  have h2 := intB_length m.id
  have h3 := fieldB_length 66 []
  have h : ([fieldB 2 (intB m.id), fieldB 66 []] : List (List UInt8)).flatten.length ≤ 100 := by simp at h3 ⊢; omega
  refine ⟨h, ?_⟩
  unfold unbindB
  have h4 := fieldB_length 48 ([fieldB 2 (intB m.id), fieldB 66 []] : List (List UInt8)).flatten
  omega
set_option maxHeartbeats 2000000 in
theorem encode_bare {m : Msg} {d : MsgD} {cs : Array Value} {S : Nat → Prop} (hcs : Hid (cs = (msgCells m d).toArray)) (w : World) (hm : MsgRows S w m d) (hk : m.kind = 2) (hn : d.ctls.n = 0) (hid0 : -9223372036854775808 ≤ m.id ∧ m.id ≤ 9223372036854775807) (hs : soundB false m = true) :
    Calls Try.prog 7 #[.agg cs] w fun e w' => ∃ A n c, e = .returned (.tuple #[.slice A n c, .int .i64 0]) ∧ Sl w' A n c (unbindB m) ∧ Ext w w' := by
  have Hm := hid hm
  have Zc := hid (msgSize hcs)
  have Hk := hid hk
  have HS := hid hs
  have HI := hid hid0
  have HL := hid (unbind_len m)
  have hn0 : ¬ (0 < (d.ctls.n : Int)) := by omega
  have ht : Hid (tagB m.kind = 66) := by rw [hk]; rfl
  have hk24 : Hid (0 ≤ m.kind ∧ m.kind ≤ 24) := by show _ ∧ _; omega
  clear hm hk hn hs hid0
  go_enter Try.func7, Try.ntmps7
  go_wp2_with (first
    | (refine box_arm rfl 42 (.tmp 0) rfl cs rfl ?_; intro w1 hx1 hz1 hg1; have Hg1 := hid hg1; have X1 := hid hx1; clear hz1 hg1 hx1)
    | (refine wpList_load_row rfl 42 (.tmp 1) rfl w.heap.size rfl _ _ _ _ Hg1.out Try.underlying42 rfl Zc.out ?_)
    | (go_at_call 13; (with_reducible refine (sound_any (fb := false) hcs _ (Hm.out.ext X1.out) (fun h => by have := Hk.out; omega)).mono ?_); rintro e w2 ⟨he, hx2⟩; rw [HS.out] at he; subst he))
  refine wp_region_plan (.read 0 (.read 1 (.read 3 (.read 4 (.read 6 (.main 2 (.main 5 (.main 7 (.main 8 (.main 9 (.main 10 (.read 11 .done)))))))))))) (by kernel_rfl) (by kernel_rfl) ?_
  intro wD hxD
  have XE : Hid (Ext wD wD) := Ext.refl _
  have p0 := box2 Hg1.out 0 hcs rfl (hx2.trans hxD)
  have p1 := box2 Hg1.out 1 hcs rfl (hx2.trans hxD)
  repeat' (first
    | (refine walks_move rfl rfl ?_; simp only [Act.put, Act.eval, List.setIfInBounds_toArray, List.set_cons_zero, List.set_cons_succ, Array.getD_eq_getD_getElem?, List.getElem?_toArray, List.getElem?_cons_zero, List.getElem?_cons_succ, Option.getD_some])
    | (refine walks_assign rfl rfl ?_; simp only [Act.put, Act.eval, List.setIfInBounds_toArray, List.set_cons_zero, List.set_cons_succ, Array.getD_eq_getD_getElem?, List.getElem?_toArray, List.getElem?_cons_zero, List.getElem?_cons_succ, Option.getD_some])
    | (refine walks_skip rfl rfl ?_; simp only [Act.put, List.setIfInBounds_toArray, List.set_cons_zero, List.set_cons_succ])
    | (refine walks_read (v := .agg cs) rfl rfl (fun w' hE => run_load_row 42 (.tmp 1) rfl _ rfl _ cs _ (row_later Hg1.out (hx2.trans (hxD.trans (XE.out.trans hE)))) Try.underlying42 rfl Zc.out) ?_; simp only [Act.put, List.setIfInBounds_toArray, List.set_cons_zero, List.set_cons_succ])
    | (refine walks_unwanted rfl rfl ?_; simp only [Act.put, List.setIfInBounds_toArray, List.set_cons_zero, List.set_cons_succ])
    | (refine walks_read (v := ?_) rfl rfl (fun w' hE => ?_) ?_; rotate_left 1; (· ((try (have hEx := Ext.trans (Hid.out XE) hE)); go_simp; (try go_bits); with_reducible rfl)); simp only [Act.put, List.setIfInBounds_toArray, List.set_cons_zero, List.set_cons_succ])
    | (refine walks_main rfl rfl (fun K hK => ?_); (first | (refine litsl2_wp (.tmp 11) (.tmp 18) rfl _ _ _ _ _ _ (fieldB 2 (intB m.id)) (fieldB 66 []) rfl rfl (HS3.out.ext (hx5.trans (hx6.trans hx7))) HS7.out ?_; intro g8 w8 hx8 hs8; have HS8 := hid hs8; clear hs8; have XE' := hid (Ext.trans (Hid.out XE) hx8); clear XE; have XE := XE'; clear XE')); refine hK _ _ (by first | assumption | exact Ext.alloc _ _ | exact Ext.refl _) ?_; clear hK K; try simp only [Act.put, List.setIfInBounds_toArray, List.set_cons_zero, List.set_cons_succ])
    | (refine walks_alt ?_ ?_)
    | (refine walks_main rfl rfl (fun K hK => ?_); go_wp2_with (first | (go_at_call 14; (with_reducible refine (integer_at 2 2 rfl _ _ HI.out.1 HI.out.2).mono ?_); rintro e w3 ⟨A3, n3, c3, rfl, hs3, hx3⟩; have HS3 := hid hs3; clear hs3; have XE' := hid (Ext.trans (Hid.out XE) hx3); clear XE; have XE := XE'; clear XE') | (go_at_call 16; (with_reducible refine (tag_any _ _ hk24.out.1 hk24.out.2).mono ?_); rintro e w4 ⟨rfl, rfl⟩) | (go_at_call 18; (with_reducible refine (parts_none hcs _ Hk.out).mono ?_); rintro e w5 ⟨rfl, hx5⟩; have XE' := hid (Ext.trans (Hid.out XE) hx5); clear XE; have XE := XE'; clear XE') | (go_at_call 17; (with_reducible refine (concat_any none 0 0 [] _ (Sls.nil _) (by simp)).mono ?_); rintro e w6 ⟨A6, n6, c6, rfl, hs6, hx6⟩; have HS6 := hid hs6; clear hs6; have XE' := hid (Ext.trans (Hid.out XE) hx6); clear XE; have XE := XE'; clear XE') | (go_at_call 15; (with_reducible refine (field_any (tagB m.kind) _ _ _ _ _ HS6.out (by rw [HS6.out.len]; simp)).mono ?_); rintro e w7 ⟨A7, n7, c7, rfl, hs7, hx7⟩; rw [ht.out] at hs7; have HS7 := hid hs7; clear hs7; have XE' := hid (Ext.trans (Hid.out XE) hx7); clear XE; have XE := XE'; clear XE')); refine hK _ _ (by first | assumption | exact Ext.alloc _ _ | exact Ext.refl _) ?_; clear hK K; try simp only [Act.put, List.setIfInBounds_toArray, List.set_cons_zero, List.set_cons_succ]))
  refine walks_done ?_
  have X8 := hid (hx2.trans (hxD.trans XE.out))
  have y31 := (boxCell Hg1.out 31 hcs rfl).ext X8.out
  clear p0 p1
  go_wp2_with (go_at_call 21; (with_reducible refine (sequence_any HS8.out (Nat.le_trans HL.out.1 (by decide))).mono ?_); rintro e w9 ⟨A9, n9, c9, rfl, hs9, hx9⟩; have HS9 := hid hs9; have hl9 : ¬ (16384 < (n9 : Int)) := (by have h1 := HL.out.2; have h2 := hs9.len; unfold unbindB at h1; omega); clear hs9)
  go_ret2
  exact ⟨_, _, _, rfl, HS9.out, X1.out.trans (X8.out.trans hx9)⟩
end Go.Proofs.Ytabaeiolpbdjnaa
