/- Rf, Rg, in one text. -/
import Derived.Test.YtabaeiolpbdjnaaSo
import Derived.Test.YtabaeiolpbdjnaaRk
import Derived.Test.YtabaeiolpbdjnaaMj
import Derived.Test.YtabaeiolpbdjnaaPe
/- The walks of the reference's known, short, shortAttr, integers. -/
namespace Go.Proofs.Ytabaeiolpbdjnaa
open Go.RowKit
set_option maxRecDepth 100000
set_option linter.unusedSimpArgs false
set_option linter.unusedVariables false

set_option maxHeartbeats 1000000 in
theorem rknown_any (k : Int) (w : World) : Calls Try.prog 57 #[.int .i64 k] w fun e w' => e = .returned (.bool (knownB k)) ∧ w = w' := by
  unfold knownB
  by_cases h1 : 0 ≤ k <;> by_cases h2 : k ≤ 16 <;> by_cases h3 : k = 19 <;> by_cases h4 : k = 24 <;> (try (exfalso; omega)) <;>
    (go_enter Try.func57, Try.ntmps57
     go_wp2
     go_ret
     refine ⟨?_, rfl⟩
     (try rw [decide_eq_true (show 0 ≤ k by omega)]); (try rw [decide_eq_false (show ¬ 0 ≤ k by omega)])
     (try rw [decide_eq_true (show k ≤ 16 by omega)]); (try rw [decide_eq_false (show ¬ k ≤ 16 by omega)]); (try rw [decide_eq_true (show k < 16 by omega)]); (try rw [decide_eq_false (show ¬ k < 16 by omega)])
     simp [*])
theorem rshort_any {S : Nat → Prop} {A : Option Addr} {n c : Nat} {l : List ByteArray} {w : World} (h : Row Elem.str S w A n c l) :
    Calls Try.prog 61 #[.slice A n c] w fun e w' => e = .returned (.bool (shortB l)) ∧ Ext w w' := by
  have hl := hid h.len
  have hnl : n ≤ 9223372036854775807 := by have := h.cap; have := h.most; simp only [maxLen] at this; omega
  have HR := hid h
  clear h
  go_enter Try.func61, Try.ntmps61
  go_wp2
  go_loop [6] (fun i => ∃ j : Nat, j ≤ n ∧ i = .int .i64 j ∧ Hid ((l.take j).any longB = false)) (fun i => n - (intOf i).toNat)
  case atStart => exact ⟨0, by omega, rfl, by simp [Hid]⟩
  case round =>
    obtain ⟨j, hj, rfl, Htk⟩ := hrel
    by_cases hlt : j < n
    · obtain ⟨b1, o1, rfl, c1⟩ := HR.out.str_cell (by omega)
      have e1 := c1 j hlt
      clear c1
      have g1 : l[j]? = some (l[j]?.getD ByteArray.empty) := by have := hl.out; rw [List.getElem?_eq_getElem (by omega)]; simp
      have Hg := hid g1
      clear g1
      generalize l[j]?.getD ByteArray.empty = x1 at *
      by_cases hp : 1000 < x1.size
      · have Hp : Hid (longB x1 = true) := by show _ = _; unfold longB; exact decide_eq_true hp
        have hp' : (1000 : Int) < (x1.size : Int) := by omega
        clear hp
        go_wp2
        go_ret
        exact ⟨by rw [shortB, any_at Hg.out Hp.out]; rfl, Ext.refl _⟩
      · have Hp : Hid (longB x1 = false) := by show _ = _; unfold longB; exact decide_eq_false hp
        have hp' : ¬ (1000 : Int) < (x1.size : Int) := by omega
        clear hp
        go_wp2
        exact ⟨⟨j + 1, by omega, by go_num, any_take Htk.out Hg.out Hp.out⟩, by simp [intOf]; omega⟩
    · obtain rfl : j = n := by omega
      have H9 : Hid (shortB l = true) := by
        have h9 := Htk.out
        rw [List.take_of_length_le (Nat.le_of_eq hl.out.symm)] at h9
        show _ = _
        rw [shortB, h9]
        rfl
      go_wp2
      go_ret
      exact ⟨by rw [H9.out]; rfl, Ext.refl _⟩
set_option maxHeartbeats 1000000 in
theorem rshortattr_any {S : Nat → Prop} {a : Att} {A : Option Addr} {n c : Nat} {w : World} (h : Row Elem.str S w A n c a.vals) :
    Calls Try.prog 62 #[.agg #[.string a.type, .slice A n c]] w fun e w' => e = .returned (.bool (shortAttB a)) ∧ Ext w w' := by
  unfold shortAttB
  cases h1 : shortB [a.type]
  case false =>
    have H1 := hid h1
    clear h1
    go_enter Try.func62, Try.ntmps62
    go_wp2_with (first
      | (refine box_arm rfl 48 (.tmp 0) rfl #[.string a.type, .slice A n c] rfl ?_; intro w1 hx1 hz1 hg1; have X1 := hid hx1; have e0 : w1.cell? ⟨w.heap.size, 0, none⟩ = some (.string a.type) := (by rw [cell_of_row _ _ 0 _ _ (0, 0) hg1]; rfl); have e1 : w1.cell? ⟨w.heap.size, 1, none⟩ = some (.slice A n c) := (by rw [cell_of_row _ _ 1 _ _ (0, 0) hg1]; rfl); have E1 := hid e1; clear e1; have HR := hid (row_lit w1 9 [a.type] 1 rfl (by simp [maxLen]) #[.string a.type] rfl); have X2 := hid (Ext.alloc w1 (.cells #[.string a.type] 9)); clear hx1 hz1 hg1)
      | (go_at_call 61; (with_reducible refine (rshort_any HR.out).mono ?_); rintro e w3 ⟨he, hx3⟩; rw [H1.out] at he; subst he))
    go_ret
    exact ⟨rfl, X1.out.trans (X2.out.trans hx3)⟩
  case true =>
    have H1 := hid h1
    clear h1
    cases h2 : shortB a.vals
    all_goals
      have H2 := hid h2
      clear h2
      go_enter Try.func62, Try.ntmps62
      go_wp2_with (first
        | (refine box_arm rfl 48 (.tmp 0) rfl #[.string a.type, .slice A n c] rfl ?_; intro w1 hx1 hz1 hg1; have X1 := hid hx1; have e0 : w1.cell? ⟨w.heap.size, 0, none⟩ = some (.string a.type) := (by rw [cell_of_row _ _ 0 _ _ (0, 0) hg1]; rfl); have e1 : w1.cell? ⟨w.heap.size, 1, none⟩ = some (.slice A n c) := (by rw [cell_of_row _ _ 1 _ _ (0, 0) hg1]; rfl); have E1 := hid e1; clear e1; have HR := hid (row_lit w1 9 [a.type] 1 rfl (by simp [maxLen]) #[.string a.type] rfl); have X2 := hid (Ext.alloc w1 (.cells #[.string a.type] 9)); clear hx1 hz1 hg1)
        | (go_at_call 61; (with_reducible refine (rshort_any HR.out).mono ?_); rintro e w3 ⟨he, hx3⟩; rw [H1.out] at he; subst he; have y1 := cell_later E1.out _ (X2.out.trans hx3))
        | (go_at_call 61; (with_reducible refine (rshort_any (h.ext (X1.out.trans (X2.out.trans hx3)))).mono ?_); rintro e w4 ⟨he, hx4⟩; rw [H2.out] at he; subst he))
      go_ret
      exact ⟨rfl, X1.out.trans (X2.out.trans (hx3.trans hx4))⟩
/-- A block of integers. -/
structure Ints (w : World) (g : Nat) (l : List Int) : Prop where
  at_ : ∀ (j : Nat) (x : Int), l[j]? = some x → w.cell? ⟨g, j, none⟩ = some (.int .i64 x)
theorem rints_any {g : Nat} {l : List Int} {w : World} (h : Ints w g l) (n : Nat) (hn : n = l.length) (hm : n ≤ 1000) :
    Calls Try.prog 59 #[.slice (some ⟨g, 0, none⟩) n n] w fun e w' => e = .returned (.bool (l.all msgIntB)) ∧ w = w' := by
  have hl := hid hn
  have HR := hid h
  clear h hn
  go_enter Try.func59, Try.ntmps59
  go_wp2
  go_loop [6] (fun i => ∃ j : Nat, j ≤ n ∧ i = .int .i64 j ∧ Hid ((l.take j).all msgIntB = true)) (fun i => n - (intOf i).toNat)
  case atStart => exact ⟨0, by omega, rfl, by simp [Hid]⟩
  case round =>
    obtain ⟨j, hj, rfl, Htk⟩ := hrel
    by_cases hlt : j < n
    · obtain ⟨x, hx⟩ : ∃ x, l[j]? = some x := ⟨_, List.getElem?_eq_getElem (by have := hl.out; omega)⟩
      have e1 := HR.out.at_ j x hx
      have Hg := hid hx
      clear hx
      by_cases h1 : x < 0
      · have HP : Hid (msgIntB x = false) := by show _ = _; simp [msgIntB, h1]
        go_wp2
        go_ret
        exact ⟨by rw [all_at Hg.out HP.out]; rfl, rfl⟩
      · by_cases h2 : 2147483647 < x
        · have HP : Hid (msgIntB x = false) := by show _ = _; simp [msgIntB, h2]
          go_wp2
          go_ret
          exact ⟨by rw [all_at Hg.out HP.out]; rfl, rfl⟩
        · have HP : Hid (msgIntB x = true) := by show _ = _; simp only [msgIntB, decide_eq_false h1, decide_eq_false h2]; rfl
          go_wp2
          exact ⟨⟨j + 1, by omega, by go_num, all_take Htk.out Hg.out HP.out⟩, by simp [intOf]; omega⟩
    · obtain rfl : j = n := by omega
      have H9 : Hid (l.all msgIntB = true) := by
        have h9 := Htk.out
        rw [List.take_of_length_le (Nat.le_of_eq hl.out.symm)] at h9
        exact h9
      go_wp2
      go_ret
      exact ⟨by rw [H9.out]; rfl, rfl⟩
end Go.Proofs.Ytabaeiolpbdjnaa
/- The walk of the reference's formed: its first test. -/
namespace Go.Proofs.Ytabaeiolpbdjnaa
open Go.RowKit
set_option maxRecDepth 100000
set_option linter.unusedSimpArgs false
set_option linter.unusedVariables false

theorem kept_any {m : Msg} {d : MsgD} {cs : Array Value} {S : Nat → Prop} (hcs : Hid (cs = (msgCells m d).toArray)) (w : World) (hm : MsgRows S w m d) (hk : knownB m.kind = true) :
    Calls Try.prog 58 #[.agg cs] w (MsgNew w (ownM m)) := by
  rcases known_kind hk with h | h | h | h | h | h | h | h | h | h | h | h | h | h | h | h | h | h | h
  · have e : ownM m = ({ bareM m with ver := m.ver, name := m.name, pw := m.pw } : Msg) := by unfold ownM; rw [h]; rfl
    rw [e]; exact kept_0 hcs w hm h
  · have e : ownM m = ({ bareM m with code := m.code, matched := m.matched, text := m.text, refs := m.refs } : Msg) := by unfold ownM; rw [h]; rfl
    rw [e]; exact kept_1 hcs w hm h
  · have e : ownM m = (bareM m : Msg) := by unfold ownM; rw [h]; rfl
    rw [e]; exact kept_2 hcs w hm h
  · have e : ownM m = ({ bareM m with name := m.name, scope := m.scope, deref := m.deref, size := m.size, time := m.time, tonly := m.tonly, fil := m.fil, attrs := m.attrs } : Msg) := by unfold ownM; rw [h]; rfl
    rw [e]; exact kept_3 hcs w hm h
  · have e : ownM m = ({ bareM m with name := m.name, list := m.list } : Msg) := by unfold ownM; rw [h]; rfl
    rw [e]; exact kept_4 hcs w hm h
  · have e : ownM m = ({ bareM m with code := m.code, matched := m.matched, text := m.text, refs := m.refs } : Msg) := by unfold ownM; rw [h]; rfl
    rw [e]; exact kept_5 hcs w hm h
  · have e : ownM m = ({ bareM m with name := m.name, chgs := m.chgs } : Msg) := by unfold ownM; rw [h]; rfl
    rw [e]; exact kept_6 hcs w hm h
  · have e : ownM m = ({ bareM m with code := m.code, matched := m.matched, text := m.text, refs := m.refs } : Msg) := by unfold ownM; rw [h]; rfl
    rw [e]; exact kept_7 hcs w hm h
  · have e : ownM m = ({ bareM m with name := m.name, list := m.list } : Msg) := by unfold ownM; rw [h]; rfl
    rw [e]; exact kept_8 hcs w hm h
  · have e : ownM m = ({ bareM m with code := m.code, matched := m.matched, text := m.text, refs := m.refs } : Msg) := by unfold ownM; rw [h]; rfl
    rw [e]; exact kept_9 hcs w hm h
  · have e : ownM m = ({ bareM m with name := m.name } : Msg) := by unfold ownM; rw [h]; rfl
    rw [e]; exact kept_10 hcs w hm h
  · have e : ownM m = ({ bareM m with code := m.code, matched := m.matched, text := m.text, refs := m.refs } : Msg) := by unfold ownM; rw [h]; rfl
    rw [e]; exact kept_11 hcs w hm h
  · cases hs0 : m.hsup
    · have e : ownM m = ({ bareM m with name := m.name, nrdn := m.nrdn, dold := m.dold, hsup := m.hsup } : Msg) := by unfold ownM; rw [h, hs0]; rfl
      rw [e]; exact kept_12f hcs w hm h hs0
    · have e : ownM m = ({ bareM m with name := m.name, nrdn := m.nrdn, dold := m.dold, hsup := m.hsup, sup := m.sup } : Msg) := by unfold ownM; rw [h, hs0]; rfl
      rw [e]; exact kept_12t hcs w hm h hs0
  · have e : ownM m = ({ bareM m with code := m.code, matched := m.matched, text := m.text, refs := m.refs } : Msg) := by unfold ownM; rw [h]; rfl
    rw [e]; exact kept_13 hcs w hm h
  · have e : ownM m = ({ bareM m with name := m.name, attr := m.attr, value := m.value } : Msg) := by unfold ownM; rw [h]; rfl
    rw [e]; exact kept_14 hcs w hm h
  · have e : ownM m = ({ bareM m with code := m.code, matched := m.matched, text := m.text, refs := m.refs } : Msg) := by unfold ownM; rw [h]; rfl
    rw [e]; exact kept_15 hcs w hm h
  · have e : ownM m = ({ bareM m with target := m.target } : Msg) := by unfold ownM; rw [h]; rfl
    rw [e]; exact kept_16 hcs w hm h
  · have e : ownM m = ({ bareM m with refs := m.refs } : Msg) := by unfold ownM; rw [h]; rfl
    rw [e]; exact kept_19 hcs w hm h
  · have e : ownM m = ({ bareM m with code := m.code, matched := m.matched, text := m.text, refs := m.refs } : Msg) := by unfold ownM; rw [h]; rfl
    rw [e]; exact kept_24 hcs w hm h
theorem litints5_wp {w : World} {o : Oper} {a : Act} {K : Act → World → Prop} {Q : Exit → Act → World → Prop} (x0 x1 x2 x3 x4 : Operand) (ho : o.op = .buildSlice 81 5 #[(0, x0), (1, x1), (2, x2), (3, x3), (4, x4)]) {a0 a1 a2 a3 a4 : Int} (e0 : a.eval x0 = .int .i64 a0) (e1 : a.eval x1 = .int .i64 a1) (e2 : a.eval x2 = .int .i64 a2) (e3 : a.eval x3 = .int .i64 a3) (e4 : a.eval x4 = .int .i64 a4)
    (h : ∀ w', Ext w w' → Ints w' w.heap.size [a0, a1, a2, a3, a4] → K (a.put o.dst (.slice (some ⟨w.heap.size, 0, none⟩) 5 5)) w') : o.wp Try.prog a w K Q := by
  have hr : (execOp a.eval o).run Try.prog w = .ok (.value (.slice (some ⟨w.heap.size, 0, none⟩) 5 5)) (w.alloc (.cells #[.int .i64 a0, .int .i64 a1, .int .i64 a2, .int .i64 a3, .int .i64 a4] 2)) := by
    unfold execOp
    simp only [ho, List.map_toArray, List.map_cons, List.map_nil, e0, e1, e2, e3, e4]
    kernel_rfl
  unfold Oper.wp
  rw [hr]
  exact h _ (Ext.alloc _ _) ⟨fun j x hx => intCell (heap_alloc_new w _) rfl hx⟩
/-- The first test of the reference's formed. -/
noncomputable def headOk (m : Msg) : Bool := (knownB m.kind && sameB m (ownM m)) && (fiveInts m).all msgIntB && rangeB m
/-- The range's tests, the first that fails, or none. -/
theorem range_ways (m : Msg) : (rangeB m = true ∧ ¬ m.ver < 0 ∧ ¬ 127 < m.ver ∧ ¬ m.scope < 0 ∧ ¬ 2 < m.scope ∧ ¬ m.deref < 0 ∧ ¬ 3 < m.deref) ∨ (rangeB m = false ∧ m.ver < 0) ∨ (rangeB m = false ∧ ¬ m.ver < 0 ∧ 127 < m.ver) ∨ (rangeB m = false ∧ ¬ m.ver < 0 ∧ ¬ 127 < m.ver ∧ m.scope < 0) ∨ (rangeB m = false ∧ ¬ m.ver < 0 ∧ ¬ 127 < m.ver ∧ ¬ m.scope < 0 ∧ 2 < m.scope) ∨
    (rangeB m = false ∧ ¬ m.ver < 0 ∧ ¬ 127 < m.ver ∧ ¬ m.scope < 0 ∧ ¬ 2 < m.scope ∧ m.deref < 0) ∨ (rangeB m = false ∧ ¬ m.ver < 0 ∧ ¬ 127 < m.ver ∧ ¬ m.scope < 0 ∧ ¬ 2 < m.scope ∧ ¬ m.deref < 0 ∧ 3 < m.deref) := by
  by_cases h1 : m.ver < 0
  · exact .inr (.inl ⟨by simp [rangeB, h1], h1⟩)
  by_cases h2 : 127 < m.ver
  · exact .inr (.inr (.inl ⟨by simp [rangeB, h2], h1, h2⟩))
  by_cases h3 : m.scope < 0
  · exact .inr (.inr (.inr (.inl ⟨by simp [rangeB, h3], h1, h2, h3⟩)))
  by_cases h4 : 2 < m.scope
  · exact .inr (.inr (.inr (.inr (.inl ⟨by simp [rangeB, h4], h1, h2, h3, h4⟩))))
  by_cases h5 : m.deref < 0
  · exact .inr (.inr (.inr (.inr (.inr (.inl ⟨by simp [rangeB, h5], h1, h2, h3, h4, h5⟩)))))
  by_cases h6 : 3 < m.deref
  · exact .inr (.inr (.inr (.inr (.inr (.inr ⟨by simp [rangeB, h6], h1, h2, h3, h4, h5, h6⟩)))))
  exact .inl ⟨by simp only [rangeB, decide_eq_false h1, decide_eq_false h2, decide_eq_false h3, decide_eq_false h4, decide_eq_false h5, decide_eq_false h6]; rfl, h1, h2, h3, h4, h5, h6⟩
end Go.Proofs.Ytabaeiolpbdjnaa
