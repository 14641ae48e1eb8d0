/- Texts written out in a new block; the walk of msg's shortAttr. -/
import Derived.Test.YtabaeiolpbdjnaaSh
import Derived.Test.YtabaeiolpbdjnaaAp
namespace Go.Proofs.Ytabaeiolpbdjnaa
open Go.RowKit
set_option maxRecDepth 100000

theorem flatten_ones (l : List ByteArray) : ((l.map fun x => [Value.string x]).flatten) = l.map Value.string := by
  induction l with
  | nil => rfl
  | cons x l ih => simp only [List.map_cons, List.flatten_cons, ih]; rfl
theorem row_lit (w : World) (T : TypeId) (l : List ByteArray) (n : Nat) (hn : n = l.length) (hl : n ≤ maxLen) (cs : Array Value) (hc : cs = (l.map Value.string).toArray) : Row Elem.str (fun _ => True) (w.alloc (.cells cs T)) (some ⟨w.heap.size, 0, none⟩) n n l := by
  subst hn hc
  refine ⟨rfl, Nat.le_refl _, hl, l.map fun x => [.string x], by simp, .inr ⟨w.heap.size, 0, rfl, trivial, fun j u hj => ?_⟩, fun i v x hi hx => ?_⟩
  · rw [flatten_ones] at hj
    rw [Nat.zero_add, box_a]
    simpa using hj
  · rw [List.getElem?_map, hx] at hi
    simp at hi
    exact hi.symm
def shortAttB (a : Att) : Bool := shortB [a.type] && shortB a.vals
set_option maxHeartbeats 1000000 in
theorem shortattr_any {S : Nat → Prop} {a : Att} {A : Option Addr} {n c : Nat} {w : World} (h : Row Elem.str S w A n c a.vals) :
    Calls Try.prog 43 #[.agg #[.string a.type, .slice A n c]] w fun e w' => e = .returned (.bool (shortAttB a)) ∧ Ext w w' := by
  unfold shortAttB
  cases h1 : shortB [a.type]
  case false =>
    have H1 := hid h1
    clear h1
    go_enter Try.func43, Try.ntmps43
    go_wp2_with (first
      | (refine box_arm rfl 48 (.tmp 0) rfl #[.string a.type, .slice A n c] rfl ?_; intro w1 hx1 hz1 hg1; have X1 := hid hx1; have e0 : w1.cell? ⟨w.heap.size, 0, none⟩ = some (.string a.type) := (by rw [cell_of_row _ _ 0 _ _ (0, 0) hg1]; rfl); have e1 : w1.cell? ⟨w.heap.size, 1, none⟩ = some (.slice A n c) := (by rw [cell_of_row _ _ 1 _ _ (0, 0) hg1]; rfl); have E1 := hid e1; clear e1; have HR := hid (row_lit w1 9 [a.type] 1 rfl (by simp [maxLen]) #[.string a.type] rfl); have X2 := hid (Ext.alloc w1 (.cells #[.string a.type] 9)); clear hx1 hz1 hg1)
      | (go_at_call 42; (with_reducible refine (short_any HR.out).mono ?_); rintro e w3 ⟨he, hx3⟩; rw [H1.out] at he; subst he))
    go_ret
    exact ⟨rfl, X1.out.trans (X2.out.trans hx3)⟩
  case true =>
    have H1 := hid h1
    clear h1
    cases h2 : shortB a.vals
    all_goals
      have H2 := hid h2
      clear h2
      go_enter Try.func43, Try.ntmps43
      go_wp2_with (first
        | (refine box_arm rfl 48 (.tmp 0) rfl #[.string a.type, .slice A n c] rfl ?_; intro w1 hx1 hz1 hg1; have X1 := hid hx1; have e0 : w1.cell? ⟨w.heap.size, 0, none⟩ = some (.string a.type) := (by rw [cell_of_row _ _ 0 _ _ (0, 0) hg1]; rfl); have e1 : w1.cell? ⟨w.heap.size, 1, none⟩ = some (.slice A n c) := (by rw [cell_of_row _ _ 1 _ _ (0, 0) hg1]; rfl); have E1 := hid e1; clear e1; have HR := hid (row_lit w1 9 [a.type] 1 rfl (by simp [maxLen]) #[.string a.type] rfl); have X2 := hid (Ext.alloc w1 (.cells #[.string a.type] 9)); clear hx1 hz1 hg1)
        | (go_at_call 42; (with_reducible refine (short_any HR.out).mono ?_); rintro e w3 ⟨he, hx3⟩; rw [H1.out] at he; subst he; have y1 := cell_later E1.out _ (X2.out.trans hx3))
        | (go_at_call 42; (with_reducible refine (short_any (h.ext (X1.out.trans (X2.out.trans hx3)))).mono ?_); rintro e w4 ⟨he, hx4⟩; rw [H2.out] at he; subst he))
      go_ret
      exact ⟨rfl, X1.out.trans (X2.out.trans (hx3.trans hx4))⟩
end Go.Proofs.Ytabaeiolpbdjnaa
