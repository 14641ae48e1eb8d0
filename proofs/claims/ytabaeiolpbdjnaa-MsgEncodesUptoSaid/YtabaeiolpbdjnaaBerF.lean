/- The walks of ber.Field. -/
import Derived.Test.YtabaeiolpbdjnaaBerL
import Derived.Test.YtabaeiolpbdjnaaBerFP
import Derived.Test.YtabaeiolpbdjnaaBerC
namespace Go.Proofs.Ytabaeiolpbdjnaa
open Go.RowKit
set_option maxRecDepth 100000

theorem sls_three (w : World) (A1 A2 A3 : Option Addr) (n1 c1 n2 c2 n3 c3 : Nat) (x1 x2 x3 : List UInt8) (h1 : Sl w A1 n1 c1 x1) (h2 : Sl w A2 n2 c2 x2) (h3 : Sl w A3 n3 c3 x3) :
    Sls (w.alloc (.cells #[.slice A1 n1 c1, .slice A2 n2 c2, .slice A3 n3 c3] 33)) (some ⟨w.heap.size, 0, none⟩) 3 3 [x1, x2, x3] := by
  refine ⟨rfl, Nat.le_refl _, by simp [maxLen], [.slice A1 n1 c1, .slice A2 n2 c2, .slice A3 n3 c3], rfl, .inr ⟨w.heap.size, 0, rfl, fun j u hj => ?_⟩, fun j v hj => ?_⟩
  · rw [cell_of_row _ _ _ _ _ _ (heap_alloc_new w _)]
    simpa using hj
  · have hx := Ext.alloc w (.cells #[.slice A1 n1 c1, .slice A2 n2 c2, .slice A3 n3 c3] 33)
    match j, hj with
    | 0, hj => simp at hj; exact ⟨_, _, _, hj.symm, h1.ext hx⟩
    | 1, hj => simp at hj; exact ⟨_, _, _, hj.symm, h2.ext hx⟩
    | 2, hj => simp at hj; exact ⟨_, _, _, hj.symm, h3.ext hx⟩
    | j + 3, hj => simp at hj

theorem field_any (tag : UInt8) (A : Option Addr) (n c : Nat) (xs : List UInt8) (w : World) (h : Sl w A n c xs) (hm : n ≤ 140737488351232) :
    Calls Try.prog 15 #[.int .u8 (tag.toNat : Int), .slice A n c] w fun e w' => ∃ A' n' c', e = .returned (.slice A' n' c') ∧ Sl w' A' n' c' (fieldB tag xs) ∧ Ext w w' := by
  have hl := hid h.len
  have hb : (tag.toNat : Int) < 256 := by have := tag.toNat_lt; omega
  have ht : ([[UInt8.ofNat (tag.toNat : Int).toNat], lenB n, xs] : List (List UInt8)).flatten.length ≤ 140737488355328 := by
    have := lenB_le (n : Int)
    have := hl.out
    simp; omega
  have hP : Hid (([[UInt8.ofNat (tag.toNat : Int).toNat], lenB n, xs] : List (List UInt8)).flatten = fieldB tag xs) := by
    show _ = _
    simp [fieldB, hl.out]
  have HT := hid ht
  clear ht
  go_enter Try.func15, Try.ntmps15
  go_wp2_with (go_at_call 45; (with_reducible refine (length_any _ _).mono ?_); rintro e w1 ⟨A1, n1, c1, rfl, h1, hx1⟩)
  refine (concat_any _ _ _ _ _ (sls_three _ _ _ _ _ _ _ _ _ _ _ _ _ ((sl_one w (tag.toNat : Int) (by omega)).ext hx1) h1 ((h.ext (Ext.alloc _ _)).ext hx1)) HT.out).mono ?_
  rintro e w2 ⟨A2, n2, c2, rfl, h2, hx2⟩
  go_wp2
  go_ret
  exact ⟨_, _, _, rfl, by rw [← hP.out]; exact h2, (Ext.alloc _ _).trans (Ext.trans hx1 ((Ext.alloc _ _).trans hx2))⟩

end Go.Proofs.Ytabaeiolpbdjnaa
