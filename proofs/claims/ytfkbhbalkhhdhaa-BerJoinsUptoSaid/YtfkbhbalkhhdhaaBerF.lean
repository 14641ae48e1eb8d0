/- The walks of the two Fields. -/
import Derived.Test.YtfkbhbalkhhdhaaBerM
import Derived.Test.YtfkbhbalkhhdhaaBerC
namespace Go.Proofs.Ytfkbhbalkhhdhaa
open Go.RowKit
set_option maxRecDepth 100000

/-- A field with the shortest length. -/
def fieldB (tag : UInt8) (xs : List UInt8) : List UInt8 := tag :: (lenB xs.length ++ xs)
theorem fieldB_length (tag : UInt8) (xs : List UInt8) : (fieldB tag xs).length ≤ xs.length + 6 := by
  have := lenB_le xs.length
  simp [fieldB]; omega

theorem sls_three (w : World) (A1 A2 A3 : Option Addr) (n1 c1 n2 c2 n3 c3 : Nat) (x1 x2 x3 : List UInt8) (h1 : Sl w A1 n1 c1 x1) (h2 : Sl w A2 n2 c2 x2) (h3 : Sl w A3 n3 c3 x3) :
    Sls (w.alloc (.cells #[.slice A1 n1 c1, .slice A2 n2 c2, .slice A3 n3 c3] 22)) (some ⟨w.heap.size, 0, none⟩) 3 3 [x1, x2, x3] := by
  refine ⟨rfl, Nat.le_refl _, by simp [maxLen], [.slice A1 n1 c1, .slice A2 n2 c2, .slice A3 n3 c3], rfl, .inr ⟨w.heap.size, 0, rfl, fun j u hj => ?_⟩, fun j v hj => ?_⟩
  · rw [cell_of_row _ _ _ _ _ _ (heap_alloc_new w _)]
    simpa using hj
  · have hx := Ext.alloc w (.cells #[.slice A1 n1 c1, .slice A2 n2 c2, .slice A3 n3 c3] 22)
    match j, hj with
    | 0, hj => simp at hj; exact ⟨_, _, _, hj.symm, h1.ext hx⟩
    | 1, hj => simp at hj; exact ⟨_, _, _, hj.symm, h2.ext hx⟩
    | 2, hj => simp at hj; exact ⟨_, _, _, hj.symm, h3.ext hx⟩
    | j + 3, hj => simp at hj

theorem field_any (tag : UInt8) (A : Option Addr) (n c : Nat) (xs : List UInt8) (w : World) (h : Sl w A n c xs) (hm : n ≤ 140737488351232) :
    Calls Try.prog 28 #[.int .u8 (tag.toNat : Int), .slice A n c] w fun e w' => ∃ A' n' c', e = .returned (.slice A' n' c') ∧ Sl w' A' n' c' (fieldB tag xs) ∧ Ext w w' := by
  have hl := hid h.len
  have hb : (tag.toNat : Int) < 256 := by have := tag.toNat_lt; omega
  have ht : ([[UInt8.ofNat (tag.toNat : Int).toNat], lenB n, xs] : List (List UInt8)).flatten.length ≤ 140737488355328 := by
    have := lenB_le (n : Int)
    have := hl.out
    simp; omega
  have hP : Hid (([[UInt8.ofNat (tag.toNat : Int).toNat], lenB n, xs] : List (List UInt8)).flatten = fieldB tag xs) := by
    show _ = _
    simp [fieldB, hl.out]
  have HT := hid ht
  clear ht
  go_enter Try.func28, Try.ntmps28
  go_wp2_with (go_at_call 17; (with_reducible refine (length_any _ _).mono ?_); rintro e w1 ⟨A1, n1, c1, rfl, h1, hx1⟩)
  refine (concat_any _ _ _ _ _ (sls_three _ _ _ _ _ _ _ _ _ _ _ _ _ ((sl_one w (tag.toNat : Int) (by omega)).ext hx1) h1 ((h.ext (Ext.alloc _ _)).ext hx1)) HT.out).mono ?_
  rintro e w2 ⟨A2, n2, c2, rfl, h2, hx2⟩
  go_wp2
  go_ret
  exact ⟨_, _, _, rfl, by rw [← hP.out]; exact h2, (Ext.alloc _ _).trans (Ext.trans hx1 ((Ext.alloc _ _).trans hx2))⟩

theorem rfield_any (tag : UInt8) (A : Option Addr) (n c : Nat) (xs : List UInt8) (w : World) (h : Sl w A n c xs) (hm : n ≤ 140737488351232) :
    Calls Try.prog 29 #[.int .u8 (tag.toNat : Int), .slice A n c] w fun e w' => ∃ A' n' c', e = .returned (.slice A' n' c') ∧ Sl w' A' n' c' (fieldB tag xs) ∧ Ext w w' := by
  have hl := hid h.len
  have hb : (tag.toNat : Int) < 256 := by have := tag.toNat_lt; omega
  have hP : Hid ([UInt8.ofNat (tag.toNat : Int).toNat] ++ lenB n ++ xs = fieldB tag xs) := by
    show _ = _
    simp [fieldB, hl.out]
  go_enter Try.func29, Try.ntmps29
  go_wp2_with (first | (go_at_call 18; (with_reducible refine (rlength_any _ _).mono ?_); rintro e w1 ⟨A1, n1, c1, rfl, h1, hx1⟩) | (at_builtin; refine append_bytes rfl (.tmp 7) (.tmp 10) rfl w.heap.size _ 1 _ rfl (own_ext (own_one w (tag.toNat : Int) (by omega) w.heap.size (Nat.le_refl _)) hx1) _ _ _ _ rfl h1 (by have := h1.len; have := lenB_le n; omega) (by have := hx1.size; simp at this; omega) ?_; intro v' w2 ho2 hg2 _ _) | (at_builtin; refine append_bytes rfl (.tmp 12) (.tmp 13) rfl w.heap.size _ _ _ rfl ho2 _ _ _ _ rfl (h.below (Below.trans (Ext.alloc w _) (Below.trans (hx1.mono (by simp)) hg2))) (by have := h1.len; have := lenB_le n; omega) (by have := hx1.size; have := hg2.size; simp at *; omega) ?_; intro v3 w3 ho3 hg3 _ _))
  go_ret
  obtain ⟨A4, c4, hv, hs⟩ := Sl.of_row ho3
  exact ⟨A4, _, c4, congrArg Ending.returned hv, by rw [← hP.out]; exact hs, Below.trans (Ext.alloc w _) (Below.trans (hx1.mono (by simp)) (Below.trans hg2 hg3))⟩
end Go.Proofs.Ytfkbhbalkhhdhaa
