/- The walk of the reference's Field. -/
import Derived.Test.YtohbbbolfdidcaaBerM
import Derived.Test.YtohbbbolfdidcaaBerFP
namespace Go.Proofs.Ytohbbbolfdidcaa
open Go.RowKit
set_option maxRecDepth 100000

theorem rfield_any (tag : UInt8) (A : Option Addr) (n c : Nat) (xs : List UInt8) (w : World) (h : Sl w A n c xs) (hm : n ≤ 140737488351232) :
    Calls Try.prog 9 #[.int .u8 (tag.toNat : Int), .slice A n c] w fun e w' => ∃ A' n' c', e = .returned (.slice A' n' c') ∧ Sl w' A' n' c' (fieldB tag xs) ∧ Ext w w' := by
  have hl := hid h.len
  have hb : (tag.toNat : Int) < 256 := by have := tag.toNat_lt; omega
  have hP : Hid ([UInt8.ofNat (tag.toNat : Int).toNat] ++ lenB n ++ xs = fieldB tag xs) := by
    show _ = _
    simp [fieldB, hl.out]
  go_enter Try.func9, Try.ntmps9
  go_wp2_with (first | (go_at_call 19; (with_reducible refine (rlength_any _ _).mono ?_); rintro e w1 ⟨A1, n1, c1, rfl, h1, hx1⟩) | (at_builtin; refine append_bytes rfl (.tmp 7) (.tmp 10) rfl w.heap.size _ 1 _ rfl (own_ext (own_one w (tag.toNat : Int) (by omega) w.heap.size (Nat.le_refl _)) hx1) _ _ _ _ rfl h1 (by have := h1.len; have := lenB_le n; omega) (by have := hx1.size; simp at this; omega) ?_; intro v' w2 ho2 hg2 _ _) | (at_builtin; refine append_bytes rfl (.tmp 12) (.tmp 13) rfl w.heap.size _ _ _ rfl ho2 _ _ _ _ rfl (h.below (Below.trans (Ext.alloc w _) (Below.trans (hx1.mono (by simp)) hg2))) (by have := h1.len; have := lenB_le n; omega) (by have := hx1.size; have := hg2.size; simp at *; omega) ?_; intro v3 w3 ho3 hg3 _ _))
  go_ret
  obtain ⟨A4, c4, hv, hs⟩ := Sl.of_row ho3
  exact ⟨A4, _, c4, congrArg Ending.returned hv, by rw [← hP.out]; exact hs, Below.trans (Ext.alloc w _) (Below.trans (hx1.mono (by simp)) (Below.trans hg2 hg3))⟩
end Go.Proofs.Ytohbbbolfdidcaa
