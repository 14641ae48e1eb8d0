/- BerLists: the walk of the law. -/
import Derived.Test.YtfkbhbalkhhdhaaBerZ
import Derived.Test.YtfkbhbalkhhdhaaBerS
namespace Go.Proofs.Ytfkbhbalkhhdhaa
open Go.RowKit
set_option maxRecDepth 100000

set_option maxHeartbeats 1000000 in
theorem berLists_walk (A : Option Addr) (n c : Nat) (xs : List UInt8) (w : World) (h : Sl w A n c xs) (hm : c ≤ 1048576) :
    Calls Try.prog 6 #[.slice A n c] w fun e w' => e = .returned (.bool true) ∧ Below w.heap.size w w' := by
  have hn : n ≤ 4398046511104 := by have := h.cap; omega
  have hknown : listP [UInt8.ofNat (4 : Int).toNat, UInt8.ofNat (0 : Int).toNat] = ([4], [[]], 0) := by decide
  have hT := list_any h hn
  have hR : ∀ w1, Ext w w1 → Calls Try.prog 22 #[.slice A n c] w1 (LstR (listP xs) w1) := fun w1 hx => rlist_any (h.ext hx) hn
  have hK : ∀ w1 : World, Calls Try.prog 21 #[.slice (some ⟨w1.heap.size, 0, none⟩) 2 2] (w1.alloc (.cells #[.int .u8 4, .int .u8 0] 5)) (LstR ([4], [[]], 0) (w1.alloc (.cells #[.int .u8 4, .int .u8 0] 5))) := fun w1 => by
    have := list_any (sl_two w1 4 0 (by omega) (by omega)) (by omega)
    rwa [hknown] at this
  generalize hp : listP xs = p at *
  obtain ⟨t, cs, e⟩ := p
  have HR := hid hR
  have HK := hid hK
  clear hR hK hknown hp
  go_enter Try.func6, Try.ntmps6
  go_wp2_with fail
  refine hT.mono ?_
  rintro e1 w1 ⟨A1, n1, c1, A2, n2, c2, rfl, h1, h2, hx1⟩
  simp only []
  go_wp2_with fail
  refine (HR.out _ hx1).mono ?_
  rintro e1 w2 ⟨A3, n3, c3, A4, n4, c4, rfl, h3, h4, hx2⟩
  simp only []
  go_wp2_with fail
  refine (HK.out _).mono ?_
  rintro e1 w3 ⟨A5, n5, c5, A6, n6, c6, rfl, h5, h6, hx3⟩
  simp only []
  have g1 := (h1.ext (hx2.trans ((Ext.alloc _ _).trans hx3))).conv w3 (Ext.refl _)
  have g2 := h2.ext (hx2.trans ((Ext.alloc _ _).trans hx3))
  have g3 := (h3.ext ((Ext.alloc _ _).trans hx3)).conv w3 (Ext.refl _)
  have g4 := h4.ext ((Ext.alloc _ _).trans hx3)
  have He : (cs == cs) = true := beq_self_eq_true cs
  go_wp2_with (go_at_call 23; (with_reducible refine (same_any g2 g4).mono ?_); rintro e w4 ⟨rfl, hx4⟩)
  go_ret
  exact ⟨rfl, hx1.trans (hx2.trans ((Ext.alloc _ _).trans (hx3.trans hx4)))⟩
end Go.Proofs.Ytfkbhbalkhhdhaa
