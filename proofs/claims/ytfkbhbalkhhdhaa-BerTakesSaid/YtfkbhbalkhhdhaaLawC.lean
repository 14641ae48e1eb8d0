/- BerTakes: the walk of the law. -/
import Derived.Test.YtfkbhbalkhhdhaaBerU
namespace Go.Proofs.Ytfkbhbalkhhdhaa
open Go.RowKit
set_option maxRecDepth 100000

set_option maxHeartbeats 1000000 in
theorem berTakes_walk (A : Option Addr) (n c : Nat) (xs : List UInt8) (w : World) (h : Sl w A n c xs) (hm : c ≤ 140737488351232) :
    Calls Try.prog 5 #[.slice A n c] w fun e w' => e = .returned (.bool true) ∧ Below w.heap.size w w' := by
  have hn : n ≤ 140737488355328 := by have := h.cap; omega
  have hknown : takeP [UInt8.ofNat (48 : Int).toNat, UInt8.ofNat (0 : Int).toNat] = (48, [], [], 0) := by decide
  generalize hp : takeP xs = p
  obtain ⟨t, ct, rs, e⟩ := p
  have hT := take_any A n c xs w h hn
  rw [hp] at hT
  have hR : ∀ w1, Ext w w1 → Calls Try.prog 20 #[.slice A n c] w1 (TakeR (t, ct, rs, e) w1) := fun w1 hx => by
    have := rtake_any A n c xs w1 (h.ext hx) hn
    rwa [hp] at this
  have hK : ∀ w1 : World, Calls Try.prog 19 #[.slice (some ⟨w1.heap.size, 0, none⟩) 2 2] (w1.alloc (.cells #[.int .u8 48, .int .u8 0] 5)) (TakeR (48, [], [], 0) (w1.alloc (.cells #[.int .u8 48, .int .u8 0] 5))) := fun w1 => by
    have := take_any _ _ _ _ _ (sl_two w1 48 0 (by omega) (by omega)) (by omega)
    rwa [hknown] at this
  have HR := hid hR
  have HK := hid hK
  clear hR hK hknown hp
  go_enter Try.func5, Try.ntmps5
  go_wp2_with fail
  refine hT.mono ?_
  rintro e1 w1 ⟨A1, n1, c1, A2, n2, c2, rfl, h1, h2, hx1⟩
  simp only []
  go_wp2_with fail
  refine (HR.out _ hx1).mono ?_
  rintro e1 w2 ⟨A3, n3, c3, A4, n4, c4, rfl, h3, h4, hx2⟩
  simp only []
  go_wp2_with fail
  refine (HK.out _).mono ?_
  rintro e1 w3 ⟨A5, n5, c5, A6, n6, c6, rfl, h5, h6, hx3⟩
  simp only []
  have g1 := (h1.ext (hx2.trans ((Ext.alloc _ _).trans hx3))).conv w3 (Ext.refl _)
  have g2 := (h2.ext (hx2.trans ((Ext.alloc _ _).trans hx3))).conv w3 (Ext.refl _)
  have g3 := (h3.ext ((Ext.alloc _ _).trans hx3)).conv w3 (Ext.refl _)
  have g4 := (h4.ext ((Ext.alloc _ _).trans hx3)).conv w3 (Ext.refl _)
  go_wp2
  go_ret
  exact ⟨rfl, hx1.trans (hx2.trans ((Ext.alloc _ _).trans hx3))⟩
end Go.Proofs.Ytfkbhbalkhhdhaa
