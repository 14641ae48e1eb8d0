/- The walks of frame.New, Waiting, Over; the cutter in memory. -/
import Derived.Test.YtohbbbolfdidcaaNew
import Derived.Test.YtohbbbolfdidcaaScope
namespace Go.Proofs.Ytohbbbolfdidcaa
open Go.RowKit

/-- How long a message may be. -/
def mostP (n : Int) : Nat := if n < 2 then 2 else if 16384 < n then 16384 else n.toNat
theorem mostP_le (n : Int) : 2 ≤ mostP n ∧ mostP n ≤ 16384 := by
  unfold mostP
  repeat' split
  all_goals omega

/-- A cutter: how long a message may be, the bytes that wait, whether it is over. -/
structure Cut (w : World) (g : Nat) (M : Nat) (A : Option Addr) (n c : Nat) (ws : List UInt8) (ov : Bool) : Prop where
  blk : w.heap[g]? = some (.cells #[.int .i64 (M : Int), .slice A n c, .bool ov] 36)
  read : Sl w A n c ws
theorem grown_setCell (w : World) (b i : Nat) (v : Value) : w.grownBy (w.setCell ⟨b, i, none⟩ v) (some b) :=
  ⟨rfl, rfl, rfl, by simp [World.setCell], fun k _ hne => Below.heap_setCell _ _ _ _ (fun e => hne (by rw [e]))⟩
section
variable {w w' : World} {g M n c : Nat} {A : Option Addr} {ws : List UInt8} {ov : Bool}
theorem Cut.lt (h : Cut w g M A n c ws ov) : g < w.heap.size := (Array.getElem?_eq_some_iff.1 h.blk).1
theorem Cut.cell0 (h : Cut w g M A n c ws ov) : w.cell? ⟨g, 0, none⟩ = some (.int .i64 (M : Int)) := by rw [cell_of_row w g 0 _ _ (0, 0) h.blk]; rfl
theorem Cut.cell1 (h : Cut w g M A n c ws ov) : w.cell? ⟨g, 1, none⟩ = some (.slice A n c) := by rw [cell_of_row w g 1 _ _ (0, 0) h.blk]; rfl
theorem Cut.cell2 (h : Cut w g M A n c ws ov) : w.cell? ⟨g, 2, none⟩ = some (.bool ov) := by rw [cell_of_row w g 2 _ _ (0, 0) h.blk]; rfl
/-- Bytes lie elsewhere. -/
theorem Cut.off (h : Cut w g M A n c ws ov) {B : Option Addr} {m d : Nat} {xs : List UInt8} (k : Sl w B m d xs) : Off (some g) none B xs := by
  rcases k.cells with hc | ⟨b, off, hB, hc⟩
  · exact .inl (by simpa using hc)
  · rcases xs with _ | ⟨x, xs⟩
    · exact .inl rfl
    · refine .inr ⟨_, hB, ?_, by simp⟩
      intro e
      injection e with e
      have e : b = g := e
      subst e
      have h0 := hc 0 (bv x) rfl
      rw [Nat.add_zero, cell_of_row w b off _ _ (0, 0) h.blk] at h0
      rcases off with _ | _ | _ | off
      · simp [bv] at h0
      · simp [bv] at h0
      · simp [bv] at h0
      · simp at h0
theorem Cut.grown (h : Cut w g M A n c ws ov) {T : Option Nat} (hg : w.grownBy w' T) (hne : some g ≠ T) (ho : Off T none A ws) : Cut w' g M A n c ws ov :=
  ⟨(hg.block g h.lt hne).trans h.blk, h.read.grown ho hg⟩
theorem Cut.ext (h : Cut w g M A n c ws ov) (hx : Ext w w') : Cut w' g M A n c ws ov := ⟨(hx.block g h.lt).trans h.blk, h.read.ext hx⟩
theorem Cut.frozen (h : Cut w g M A n c ws ov) (j : Nat) : w.frozen? ⟨g, j, none⟩ = false := by
  simp [World.frozen?, h.blk]
theorem Cut.store (h : Cut w g M A n c ws ov) (j : Nat) (v : Value) {B : Option Addr} {m d : Nat} {xs : List UInt8} (k : Sl w B m d xs) : Sl (w.setCell ⟨g, j, none⟩ v) B m d xs :=
  k.grown (h.off k) (grown_setCell w g j v)
theorem Cut.set0 (h : Cut w g M A n c ws ov) (M' : Nat) : Cut (w.setCell ⟨g, 0, none⟩ (.int .i64 (M' : Int))) g M' A n c ws ov :=
  ⟨by rw [heap_setCell_same w g 0 _ _ _ h.blk]; rfl, h.store 0 _ h.read⟩
theorem Cut.set1 (h : Cut w g M A n c ws ov) {B : Option Addr} {m d : Nat} {xs : List UInt8} (k : Sl w B m d xs) : Cut (w.setCell ⟨g, 1, none⟩ (.slice B m d)) g M B m d xs ov :=
  ⟨by rw [heap_setCell_same w g 1 _ _ _ h.blk]; rfl, h.store 1 _ k⟩
theorem Cut.set2 (h : Cut w g M A n c ws ov) (o : Bool) : Cut (w.setCell ⟨g, 2, none⟩ (.bool o)) g M A n c ws o :=
  ⟨by rw [heap_setCell_same w g 2 _ _ _ h.blk]; rfl, h.store 2 _ h.read⟩
end

theorem new_any (n : Int) (w : World) :
    Calls Try.prog 10 #[.int .i64 n] w fun e w' => e = .returned (.pointer (some ⟨w.heap.size, 0, none⟩)) ∧ Cut w' w.heap.size (mostP n) none 0 0 [] false ∧ Ext w w' := by
  by_cases h1 : n < 2
  · have hM := hid (show mostP n = 2 by unfold mostP; rw [if_pos h1])
    go_enter Try.func10, Try.ntmps10
    go_wp2
    go_ret
    rw [hM.out]
    exact ⟨rfl, ⟨heap_alloc_new w _, Sl.nil _⟩, Ext.alloc _ _⟩
  · by_cases h2 : 16384 < n
    · have hM := hid (show mostP n = 16384 by unfold mostP; rw [if_neg h1, if_pos h2])
      go_enter Try.func10, Try.ntmps10
      go_wp2
      go_ret
      rw [hM.out]
      exact ⟨rfl, ⟨heap_alloc_new w _, Sl.nil _⟩, Ext.alloc _ _⟩
    · have hM := hid (show mostP n = n.toNat by unfold mostP; rw [if_neg h1, if_neg h2])
      have e : ((n.toNat : Nat) : Int) = n := by omega
      have He := hid e
      clear e
      go_enter Try.func10, Try.ntmps10
      go_wp2
      go_ret
      rw [hM.out]
      refine ⟨rfl, ⟨?_, Sl.nil _⟩, Ext.alloc _ _⟩
      rw [He.out]
      exact heap_alloc_new w _
theorem waiting_any {w : World} {g M n c : Nat} {A : Option Addr} {ws : List UInt8} {ov : Bool} (h : Cut w g M A n c ws ov) :
    Calls Try.prog 12 #[.pointer (some ⟨g, 0, none⟩)] w fun e w' => e = .returned (.int .i64 (ws.length : Int)) ∧ w = w' := by
  have hl := hid h.read.len
  have c1 := h.cell1
  go_enter Try.func12, Try.ntmps12
  go_wp2
  go_ret
  rw [← hl.out]
  exact ⟨rfl, rfl⟩
theorem over_any {w : World} {g M n c : Nat} {A : Option Addr} {ws : List UInt8} {ov : Bool} (h : Cut w g M A n c ws ov) :
    Calls Try.prog 18 #[.pointer (some ⟨g, 0, none⟩)] w fun e w' => e = .returned (.bool ov) ∧ w = w' := by
  have c2 := h.cell2
  go_enter Try.func18, Try.ntmps18
  go_wp2
  go_ret
  exact ⟨rfl, rfl⟩
theorem waiting_nil (w : World) : Calls Try.prog 12 #[.pointer none] w fun e w' => e = .returned (.int .i64 0) ∧ w = w' := by
  go_enter Try.func12, Try.ntmps12
  go_wp2
  go_ret
  exact ⟨rfl, rfl⟩
theorem over_nil (w : World) : Calls Try.prog 18 #[.pointer none] w fun e w' => e = .returned (.bool false) ∧ w = w' := by
  go_enter Try.func18, Try.ntmps18
  go_wp2
  go_ret
  exact ⟨rfl, rfl⟩
theorem most_any (n : Int) (w : World) : Calls Try.prog 16 #[.int .i64 n] w fun e w' => e = .returned (.int .i64 (mostP n : Int)) ∧ w = w' := by
  by_cases h1 : n < 2
  · have hM := hid (show mostP n = 2 by unfold mostP; rw [if_pos h1])
    go_enter Try.func16, Try.ntmps16
    go_wp2
    go_ret
    rw [hM.out]
    exact ⟨rfl, rfl⟩
  · by_cases h2 : 16384 < n
    · have hM := hid (show mostP n = 16384 by unfold mostP; rw [if_neg h1, if_pos h2])
      go_enter Try.func16, Try.ntmps16
      go_wp2
      go_ret
      rw [hM.out]
      exact ⟨rfl, rfl⟩
    · have hM := hid (show (mostP n : Int) = n by unfold mostP; rw [if_neg h1, if_neg h2]; omega)
      go_enter Try.func16, Try.ntmps16
      go_wp2
      go_ret
      rw [hM.out]
      exact ⟨rfl, rfl⟩
end Go.Proofs.Ytohbbbolfdidcaa
