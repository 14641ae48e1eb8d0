import Derived.Test.YtkafonmpmgjcpaaGreatDoorZ04
import Derived.Laws.ResultCell
/- A variable of a struct's cells, in a block of the call's own. Nothing of the program is named. -/
namespace Go.Proofs.YtkafonmpmgjcpaaGreatDoor
open Go.RowKit

/-- Block g, made behind w, holds the cells cs, all of which may be written. -/
structure Bx (w wr : World) (g : Nat) (T : TypeId) (cs : Array Value) : Prop where
  new : w.heap.size ≤ g
  blk : wr.heap[g]? = some (.cells cs T (0, 0))
  ext : Ext w wr
section
variable {w wr w' : World} {g : Nat} {T : TypeId} {cs : Array Value}
theorem Bx.make (h : Ext w wr) (cs : Array Value) (T : TypeId) : Bx w (wr.alloc (.cells cs T)) wr.heap.size T cs := ⟨h.size, heap_alloc_new wr _, h.trans (Ext.alloc _ _)⟩
theorem Bx.lt (h : Bx w wr g T cs) : g < wr.heap.size := (Array.getElem?_eq_some_iff.1 h.blk).1
theorem Bx.later (h : Bx w wr g T cs) (hx : Ext wr w') : Bx w w' g T cs := ⟨h.new, (hx.block g h.lt).trans h.blk, h.ext.trans hx⟩
/-- .. in a world in which the blocks below B, and g among them, are as they were. -/
theorem Bx.below {B : Nat} (h : Bx w wr g T cs) (hx : Below B wr w') (hg : g < B) (hB : w.heap.size ≤ B) : Bx w w' g T cs :=
  ⟨h.new, (hx.block g hg).trans h.blk, Below.trans h.ext (Below.mono hx hB)⟩
theorem Bx.cell (h : Bx w wr g T cs) {i : Nat} {v : Value} (hi : cs[i]? = some v) : wr.cell? ⟨g, i, none⟩ = some v := by rw [cell_of_row wr g i cs T (0, 0) h.blk]; exact hi
theorem Bx.frozen (h : Bx w wr g T cs) (i : Nat) : wr.frozen? ⟨g, i, none⟩ = false := frozen_of_row wr g i cs T h.blk
theorem Bx.set (h : Bx w wr g T cs) (i : Nat) (v : Value) : Bx w (wr.setCell ⟨g, i, none⟩ v) g T (cs.setIfInBounds i v) :=
  ⟨h.new, heap_setCell_same wr g i cs T v h.blk, h.ext.setCell h.new v⟩
/-- A store into another block. -/
theorem Bx.aside (h : Bx w wr g T cs) {k : Nat} (hk : w.heap.size ≤ k) (hne : g ≠ k) (i : Nat) (v : Value) : Bx w (wr.setCell ⟨k, i, none⟩ v) g T cs :=
  ⟨h.new, by rw [heap_setCell_other _ _ _ _ hne]; exact h.blk, h.ext.setCell hk v⟩
theorem Bx.base {w0 : World} (h : Bx w wr g T cs) (hx : Ext w0 w) : Bx w0 wr g T cs := ⟨Nat.le_trans hx.size h.new, h.blk, hx.trans h.ext⟩
/-- The whole struct is read. -/
theorem Bx.load {P : Program} (h : Bx w wr g T cs) (U : TypeId) (d : TypeDesc) (hu : P.underlying U = some d) (hd : (match d with | .struct _ | .array _ _ => true | _ => false) = true) (hi : (P.info? U).map (·.size) = some cs.size) :
    ∀ w', Ext wr w' → (Instr.loadAt U (.pointer (some ⟨g, 0, none⟩))).run P w' = .ok (.agg cs) w' := fun w' hx => by
  have h' := (h.later hx).blk
  simp only [Instr.loadAt, Instr.sureAddr, Sem.run_bind, Sem.run_pure, Result.andThen_ok, run_loadVar_row w' g T U cs (0, 0) d h' hu hd hi]
theorem Bx.set0 {x y : Value} (h : Bx w wr g T #[x, y]) (v : Value) : Bx w (wr.setCell ⟨g, 0, none⟩ v) g T #[v, y] := h.set 0 v
theorem Bx.set1 {x y : Value} (h : Bx w wr g T #[x, y]) (v : Value) : Bx w (wr.setCell ⟨g, 1, none⟩ v) g T #[x, v] := h.set 1 v
end
/-- The call's end, the first result a struct in its block. -/
theorem ret_cell_tmp {P : Program} {fn : Func} {R : Ending → World → Prop} {a : Act} {w0 w : World} {p u : Tmp} {ty : TypeId} {g : Nat} {T : TypeId} {cs : Array Value} (d : TypeDesc) (h : fn.results = #[.cell p ty, .tmp u])
    (hp : a.tmps.getD p undef = .pointer (some ⟨g, 0, none⟩)) (hb : Bx w0 w g T cs) (hu : P.underlying ty = some d) (hd : (match d with | .struct _ | .array _ _ => true | _ => false) = true) (hi : (P.info? ty).map (·.size) = some cs.size)
    (hdf : a.defers = []) (hR : R (.returned (.tuple #[.agg cs, a.tmps.getD u undef])) w) : bodyPost P fn R .ret a w := by
  refine bodyPost_ret (v := .tuple #[.agg cs, a.tmps.getD u undef]) ?_ hdf hR
  rw [results_cell_tmp h, hp]
  simp only [asAddr, Sem.run_pure, Result.andThen_ok, run_loadVar_row w g T ty cs (0, 0) d hb.blk hu hd hi]
/-- Two variables, made one behind the other. -/
theorem two_boxes {w w' : World} {T U : TypeId} {xs ys : Array Value} (h : Ext ((w.alloc (.cells xs T)).alloc (.cells ys U)) w') : Bx w w' w.heap.size T xs ∧ Bx w w' (w.heap.size + 1) U ys := by
  have h1 := ((Bx.make (Ext.refl w) xs T).later (Ext.alloc _ (.cells ys U))).later h
  have h2 := (Bx.make (Ext.alloc w (.cells xs T)) ys U).later h
  rw [show (w.alloc (.cells xs T)).heap.size = w.heap.size + 1 by simp] at h2
  exact ⟨h1, h2⟩
end Go.Proofs.YtkafonmpmgjcpaaGreatDoor
