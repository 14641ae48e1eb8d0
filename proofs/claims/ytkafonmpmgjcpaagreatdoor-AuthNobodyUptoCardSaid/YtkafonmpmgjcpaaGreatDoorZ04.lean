import Derived.Test.YtkafonmpmgjcpaaGreatDoorZ03
import Derived.Laws.CopyRow
import Derived.Laws.Rows
import Derived.Deep.WholeRow
/- Whole structs in blocks: made, read and written without their cells being written out. Nothing of the program is named. -/
namespace Go.Proofs.YtkafonmpmgjcpaaGreatDoor
open Go.RowKit

section
variable {P : Program} {w : World} {o : Oper} {a : Act} {K : Act → World → Prop} {Q : Exit → Act → World → Prop}
theorem wp_box (T : TypeId) (x : Operand) (ho : o.op = .box T x) (cs : Array Value) (hx : a.eval x = .agg cs)
    (h : K (a.put o.dst (.pointer (some ⟨w.heap.size, 0, none⟩))) (w.alloc (.cells cs T))) : o.wp P a w K Q := by
  have hr : (execOp a.eval o).run P w = .ok (.value (.pointer (some ⟨w.heap.size, 0, none⟩))) (w.alloc (.cells cs T)) := by
    unfold execOp
    simp only [ho, hx]
    rfl
  unfold Oper.wp
  rw [hr]
  exact h
theorem wp_alloc (T : TypeId) (ho : o.op = .alloc T) (z : Value) (hz : ∀ w, (zeroValue T).run P w = .ok z w)
    (h : K (a.put o.dst (.pointer (some ⟨w.heap.size, 0, none⟩))) (w.alloc (.cells z.cells T))) : o.wp P a w K Q := by
  have hr : (execOp a.eval o).run P w = .ok (.value (.pointer (some ⟨w.heap.size, 0, none⟩))) (w.alloc (.cells z.cells T)) := by
    unfold execOp
    simp only [ho, Instr.alloc, Sem.run_bind, hz, Result.andThen_ok]
    rfl
  unfold Oper.wp
  rw [hr]
  exact h
/-- Where a value is written over cells from off on. -/
def over (cur : Array Value) (off : Nat) (v : Value) : Array Value := (cur.toList.take off ++ v.cells.toList ++ cur.toList.drop (off + v.cells.size)).toArray
theorem wp_store_at (T : TypeId) (x y : Operand) (ho : o.op = .store T x y) (g off : Nat) (hx : a.eval x = .pointer (some ⟨g, off, none⟩)) (v : Value) (hy : a.eval y = v) (t : TypeId) (cur : Array Value)
    (hg : w.heap[g]? = some (.cells cur t (0, 0))) (hsz : (P.info? T).map (·.size) = some v.cells.size) (hfit : off + v.cells.size ≤ cur.size) (h1 : ∀ u ∈ v.cells.toList, u.oneCell' = true)
    (h : K (a.put o.dst undef) (w.setRow g (over cur off v))) : o.wp P a w K Q := by
  have hs : (storeCells ⟨g, off, none⟩ v.cells.toList 0).run P w = .ok () (w.setRow g (over cur off v)) := by
    have := run_storeCells_at (P := P) g off t v.cells.toList 0 cur w hg (by simpa using hfit) h1
    simpa [over] using this
  have hr : (execOp a.eval o).run P w = .ok .skip (w.setRow g (over cur off v)) := by
    unfold execOp
    cases hq : P.info? T with
    | none => simp [hq] at hsz
    | some i =>
      have hi : v.cells.size = i.size := by simp [hq] at hsz; omega
      simp only [ho, hx, hy, Instr.storeAt, Instr.sureAddr, storeVar, sizeOf, typeInfo, Sem.run_bind, Sem.run_pure, Result.andThen_ok, hi]
      simp [hq, hs]
  unfold Oper.wp
  rw [hr]
  exact h
theorem run_load_row (T : TypeId) (x : Operand) (ho : o.op = .load T x) (g : Nat) (hx : a.eval x = .pointer (some ⟨g, 0, none⟩)) (t : TypeId) (cs : Array Value) (d : TypeDesc) (hg : w.heap[g]? = some (.cells cs t (0, 0)))
    (hu : P.underlying T = some d) (hd : (match d with | .struct _ | .array _ _ => true | _ => false) = true) (hi : (P.info? T).map (·.size) = some cs.size) :
    (execOp a.eval o).run P w = .ok (.value (.agg cs)) w := by
  unfold execOp
  simp only [ho, hx, Instr.loadAt, Instr.sureAddr, Sem.run_bind, Sem.run_pure, Result.andThen_ok, run_loadVar_row w g t T cs (0, 0) d hg hu hd hi]

/-! ## At the walk, the world behind a name -/
variable {ops : Array Oper} {rest : List Oper}
theorem box_arm (hgd : o.guard = none) (T : TypeId) (x : Operand) (ho : o.op = .box T x) (cs : Array Value) (hx : a.eval x = .agg cs)
    (h : ∀ w', Ext w w' → w'.heap.size = w.heap.size + 1 → w'.heap[w.heap.size]? = some (.cells cs T (0, 0)) → wpList P ops Q rest (a.put o.dst (.pointer (some ⟨w.heap.size, 0, none⟩))) w') : wpList P ops Q (o :: rest) a w :=
  wpList_plain hgd fun _ hK => wp_box T x ho cs hx (hK _ _ (h _ (Ext.alloc _ _) (by simp) (heap_alloc_new w _)))
theorem alloc_arm (hgd : o.guard = none) (T : TypeId) (ho : o.op = .alloc T) (z : Value) (hz : ∀ w, (zeroValue T).run P w = .ok z w)
    (h : ∀ w', Ext w w' → w'.heap.size = w.heap.size + 1 → w'.heap[w.heap.size]? = some (.cells z.cells T (0, 0)) → wpList P ops Q rest (a.put o.dst (.pointer (some ⟨w.heap.size, 0, none⟩))) w') : wpList P ops Q (o :: rest) a w :=
  wpList_plain hgd fun _ hK => wp_alloc T ho z hz (hK _ _ (h _ (Ext.alloc _ _) (by simp) (heap_alloc_new w _)))
theorem store_arm (hgd : o.guard = none) (T : TypeId) (x y : Operand) (ho : o.op = .store T x y) (g off : Nat) (hx : a.eval x = .pointer (some ⟨g, off, none⟩)) (v : Value) (hy : a.eval y = v) (t : TypeId) (cur : Array Value)
    (hg : w.heap[g]? = some (.cells cur t (0, 0))) (hsz : (P.info? T).map (·.size) = some v.cells.size) (hfit : off + v.cells.size ≤ cur.size) (h1 : ∀ u ∈ v.cells.toList, u.oneCell' = true)
    (h : ∀ w', w.grownBy w' (some g) → w'.heap.size = w.heap.size → w'.heap[g]? = some (.cells (over cur off v) t (0, 0)) → wpList P ops Q rest (a.put o.dst undef) w') : wpList P ops Q (o :: rest) a w :=
  wpList_plain hgd fun _ hK => wp_store_at T x y ho g off hx v hy t cur hg hsz hfit h1 (hK _ _ (h _
    ⟨rfl, rfl, rfl, by simp [World.setRow], fun b _ hne => by
      have hb : ¬ g = b := fun e => hne (by rw [e])
      simp [World.setRow, Array.getElem?_modify, hb]⟩ (by simp [World.setRow]) (setRow_heap w g cur _ t _ hg)))
end
end Go.Proofs.YtkafonmpmgjcpaaGreatDoor
