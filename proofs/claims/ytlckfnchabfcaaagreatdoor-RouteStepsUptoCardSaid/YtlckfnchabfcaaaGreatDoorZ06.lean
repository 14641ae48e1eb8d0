import Derived.Test.YtlckfnchabfcaaaGreatDoorRows
import Derived.Test.YtlckfnchabfcaaaGreatDoorZ03
/- Words for memory: slices whose elements are read by a relation of their own, each within a set of blocks. Nothing of the program is named. -/
namespace Go.Proofs.YtlckfnchabfcaaaGreatDoor
open Go.RowKit

/-- The blocks of S are in w' as they are in w. -/
def Same (S : Nat → Prop) (w w' : World) : Prop := ∀ b, S b → w'.heap[b]? = w.heap[b]?
theorem Same.refl (S : Nat → Prop) (w : World) : Same S w w := fun _ _ => rfl
theorem Same.trans {S : Nat → Prop} {a b c : World} (h : Same S a b) (k : Same S b c) : Same S a c := fun x hx => (k x hx).trans (h x hx)
theorem Same.mono {S T : Nat → Prop} {a b : World} (h : Same S a b) (hs : ∀ x, T x → S x) : Same T a b := fun x hx => h x (hs x hx)
theorem Same.ext {w w' : World} (hx : Ext w w') : Same (· < w.heap.size) w w' := fun b hb => hx.block b hb
theorem Same.grown {w w' : World} {r : Option Nat} (hg : w.grownBy w' r) : Same (fun b => b < w.heap.size ∧ some b ≠ r) w w' := fun b hb => hg.block b hb.1 hb.2

/-- The cells that an address leads to, in a block of S. -/
def CellsIn (S : Nat → Prop) (w : World) (A : Option Addr) (vs : List Value) : Prop :=
  vs = [] ∨ ∃ b off, A = some ⟨b, off, none⟩ ∧ S b ∧ ∀ j u, vs[j]? = some u → w.cell? ⟨b, off + j, none⟩ = some u
section
variable {S T : Nat → Prop} {w w' : World} {A : Option Addr} {vs : List Value}
theorem CellsIn.cells (h : CellsIn S w A vs) : Cells w A vs := by
  rcases h with h | ⟨b, off, hA, _, hc⟩
  · exact .inl h
  · exact .inr ⟨b, off, hA, hc⟩
theorem CellsIn.same (h : CellsIn S w A vs) (hk : Same S w w') : CellsIn S w' A vs := by
  rcases h with h | ⟨b, off, hA, hS, hc⟩
  · exact .inl h
  · exact .inr ⟨b, off, hA, hS, fun j u hj => by rw [World.cell?_of_block (hk b hS)]; exact hc j u hj⟩
theorem CellsIn.mono (h : CellsIn S w A vs) (hs : ∀ x, x < w.heap.size → S x → T x) : CellsIn T w A vs := by
  rcases h with h | ⟨b, off, hA, hS, hc⟩
  · exact .inl h
  · rcases vs with _ | ⟨u, vs⟩
    · exact .inl rfl
    · exact .inr ⟨b, off, hA, hs b (by have := World.block_lt_of_cell? w _ (hc 0 u rfl); simpa using this) hS, hc⟩
end

/-- How an element is read: of so many cells, by a relation that stays where the blocks stay. -/
structure Elem (α : Type) where
  k : Nat
  pos : 0 < k
  R : (Nat → Prop) → World → List Value → α → Prop
  len : ∀ {S w v x}, R S w v x → v.length = k
  same : ∀ {S w w' v x}, R S w v x → Same S w w' → R S w' v x
  mono : ∀ {S T w v x}, R S w v x → (∀ b, b < w.heap.size → S b → T b) → R T w v x

/-- A slice of such elements that reads as l. -/
structure Row {α : Type} (E : Elem α) (S : Nat → Prop) (w : World) (A : Option Addr) (n c : Nat) (l : List α) : Prop where
  len : n = l.length
  cap : n ≤ c
  most : c ≤ maxLen
  rows : ∃ vss : List (List Value), vss.length = n ∧ CellsIn S w A vss.flatten ∧ ∀ (i : Nat) v x, vss[i]? = some v → l[i]? = some x → E.R S w v x
theorem flatten_at {k : Nat} : ∀ {vss : List (List Value)}, (∀ v ∈ vss, v.length = k) → ∀ {i j : Nat} {v : List Value} {u : Value}, vss[i]? = some v → v[j]? = some u → vss.flatten[i * k + j]? = some u
  | [], _, i, j, v, u, hi, _ => by simp at hi
  | v0 :: vss, hl, 0, j, v, u, hi, hj => by
    simp at hi; subst hi
    rw [Nat.zero_mul, Nat.zero_add, List.flatten_cons, List.getElem?_append_left (List.getElem?_eq_some_iff.1 hj).1]; exact hj
  | v0 :: vss, hl, i + 1, j, v, u, hi, hj => by
    have h0 := hl v0 (by simp)
    rw [List.flatten_cons, List.getElem?_append_right (by rw [h0, Nat.succ_mul]; omega), h0]
    have : (i + 1) * k + j - k = i * k + j := by rw [Nat.succ_mul]; omega
    rw [this]
    exact flatten_at (fun v hv => hl v (by simp [hv])) (by simpa using hi) hj
section
variable {α : Type} {E : Elem α} {S T : Nat → Prop} {w w' : World} {A : Option Addr} {n c : Nat} {l : List α}
theorem Row.nil (E : Elem α) (S : Nat → Prop) (w : World) : Row E S w none 0 0 [] := ⟨rfl, Nat.le_refl _, by simp [maxLen], [], rfl, .inl rfl, fun i v x h => by simp at h⟩
theorem Row.same (h : Row E S w A n c l) (hk : Same S w w') : Row E S w' A n c l := by
  obtain ⟨h1, h2, h3, vss, h4, h5, h6⟩ := h
  exact ⟨h1, h2, h3, vss, h4, h5.same hk, fun i v x hi hx => E.same (h6 i v x hi hx) hk⟩
theorem Row.mono (h : Row E S w A n c l) (hs : ∀ x, x < w.heap.size → S x → T x) : Row E T w A n c l := by
  obtain ⟨h1, h2, h3, vss, h4, h5, h6⟩ := h
  exact ⟨h1, h2, h3, vss, h4, h5.mono hs, fun i v x hi hx => E.mono (h6 i v x hi hx) hs⟩
theorem Row.lt (h : Row E S w A n c l) : Row E (fun b => S b ∧ b < w.heap.size) w A n c l := h.mono fun _ hx hs => ⟨hs, hx⟩
/-- .. in a later world in which all old blocks are as they were. -/
theorem Row.ext (h : Row E S w A n c l) (hx : Ext w w') : Row E S w' A n c l :=
  (h.lt.same fun b hb => hx.block b hb.2).mono fun _ _ hs => hs.1
theorem Row.at_ (h : Row E S w A n c l) {i : Nat} (hi : i < n) :
    ∃ b off v x, A = some ⟨b, off, none⟩ ∧ l[i]? = some x ∧ v.length = E.k ∧ E.R S w v x ∧ ∀ (j : Nat) u, v[j]? = some u → w.cell? ⟨b, off + i * E.k + j, none⟩ = some u := by
  obtain ⟨h1, h2, h3, vss, h4, h5, h6⟩ := h
  have hv : vss[i]? = some vss[i] := List.getElem?_eq_getElem (by omega)
  have hx : l[i]? = some l[i] := List.getElem?_eq_getElem (by omega)
  have hR := h6 i _ _ hv hx
  have hlen := E.len hR
  have hall : ∀ v ∈ vss, v.length = E.k := by
    intro v hv
    obtain ⟨j, hj, rfl⟩ := List.mem_iff_getElem.1 hv
    exact E.len (h6 j vss[j] (l[j]'(by omega)) (List.getElem?_eq_getElem hj) (List.getElem?_eq_getElem (by omega)))
  have hf : ∀ (j : Nat) u, vss[i][j]? = some u → vss.flatten[i * E.k + j]? = some u := fun j u hj => flatten_at hall hv hj
  rcases h5 with h5 | ⟨b, off, hA, hS, hc⟩
  · have h0 := hf 0 _ (List.getElem?_eq_getElem (show 0 < vss[i].length by rw [hlen]; exact E.pos))
    rw [h5] at h0
    cases h0
  · exact ⟨b, off, vss[i], l[i], hA, hx, hlen, hR, fun j u hj => by rw [Nat.add_assoc]; exact hc _ u (hf j u hj)⟩
theorem Row.nil_iff (h : Row E S w A n c l) : n = 0 ↔ l = [] := by rw [h.len]; exact List.length_eq_zero_iff
end

theorem bcell {W w1 : World} (hb : Ext W w1) : ∀ b o, b < W.heap.size → w1.cell? ⟨b, o, none⟩ = W.cell? ⟨b, o, none⟩ := fun b o h => Below.cell hb (p := ⟨b, o, none⟩) h

theorem box_a (w : World) (cs : Array Value) (t : TypeId) (j : Nat) : (w.alloc (.cells cs t)).cell? ⟨w.heap.size, j, none⟩ = cs[j]? := by
  rw [cell_of_row _ _ j cs t (0, 0) (heap_alloc_new w _)]
theorem box_b (w : World) (o : Obj) (cs : Array Value) (t : TypeId) (j : Nat) : ((w.alloc o).alloc (.cells cs t)).cell? ⟨w.heap.size + 1, j, none⟩ = cs[j]? := by
  have := box_a (w.alloc o) cs t j
  rwa [show (w.alloc o).heap.size = w.heap.size + 1 by simp] at this
theorem box_ab (w : World) (cs : Array Value) (t : TypeId) (o : Obj) (j : Nat) (u : Value) (h : cs[j]? = some u) : ((w.alloc (.cells cs t)).alloc o).cell? ⟨w.heap.size, j, none⟩ = some u :=
  cell_later (by rw [box_a, h]) _ (Ext.alloc _ _)

/-! ## The elements -/
def Elem.str : Elem ByteArray := ⟨1, by decide, fun _ _ v x => v = [.string x], fun h => by rw [h]; rfl, fun h _ => h, fun h _ => h⟩
/-- A slice as a field of one cell. -/
def Elem.slc {α : Type} (E : Elem α) : Elem (List α) :=
  ⟨1, by decide, fun S w v l => ∃ A n c, v = [.slice A n c] ∧ Row E S w A n c l, fun ⟨_, _, _, h, _⟩ => by rw [h]; rfl, fun ⟨A, n, c, h, hr⟩ hk => ⟨A, n, c, h, hr.same hk⟩, fun ⟨A, n, c, h, hr⟩ hs => ⟨A, n, c, h, hr.mono hs⟩⟩
/-- An attribute: its type, its values. -/
structure Att where
  type : ByteArray
  vals : List ByteArray
def Elem.att : Elem Att :=
  ⟨2, by decide, fun S w v a => ∃ A n c, v = [.string a.type, .slice A n c] ∧ Row Elem.str S w A n c a.vals, fun ⟨_, _, _, h, _⟩ => by rw [h]; rfl, fun ⟨A, n, c, h, hr⟩ hk => ⟨A, n, c, h, hr.same hk⟩, fun ⟨A, n, c, h, hr⟩ hs => ⟨A, n, c, h, hr.mono hs⟩⟩
/-- A change of an entry. -/
structure Chg where
  op : Int
  att : Att
def Elem.chg : Elem Chg :=
  ⟨3, by decide, fun S w v a => ∃ A n c, v = [.int .i64 a.op, .string a.att.type, .slice A n c] ∧ Row Elem.str S w A n c a.att.vals, fun ⟨_, _, _, h, _⟩ => by rw [h]; rfl, fun ⟨A, n, c, h, hr⟩ hk => ⟨A, n, c, h, hr.same hk⟩, fun ⟨A, n, c, h, hr⟩ hs => ⟨A, n, c, h, hr.mono hs⟩⟩
/-- A control. -/
structure Ctl where
  oid : ByteArray
  crit : Bool
  has : Bool
  val : ByteArray
def Elem.ctl : Elem Ctl := ⟨4, by decide, fun _ _ v x => v = [.string x.oid, .bool x.crit, .bool x.has, .string x.val], fun h => by rw [h]; rfl, fun h _ => h, fun h _ => h⟩
/-- A filter. -/
inductive Fil where
  | mk (kind : Int) (attr value first last : ByteArray) (any : List ByteArray) (parts : List Fil)
/-- The cells of a filter. -/
inductive FilAt (S : Nat → Prop) (w : World) : List Value → Fil → Prop where
  | mk {k : Int} {a v f l : ByteArray} {any : List ByteArray} {parts : List Fil} {A : Option Addr} {n c : Nat} {B : Option Addr} {m d : Nat} (vss : List (List Value))
      (h1 : Row Elem.str S w A n c any) (h2 : m = parts.length) (h3 : m ≤ d) (h4 : d ≤ maxLen) (h5 : vss.length = m) (h6 : CellsIn S w B vss.flatten) (h7 : ∀ (i : Nat) v x, vss[i]? = some v → parts[i]? = some x → FilAt S w v x) :
      FilAt S w [.int .i64 k, .string a, .string v, .string f, .string l, .slice A n c, .slice B m d] (.mk k a v f l any parts)
theorem FilAt.len {S : Nat → Prop} {w : World} {v : List Value} {x : Fil} (h : FilAt S w v x) : v.length = 7 := by cases h; rfl
theorem FilAt.same {S : Nat → Prop} {w w' : World} {v : List Value} {x : Fil} (h : FilAt S w v x) (hk : Same S w w') : FilAt S w' v x := by
  induction h with
  | mk vss h1 h2 h3 h4 h5 h6 h7 ih => exact .mk vss (h1.same hk) h2 h3 h4 h5 (h6.same hk) ih
theorem FilAt.mono {S T : Nat → Prop} {w : World} {v : List Value} {x : Fil} (h : FilAt S w v x) (hs : ∀ b, b < w.heap.size → S b → T b) : FilAt T w v x := by
  induction h with
  | mk vss h1 h2 h3 h4 h5 h6 h7 ih => exact .mk vss (h1.mono hs) h2 h3 h4 h5 (h6.mono hs) ih
def Elem.fil : Elem Fil := ⟨7, by decide, FilAt, FilAt.len, FilAt.same, FilAt.mono⟩
/-- A filter's cells, opened. -/
theorem FilAt.open_ {S : Nat → Prop} {w : World} {vs : List Value} {k : Int} {a v f l : ByteArray} {any : List ByteArray} {parts : List Fil} (h : FilAt S w vs (.mk k a v f l any parts)) :
    ∃ A n c B m d, vs = [.int .i64 k, .string a, .string v, .string f, .string l, .slice A n c, .slice B m d] ∧ Row Elem.str S w A n c any ∧ Row Elem.fil S w B m d parts := by
  cases h with
  | mk vss h1 h2 h3 h4 h5 h6 h7 => exact ⟨_, _, _, _, _, _, rfl, h1, h2, h3, h4, vss, h5, h6, h7⟩
theorem FilAt.shut {S : Nat → Prop} {w : World} {k : Int} {a v f l : ByteArray} {any : List ByteArray} {parts : List Fil} {A : Option Addr} {n c : Nat} {B : Option Addr} {m d : Nat} (h : Row Elem.str S w A n c any) (hp : Row Elem.fil S w B m d parts) :
    FilAt S w [.int .i64 k, .string a, .string v, .string f, .string l, .slice A n c, .slice B m d] (.mk k a v f l any parts) := by
  obtain ⟨h2, h3, h4, vss, h5, h6, h7⟩ := hp
  exact .mk vss h h2 h3 h4 h5 h6 h7
theorem FilAt.ext {S : Nat → Prop} {w w' : World} {v : List Value} {x : Fil} (h : FilAt S w v x) (hx : Ext w w') : FilAt S w' v x :=
  ((h.mono (T := fun b => S b ∧ b < w.heap.size) fun _ hb hs => ⟨hs, hb⟩).same fun b hb => hx.block b hb.2).mono fun _ _ hs => hs.1
/-- What holds of a filter if it holds of those whose parts all have it holds of all. -/
theorem Fil.ind {P : Fil → Prop} (h : ∀ k a v f l any parts, (∀ x ∈ parts, P x) → P (.mk k a v f l any parts)) : ∀ x, P x
  | .mk k a v f l any parts => h k a v f l any parts fun x _ => Fil.ind h x
  termination_by x => SizeOf.sizeOf x
  decreasing_by
    simp_wf
    have := List.sizeOf_lt_of_mem ‹_ ∈ _›
    omega

/-- A new block of one element. -/
theorem Row.one {α : Type} {E : Elem α} {S : Nat → Prop} {w : World} {v : List Value} {x : α} (h : E.R S w v x) (t : TypeId) :
    Row E (fun _ => True) (w.alloc (.cells v.toArray t)) (some ⟨w.heap.size, 0, none⟩) 1 1 [x] := by
  have hx : Ext w (w.alloc (.cells v.toArray t)) := Ext.alloc _ _
  refine ⟨rfl, Nat.le_refl _, by simp [maxLen], [v], rfl, .inr ⟨w.heap.size, 0, rfl, trivial, fun j u hj => ?_⟩, fun i v' x' hi hx' => ?_⟩
  · rw [Nat.zero_add, cell_of_row _ _ j v.toArray t (0, 0) (heap_alloc_new w _)]
    simpa using hj
  · rcases i with _ | i
    · simp at hi hx'
      subst hi hx'
      have h1 : E.R (fun b => b < w.heap.size) w v x := E.mono h fun b hb _ => hb
      exact E.mono (E.same h1 fun b hb => hx.block b hb) fun _ _ _ => trivial
    · simp at hi

/-! ## One cell an element: the texts -/
theorem str_eq {a b : ByteArray} (h : a = b) : (a.toList == b.toList) = true := by rw [h]; exact beq_self_eq_true _
theorem str_ne {a b : ByteArray} (h : ¬ a = b) : (a.toList == b.toList) = false := by
  rw [beq_eq_false_iff_ne]
  intro e
  rw [ByteArray.toList_eq, ByteArray.toList_eq] at e
  obtain ⟨⟨a⟩⟩ := a
  obtain ⟨⟨b⟩⟩ := b
  exact h (by simp at e; rw [e])
theorem Row.str_cell {S : Nat → Prop} {w : World} {A : Option Addr} {n c : Nat} {l : List ByteArray} (h : Row Elem.str S w A n c l) (hn : 0 < n) :
    ∃ b off, A = some ⟨b, off, none⟩ ∧ ∀ i, i < n → w.cell? ⟨b, off + i, none⟩ = some (.string (l[i]?.getD ByteArray.empty)) := by
  obtain ⟨b, off, v, x, hA, _⟩ := h.at_ hn
  refine ⟨b, off, hA, fun i hi => ?_⟩
  obtain ⟨b', off', v, x, hA', hx, _, hR, hc⟩ := h.at_ hi
  rw [hA] at hA'
  injection hA' with e
  injection e with e1 e2
  subst e1 e2
  have hv : v = [.string x] := hR
  subst hv
  have := hc 0 _ rfl
  rw [hx]
  simpa [Elem.str] using this
end Go.Proofs.YtlckfnchabfcaaaGreatDoor
