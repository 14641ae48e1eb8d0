import Derived.Test.YtencmdpjiafnaaaGreatDoorRows
import Derived.Test.YtencmdpjiafnaaaGreatDoorZ02
import Derived.Test.YtencmdpjiafnaaaGreatDoorZ03
import Derived.Test.YtencmdpjiafnaaaGreatDoorZ04
/- Words for memory: slices whose elements are read by a relation of their own, each within a set of blocks. Nothing of the program is named. -/
namespace Go.Proofs.YtencmdpjiafnaaaGreatDoor
open Go.RowKit

/-- The blocks of S are in w' as they are in w. -/
def Same (S : Nat → Prop) (w w' : World) : Prop := ∀ b, S b → w'.heap[b]? = w.heap[b]?
theorem Same.refl (S : Nat → Prop) (w : World) : Same S w w := fun _ _ => rfl
theorem Same.trans {S : Nat → Prop} {a b c : World} (h : Same S a b) (k : Same S b c) : Same S a c := fun x hx => (k x hx).trans (h x hx)
theorem Same.mono {S T : Nat → Prop} {a b : World} (h : Same S a b) (hs : ∀ x, T x → S x) : Same T a b := fun x hx => h x (hs x hx)
theorem Same.ext {w w' : World} (hx : Ext w w') : Same (· < w.heap.size) w w' := fun b hb => hx.block b hb
theorem Same.grown {w w' : World} {r : Option Nat} (hg : w.grownBy w' r) : Same (fun b => b < w.heap.size ∧ some b ≠ r) w w' := fun b hb => hg.block b hb.1 hb.2

/-- The cells that an address leads to, in a block of S. -/
def CellsIn (S : Nat → Prop) (w : World) (A : Option Addr) (vs : List Value) : Prop :=
  vs = [] ∨ ∃ b off, A = some ⟨b, off, none⟩ ∧ S b ∧ ∀ j u, vs[j]? = some u → w.cell? ⟨b, off + j, none⟩ = some u
section
variable {S T : Nat → Prop} {w w' : World} {A : Option Addr} {vs : List Value}
theorem CellsIn.cells (h : CellsIn S w A vs) : Cells w A vs := by
  rcases h with h | ⟨b, off, hA, _, hc⟩
  · exact .inl h
  · exact .inr ⟨b, off, hA, hc⟩
theorem CellsIn.same (h : CellsIn S w A vs) (hk : Same S w w') : CellsIn S w' A vs := by
  rcases h with h | ⟨b, off, hA, hS, hc⟩
  · exact .inl h
  · exact .inr ⟨b, off, hA, hS, fun j u hj => by rw [World.cell?_of_block (hk b hS)]; exact hc j u hj⟩
theorem CellsIn.mono (h : CellsIn S w A vs) (hs : ∀ x, x < w.heap.size → S x → T x) : CellsIn T w A vs := by
  rcases h with h | ⟨b, off, hA, hS, hc⟩
  · exact .inl h
  · rcases vs with _ | ⟨u, vs⟩
    · exact .inl rfl
    · exact .inr ⟨b, off, hA, hs b (by have := World.block_lt_of_cell? w _ (hc 0 u rfl); simpa using this) hS, hc⟩
end

/-- How an element is read: of so many cells, by a relation that stays where the blocks stay. -/
structure Elem (α : Type) where
  k : Nat
  pos : 0 < k
  R : (Nat → Prop) → World → List Value → α → Prop
  len : ∀ {S w v x}, R S w v x → v.length = k
  same : ∀ {S w w' v x}, R S w v x → Same S w w' → R S w' v x
  mono : ∀ {S T w v x}, R S w v x → (∀ b, b < w.heap.size → S b → T b) → R T w v x

/-- A slice of such elements that reads as l. -/
structure Row {α : Type} (E : Elem α) (S : Nat → Prop) (w : World) (A : Option Addr) (n c : Nat) (l : List α) : Prop where
  len : n = l.length
  cap : n ≤ c
  most : c ≤ maxLen
  rows : ∃ vss : List (List Value), vss.length = n ∧ CellsIn S w A vss.flatten ∧ ∀ (i : Nat) v x, vss[i]? = some v → l[i]? = some x → E.R S w v x
theorem flatten_at {k : Nat} : ∀ {vss : List (List Value)}, (∀ v ∈ vss, v.length = k) → ∀ {i j : Nat} {v : List Value} {u : Value}, vss[i]? = some v → v[j]? = some u → vss.flatten[i * k + j]? = some u
  | [], _, i, j, v, u, hi, _ => by simp at hi
  | v0 :: vss, hl, 0, j, v, u, hi, hj => by
    simp at hi; subst hi
    rw [Nat.zero_mul, Nat.zero_add, List.flatten_cons, List.getElem?_append_left (List.getElem?_eq_some_iff.1 hj).1]; exact hj
  | v0 :: vss, hl, i + 1, j, v, u, hi, hj => by
    have h0 := hl v0 (by simp)
    rw [List.flatten_cons, List.getElem?_append_right (by rw [h0, Nat.succ_mul]; omega), h0]
    have : (i + 1) * k + j - k = i * k + j := by rw [Nat.succ_mul]; omega
    rw [this]
    exact flatten_at (fun v hv => hl v (by simp [hv])) (by simpa using hi) hj
section
variable {α : Type} {E : Elem α} {S T : Nat → Prop} {w w' : World} {A : Option Addr} {n c : Nat} {l : List α}
theorem Row.nil (E : Elem α) (S : Nat → Prop) (w : World) : Row E S w none 0 0 [] := ⟨rfl, Nat.le_refl _, by simp [maxLen], [], rfl, .inl rfl, fun i v x h => by simp at h⟩
theorem Row.same (h : Row E S w A n c l) (hk : Same S w w') : Row E S w' A n c l := by
  obtain ⟨h1, h2, h3, vss, h4, h5, h6⟩ := h
  exact ⟨h1, h2, h3, vss, h4, h5.same hk, fun i v x hi hx => E.same (h6 i v x hi hx) hk⟩
theorem Row.mono (h : Row E S w A n c l) (hs : ∀ x, x < w.heap.size → S x → T x) : Row E T w A n c l := by
  obtain ⟨h1, h2, h3, vss, h4, h5, h6⟩ := h
  exact ⟨h1, h2, h3, vss, h4, h5.mono hs, fun i v x hi hx => E.mono (h6 i v x hi hx) hs⟩
theorem Row.lt (h : Row E S w A n c l) : Row E (fun b => S b ∧ b < w.heap.size) w A n c l := h.mono fun _ hx hs => ⟨hs, hx⟩
/-- .. in a later world in which all old blocks are as they were. -/
theorem Row.ext (h : Row E S w A n c l) (hx : Ext w w') : Row E S w' A n c l :=
  (h.lt.same fun b hb => hx.block b hb.2).mono fun _ _ hs => hs.1
theorem Row.at_ (h : Row E S w A n c l) {i : Nat} (hi : i < n) :
    ∃ b off v x, A = some ⟨b, off, none⟩ ∧ l[i]? = some x ∧ v.length = E.k ∧ E.R S w v x ∧ ∀ (j : Nat) u, v[j]? = some u → w.cell? ⟨b, off + i * E.k + j, none⟩ = some u := by
  obtain ⟨h1, h2, h3, vss, h4, h5, h6⟩ := h
  have hv : vss[i]? = some vss[i] := List.getElem?_eq_getElem (by omega)
  have hx : l[i]? = some l[i] := List.getElem?_eq_getElem (by omega)
  have hR := h6 i _ _ hv hx
  have hlen := E.len hR
  have hall : ∀ v ∈ vss, v.length = E.k := by
    intro v hv
    obtain ⟨j, hj, rfl⟩ := List.mem_iff_getElem.1 hv
    exact E.len (h6 j vss[j] (l[j]'(by omega)) (List.getElem?_eq_getElem hj) (List.getElem?_eq_getElem (by omega)))
  have hf : ∀ (j : Nat) u, vss[i][j]? = some u → vss.flatten[i * E.k + j]? = some u := fun j u hj => flatten_at hall hv hj
  rcases h5 with h5 | ⟨b, off, hA, hS, hc⟩
  · have h0 := hf 0 _ (List.getElem?_eq_getElem (show 0 < vss[i].length by rw [hlen]; exact E.pos))
    rw [h5] at h0
    cases h0
  · exact ⟨b, off, vss[i], l[i], hA, hx, hlen, hR, fun j u hj => by rw [Nat.add_assoc]; exact hc _ u (hf j u hj)⟩
theorem Row.nil_iff (h : Row E S w A n c l) : n = 0 ↔ l = [] := by rw [h.len]; exact List.length_eq_zero_iff
end

theorem bcell {W w1 : World} (hb : Ext W w1) : ∀ b o, b < W.heap.size → w1.cell? ⟨b, o, none⟩ = W.cell? ⟨b, o, none⟩ := fun b o h => Below.cell hb (p := ⟨b, o, none⟩) h

theorem box_a (w : World) (cs : Array Value) (t : TypeId) (j : Nat) : (w.alloc (.cells cs t)).cell? ⟨w.heap.size, j, none⟩ = cs[j]? := by
  rw [cell_of_row _ _ j cs t (0, 0) (heap_alloc_new w _)]
theorem box_b (w : World) (o : Obj) (cs : Array Value) (t : TypeId) (j : Nat) : ((w.alloc o).alloc (.cells cs t)).cell? ⟨w.heap.size + 1, j, none⟩ = cs[j]? := by
  have := box_a (w.alloc o) cs t j
  rwa [show (w.alloc o).heap.size = w.heap.size + 1 by simp] at this
theorem box_ab (w : World) (cs : Array Value) (t : TypeId) (o : Obj) (j : Nat) (u : Value) (h : cs[j]? = some u) : ((w.alloc (.cells cs t)).alloc o).cell? ⟨w.heap.size, j, none⟩ = some u :=
  cell_later (by rw [box_a, h]) _ (Ext.alloc _ _)

/-! ## The elements -/
def Elem.str : Elem ByteArray := ⟨1, by decide, fun _ _ v x => v = [.string x], fun h => by rw [h]; rfl, fun h _ => h, fun h _ => h⟩
/-- A slice as a field of one cell. -/
def Elem.slc {α : Type} (E : Elem α) : Elem (List α) :=
  ⟨1, by decide, fun S w v l => ∃ A n c, v = [.slice A n c] ∧ Row E S w A n c l, fun ⟨_, _, _, h, _⟩ => by rw [h]; rfl, fun ⟨A, n, c, h, hr⟩ hk => ⟨A, n, c, h, hr.same hk⟩, fun ⟨A, n, c, h, hr⟩ hs => ⟨A, n, c, h, hr.mono hs⟩⟩
/-- An attribute: its type, its values. -/
structure Att where
  type : ByteArray
  vals : List ByteArray
def Elem.att : Elem Att :=
  ⟨2, by decide, fun S w v a => ∃ A n c, v = [.string a.type, .slice A n c] ∧ Row Elem.str S w A n c a.vals, fun ⟨_, _, _, h, _⟩ => by rw [h]; rfl, fun ⟨A, n, c, h, hr⟩ hk => ⟨A, n, c, h, hr.same hk⟩, fun ⟨A, n, c, h, hr⟩ hs => ⟨A, n, c, h, hr.mono hs⟩⟩
/-- A change of an entry. -/
structure Chg where
  op : Int
  att : Att
def Elem.chg : Elem Chg :=
  ⟨3, by decide, fun S w v a => ∃ A n c, v = [.int .i64 a.op, .string a.att.type, .slice A n c] ∧ Row Elem.str S w A n c a.att.vals, fun ⟨_, _, _, h, _⟩ => by rw [h]; rfl, fun ⟨A, n, c, h, hr⟩ hk => ⟨A, n, c, h, hr.same hk⟩, fun ⟨A, n, c, h, hr⟩ hs => ⟨A, n, c, h, hr.mono hs⟩⟩
/-- A control. -/
structure Ctl where
  oid : ByteArray
  crit : Bool
  has : Bool
  val : ByteArray
def Elem.ctl : Elem Ctl := ⟨4, by decide, fun _ _ v x => v = [.string x.oid, .bool x.crit, .bool x.has, .string x.val], fun h => by rw [h]; rfl, fun h _ => h, fun h _ => h⟩
/-- A filter. -/
inductive Fil where
  | mk (kind : Int) (attr value first last : ByteArray) (any : List ByteArray) (parts : List Fil)
/-- The cells of a filter. -/
inductive FilAt (S : Nat → Prop) (w : World) : List Value → Fil → Prop where
  | mk {k : Int} {a v f l : ByteArray} {any : List ByteArray} {parts : List Fil} {A : Option Addr} {n c : Nat} {B : Option Addr} {m d : Nat} (vss : List (List Value))
      (h1 : Row Elem.str S w A n c any) (h2 : m = parts.length) (h3 : m ≤ d) (h4 : d ≤ maxLen) (h5 : vss.length = m) (h6 : CellsIn S w B vss.flatten) (h7 : ∀ (i : Nat) v x, vss[i]? = some v → parts[i]? = some x → FilAt S w v x) :
      FilAt S w [.int .i64 k, .string a, .string v, .string f, .string l, .slice A n c, .slice B m d] (.mk k a v f l any parts)
theorem FilAt.len {S : Nat → Prop} {w : World} {v : List Value} {x : Fil} (h : FilAt S w v x) : v.length = 7 := by cases h; rfl
theorem FilAt.same {S : Nat → Prop} {w w' : World} {v : List Value} {x : Fil} (h : FilAt S w v x) (hk : Same S w w') : FilAt S w' v x := by
  induction h with
  | mk vss h1 h2 h3 h4 h5 h6 h7 ih => exact .mk vss (h1.same hk) h2 h3 h4 h5 (h6.same hk) ih
theorem FilAt.mono {S T : Nat → Prop} {w : World} {v : List Value} {x : Fil} (h : FilAt S w v x) (hs : ∀ b, b < w.heap.size → S b → T b) : FilAt T w v x := by
  induction h with
  | mk vss h1 h2 h3 h4 h5 h6 h7 ih => exact .mk vss (h1.mono hs) h2 h3 h4 h5 (h6.mono hs) ih
def Elem.fil : Elem Fil := ⟨7, by decide, FilAt, FilAt.len, FilAt.same, FilAt.mono⟩
/-- A filter's cells, opened. -/
theorem FilAt.open_ {S : Nat → Prop} {w : World} {vs : List Value} {k : Int} {a v f l : ByteArray} {any : List ByteArray} {parts : List Fil} (h : FilAt S w vs (.mk k a v f l any parts)) :
    ∃ A n c B m d, vs = [.int .i64 k, .string a, .string v, .string f, .string l, .slice A n c, .slice B m d] ∧ Row Elem.str S w A n c any ∧ Row Elem.fil S w B m d parts := by
  cases h with
  | mk vss h1 h2 h3 h4 h5 h6 h7 => exact ⟨_, _, _, _, _, _, rfl, h1, h2, h3, h4, vss, h5, h6, h7⟩
theorem FilAt.shut {S : Nat → Prop} {w : World} {k : Int} {a v f l : ByteArray} {any : List ByteArray} {parts : List Fil} {A : Option Addr} {n c : Nat} {B : Option Addr} {m d : Nat} (h : Row Elem.str S w A n c any) (hp : Row Elem.fil S w B m d parts) :
    FilAt S w [.int .i64 k, .string a, .string v, .string f, .string l, .slice A n c, .slice B m d] (.mk k a v f l any parts) := by
  obtain ⟨h2, h3, h4, vss, h5, h6, h7⟩ := hp
  exact .mk vss h h2 h3 h4 h5 h6 h7
theorem FilAt.ext {S : Nat → Prop} {w w' : World} {v : List Value} {x : Fil} (h : FilAt S w v x) (hx : Ext w w') : FilAt S w' v x :=
  ((h.mono (T := fun b => S b ∧ b < w.heap.size) fun _ hb hs => ⟨hs, hb⟩).same fun b hb => hx.block b hb.2).mono fun _ _ hs => hs.1
/-- What holds of a filter if it holds of those whose parts all have it holds of all. -/
theorem Fil.ind {P : Fil → Prop} (h : ∀ k a v f l any parts, (∀ x ∈ parts, P x) → P (.mk k a v f l any parts)) : ∀ x, P x
  | .mk k a v f l any parts => h k a v f l any parts fun x _ => Fil.ind h x
  termination_by x => SizeOf.sizeOf x
  decreasing_by
    simp_wf
    have := List.sizeOf_lt_of_mem ‹_ ∈ _›
    omega

/-- A new block of one element. -/
theorem Row.one {α : Type} {E : Elem α} {S : Nat → Prop} {w : World} {v : List Value} {x : α} (h : E.R S w v x) (t : TypeId) :
    Row E (fun _ => True) (w.alloc (.cells v.toArray t)) (some ⟨w.heap.size, 0, none⟩) 1 1 [x] := by
  have hx : Ext w (w.alloc (.cells v.toArray t)) := Ext.alloc _ _
  refine ⟨rfl, Nat.le_refl _, by simp [maxLen], [v], rfl, .inr ⟨w.heap.size, 0, rfl, trivial, fun j u hj => ?_⟩, fun i v' x' hi hx' => ?_⟩
  · rw [Nat.zero_add, cell_of_row _ _ j v.toArray t (0, 0) (heap_alloc_new w _)]
    simpa using hj
  · rcases i with _ | i
    · simp at hi hx'
      subst hi hx'
      have h1 : E.R (fun b => b < w.heap.size) w v x := E.mono h fun b hb _ => hb
      exact E.mono (E.same h1 fun b hb => hx.block b hb) fun _ _ _ => trivial
    · simp at hi

/-! ## One cell an element: the texts -/
theorem str_eq {a b : ByteArray} (h : a = b) : (a.toList == b.toList) = true := by rw [h]; exact beq_self_eq_true _
theorem str_ne {a b : ByteArray} (h : ¬ a = b) : (a.toList == b.toList) = false := by
  rw [beq_eq_false_iff_ne]
  intro e
  rw [ByteArray.toList_eq, ByteArray.toList_eq] at e
  obtain ⟨⟨a⟩⟩ := a
  obtain ⟨⟨b⟩⟩ := b
  exact h (by simp at e; rw [e])
theorem Row.str_cell {S : Nat → Prop} {w : World} {A : Option Addr} {n c : Nat} {l : List ByteArray} (h : Row Elem.str S w A n c l) (hn : 0 < n) :
    ∃ b off, A = some ⟨b, off, none⟩ ∧ ∀ i, i < n → w.cell? ⟨b, off + i, none⟩ = some (.string (l[i]?.getD ByteArray.empty)) := by
  obtain ⟨b, off, v, x, hA, _⟩ := h.at_ hn
  refine ⟨b, off, hA, fun i hi => ?_⟩
  obtain ⟨b', off', v, x, hA', hx, _, hR, hc⟩ := h.at_ hi
  rw [hA] at hA'
  injection hA' with e
  injection e with e1 e2
  subst e1 e2
  have hv : v = [.string x] := hR
  subst hv
  have := hc 0 _ rfl
  rw [hx]
  simpa [Elem.str] using this
end Go.Proofs.YtencmdpjiafnaaaGreatDoor
/- The walks of rule's and of the reference's Type. -/
namespace Go.Proofs.YtencmdpjiafnaaaGreatDoor
open Go.RowKit
set_option maxRecDepth 100000
set_option linter.unusedSimpArgs false

/-- A row of texts, made by a literal. -/
theorem lit_str (w : World) (xs : List ByteArray) (t : TypeId) (hm : xs.length ≤ maxLen) :
    Row Elem.str (fun _ => True) (w.alloc (.cells (xs.map .string).toArray t)) (some ⟨w.heap.size, 0, none⟩) xs.length xs.length xs := by
  refine ⟨rfl, Nat.le_refl _, hm, xs.map fun x => [.string x], by simp, .inr ⟨w.heap.size, 0, rfl, trivial, fun j u hj => ?_⟩, fun i v x hi hx => ?_⟩
  · rw [Nat.zero_add, box_a]
    have e : ∀ l : List ByteArray, (l.map fun x => [Value.string x]).flatten = l.map .string := fun l => by
      induction l with
      | nil => rfl
      | cons x t ih => simp only [List.map_cons, List.flatten_cons, ih]; rfl
    rw [e] at hj
    simpa using hj
  · rw [List.getElem?_map, hx] at hi
    simpa [Elem.str] using hi.symm
/-- A row of rows, made by a literal. -/
theorem lit_slc {α : Type} {E : Elem α} (w : World) (vs : List Value) (xs : List (List α)) (t : TypeId) (hm : xs.length ≤ maxLen) (hl : vs.length = xs.length)
    (h : ∀ (i : Nat) v x, vs[i]? = some v → xs[i]? = some x → ∃ A n c, v = .slice A n c ∧ Row E (fun _ => True) w A n c x) :
    Row (Elem.slc E) (fun _ => True) (w.alloc (.cells vs.toArray t)) (some ⟨w.heap.size, 0, none⟩) xs.length xs.length xs := by
  refine ⟨rfl, Nat.le_refl _, hm, vs.map fun v => [v], by simpa using hl, .inr ⟨w.heap.size, 0, rfl, trivial, fun j u hj => ?_⟩, fun i v x hi hx => ?_⟩
  · rw [Nat.zero_add, box_a]
    have e : ∀ l : List Value, (l.map fun x => [x]).flatten = l := fun l => by
      induction l with
      | nil => rfl
      | cons x t ih => simp only [List.map_cons, List.flatten_cons, ih]; rfl
    rw [e] at hj
    simpa using hj
  · rw [List.getElem?_map] at hi
    obtain ⟨v', hv, rfl⟩ := Option.map_eq_some_iff.1 hi
    obtain ⟨A, n, c, rfl, hr⟩ := h i v' x hv hx
    exact ⟨A, n, c, rfl, hr.ext (Ext.alloc _ _)⟩
/-- The table, syntax by syntax. -/
def typRows : List (List (List UInt8)) :=
  [[], [[111, 98, 106, 101, 99, 116, 67, 108, 97, 115, 115], [99, 110], [111, 117], [111], [100, 99], [117, 105, 100], [100, 101, 115, 99, 114, 105, 112, 116, 105, 111, 110], [109, 97, 105, 108]],
   [[117, 115, 101, 114, 80, 97, 115, 115, 119, 111, 114, 100], [114, 101, 102]], [[115, 101, 114, 105, 97, 108, 78, 117, 109, 98, 101, 114]], [[112, 111, 115, 105, 116, 105, 111, 110]],
   [[97, 108, 105, 97, 115, 101, 100, 79, 98, 106, 101, 99, 116, 78, 97, 109, 101], [109, 101, 109, 98, 101, 114]]]
def rowAt (i : Nat) : List (List UInt8) := typRows[i]?.getD []
/-- What stands ahead of a place. -/
def preT (i j : Nat) : List (List UInt8 × Nat) := ((List.range i).flatMap fun k => (rowAt k).map (·, k)) ++ ((rowAt i).take j).map (·, i)
def noneT (n : List UInt8) (i j : Nat) : Prop := ∀ q ∈ preT i j, ¬ lowerB q.1 = lowerB n
theorem noneT_row {n : List UInt8} {i : Nat} (h : noneT n i (rowAt i).length) : noneT n (i + 1) 0 := by
  intro q hq
  refine h q ?_
  simp only [preT, List.take_length, List.range_succ, List.flatMap_append, List.flatMap_cons, List.flatMap_nil, List.append_nil, List.take_zero, List.map_nil] at hq ⊢
  exact hq
theorem noneT_next {n x : List UInt8} {i j : Nat} (h : noneT n i j) (hx : (rowAt i)[j]? = some x) (hn : ¬ lowerB x = lowerB n) : noneT n i (j + 1) := by
  intro q hq
  simp only [preT, List.take_add_one, hx, Option.toList_some, List.map_append, ← List.append_assoc] at hq
  rcases List.mem_append.1 hq with hq | hq
  · exact h q hq
  · simp at hq; subst hq; exact hn
theorem typ_none {n : List UInt8} (h : noneT n 6 0) : typeB n = ([], 0) := by
  have e : preT 6 0 = typTab := by decide
  unfold noneT at h
  rw [e] at h
  unfold typeB
  rw [List.find?_eq_none.2 (fun q hq => by simpa using h q hq)]
  rfl
theorem typ_hit {n x : List UInt8} {i j : Nat} (hi : i < 6) (h : noneT n i j) (hx : (rowAt i)[j]? = some x) (he : lowerB x = lowerB n) : typeB n = (x, i) := by
  have hj : j < 8 := by
    have h1 := (List.getElem?_eq_some_iff.1 hx).1
    have h2 : ∀ i < 6, (rowAt i).length ≤ 8 := by decide
    have := h2 i hi
    omega
  have hall : ∀ i < 6, ∀ j < 8, ∀ x ∈ (rowAt i)[j]?, typTab = preT i j ++ (x, i) :: typTab.drop ((preT i j).length + 1) := by decide
  unfold typeB
  rw [hall i hi j hj x (by rw [hx]; rfl), List.find?_append, List.find?_eq_none.2 (fun q hq => by simpa using h q hq)]
  simp [he]
abbrev strs (l : List (List UInt8)) : List ByteArray := l.map str
theorem strs_at {l : List (List UInt8)} {j : Nat} {x : ByteArray} (h : (strs l)[j]? = some x) : l[j]? = some (bys x) := by
  rw [List.getElem?_map] at h
  obtain ⟨y, hy, rfl⟩ := Option.map_eq_some_iff.1 h
  rw [hy, bys_str]
theorem row_small {i j : Nat} {x : List UInt8} (hi : i < 6) (hx : (rowAt i)[j]? = some x) : x.length ≤ 100 := by
  have hall : ∀ i < 6, ∀ x ∈ rowAt i, x.length ≤ 100 := by decide
  exact hall i hi x (List.mem_of_getElem? hx)
theorem typ_rows_at {i : Nat} {x : List ByteArray} (h : (typRows.map strs)[i]? = some x) : x = strs (rowAt i) := by
  rw [List.getElem?_map] at h
  obtain ⟨y, hy, rfl⟩ := Option.map_eq_some_iff.1 h
  unfold rowAt
  rw [hy]
  rfl
theorem typ_start (w : World) (t u : TypeId) : Row (Elem.slc Elem.str) (fun _ => True)
    ((((((w.alloc (.cells ((strs (rowAt 1)).map .string).toArray t)).alloc (.cells ((strs (rowAt 2)).map .string).toArray t)).alloc (.cells ((strs (rowAt 3)).map .string).toArray t)).alloc (.cells ((strs (rowAt 4)).map .string).toArray t)).alloc (.cells ((strs (rowAt 5)).map .string).toArray t)).alloc
      (.cells #[.slice none 0 0, .slice (some ⟨w.heap.size, 0, none⟩) 8 8, .slice (some ⟨w.heap.size + 1, 0, none⟩) 2 2, .slice (some ⟨w.heap.size + 2, 0, none⟩) 1 1, .slice (some ⟨w.heap.size + 3, 0, none⟩) 1 1, .slice (some ⟨w.heap.size + 4, 0, none⟩) 2 2] u))
    (some ⟨w.heap.size + 5, 0, none⟩) 6 6 (typRows.map strs) := by
  have h1 := lit_str w (strs (rowAt 1)) t (by decide)
  generalize hw1 : w.alloc (.cells ((strs (rowAt 1)).map .string).toArray t) = w1 at *
  have z1 : w1.heap.size = w.heap.size + 1 := by rw [← hw1]; simp
  have h2 := lit_str w1 (strs (rowAt 2)) t (by decide)
  have x1 := Ext.alloc w1 (.cells ((strs (rowAt 2)).map .string).toArray t)
  generalize hw2 : w1.alloc (.cells ((strs (rowAt 2)).map .string).toArray t) = w2 at *
  have z2 : w2.heap.size = w.heap.size + 2 := by rw [← hw2]; simp [z1]
  have h3 := lit_str w2 (strs (rowAt 3)) t (by decide)
  have x2 := Ext.alloc w2 (.cells ((strs (rowAt 3)).map .string).toArray t)
  generalize hw3 : w2.alloc (.cells ((strs (rowAt 3)).map .string).toArray t) = w3 at *
  have z3 : w3.heap.size = w.heap.size + 3 := by rw [← hw3]; simp [z2]
  have h4 := lit_str w3 (strs (rowAt 4)) t (by decide)
  have x3 := Ext.alloc w3 (.cells ((strs (rowAt 4)).map .string).toArray t)
  generalize hw4 : w3.alloc (.cells ((strs (rowAt 4)).map .string).toArray t) = w4 at *
  have z4 : w4.heap.size = w.heap.size + 4 := by rw [← hw4]; simp [z3]
  have h5 := lit_str w4 (strs (rowAt 5)) t (by decide)
  have x4 := Ext.alloc w4 (.cells ((strs (rowAt 5)).map .string).toArray t)
  generalize hw5 : w4.alloc (.cells ((strs (rowAt 5)).map .string).toArray t) = w5 at *
  have z5 : w5.heap.size = w.heap.size + 5 := by rw [← hw5]; simp [z4]
  have r1 := h1.ext (x1.trans (x2.trans (x3.trans x4)))
  have r2 := h2.ext (x2.trans (x3.trans x4))
  have r3 := h3.ext (x3.trans x4)
  have r4 := h4.ext x4
  rw [z1] at r2
  rw [z2] at r3
  rw [z3] at r4
  rw [z4] at h5
  have := lit_slc (E := Elem.str) w5 [.slice none 0 0, .slice (some ⟨w.heap.size, 0, none⟩) 8 8, .slice (some ⟨w.heap.size + 1, 0, none⟩) 2 2, .slice (some ⟨w.heap.size + 2, 0, none⟩) 1 1, .slice (some ⟨w.heap.size + 3, 0, none⟩) 1 1, .slice (some ⟨w.heap.size + 4, 0, none⟩) 2 2] (typRows.map strs) u (by decide) rfl ?_
  · rw [z5] at this
    exact this
  · intro i v x hi hx
    rw [typ_rows_at hx]
    have hl := (List.getElem?_eq_some_iff.1 hi).1
    simp only [List.length_cons, List.length_nil] at hl
    rcases i with _ | _ | _ | _ | _ | _ | i
    · simp at hi; subst hi; exact ⟨_, _, _, rfl, Row.nil _ _ _⟩
    · simp at hi; subst hi; exact ⟨_, _, _, rfl, r1⟩
    · simp at hi; subst hi; exact ⟨_, _, _, rfl, r2⟩
    · simp at hi; subst hi; exact ⟨_, _, _, rfl, r3⟩
    · simp at hi; subst hi; exact ⟨_, _, _, rfl, r4⟩
    · simp at hi; subst hi; exact ⟨_, _, _, rfl, h5⟩
    · omega
def TypeSays (w : World) (n : List UInt8) (e : Ending) (w' : World) : Prop := e = .returned (.tuple #[.string (str (typeB n).1), .int .i64 ((typeB n).2 : Int)]) ∧ Ext w w'
set_option maxHeartbeats 2000000 in
theorem type_any (s : ByteArray) (w : World) (hs : s.size ≤ maxLen) : Calls Tryz.prog 53 #[.string s] w (TypeSays w (bys s)) := by
  have Hs := hid hs
  clear hs
  go_enter Tryz.func53, Tryz.ntmps53
  go_wp2
  go_loopw [15] (fun i wr => ∃ k : Nat, k ≤ 6 ∧ i = .int .i64 k ∧ Hid (noneT (bys s) k 0) ∧ Hid (Row (Elem.slc Elem.str) (fun _ => True) wr (some ⟨w.heap.size + 5, 0, none⟩) 6 6 (typRows.map strs)) ∧ Hid (Ext w wr)) (fun i _ => 6 - (intOf i).toNat)
  case atStart =>
    refine ⟨0, by omega, rfl, fun q hq => by simp [preT] at hq, typ_start w 9 43, ?_⟩
    exact (Ext.alloc _ _).trans ((Ext.alloc _ _).trans ((Ext.alloc _ _).trans ((Ext.alloc _ _).trans ((Ext.alloc _ _).trans (Ext.alloc _ _)))))
  case round =>
    obtain ⟨k, hk, rfl, HN, HR, HX⟩ := hrel
    by_cases hlt : k < 6
    · obtain ⟨b1, o1, v1, x1, hA, g1, -, ⟨A1, n1, c1, rfl, r1⟩, q1⟩ := HR.out.at_ hlt
      injection hA with hA
      injection hA with hA1 hA2
      subst hA1 hA2
      have e10 := q1 0 _ rfl
      simp only [Elem.slc, Nat.add_zero, Nat.zero_add, Nat.mul_one] at e10
      obtain rfl := typ_rows_at g1
      have R1 := hid r1
      have hn1 : n1 ≤ 9223372036854775807 := by have := r1.cap; have := r1.most; simp only [maxLen] at this; omega
      clear q1 g1 r1
      go_wp2
      go_loopw [22] (fun j wr' => ∃ m : Nat, m ≤ n1 ∧ j = .int .i64 m ∧ Hid (noneT (bys s) k m) ∧ Hid (Ext wr wr')) (fun j _ => n1 - (intOf j).toNat)
      case atStart => exact ⟨0, by omega, rfl, HN, Ext.refl _⟩
      case round =>
        obtain ⟨m, hm, rfl, HM, HY⟩ := hrel
        by_cases hlt2 : m < n1
        · obtain ⟨b2, o2, v2, x2, rfl, g2, -, hv2, q2⟩ := (R1.out.ext HY.out).at_ hlt2
          subst hv2
          have e20 := q2 0 _ rfl
          simp only [Elem.str, Nat.add_zero, Nat.mul_one] at e20
          have G2 := hid (strs_at g2)
          have hz2 := hid (show x2.size ≤ maxLen by have := row_small hlt (strs_at g2); rw [bys_len] at this; simp only [maxLen]; omega)
          clear q2 g2
          by_cases he : lowerB (bys x2) = lowerB (bys s)
          · have ht : (lowerB (bys x2) == lowerB (bys s)) = true := beq_iff_eq.2 he
            have HH := hid (typ_hit hlt HM.out G2.out he)
            clear he
            go_wp2_with (first
              | (go_at_call 97; (with_reducible refine (lower_any x2 _ hz2.out).mono ?_); rintro e w3 ⟨rfl, hx3⟩)
              | (go_at_call 97; (with_reducible refine (lower_any s _ Hs.out).mono ?_); rintro e w4 ⟨rfl, hx4⟩))
            go_ret2
            refine ⟨?_, HX.out.trans (HY.out.trans (hx3.trans hx4))⟩
            rw [HH.out, str_bys]; rfl
          · have ht : (lowerB (bys x2) == lowerB (bys s)) = false := beq_eq_false_iff_ne.2 he
            have HH := hid (noneT_next HM.out G2.out he)
            clear he
            go_wp2_with (first
              | (go_at_call 97; (with_reducible refine (lower_any x2 _ hz2.out).mono ?_); rintro e w3 ⟨rfl, hx3⟩)
              | (go_at_call 97; (with_reducible refine (lower_any s _ Hs.out).mono ?_); rintro e w4 ⟨rfl, hx4⟩))
            exact ⟨⟨m + 1, by omega, by go_num, HH, HY.out.trans (hx3.trans hx4)⟩, by simp [intOf]; omega⟩
        · obtain rfl : m = n1 := by omega
          have HH := hid (noneT_row (n := bys s) (i := k) (by have := R1.out.len; simp at this; rw [← this]; exact HM.out))
          go_wp2
          exact ⟨⟨k + 1, by omega, by go_num, HH, HR.out.ext HY.out, HX.out.trans HY.out⟩, by simp [intOf]; omega⟩
    · obtain rfl : k = 6 := by omega
      have HH := hid (typ_none HN.out)
      go_wp2
      go_ret2
      exact ⟨by rw [HH.out]; rfl, HX.out⟩
def typeL (m : List UInt8) : List UInt8 × Nat := (typTab.find? fun p => lowerB p.1 == m).getD ([], 0)
theorem typeL_none {m : List UInt8} (h : ∀ c ∈ ([[111, 98, 106, 101, 99, 116, 99, 108, 97, 115, 115], [99, 110], [111, 117], [111], [100, 99], [117, 105, 100], [100, 101, 115, 99, 114, 105, 112, 116, 105, 111, 110], [109, 97, 105, 108], [117, 115, 101, 114, 112, 97, 115, 115, 119, 111, 114, 100], [114, 101, 102], [115, 101, 114, 105, 97, 108, 110, 117, 109, 98, 101, 114], [112, 111, 115, 105, 116, 105, 111, 110], [97, 108, 105, 97, 115, 101, 100, 111, 98, 106, 101, 99, 116, 110, 97, 109, 101], [109, 101, 109, 98, 101, 114]] : List (List UInt8)), (m == c) = false) : typeL m = ([], 0) := by
  unfold typeL
  rw [List.find?_eq_none.2]
  · rfl
  · intro q hq e
    have hall : ∀ q ∈ typTab, lowerB q.1 ∈ ([[111, 98, 106, 101, 99, 116, 99, 108, 97, 115, 115], [99, 110], [111, 117], [111], [100, 99], [117, 105, 100], [100, 101, 115, 99, 114, 105, 112, 116, 105, 111, 110], [109, 97, 105, 108], [117, 115, 101, 114, 112, 97, 115, 115, 119, 111, 114, 100], [114, 101, 102], [115, 101, 114, 105, 97, 108, 110, 117, 109, 98, 101, 114], [112, 111, 115, 105, 116, 105, 111, 110], [97, 108, 105, 97, 115, 101, 100, 111, 98, 106, 101, 99, 116, 110, 97, 109, 101], [109, 101, 109, 98, 101, 114]] : List (List UInt8)) := by decide
    have h1 := h _ (hall q hq)
    rw [beq_iff_eq.1 e] at h1
    simp at h1
set_option maxHeartbeats 2000000 in
theorem rtype_any (s : ByteArray) (w : World) (hs : s.size ≤ maxLen) : Calls Tryz.prog 111 #[.string s] w (TypeSays w (bys s)) := by
  have Hs := hid hs
  have HT : Hid (∀ x, typeL (lowerB (bys s)) = x → typeB (bys s) = x) := fun x h => h
  clear hs
  obtain ⟨m, hm⟩ : ∃ m, m = lowerB (bys s) := ⟨_, rfl⟩
  rw [← hm] at HT
  have HL : ∀ w : World, Calls Tryz.prog 165 #[.string s] w fun e w' => e = .returned (.string (str m)) ∧ Ext w w' := fun w => by
    rw [hm]; exact rlower_any s w Hs.out
  clear hm
  go_enter Tryz.func111, Tryz.ntmps111
  go_wp2_with (go_at_call 165; (with_reducible refine (HL _).mono ?_); rintro e w3 ⟨rfl, hx3⟩)
  all_goals go_ret2
  all_goals (refine ⟨?_, by first | assumption | exact Ext.trans (by assumption) (by assumption)⟩)
  all_goals first
    | (have e := beq_iff_eq.1 (by assumption : (m == _) = true); subst e; rw [HT.out _ rfl]; rfl)
    | (exfalso; have e := beq_iff_eq.1 (by assumption : (m == _) = true); clear HL HT; subst e; simp at *; done)
    | (rw [HT.out _ (typeL_none (by intro c hc; simp only [List.mem_cons, List.not_mem_nil, or_false] at hc; (repeat (rcases hc with rfl | hc; · assumption))))]; rfl)
end Go.Proofs.YtencmdpjiafnaaaGreatDoor
