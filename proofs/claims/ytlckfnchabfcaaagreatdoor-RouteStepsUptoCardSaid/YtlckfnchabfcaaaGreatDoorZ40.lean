import Derived.Test.YtlckfnchabfcaaaGreatDoorZ39
import Derived.Test.YtlckfnchabfcaaaGreatDoorZ06
import Derived.Test.YtlckfnchabfcaaaGreatDoorZ08
import Derived.Deep.Slices
import Derived.ChangeSlices
/- The reading of an argument under the bound of an '..UptoSaid'. (The laws on readings are XMo's, of the seat 'msg'.) -/
namespace Go.Proofs.YtlckfnchabfcaaaGreatDoor
open Go.RowKit Go.ChangeShapes Go.WideShapes Go.Deep
set_option maxRecDepth 10000

theorem flat_split {k : Nat} : ∀ {vss : List (List Value)}, (∀ v ∈ vss, v.length = k) → ∀ {j : Nat} {u : Value}, vss.flatten[j]? = some u → ∃ i r v, vss[i]? = some v ∧ v[r]? = some u ∧ j = i * k + r ∧ r < k
  | [], _, j, u, h => by simp at h
  | v0 :: vss, hl, j, u, h => by
    have h0 := hl v0 (by simp)
    rw [List.flatten_cons] at h
    rcases Nat.lt_or_ge j v0.length with hj | hj
    · rw [List.getElem?_append_left hj] at h
      exact ⟨0, j, v0, rfl, h, by omega, by omega⟩
    · rw [List.getElem?_append_right hj] at h
      obtain ⟨i, r, v, h1, h2, h3, h4⟩ := flat_split (fun v hv => hl v (by simp [hv])) h
      exact ⟨i + 1, r, v, by simpa using h1, h2, by rw [Nat.succ_mul]; omega, h4⟩

section
variable {H : Type} {enc : TypeId × Value → H} {W : World}
/-- A slice, opened at elements that are read by E. -/
theorem row_open {α : Type} (E : Elem α) (Q : α → Prop) {t e : TypeId} (ht : Tryz.prog.underlying t = some (.slice e)) (hk : Tryz.prog.cellsOf e = E.k) {M : Nat}
    (hE : ∀ (n : Nat) cs (x : DataW H × List MemPlace), DataW.trod enc Tryz.prog W 0 (fun _ => true) true n e cs = some x → Rows.uptoBulk x.1 < M → ∃ a, E.R (fun _ => True) W cs a ∧ Q a)
    {fuel : Nat} {cs : List Value} {x : DataW H × List MemPlace} (h : DataW.trod enc Tryz.prog W 0 (fun _ => true) true fuel t cs = some x) (hM : Rows.uptoBulk x.1 ≤ M) :
    ∃ A n c l, cs = [.slice A n c] ∧ Row E (fun _ => True) W A n c l ∧ l.length ≤ M ∧ ∀ a ∈ l, Q a := by
  rcases open_slice ht h with ⟨rfl, rfl⟩ | ⟨a, len, cap, m, n, D, Pl, rfl, -, hl, hm, hmm, rfl, hx⟩
  · exact ⟨none, 0, 0, [], rfl, Row.nil E _ W, by simp, by simp⟩
  · simp only [if_true] at hmm
    subst hmm
    have hb := bulks.slice_le (H := H) ((List.range len).map D) ((List.range (m - len)).map fun j => D (len + j))
    have hb2 := bulks.slice_elems (H := H) ((List.range len).map D) ((List.range (m - len)).map fun j => D (len + j))
    simp only [List.length_map, List.length_range] at hb
    simp only [] at hM
    have hD : ∀ i, i < len → Rows.uptoBulk (D i) < M := fun i hi => by
      have := bulks.part_le (d := D i) (l := (List.range len).map D) (List.mem_map.2 ⟨i, List.mem_range.2 hi, rfl⟩)
      omega
    rcases Nat.eq_zero_or_pos len with h0 | h0
    · subst h0
      exact ⟨some a, 0, m, [], rfl, ⟨rfl, Nat.zero_le _, hm, [], rfl, .inl rfl, fun i v x hi => by simp at hi⟩, by simp, by simp⟩
    · have hone : ∀ i, i < len → ∃ y : List Value × α, W.cells? 0 (a.add (i * E.k)) E.k = some y.1 ∧ E.R (fun _ => True) W y.1 y.2 ∧ Q y.2 := fun i hi => by
        obtain ⟨cs', h1, h2⟩ := hx i (by omega)
        rw [hk] at h1
        obtain ⟨o, hR, hQ⟩ := hE n cs' _ h2 (hD i hi)
        exact ⟨(cs', o), h1, hR, hQ⟩
      haveI : Inhabited α := ⟨(hone 0 h0).choose.2⟩
      obtain ⟨f, hf⟩ := choose_lt hone
      have hspot : ∃ b off, a = ⟨b, off, none⟩ := by
        obtain ⟨h1, -, -⟩ := hf 0 h0
        obtain ⟨-, hlen, hc⟩ := World.cells?_some h1
        have h2 := hc 0 E.pos
        rw [List.getElem?_eq_getElem (by rw [hlen]; exact E.pos)] at h2
        obtain ⟨b, off, spot⟩ := a
        have hs : spot = none := by simpa [Addr.add] using World.cell?_spot h2
        exact ⟨b, off, by rw [hs]⟩
      obtain ⟨b, off, rfl⟩ := hspot
      have hall : ∀ v ∈ (List.range len).map fun i => (f i).1, v.length = E.k := fun v hv => by
        obtain ⟨i, hi, rfl⟩ := List.mem_map.1 hv
        exact E.len (hf i (List.mem_range.1 hi)).2.1
      refine ⟨_, _, _, (List.range len).map fun i => (f i).2, rfl, ⟨by simp, hl, hm, (List.range len).map fun i => (f i).1, by simp, .inr ⟨b, off, rfl, trivial, fun j u hj => ?_⟩, fun i v x hi hx => ?_⟩, by simp; omega, fun o ho => ?_⟩
      · obtain ⟨i, r, v, h1, h2, rfl, hr⟩ := flat_split hall hj
        have hi : i < len := by have := (List.getElem?_eq_some_iff.1 h1).1; simpa using this
        have hv : v = (f i).1 := by simpa [hi] using h1.symm
        obtain ⟨-, -, hc⟩ := World.cells?_some (hf i hi).1
        have := hc r hr
        rw [add_add, addr_add] at this
        rw [this, ← hv, h2]
      · have hi' : i < len := by have := (List.getElem?_eq_some_iff.1 hi).1; simpa using this
        have h1 : v = (f i).1 := by simpa [hi'] using hi.symm
        have h2 : x = (f i).2 := by simpa [hi'] using hx.symm
        subst h1 h2
        exact (hf i hi').2.1
      · obtain ⟨i, hi, rfl⟩ := List.mem_map.1 ho
        exact (hf i (List.mem_range.1 hi)).2.2

/-- A struct, field by field. -/
theorem agg_open {t : TypeId} {fs : Array Field} (ht : Tryz.prog.underlying t = some (.struct fs)) {M : Nat} {fuel : Nat} {cs : List Value} {x : DataW H × List MemPlace}
    (h : DataW.trod enc Tryz.prog W 0 (fun _ => true) true fuel t cs = some x) (hM : Rows.uptoBulk x.1 ≤ M) :
    cs.length = Tryz.prog.cellsOf t ∧ ∀ (i : Nat) (f : Field), fs[i]? = some f → ∃ m y, DataW.trod enc Tryz.prog W 0 (fun _ => true) true m f.type ((cs.drop f.offset).take (Tryz.prog.cellsOf f.type)) = some y ∧ Rows.uptoBulk y.1 < M := by
  obtain ⟨xs, n, -, rfl, hl, hlen, hf⟩ := DataW.trod_struct ht h
  refine ⟨hl, fun i f hi => ?_⟩
  have hi' : i < xs.length := by rw [hlen]; exact (Array.getElem?_eq_some_iff.1 hi).1
  have h1 := hf i f hi
  rw [List.getElem?_eq_getElem hi'] at h1
  refine ⟨n, xs[i], h1, ?_⟩
  have h2 := bulks.part_le (d := xs[i].1) (l := xs.map (·.1)) (List.mem_map.2 ⟨_, List.getElem_mem hi', rfl⟩)
  simp only [Rows.uptoBulk] at hM
  omega
theorem str_open {t : TypeId} (ht : Tryz.prog.underlying t = some .string) {M : Nat} {fuel : Nat} {cs : List Value} {x : DataW H × List MemPlace}
    (h : DataW.trod enc Tryz.prog W 0 (fun _ => true) true fuel t cs = some x) (hM : Rows.uptoBulk x.1 ≤ M) : ∃ s : ByteArray, cs = [.string s] ∧ s.size < M := by
  obtain ⟨s, rfl, rfl, -⟩ := DataW.trod_string ht h
  exact ⟨s, rfl, by simp only [Rows.uptoBulk, Array.length_toList] at hM; exact hM⟩
theorem int_open {t : TypeId} (ht : Tryz.prog.underlying t = some (.int .i64)) {fuel : Nat} {cs : List Value} {x : DataW H × List MemPlace}
    (h : DataW.trod enc Tryz.prog W 0 (fun _ => true) true fuel t cs = some x) : ∃ k : Int, cs = [.int .i64 k] ∧ -9223372036854775808 ≤ k ∧ k ≤ 9223372036854775807 := by
  obtain ⟨s, rfl, rfl, hw⟩ := DataW.trod_int ht h
  refine ⟨s, rfl, ?_⟩
  simp only [Lit.wf, Bool.and_eq_true] at hw
  exact ⟨of_decide_eq_true hw.1, of_decide_eq_true hw.2⟩
theorem bool_open {t : TypeId} (ht : Tryz.prog.underlying t = some .bool) {fuel : Nat} {cs : List Value} {x : DataW H × List MemPlace}
    (h : DataW.trod enc Tryz.prog W 0 (fun _ => true) true fuel t cs = some x) : ∃ k : Bool, cs = [.bool k] := by
  obtain ⟨s, rfl, rfl⟩ := DataW.trod_bool ht h
  exact ⟨s, rfl⟩
theorem drop_one {cs : List Value} {i k j : Nat} {v : Value} (h : (cs.drop i).take k = [v]) (hk : k = 1) (hj : i + 1 = j) : cs.drop i = v :: cs.drop j := by
  subst hk hj
  have h1 := List.take_append_drop 1 (cs.drop i)
  rw [h, List.drop_drop] at h1
  exact h1.symm
theorem drop_more {cs us : List Value} {i k n j : Nat} (h : (cs.drop i).take k = us) (hk : k = n) (hj : i + n = j) : cs.drop i = us ++ cs.drop j := by
  subst hk hj
  have h1 := List.take_append_drop k (cs.drop i)
  rw [h, List.drop_drop] at h1
  exact h1.symm
theorem drop_all {cs : List Value} {n k : Nat} (h : cs.length = k) (hk : k = n) : cs.drop n = [] := List.drop_eq_nil_of_le (by omega)
end
end Go.Proofs.YtlckfnchabfcaaaGreatDoor
/- Words for a config: its cuts, contexts, servers; and what its reading among the arguments gives. -/
namespace Go.Proofs.YtlckfnchabfcaaaGreatDoor
open Go.RowKit Go.ChangeShapes Go.WideShapes Go.Deep
set_option maxRecDepth 100000
set_option linter.unusedSimpArgs false
set_option linter.unusedVariables false

def CutR.cells (c : CutR) : List Value := [.string c.name, .int .i64 c.server]
def Elem.cut : Elem CutR := ⟨2, by decide, fun _ _ v x => v = x.cells, fun h => by rw [h]; rfl, fun h _ => h, fun h _ => h⟩
/-- A context, whole. -/
structure Cxt where
  name : ByteArray
  ents : List Ent
  subs : List CutR
def Elem.cxt : Elem Cxt :=
  ⟨3, by decide, fun S w v a => ∃ A n c B m d, v = [.string a.name, .slice A n c, .slice B m d] ∧ Row Elem.ent S w A n c a.ents ∧ Row Elem.cut S w B m d a.subs, fun ⟨_, _, _, _, _, _, h, _⟩ => by rw [h]; rfl,
    fun ⟨A, n, c, B, m, d, h, hr, hs⟩ hk => ⟨A, n, c, B, m, d, h, hr.same hk, hs.same hk⟩, fun ⟨A, n, c, B, m, d, h, hr, hs⟩ k => ⟨A, n, c, B, m, d, h, hr.mono k, hs.mono k⟩⟩
abbrev Elem.srw : Elem (List Cxt) := Elem.slc Elem.cxt
/-- A config, as far as ways go. -/
def rtOf (s : List (List Cxt)) (t : List CutR) : RtC := ⟨s.map fun l => l.map fun x => (x.name, x.subs), t⟩
/-! ## What the bound of an argument gives -/
def StrOk (s : ByteArray) : Prop := s.size ≤ 1048576
def AttOk (a : Att) : Prop := a.type.size ≤ 1048576 ∧ a.vals.length ≤ 1048576 ∧ ∀ v ∈ a.vals, v.size ≤ 1048576
def EntOk (e : Ent) : Prop := e.name.size ≤ 1048576 ∧ e.atts.length ≤ 1048576 ∧ ∀ a ∈ e.atts, AttOk a
def CutOk (c : CutR) : Prop := c.name.size ≤ 1048576 ∧ -9223372036854775808 ≤ c.server ∧ c.server ≤ 9223372036854775807
def CxtOk (x : Cxt) : Prop := x.name.size ≤ 1048576 ∧ (x.ents.length ≤ 1048576 ∧ ∀ e ∈ x.ents, EntOk e) ∧ (x.subs.length ≤ 1048576 ∧ ∀ c ∈ x.subs, CutOk c)
def SrvOk (s : List Cxt) : Prop := s.length ≤ 1048576 ∧ ∀ x ∈ s, CxtOk x
section
variable {H : Type} {enc : TypeId × Value → H} {W : World}
theorem cstr_open {M : Nat} (hM0 : M ≤ 1048576) {fuel : Nat} {cs : List Value} {x : DataW H × List MemPlace} (h : DataW.trod enc Tryz.prog W 0 (fun _ => true) true fuel 9 cs = some x) (hM : Rows.uptoBulk x.1 ≤ M) : ∃ s : ByteArray, Elem.str.R (fun _ => True) W cs s ∧ StrOk s := by
  obtain ⟨s, e0, q0⟩ := str_open Tryz.underlying9 h hM
  exact ⟨s, e0, Nat.le_trans (Nat.le_of_lt q0) hM0⟩
theorem att_open {M : Nat} (hM0 : M ≤ 1048576) {fuel : Nat} {cs : List Value} {x : DataW H × List MemPlace} (h : DataW.trod enc Tryz.prog W 0 (fun _ => true) true fuel 86 cs = some x) (hM : Rows.uptoBulk x.1 ≤ M) : ∃ a : Att, Elem.att.R (fun _ => True) W cs a ∧ AttOk a := by
  obtain ⟨hl, hf⟩ := agg_open Tryz.underlying86 h hM
  obtain ⟨m0, y0, h0, b0⟩ := hf 0 _ rfl
  obtain ⟨s, e0, q0⟩ := str_open Tryz.underlying9 h0 (Nat.le_of_lt b0)
  obtain ⟨m1, y1, h1, b1⟩ := hf 1 _ rfl
  obtain ⟨A, n, c, l, e1, r1, l1, q1⟩ := row_open Elem.str StrOk Tryz.underlying59 (by kernel_rfl) (fun n cs x hx hb => cstr_open (M := 1048576) (Nat.le_refl _) hx (by omega)) h1 (Nat.le_of_lt b1)
  have hcs : cs.drop 0 = [.string s, .slice A n c] := by rw [drop_one (i := 0) (j := 1) e0 (by kernel_rfl) rfl, drop_one (i := 1) (j := 2) e1 (by kernel_rfl) rfl, drop_all (n := 2) hl (by kernel_rfl)]
  rw [List.drop_zero] at hcs
  exact ⟨⟨s, l⟩, ⟨A, n, c, hcs, r1⟩, Nat.le_trans (Nat.le_of_lt q0) hM0, Nat.le_trans l1 hM0, q1⟩
theorem ent_open {M : Nat} (hM0 : M ≤ 1048576) {fuel : Nat} {cs : List Value} {x : DataW H × List MemPlace} (h : DataW.trod enc Tryz.prog W 0 (fun _ => true) true fuel 54 cs = some x) (hM : Rows.uptoBulk x.1 ≤ M) : ∃ a : Ent, Elem.ent.R (fun _ => True) W cs a ∧ EntOk a := by
  obtain ⟨hl, hf⟩ := agg_open Tryz.underlying54 h hM
  obtain ⟨m0, y0, h0, b0⟩ := hf 0 _ rfl
  obtain ⟨s, e0, q0⟩ := str_open Tryz.underlying9 h0 (Nat.le_of_lt b0)
  obtain ⟨m1, y1, h1, b1⟩ := hf 1 _ rfl
  obtain ⟨A, n, c, l, e1, r1, l1, q1⟩ := row_open Elem.att AttOk Tryz.underlying40 (by kernel_rfl) (fun n cs x hx hb => att_open (M := 1048576) (Nat.le_refl _) hx (by omega)) h1 (Nat.le_of_lt b1)
  have hcs : cs.drop 0 = [.string s, .slice A n c] := by rw [drop_one (i := 0) (j := 1) e0 (by kernel_rfl) rfl, drop_one (i := 1) (j := 2) e1 (by kernel_rfl) rfl, drop_all (n := 2) hl (by kernel_rfl)]
  rw [List.drop_zero] at hcs
  exact ⟨⟨s, l⟩, ⟨A, n, c, hcs, r1⟩, Nat.le_trans (Nat.le_of_lt q0) hM0, Nat.le_trans l1 hM0, q1⟩
theorem cut_open {M : Nat} (hM0 : M ≤ 1048576) {fuel : Nat} {cs : List Value} {x : DataW H × List MemPlace} (h : DataW.trod enc Tryz.prog W 0 (fun _ => true) true fuel 107 cs = some x) (hM : Rows.uptoBulk x.1 ≤ M) : ∃ a : CutR, Elem.cut.R (fun _ => True) W cs a ∧ CutOk a := by
  obtain ⟨hl, hf⟩ := agg_open Tryz.underlying107 h hM
  obtain ⟨m0, y0, h0, b0⟩ := hf 0 _ rfl
  obtain ⟨s, e0, q0⟩ := str_open Tryz.underlying9 h0 (Nat.le_of_lt b0)
  obtain ⟨m1, y1, h1, b1⟩ := hf 1 _ rfl
  obtain ⟨k, e1, k1, k2⟩ := int_open Tryz.underlying3 h1
  have hcs : cs.drop 0 = [.string s, .int .i64 k] := by rw [drop_one (i := 0) (j := 1) e0 (by kernel_rfl) rfl, drop_one (i := 1) (j := 2) e1 (by kernel_rfl) rfl, drop_all (n := 2) hl (by kernel_rfl)]
  rw [List.drop_zero] at hcs
  exact ⟨⟨s, k⟩, hcs, Nat.le_trans (Nat.le_of_lt q0) hM0, k1, k2⟩
theorem cxt_open {M : Nat} (hM0 : M ≤ 1048576) {fuel : Nat} {cs : List Value} {x : DataW H × List MemPlace} (h : DataW.trod enc Tryz.prog W 0 (fun _ => true) true fuel 80 cs = some x) (hM : Rows.uptoBulk x.1 ≤ M) : ∃ a : Cxt, Elem.cxt.R (fun _ => True) W cs a ∧ CxtOk a := by
  obtain ⟨hl, hf⟩ := agg_open Tryz.underlying80 h hM
  obtain ⟨m0, y0, h0, b0⟩ := hf 0 _ rfl
  obtain ⟨s, e0, q0⟩ := str_open Tryz.underlying9 h0 (Nat.le_of_lt b0)
  obtain ⟨m1, y1, h1, b1⟩ := hf 1 _ rfl
  obtain ⟨A, n, c, l, e1, r1, l1, q1⟩ := row_open Elem.ent EntOk Tryz.underlying50 (by kernel_rfl) (fun n cs x hx hb => ent_open (M := 1048576) (Nat.le_refl _) hx (by omega)) h1 (Nat.le_of_lt b1)
  obtain ⟨m2, y2, h2, b2⟩ := hf 2 _ rfl
  obtain ⟨B, m, d, k, e2, r2, l2, q2⟩ := row_open Elem.cut CutOk Tryz.underlying23 (by kernel_rfl) (fun n cs x hx hb => cut_open (M := 1048576) (Nat.le_refl _) hx (by omega)) h2 (Nat.le_of_lt b2)
  have hcs : cs.drop 0 = [.string s, .slice A n c, .slice B m d] := by rw [drop_one (i := 0) (j := 1) e0 (by kernel_rfl) rfl, drop_one (i := 1) (j := 2) e1 (by kernel_rfl) rfl, drop_one (i := 2) (j := 3) e2 (by kernel_rfl) rfl, drop_all (n := 3) hl (by kernel_rfl)]
  rw [List.drop_zero] at hcs
  exact ⟨⟨s, l, k⟩, ⟨A, n, c, B, m, d, hcs, r1, r2⟩, Nat.le_trans (Nat.le_of_lt q0) hM0, ⟨Nat.le_trans l1 hM0, q1⟩, ⟨Nat.le_trans l2 hM0, q2⟩⟩
theorem srv_open {M : Nat} (hM0 : M ≤ 1048576) {fuel : Nat} {cs : List Value} {x : DataW H × List MemPlace} (h : DataW.trod enc Tryz.prog W 0 (fun _ => true) true fuel 78 cs = some x) (hM : Rows.uptoBulk x.1 ≤ M) : ∃ a : List Cxt, Elem.srw.R (fun _ => True) W cs a ∧ SrvOk a := by
  obtain ⟨hl, hf⟩ := agg_open Tryz.underlying78 h hM
  obtain ⟨m0, y0, h0, b0⟩ := hf 0 _ rfl
  obtain ⟨A, n, c, l, e0, r0, l0, q0⟩ := row_open Elem.cxt CxtOk Tryz.underlying76 (by kernel_rfl) (fun n cs x hx hb => cxt_open (M := 1048576) (Nat.le_refl _) hx (by omega)) h0 (Nat.le_of_lt b0)
  have hcs : cs.drop 0 = [.slice A n c] := by rw [drop_one (i := 0) (j := 1) e0 (by kernel_rfl) rfl, drop_all (n := 1) hl (by kernel_rfl)]
  rw [List.drop_zero] at hcs
  exact ⟨l, ⟨A, n, c, hcs, r0⟩, Nat.le_trans l0 hM0, q0⟩
/-- A config among the arguments. -/
theorem cfg_open {M : Nat} (hM0 : M ≤ 1048576) {fuel : Nat} {cs : List Value} {x : DataW H × List MemPlace} (h : DataW.trod enc Tryz.prog W 0 (fun _ => true) true fuel 25 cs = some x) (hM : Rows.uptoBulk x.1 ≤ M) :
    ∃ A n c B m d s t, cs = [.slice A n c, .slice B m d] ∧ Row Elem.srw (fun _ => True) W A n c s ∧ Row Elem.cut (fun _ => True) W B m d t ∧ (s.length ≤ 1048576 ∧ ∀ x ∈ s, SrvOk x) ∧ (t.length ≤ 1048576 ∧ ∀ x ∈ t, CutOk x) := by
  obtain ⟨hl, hf⟩ := agg_open Tryz.underlying25 h hM
  obtain ⟨m0, y0, h0, b0⟩ := hf 0 _ rfl
  obtain ⟨A, n, c, l, e0, r0, l0, q0⟩ := row_open Elem.srw SrvOk Tryz.underlying22 (by kernel_rfl) (fun n cs x hx hb => srv_open (M := 1048576) (Nat.le_refl _) hx (by omega)) h0 (Nat.le_of_lt b0)
  obtain ⟨m1, y1, h1, b1⟩ := hf 1 _ rfl
  obtain ⟨B, m, d, k, e1, r1, l1, q1⟩ := row_open Elem.cut CutOk Tryz.underlying23 (by kernel_rfl) (fun n cs x hx hb => cut_open (M := 1048576) (Nat.le_refl _) hx (by omega)) h1 (Nat.le_of_lt b1)
  have hcs : cs.drop 0 = [.slice A n c, .slice B m d] := by rw [drop_one (i := 0) (j := 1) e0 (by kernel_rfl) rfl, drop_one (i := 1) (j := 2) e1 (by kernel_rfl) rfl, drop_all (n := 2) hl (by kernel_rfl)]
  rw [List.drop_zero] at hcs
  exact ⟨A, n, c, B, m, d, l, k, hcs, r0, r1, ⟨Nat.le_trans l0 hM0, q0⟩, ⟨Nat.le_trans l1 hM0, q1⟩⟩
end
end Go.Proofs.YtlckfnchabfcaaaGreatDoor
