/- A message among the arguments, read; what the bound of an '..UptoSaid' gives of its parts. -/
import Derived.Test.YtabaeiolpbdjnaaBulk
import Derived.Test.YtabaeiolpbdjnaaTh
import Derived.Deep.Slices
import Derived.ChangeSlices
namespace Go.Proofs.Ytabaeiolpbdjnaa
open Go.RowKit Go.ChangeShapes Go.WideShapes Go.Deep
set_option maxRecDepth 10000

theorem flat_split {k : Nat} : ∀ {vss : List (List Value)}, (∀ v ∈ vss, v.length = k) → ∀ {j : Nat} {u : Value}, vss.flatten[j]? = some u → ∃ i r v, vss[i]? = some v ∧ v[r]? = some u ∧ j = i * k + r ∧ r < k
  | [], _, j, u, h => by simp at h
  | v0 :: vss, hl, j, u, h => by
    have h0 := hl v0 (by simp)
    rw [List.flatten_cons] at h
    rcases Nat.lt_or_ge j v0.length with hj | hj
    · rw [List.getElem?_append_left hj] at h
      exact ⟨0, j, v0, rfl, h, by omega, by omega⟩
    · rw [List.getElem?_append_right hj] at h
      obtain ⟨i, r, v, h1, h2, h3, h4⟩ := flat_split (fun v hv => hl v (by simp [hv])) h
      exact ⟨i + 1, r, v, by simpa using h1, h2, by rw [Nat.succ_mul]; omega, h4⟩

theorem agg_of_cells {v : Value} {m : Msg} {d : MsgD} (h : v.cells.toList = msgCells m d) : v = .agg (msgCells m d).toArray := by
  cases v with
  | agg cs =>
    have : cs = (msgCells m d).toArray := by rw [← h]; rfl
    rw [this]
  | _ => exact absurd (congrArg List.length h) (by simp [Value.cells])
section
variable {H : Type} {enc : TypeId × Value → H} {W : World}
/-- A slice, opened at elements that are read by E. -/
theorem row_open {α : Type} (E : Elem α) (Q : α → Prop) {t e : TypeId} (ht : Try.prog.underlying t = some (.slice e)) (hk : Try.prog.cellsOf e = E.k) {M : Nat}
    (hE : ∀ (n : Nat) cs (x : DataW H × List MemPlace), DataW.trod enc Try.prog W 0 (fun _ => true) true n e cs = some x → Rows.uptoBulk x.1 < M → ∃ a, E.R (fun _ => True) W cs a ∧ Q a)
    {fuel : Nat} {cs : List Value} {x : DataW H × List MemPlace} (h : DataW.trod enc Try.prog W 0 (fun _ => true) true fuel t cs = some x) (hM : Rows.uptoBulk x.1 ≤ M) :
    ∃ A n c l, cs = [.slice A n c] ∧ Row E (fun _ => True) W A n c l ∧ l.length ≤ M ∧ ∀ a ∈ l, Q a := by
  rcases open_slice ht h with ⟨rfl, rfl⟩ | ⟨a, len, cap, m, n, D, Pl, rfl, -, hl, hm, hmm, rfl, hx⟩
  · exact ⟨none, 0, 0, [], rfl, Row.nil E _ W, by simp, by simp⟩
  · simp only [if_true] at hmm
    subst hmm
    have hb := bulks.slice_le (H := H) ((List.range len).map D) ((List.range (m - len)).map fun j => D (len + j))
    have hb2 := bulks.slice_elems (H := H) ((List.range len).map D) ((List.range (m - len)).map fun j => D (len + j))
    simp only [List.length_map, List.length_range] at hb
    simp only [] at hM
    have hD : ∀ i, i < len → Rows.uptoBulk (D i) < M := fun i hi => by
      have := bulks.part_le (d := D i) (l := (List.range len).map D) (List.mem_map.2 ⟨i, List.mem_range.2 hi, rfl⟩)
      omega
    rcases Nat.eq_zero_or_pos len with h0 | h0
    · subst h0
      exact ⟨some a, 0, m, [], rfl, ⟨rfl, Nat.zero_le _, hm, [], rfl, .inl rfl, fun i v x hi => by simp at hi⟩, by simp, by simp⟩
    · have hone : ∀ i, i < len → ∃ y : List Value × α, W.cells? 0 (a.add (i * E.k)) E.k = some y.1 ∧ E.R (fun _ => True) W y.1 y.2 ∧ Q y.2 := fun i hi => by
        obtain ⟨cs', h1, h2⟩ := hx i (by omega)
        rw [hk] at h1
        obtain ⟨o, hR, hQ⟩ := hE n cs' _ h2 (hD i hi)
        exact ⟨(cs', o), h1, hR, hQ⟩
      haveI : Inhabited α := ⟨(hone 0 h0).choose.2⟩
      obtain ⟨f, hf⟩ := choose_lt hone
      have hspot : ∃ b off, a = ⟨b, off, none⟩ := by
        obtain ⟨h1, -, -⟩ := hf 0 h0
        obtain ⟨-, hlen, hc⟩ := World.cells?_some h1
        have h2 := hc 0 E.pos
        rw [List.getElem?_eq_getElem (by rw [hlen]; exact E.pos)] at h2
        obtain ⟨b, off, spot⟩ := a
        have hs : spot = none := by simpa [Addr.add] using World.cell?_spot h2
        exact ⟨b, off, by rw [hs]⟩
      obtain ⟨b, off, rfl⟩ := hspot
      have hall : ∀ v ∈ (List.range len).map fun i => (f i).1, v.length = E.k := fun v hv => by
        obtain ⟨i, hi, rfl⟩ := List.mem_map.1 hv
        exact E.len (hf i (List.mem_range.1 hi)).2.1
      refine ⟨_, _, _, (List.range len).map fun i => (f i).2, rfl, ⟨by simp, hl, hm, (List.range len).map fun i => (f i).1, by simp, .inr ⟨b, off, rfl, trivial, fun j u hj => ?_⟩, fun i v x hi hx => ?_⟩, by simp; omega, fun o ho => ?_⟩
      · obtain ⟨i, r, v, h1, h2, rfl, hr⟩ := flat_split hall hj
        have hi : i < len := by have := (List.getElem?_eq_some_iff.1 h1).1; simpa using this
        have hv : v = (f i).1 := by simpa [hi] using h1.symm
        obtain ⟨-, -, hc⟩ := World.cells?_some (hf i hi).1
        have := hc r hr
        rw [add_add, addr_add] at this
        rw [this, ← hv, h2]
      · have hi' : i < len := by have := (List.getElem?_eq_some_iff.1 hi).1; simpa using this
        have h1 : v = (f i).1 := by simpa [hi'] using hi.symm
        have h2 : x = (f i).2 := by simpa [hi'] using hx.symm
        subst h1 h2
        exact (hf i hi').2.1
      · obtain ⟨i, hi, rfl⟩ := List.mem_map.1 ho
        exact (hf i (List.mem_range.1 hi)).2.2

/-- A struct, field by field. -/
theorem agg_open {t : TypeId} {fs : Array Field} (ht : Try.prog.underlying t = some (.struct fs)) {M : Nat} {fuel : Nat} {cs : List Value} {x : DataW H × List MemPlace}
    (h : DataW.trod enc Try.prog W 0 (fun _ => true) true fuel t cs = some x) (hM : Rows.uptoBulk x.1 ≤ M) :
    cs.length = Try.prog.cellsOf t ∧ ∀ (i : Nat) (f : Field), fs[i]? = some f → ∃ m y, DataW.trod enc Try.prog W 0 (fun _ => true) true m f.type ((cs.drop f.offset).take (Try.prog.cellsOf f.type)) = some y ∧ Rows.uptoBulk y.1 < M := by
  obtain ⟨xs, n, -, rfl, hl, hlen, hf⟩ := DataW.trod_struct ht h
  refine ⟨hl, fun i f hi => ?_⟩
  have hi' : i < xs.length := by rw [hlen]; exact (Array.getElem?_eq_some_iff.1 hi).1
  have h1 := hf i f hi
  rw [List.getElem?_eq_getElem hi'] at h1
  refine ⟨n, xs[i], h1, ?_⟩
  have h2 := bulks.part_le (d := xs[i].1) (l := xs.map (·.1)) (List.mem_map.2 ⟨_, List.getElem_mem hi', rfl⟩)
  simp only [Rows.uptoBulk] at hM
  omega
theorem str_open {t : TypeId} (ht : Try.prog.underlying t = some .string) {M : Nat} {fuel : Nat} {cs : List Value} {x : DataW H × List MemPlace}
    (h : DataW.trod enc Try.prog W 0 (fun _ => true) true fuel t cs = some x) (hM : Rows.uptoBulk x.1 ≤ M) : ∃ s : ByteArray, cs = [.string s] ∧ s.size < M := by
  obtain ⟨s, rfl, rfl, -⟩ := DataW.trod_string ht h
  exact ⟨s, rfl, by simp only [Rows.uptoBulk, Array.length_toList] at hM; exact hM⟩
theorem int_open {t : TypeId} (ht : Try.prog.underlying t = some (.int .i64)) {fuel : Nat} {cs : List Value} {x : DataW H × List MemPlace}
    (h : DataW.trod enc Try.prog W 0 (fun _ => true) true fuel t cs = some x) : ∃ k : Int, cs = [.int .i64 k] ∧ -9223372036854775808 ≤ k ∧ k ≤ 9223372036854775807 := by
  obtain ⟨s, rfl, rfl, hw⟩ := DataW.trod_int ht h
  refine ⟨s, rfl, ?_⟩
  simp only [Lit.wf, Bool.and_eq_true] at hw
  exact ⟨of_decide_eq_true hw.1, of_decide_eq_true hw.2⟩
theorem bool_open {t : TypeId} (ht : Try.prog.underlying t = some .bool) {fuel : Nat} {cs : List Value} {x : DataW H × List MemPlace}
    (h : DataW.trod enc Try.prog W 0 (fun _ => true) true fuel t cs = some x) : ∃ k : Bool, cs = [.bool k] := by
  obtain ⟨s, rfl, rfl⟩ := DataW.trod_bool ht h
  exact ⟨s, rfl⟩
theorem drop_one {cs : List Value} {i k j : Nat} {v : Value} (h : (cs.drop i).take k = [v]) (hk : k = 1) (hj : i + 1 = j) : cs.drop i = v :: cs.drop j := by
  subst hk hj
  have h1 := List.take_append_drop 1 (cs.drop i)
  rw [h, List.drop_drop] at h1
  exact h1.symm
theorem drop_more {cs us : List Value} {i k n j : Nat} (h : (cs.drop i).take k = us) (hk : k = n) (hj : i + n = j) : cs.drop i = us ++ cs.drop j := by
  subst hk hj
  have h1 := List.take_append_drop k (cs.drop i)
  rw [h, List.drop_drop] at h1
  exact h1.symm
theorem drop_all {cs : List Value} {n k : Nat} (h : cs.length = k) (hk : k = n) : cs.drop n = [] := List.drop_eq_nil_of_le (by omega)
end
/-! ## What is within bounds -/
def I64 (k : Int) : Prop := -9223372036854775808 ≤ k ∧ k ≤ 9223372036854775807
def StrsOk (l : List ByteArray) : Prop := l.length ≤ 1048576 ∧ ∀ v ∈ l, v.size ≤ 1048576
def AttOk (a : Att) : Prop := a.type.size ≤ 1048576 ∧ StrsOk a.vals
def ChgOk (a : Chg) : Prop := I64 a.op ∧ AttOk a.att
def CtlOk (a : Ctl) : Prop := a.oid.size ≤ 1048576 ∧ a.val.size ≤ 1048576
inductive FilBd : Fil → Prop where
  | mk {k : Int} {a v f l : ByteArray} {any : List ByteArray} {parts : List Fil} (hk : I64 k) (ha : a.size ≤ 1048576) (hv : v.size ≤ 1048576) (hf : f.size ≤ 1048576) (hl : l.size ≤ 1048576) (h1 : StrsOk any) (h2 : parts.length ≤ 1048576) (h3 : ∀ x ∈ parts, FilBd x) :
    FilBd (.mk k a v f l any parts)
theorem FilBd.ok : ∀ {x : Fil}, FilBd x → FilOk x := by
  intro x
  induction x using Fil.ind with
  | h k a v f l any parts ih =>
    rintro ⟨_, _, _, _, _, h1, h2, h3⟩
    exact ⟨h1.1, h2, fun x hx => ih x hx (h3 x hx)⟩
structure MsgOk (m : Msg) : Prop where
  id : I64 m.id
  kind : I64 m.kind
  name : m.name.size ≤ 1048576
  pw : m.pw.size ≤ 1048576
  ver : I64 m.ver
  scope : I64 m.scope
  deref : I64 m.deref
  size : I64 m.size
  time : I64 m.time
  fil : FilBd m.fil
  attrs : StrsOk m.attrs
  list : m.list.length ≤ 1048576 ∧ ∀ a ∈ m.list, AttOk a
  chgs : m.chgs.length ≤ 1048576 ∧ ∀ a ∈ m.chgs, ChgOk a
  nrdn : m.nrdn.size ≤ 1048576
  sup : m.sup.size ≤ 1048576
  attr : m.attr.size ≤ 1048576
  value : m.value.size ≤ 1048576
  target : I64 m.target
  code : I64 m.code
  matched : m.matched.size ≤ 1048576
  text : m.text.size ≤ 1048576
  refs : StrsOk m.refs
  ctls : m.ctls.length ≤ 1048576 ∧ ∀ a ∈ m.ctls, CtlOk a
section
variable {H : Type} {enc : TypeId × Value → H} {W : World}
theorem texts_open {M : Nat} (hM0 : M ≤ 1048576) {fuel : Nat} {cs : List Value} {x : DataW H × List MemPlace} (h : DataW.trod enc Try.prog W 0 (fun _ => true) true fuel 22 cs = some x) (hM : Rows.uptoBulk x.1 ≤ M) :
    ∃ A n c l, cs = [.slice A n c] ∧ Row Elem.str (fun _ => True) W A n c l ∧ StrsOk l := by
  obtain ⟨A, n, c, l, h1, h2, h3, h4⟩ := row_open Elem.str (fun s => s.size ≤ 1048576) Try.underlying22 (by kernel_rfl) (fun n cs x hx hb => by
    obtain ⟨s, rfl, hs⟩ := str_open Try.underlying9 hx (Nat.le_of_lt hb)
    exact ⟨s, rfl, by omega⟩) h hM
  exact ⟨A, n, c, l, h1, h2, by omega, h4⟩
theorem att_open {M : Nat} (hM0 : M ≤ 1048576) {fuel : Nat} {cs : List Value} {x : DataW H × List MemPlace} (h : DataW.trod enc Try.prog W 0 (fun _ => true) true fuel 48 cs = some x) (hM : Rows.uptoBulk x.1 ≤ M) : ∃ a : Att, Elem.att.R (fun _ => True) W cs a ∧ AttOk a := by
  obtain ⟨hl, hf⟩ := agg_open Try.underlying48 h hM
  obtain ⟨m0, y0, h0, b0⟩ := hf 0 _ rfl
  obtain ⟨s, e0, q0⟩ := str_open Try.underlying9 h0 (Nat.le_of_lt b0)
  obtain ⟨m1, y1, h1, b1⟩ := hf 1 _ rfl
  obtain ⟨A1, n1, c1, l, e1, r1, q1⟩ := texts_open (by omega) h1 (Nat.le_of_lt b1)
  have hcs : cs.drop 0 = [.string s, .slice A1 n1 c1] := by rw [drop_one (i := 0) (j := 1) e0 (by kernel_rfl) rfl, drop_one (i := 1) (j := 2) e1 (by kernel_rfl) rfl, drop_all (n := 2) hl (by kernel_rfl)]
  rw [List.drop_zero] at hcs
  exact ⟨⟨s, l⟩, ⟨A1, n1, c1, hcs, r1⟩, Nat.le_trans (Nat.le_of_lt (by assumption)) hM0, q1⟩
theorem chg_open {M : Nat} (hM0 : M ≤ 1048576) {fuel : Nat} {cs : List Value} {x : DataW H × List MemPlace} (h : DataW.trod enc Try.prog W 0 (fun _ => true) true fuel 50 cs = some x) (hM : Rows.uptoBulk x.1 ≤ M) : ∃ a : Chg, Elem.chg.R (fun _ => True) W cs a ∧ ChgOk a := by
  obtain ⟨hl, hf⟩ := agg_open Try.underlying50 h hM
  obtain ⟨m0, y0, h0, b0⟩ := hf 0 _ rfl
  obtain ⟨k, e0, q0⟩ := int_open Try.underlying3 h0
  obtain ⟨m1, y1, h1, b1⟩ := hf 1 _ rfl
  obtain ⟨a, ⟨A1, n1, c1, e1, r1⟩, q1⟩ := att_open hM0 h1 (Nat.le_of_lt b1)
  have hcs : cs.drop 0 = [.int .i64 k, .string a.type, .slice A1 n1 c1] := by rw [drop_one (i := 0) (j := 1) e0 (by kernel_rfl) rfl, drop_more (i := 1) (n := 2) (j := 3) e1 (by kernel_rfl) rfl, drop_all (n := 3) hl (by kernel_rfl)]; rfl
  rw [List.drop_zero] at hcs
  exact ⟨⟨k, a⟩, ⟨A1, n1, c1, hcs, r1⟩, q0, q1⟩
theorem ctl_open {M : Nat} (hM0 : M ≤ 1048576) {fuel : Nat} {cs : List Value} {x : DataW H × List MemPlace} (h : DataW.trod enc Try.prog W 0 (fun _ => true) true fuel 64 cs = some x) (hM : Rows.uptoBulk x.1 ≤ M) : ∃ a : Ctl, Elem.ctl.R (fun _ => True) W cs a ∧ CtlOk a := by
  obtain ⟨hl, hf⟩ := agg_open Try.underlying64 h hM
  obtain ⟨m0, y0, h0, b0⟩ := hf 0 _ rfl
  obtain ⟨s, e0, q0⟩ := str_open Try.underlying9 h0 (Nat.le_of_lt b0)
  obtain ⟨m1, y1, h1, b1⟩ := hf 1 _ rfl
  obtain ⟨b, e1⟩ := bool_open Try.underlying4 h1
  obtain ⟨m2, y2, h2, b2⟩ := hf 2 _ rfl
  obtain ⟨b', e2⟩ := bool_open Try.underlying4 h2
  obtain ⟨m3, y3, h3, b3⟩ := hf 3 _ rfl
  obtain ⟨s', e3, q3⟩ := str_open Try.underlying9 h3 (Nat.le_of_lt b3)
  have hcs : cs.drop 0 = [.string s, .bool b, .bool b', .string s'] := by rw [drop_one (i := 0) (j := 1) e0 (by kernel_rfl) rfl, drop_one (i := 1) (j := 2) e1 (by kernel_rfl) rfl, drop_one (i := 2) (j := 3) e2 (by kernel_rfl) rfl, drop_one (i := 3) (j := 4) e3 (by kernel_rfl) rfl, drop_all (n := 4) hl (by kernel_rfl)]
  rw [List.drop_zero] at hcs
  exact ⟨⟨s, b, b', s'⟩, hcs, Nat.le_trans (Nat.le_of_lt (by assumption)) hM0, Nat.le_trans (Nat.le_of_lt (by assumption)) hM0⟩
theorem fil_open : ∀ (M : Nat), M ≤ 1048576 → ∀ {fuel : Nat} {cs : List Value} {x : DataW H × List MemPlace}, DataW.trod enc Try.prog W 0 (fun _ => true) true fuel 25 cs = some x → Rows.uptoBulk x.1 ≤ M → ∃ a : Fil, Elem.fil.R (fun _ => True) W cs a ∧ FilBd a := by
  intro M
  induction M using Nat.strongRecOn with
  | ind M ih =>
  intro hM0 fuel cs x h hM
  obtain ⟨hl, hf⟩ := agg_open Try.underlying25 h hM
  obtain ⟨m0, y0, h0, b0⟩ := hf 0 _ rfl
  obtain ⟨k, e0, q0⟩ := int_open Try.underlying3 h0
  obtain ⟨m1, y1, h1, b1⟩ := hf 1 _ rfl
  obtain ⟨a, e1, q1⟩ := str_open Try.underlying9 h1 (Nat.le_of_lt b1)
  obtain ⟨m2, y2, h2, b2⟩ := hf 2 _ rfl
  obtain ⟨v, e2, q2⟩ := str_open Try.underlying9 h2 (Nat.le_of_lt b2)
  obtain ⟨m3, y3, h3, b3⟩ := hf 3 _ rfl
  obtain ⟨f, e3, q3⟩ := str_open Try.underlying9 h3 (Nat.le_of_lt b3)
  obtain ⟨m4, y4, h4, b4⟩ := hf 4 _ rfl
  obtain ⟨l, e4, q4⟩ := str_open Try.underlying9 h4 (Nat.le_of_lt b4)
  obtain ⟨m5, y5, h5, b5⟩ := hf 5 _ rfl
  obtain ⟨A5, n5, c5, any, e5, r5, q5⟩ := texts_open (by omega) h5 (Nat.le_of_lt b5)
  obtain ⟨m6, y6, h6, b6⟩ := hf 6 _ rfl
  obtain ⟨A6, n6, c6, parts, e6, r6, l6, q6⟩ := row_open Elem.fil FilBd Try.underlying23 (by kernel_rfl) (fun n cs x hx hb => ih (Rows.uptoBulk y6.1) b6 (by omega) hx (Nat.le_of_lt hb)) h6 (Nat.le_refl _)
  have hcs : cs.drop 0 = [.int .i64 k, .string a, .string v, .string f, .string l, .slice A5 n5 c5, .slice A6 n6 c6] := by rw [drop_one (i := 0) (j := 1) e0 (by kernel_rfl) rfl, drop_one (i := 1) (j := 2) e1 (by kernel_rfl) rfl, drop_one (i := 2) (j := 3) e2 (by kernel_rfl) rfl, drop_one (i := 3) (j := 4) e3 (by kernel_rfl) rfl, drop_one (i := 4) (j := 5) e4 (by kernel_rfl) rfl, drop_one (i := 5) (j := 6) e5 (by kernel_rfl) rfl, drop_one (i := 6) (j := 7) e6 (by kernel_rfl) rfl, drop_all (n := 7) hl (by kernel_rfl)]
  rw [List.drop_zero] at hcs
  subst hcs
  exact ⟨.mk k a v f l any parts, FilAt.shut r5 r6, .mk q0 (by omega) (by omega) (by omega) (by omega) q5 (by omega) q6⟩
set_option maxHeartbeats 1000000 in
theorem msg_open {M : Nat} (hM0 : M ≤ 1048576) {fuel : Nat} {cs : List Value} {x : DataW H × List MemPlace} (h : DataW.trod enc Try.prog W 0 (fun _ => true) true fuel 30 cs = some x) (hM : Rows.uptoBulk x.1 ≤ M) :
    ∃ (m : Msg) (d : MsgD), cs = msgCells m d ∧ MsgRows (fun _ => True) W m d ∧ MsgOk m := by
  obtain ⟨hl, hf⟩ := agg_open Try.underlying30 h hM
  obtain ⟨m0, y0, h0, b0⟩ := hf 0 _ rfl
  obtain ⟨xid, e0, q0⟩ := int_open Try.underlying2 h0
  obtain ⟨m1, y1, h1, b1⟩ := hf 1 _ rfl
  obtain ⟨xkind, e1, q1⟩ := int_open Try.underlying2 h1
  obtain ⟨m2, y2, h2, b2⟩ := hf 2 _ rfl
  obtain ⟨xname, e2, q2⟩ := str_open Try.underlying9 h2 (Nat.le_of_lt b2)
  obtain ⟨m3, y3, h3, b3⟩ := hf 3 _ rfl
  obtain ⟨xpw, e3, q3⟩ := str_open Try.underlying9 h3 (Nat.le_of_lt b3)
  obtain ⟨m4, y4, h4, b4⟩ := hf 4 _ rfl
  obtain ⟨xver, e4, q4⟩ := int_open Try.underlying2 h4
  obtain ⟨m5, y5, h5, b5⟩ := hf 5 _ rfl
  obtain ⟨xscope, e5, q5⟩ := int_open Try.underlying2 h5
  obtain ⟨m6, y6, h6, b6⟩ := hf 6 _ rfl
  obtain ⟨xderef, e6, q6⟩ := int_open Try.underlying2 h6
  obtain ⟨m7, y7, h7, b7⟩ := hf 7 _ rfl
  obtain ⟨xsize, e7, q7⟩ := int_open Try.underlying2 h7
  obtain ⟨m8, y8, h8, b8⟩ := hf 8 _ rfl
  obtain ⟨xtime, e8, q8⟩ := int_open Try.underlying2 h8
  obtain ⟨m9, y9, h9, b9⟩ := hf 9 _ rfl
  obtain ⟨xtonly, e9⟩ := bool_open Try.underlying4 h9
  obtain ⟨m10, y10, h10, b10⟩ := hf 10 _ rfl
  obtain ⟨xfil, r10, q10⟩ := fil_open M hM0 h10 (Nat.le_of_lt b10)
  obtain ⟨Ga, ga, ka, Gp, gp, kp, e10, ra, rp⟩ := FilAt.openP r10
  obtain ⟨m11, y11, h11, b11⟩ := hf 11 _ rfl
  obtain ⟨A11, n11, c11, xattrs, e11, r11, q11⟩ := texts_open (by omega) h11 (Nat.le_of_lt b11)
  obtain ⟨m12, y12, h12, b12⟩ := hf 12 _ rfl
  obtain ⟨A12, n12, c12, xlist, e12, r12, l12, q12⟩ := row_open Elem.att AttOk Try.underlying26 (by kernel_rfl) (fun n cs x hx hb => att_open (by omega) hx (Nat.le_of_lt hb)) h12 (Nat.le_of_lt b12)
  obtain ⟨m13, y13, h13, b13⟩ := hf 13 _ rfl
  obtain ⟨A13, n13, c13, xchgs, e13, r13, l13, q13⟩ := row_open Elem.chg ChgOk Try.underlying27 (by kernel_rfl) (fun n cs x hx hb => chg_open (by omega) hx (Nat.le_of_lt hb)) h13 (Nat.le_of_lt b13)
  obtain ⟨m14, y14, h14, b14⟩ := hf 14 _ rfl
  obtain ⟨xnrdn, e14, q14⟩ := str_open Try.underlying9 h14 (Nat.le_of_lt b14)
  obtain ⟨m15, y15, h15, b15⟩ := hf 15 _ rfl
  obtain ⟨xdold, e15⟩ := bool_open Try.underlying4 h15
  obtain ⟨m16, y16, h16, b16⟩ := hf 16 _ rfl
  obtain ⟨xhsup, e16⟩ := bool_open Try.underlying4 h16
  obtain ⟨m17, y17, h17, b17⟩ := hf 17 _ rfl
  obtain ⟨xsup, e17, q17⟩ := str_open Try.underlying9 h17 (Nat.le_of_lt b17)
  obtain ⟨m18, y18, h18, b18⟩ := hf 18 _ rfl
  obtain ⟨xattr, e18, q18⟩ := str_open Try.underlying9 h18 (Nat.le_of_lt b18)
  obtain ⟨m19, y19, h19, b19⟩ := hf 19 _ rfl
  obtain ⟨xvalue, e19, q19⟩ := str_open Try.underlying9 h19 (Nat.le_of_lt b19)
  obtain ⟨m20, y20, h20, b20⟩ := hf 20 _ rfl
  obtain ⟨xtarget, e20, q20⟩ := int_open Try.underlying2 h20
  obtain ⟨m21, y21, h21, b21⟩ := hf 21 _ rfl
  obtain ⟨xcode, e21, q21⟩ := int_open Try.underlying2 h21
  obtain ⟨m22, y22, h22, b22⟩ := hf 22 _ rfl
  obtain ⟨xmatched, e22, q22⟩ := str_open Try.underlying9 h22 (Nat.le_of_lt b22)
  obtain ⟨m23, y23, h23, b23⟩ := hf 23 _ rfl
  obtain ⟨xtext, e23, q23⟩ := str_open Try.underlying9 h23 (Nat.le_of_lt b23)
  obtain ⟨m24, y24, h24, b24⟩ := hf 24 _ rfl
  obtain ⟨A24, n24, c24, xrefs, e24, r24, q24⟩ := texts_open (by omega) h24 (Nat.le_of_lt b24)
  obtain ⟨m25, y25, h25, b25⟩ := hf 25 _ rfl
  obtain ⟨A25, n25, c25, xctls, e25, r25, l25, q25⟩ := row_open Elem.ctl CtlOk Try.underlying28 (by kernel_rfl) (fun n cs x hx hb => ctl_open (by omega) hx (Nat.le_of_lt hb)) h25 (Nat.le_of_lt b25)
  have hcs : cs.drop 0 = msgCells ⟨xid, xkind, xname, xpw, xver, xscope, xderef, xsize, xtime, xtonly, xfil, xattrs, xlist, xchgs, xnrdn, xdold, xhsup, xsup, xattr, xvalue, xtarget, xcode, xmatched, xtext, xrefs, xctls⟩ ⟨⟨Ga, ga, ka⟩, ⟨Gp, gp, kp⟩, ⟨A11, n11, c11⟩, ⟨A12, n12, c12⟩, ⟨A13, n13, c13⟩, ⟨A24, n24, c24⟩, ⟨A25, n25, c25⟩⟩ := by
    rw [drop_one (i := 0) (j := 1) e0 (by kernel_rfl) rfl, drop_one (i := 1) (j := 2) e1 (by kernel_rfl) rfl, drop_one (i := 2) (j := 3) e2 (by kernel_rfl) rfl, drop_one (i := 3) (j := 4) e3 (by kernel_rfl) rfl, drop_one (i := 4) (j := 5) e4 (by kernel_rfl) rfl, drop_one (i := 5) (j := 6) e5 (by kernel_rfl) rfl, drop_one (i := 6) (j := 7) e6 (by kernel_rfl) rfl, drop_one (i := 7) (j := 8) e7 (by kernel_rfl) rfl, drop_one (i := 8) (j := 9) e8 (by kernel_rfl) rfl, drop_one (i := 9) (j := 10) e9 (by kernel_rfl) rfl, drop_more (i := 10) (n := 7) (j := 17) e10 (by kernel_rfl) rfl, drop_one (i := 17) (j := 18) e11 (by kernel_rfl) rfl, drop_one (i := 18) (j := 19) e12 (by kernel_rfl) rfl, drop_one (i := 19) (j := 20) e13 (by kernel_rfl) rfl, drop_one (i := 20) (j := 21) e14 (by kernel_rfl) rfl, drop_one (i := 21) (j := 22) e15 (by kernel_rfl) rfl, drop_one (i := 22) (j := 23) e16 (by kernel_rfl) rfl, drop_one (i := 23) (j := 24) e17 (by kernel_rfl) rfl, drop_one (i := 24) (j := 25) e18 (by kernel_rfl) rfl, drop_one (i := 25) (j := 26) e19 (by kernel_rfl) rfl, drop_one (i := 26) (j := 27) e20 (by kernel_rfl) rfl, drop_one (i := 27) (j := 28) e21 (by kernel_rfl) rfl, drop_one (i := 28) (j := 29) e22 (by kernel_rfl) rfl, drop_one (i := 29) (j := 30) e23 (by kernel_rfl) rfl, drop_one (i := 30) (j := 31) e24 (by kernel_rfl) rfl, drop_one (i := 31) (j := 32) e25 (by kernel_rfl) rfl, drop_all (n := 32) hl (by kernel_rfl)]; rfl
  rw [List.drop_zero] at hcs
  exact ⟨_, _, hcs, ⟨ra, rp, r11, r12, r13, r24, r25⟩, ⟨q0, q1, Nat.le_trans (Nat.le_of_lt q2) hM0, Nat.le_trans (Nat.le_of_lt q3) hM0, q4, q5, q6, q7, q8, q10, q11, ⟨Nat.le_trans l12 (by omega), q12⟩, ⟨Nat.le_trans l13 (by omega), q13⟩, Nat.le_trans (Nat.le_of_lt q14) hM0, Nat.le_trans (Nat.le_of_lt q17) hM0, Nat.le_trans (Nat.le_of_lt q18) hM0, Nat.le_trans (Nat.le_of_lt q19) hM0, q20, q21, Nat.le_trans (Nat.le_of_lt q22) hM0, Nat.le_trans (Nat.le_of_lt q23) hM0, q24, ⟨Nat.le_trans l25 (by omega), q25⟩⟩⟩
end
end Go.Proofs.Ytabaeiolpbdjnaa
