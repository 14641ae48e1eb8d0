import Derived.Test.YtencmdpjiafnaaaGreatDoorZ39
import Derived.Test.YtencmdpjiafnaaaGreatDoorZ05
import Derived.Test.YtencmdpjiafnaaaGreatDoorZ06
import Derived.Deep.Slices
import Derived.ChangeSlices
import Derived.Test.YtencmdpjiafnaaaGreatDoorZ34
/- The reading of an argument under the bound of an '..UptoSaid'. (The laws on readings are XMo's, of the seat 'msg'.) -/
namespace Go.Proofs.YtencmdpjiafnaaaGreatDoor
open Go.RowKit Go.ChangeShapes Go.WideShapes Go.Deep
set_option maxRecDepth 10000

theorem flat_split {k : Nat} : ∀ {vss : List (List Value)}, (∀ v ∈ vss, v.length = k) → ∀ {j : Nat} {u : Value}, vss.flatten[j]? = some u → ∃ i r v, vss[i]? = some v ∧ v[r]? = some u ∧ j = i * k + r ∧ r < k
  | [], _, j, u, h => by simp at h
  | v0 :: vss, hl, j, u, h => by
    have h0 := hl v0 (by simp)
    rw [List.flatten_cons] at h
    rcases Nat.lt_or_ge j v0.length with hj | hj
    · rw [List.getElem?_append_left hj] at h
      exact ⟨0, j, v0, rfl, h, by omega, by omega⟩
    · rw [List.getElem?_append_right hj] at h
      obtain ⟨i, r, v, h1, h2, h3, h4⟩ := flat_split (fun v hv => hl v (by simp [hv])) h
      exact ⟨i + 1, r, v, by simpa using h1, h2, by rw [Nat.succ_mul]; omega, h4⟩

section
variable {H : Type} {enc : TypeId × Value → H} {W : World}
/-- A slice, opened at elements that are read by E. -/
theorem row_open {α : Type} (E : Elem α) (Q : α → Prop) {t e : TypeId} (ht : Tryz.prog.underlying t = some (.slice e)) (hk : Tryz.prog.cellsOf e = E.k) {M : Nat}
    (hE : ∀ (n : Nat) cs (x : DataW H × List MemPlace), DataW.trod enc Tryz.prog W 0 (fun _ => true) true n e cs = some x → Rows.uptoBulk x.1 < M → ∃ a, E.R (fun _ => True) W cs a ∧ Q a)
    {fuel : Nat} {cs : List Value} {x : DataW H × List MemPlace} (h : DataW.trod enc Tryz.prog W 0 (fun _ => true) true fuel t cs = some x) (hM : Rows.uptoBulk x.1 ≤ M) :
    ∃ A n c l, cs = [.slice A n c] ∧ Row E (fun _ => True) W A n c l ∧ l.length ≤ M ∧ ∀ a ∈ l, Q a := by
  rcases open_slice ht h with ⟨rfl, rfl⟩ | ⟨a, len, cap, m, n, D, Pl, rfl, -, hl, hm, hmm, rfl, hx⟩
  · exact ⟨none, 0, 0, [], rfl, Row.nil E _ W, by simp, by simp⟩
  · simp only [if_true] at hmm
    subst hmm
    have hb := bulks.slice_le (H := H) ((List.range len).map D) ((List.range (m - len)).map fun j => D (len + j))
    have hb2 := bulks.slice_elems (H := H) ((List.range len).map D) ((List.range (m - len)).map fun j => D (len + j))
    simp only [List.length_map, List.length_range] at hb
    simp only [] at hM
    have hD : ∀ i, i < len → Rows.uptoBulk (D i) < M := fun i hi => by
      have := bulks.part_le (d := D i) (l := (List.range len).map D) (List.mem_map.2 ⟨i, List.mem_range.2 hi, rfl⟩)
      omega
    rcases Nat.eq_zero_or_pos len with h0 | h0
    · subst h0
      exact ⟨some a, 0, m, [], rfl, ⟨rfl, Nat.zero_le _, hm, [], rfl, .inl rfl, fun i v x hi => by simp at hi⟩, by simp, by simp⟩
    · have hone : ∀ i, i < len → ∃ y : List Value × α, W.cells? 0 (a.add (i * E.k)) E.k = some y.1 ∧ E.R (fun _ => True) W y.1 y.2 ∧ Q y.2 := fun i hi => by
        obtain ⟨cs', h1, h2⟩ := hx i (by omega)
        rw [hk] at h1
        obtain ⟨o, hR, hQ⟩ := hE n cs' _ h2 (hD i hi)
        exact ⟨(cs', o), h1, hR, hQ⟩
      haveI : Inhabited α := ⟨(hone 0 h0).choose.2⟩
      obtain ⟨f, hf⟩ := choose_lt hone
      have hspot : ∃ b off, a = ⟨b, off, none⟩ := by
        obtain ⟨h1, -, -⟩ := hf 0 h0
        obtain ⟨-, hlen, hc⟩ := World.cells?_some h1
        have h2 := hc 0 E.pos
        rw [List.getElem?_eq_getElem (by rw [hlen]; exact E.pos)] at h2
        obtain ⟨b, off, spot⟩ := a
        have hs : spot = none := by simpa [Addr.add] using World.cell?_spot h2
        exact ⟨b, off, by rw [hs]⟩
      obtain ⟨b, off, rfl⟩ := hspot
      have hall : ∀ v ∈ (List.range len).map fun i => (f i).1, v.length = E.k := fun v hv => by
        obtain ⟨i, hi, rfl⟩ := List.mem_map.1 hv
        exact E.len (hf i (List.mem_range.1 hi)).2.1
      refine ⟨_, _, _, (List.range len).map fun i => (f i).2, rfl, ⟨by simp, hl, hm, (List.range len).map fun i => (f i).1, by simp, .inr ⟨b, off, rfl, trivial, fun j u hj => ?_⟩, fun i v x hi hx => ?_⟩, by simp; omega, fun o ho => ?_⟩
      · obtain ⟨i, r, v, h1, h2, rfl, hr⟩ := flat_split hall hj
        have hi : i < len := by have := (List.getElem?_eq_some_iff.1 h1).1; simpa using this
        have hv : v = (f i).1 := by simpa [hi] using h1.symm
        obtain ⟨-, -, hc⟩ := World.cells?_some (hf i hi).1
        have := hc r hr
        rw [add_add, addr_add] at this
        rw [this, ← hv, h2]
      · have hi' : i < len := by have := (List.getElem?_eq_some_iff.1 hi).1; simpa using this
        have h1 : v = (f i).1 := by simpa [hi'] using hi.symm
        have h2 : x = (f i).2 := by simpa [hi'] using hx.symm
        subst h1 h2
        exact (hf i hi').2.1
      · obtain ⟨i, hi, rfl⟩ := List.mem_map.1 ho
        exact (hf i (List.mem_range.1 hi)).2.2

/-- A struct, field by field. -/
theorem agg_open {t : TypeId} {fs : Array Field} (ht : Tryz.prog.underlying t = some (.struct fs)) {M : Nat} {fuel : Nat} {cs : List Value} {x : DataW H × List MemPlace}
    (h : DataW.trod enc Tryz.prog W 0 (fun _ => true) true fuel t cs = some x) (hM : Rows.uptoBulk x.1 ≤ M) :
    cs.length = Tryz.prog.cellsOf t ∧ ∀ (i : Nat) (f : Field), fs[i]? = some f → ∃ m y, DataW.trod enc Tryz.prog W 0 (fun _ => true) true m f.type ((cs.drop f.offset).take (Tryz.prog.cellsOf f.type)) = some y ∧ Rows.uptoBulk y.1 < M := by
  obtain ⟨xs, n, -, rfl, hl, hlen, hf⟩ := DataW.trod_struct ht h
  refine ⟨hl, fun i f hi => ?_⟩
  have hi' : i < xs.length := by rw [hlen]; exact (Array.getElem?_eq_some_iff.1 hi).1
  have h1 := hf i f hi
  rw [List.getElem?_eq_getElem hi'] at h1
  refine ⟨n, xs[i], h1, ?_⟩
  have h2 := bulks.part_le (d := xs[i].1) (l := xs.map (·.1)) (List.mem_map.2 ⟨_, List.getElem_mem hi', rfl⟩)
  simp only [Rows.uptoBulk] at hM
  omega
theorem str_open {t : TypeId} (ht : Tryz.prog.underlying t = some .string) {M : Nat} {fuel : Nat} {cs : List Value} {x : DataW H × List MemPlace}
    (h : DataW.trod enc Tryz.prog W 0 (fun _ => true) true fuel t cs = some x) (hM : Rows.uptoBulk x.1 ≤ M) : ∃ s : ByteArray, cs = [.string s] ∧ s.size < M := by
  obtain ⟨s, rfl, rfl, -⟩ := DataW.trod_string ht h
  exact ⟨s, rfl, by simp only [Rows.uptoBulk, Array.length_toList] at hM; exact hM⟩
theorem int_open {t : TypeId} (ht : Tryz.prog.underlying t = some (.int .i64)) {fuel : Nat} {cs : List Value} {x : DataW H × List MemPlace}
    (h : DataW.trod enc Tryz.prog W 0 (fun _ => true) true fuel t cs = some x) : ∃ k : Int, cs = [.int .i64 k] ∧ -9223372036854775808 ≤ k ∧ k ≤ 9223372036854775807 := by
  obtain ⟨s, rfl, rfl, hw⟩ := DataW.trod_int ht h
  refine ⟨s, rfl, ?_⟩
  simp only [Lit.wf, Bool.and_eq_true] at hw
  exact ⟨of_decide_eq_true hw.1, of_decide_eq_true hw.2⟩
theorem bool_open {t : TypeId} (ht : Tryz.prog.underlying t = some .bool) {fuel : Nat} {cs : List Value} {x : DataW H × List MemPlace}
    (h : DataW.trod enc Tryz.prog W 0 (fun _ => true) true fuel t cs = some x) : ∃ k : Bool, cs = [.bool k] := by
  obtain ⟨s, rfl, rfl⟩ := DataW.trod_bool ht h
  exact ⟨s, rfl⟩
theorem drop_one {cs : List Value} {i k j : Nat} {v : Value} (h : (cs.drop i).take k = [v]) (hk : k = 1) (hj : i + 1 = j) : cs.drop i = v :: cs.drop j := by
  subst hk hj
  have h1 := List.take_append_drop 1 (cs.drop i)
  rw [h, List.drop_drop] at h1
  exact h1.symm
theorem drop_more {cs us : List Value} {i k n j : Nat} (h : (cs.drop i).take k = us) (hk : k = n) (hj : i + n = j) : cs.drop i = us ++ cs.drop j := by
  subst hk hj
  have h1 := List.take_append_drop k (cs.drop i)
  rw [h, List.drop_drop] at h1
  exact h1.symm
theorem drop_all {cs : List Value} {n k : Nat} (h : cs.length = k) (hk : k = n) : cs.drop n = [] := List.drop_eq_nil_of_le (by omega)
end
end Go.Proofs.YtencmdpjiafnaaaGreatDoor
/- What the bound of an argument gives of texts, attributes, entries (split off Cf), changes. -/
namespace Go.Proofs.YtencmdpjiafnaaaGreatDoor
open Go.RowKit Go.ChangeShapes Go.WideShapes Go.Deep
set_option maxRecDepth 100000
set_option linter.unusedSimpArgs false
set_option linter.unusedVariables false

def StrOk (s : ByteArray) : Prop := s.size ≤ 1048576
def AttOk (a : Att) : Prop := a.type.size ≤ 1048576 ∧ a.vals.length ≤ 1048576 ∧ ∀ v ∈ a.vals, v.size ≤ 1048576
def EntOk (e : Ent) : Prop := e.name.size ≤ 1048576 ∧ e.atts.length ≤ 1048576 ∧ ∀ a ∈ e.atts, AttOk a
section
variable {H : Type} {enc : TypeId × Value → H} {W : World}
theorem cstr_open {M : Nat} (hM0 : M ≤ 1048576) {fuel : Nat} {cs : List Value} {x : DataW H × List MemPlace} (h : DataW.trod enc Tryz.prog W 0 (fun _ => true) true fuel 9 cs = some x) (hM : Rows.uptoBulk x.1 ≤ M) : ∃ s : ByteArray, Elem.str.R (fun _ => True) W cs s ∧ StrOk s := by
  obtain ⟨s, e0, q0⟩ := str_open Tryz.underlying9 h hM
  exact ⟨s, e0, Nat.le_trans (Nat.le_of_lt q0) hM0⟩
theorem att_open {M : Nat} (hM0 : M ≤ 1048576) {fuel : Nat} {cs : List Value} {x : DataW H × List MemPlace} (h : DataW.trod enc Tryz.prog W 0 (fun _ => true) true fuel 60 cs = some x) (hM : Rows.uptoBulk x.1 ≤ M) : ∃ a : Att, Elem.att.R (fun _ => True) W cs a ∧ AttOk a := by
  obtain ⟨hl, hf⟩ := agg_open Tryz.underlying60 h hM
  obtain ⟨m0, y0, h0, b0⟩ := hf 0 _ rfl
  obtain ⟨s, e0, q0⟩ := str_open Tryz.underlying9 h0 (Nat.le_of_lt b0)
  obtain ⟨m1, y1, h1, b1⟩ := hf 1 _ rfl
  obtain ⟨A, n, c, l, e1, r1, l1, q1⟩ := row_open Elem.str StrOk Tryz.underlying43 (by kernel_rfl) (fun n cs x hx hb => cstr_open (M := 1048576) (Nat.le_refl _) hx (by omega)) h1 (Nat.le_of_lt b1)
  have hcs : cs.drop 0 = [.string s, .slice A n c] := by rw [drop_one (i := 0) (j := 1) e0 (by kernel_rfl) rfl, drop_one (i := 1) (j := 2) e1 (by kernel_rfl) rfl, drop_all (n := 2) hl (by kernel_rfl)]
  rw [List.drop_zero] at hcs
  exact ⟨⟨s, l⟩, ⟨A, n, c, hcs, r1⟩, Nat.le_trans (Nat.le_of_lt q0) hM0, Nat.le_trans l1 hM0, q1⟩
theorem ent_open {M : Nat} (hM0 : M ≤ 1048576) {fuel : Nat} {cs : List Value} {x : DataW H × List MemPlace} (h : DataW.trod enc Tryz.prog W 0 (fun _ => true) true fuel 38 cs = some x) (hM : Rows.uptoBulk x.1 ≤ M) : ∃ a : Ent, Elem.ent.R (fun _ => True) W cs a ∧ EntOk a := by
  obtain ⟨hl, hf⟩ := agg_open Tryz.underlying38 h hM
  obtain ⟨m0, y0, h0, b0⟩ := hf 0 _ rfl
  obtain ⟨s, e0, q0⟩ := str_open Tryz.underlying9 h0 (Nat.le_of_lt b0)
  obtain ⟨m1, y1, h1, b1⟩ := hf 1 _ rfl
  obtain ⟨A, n, c, l, e1, r1, l1, q1⟩ := row_open Elem.att AttOk Tryz.underlying36 (by kernel_rfl) (fun n cs x hx hb => att_open (M := 1048576) (Nat.le_refl _) hx (by omega)) h1 (Nat.le_of_lt b1)
  have hcs : cs.drop 0 = [.string s, .slice A n c] := by rw [drop_one (i := 0) (j := 1) e0 (by kernel_rfl) rfl, drop_one (i := 1) (j := 2) e1 (by kernel_rfl) rfl, drop_all (n := 2) hl (by kernel_rfl)]
  rw [List.drop_zero] at hcs
  exact ⟨⟨s, l⟩, ⟨A, n, c, hcs, r1⟩, Nat.le_trans (Nat.le_of_lt q0) hM0, Nat.le_trans l1 hM0, q1⟩
end
end Go.Proofs.YtencmdpjiafnaaaGreatDoor
/- The walk of vergerref09's Make: it answers. -/
namespace Go.Proofs.YtencmdpjiafnaaaGreatDoor
open Go.RowKit
set_option maxRecDepth 100000
set_option linter.unusedSimpArgs false
set_option linter.unusedVariables false

theorem typeB_len (n : List UInt8) : (typeB n).1.length ≤ 17 := by
  unfold typeB
  cases h : typTab.find? fun p => lowerB p.1 == lowerB n with
  | none => simp
  | some p =>
    have hm := List.mem_of_find?_eq_some h
    have ha : ∀ p ∈ typTab, p.1.length ≤ 17 := by decide
    exact ha p hm
theorem valsE_len {n : List UInt8} {l : List Att} {K : Nat} (h : ∀ a ∈ l, a.vals.length ≤ K) : (valsE n l).length ≤ K := by
  unfold valsE
  cases hf : l.find? fun a => decide (bys a.type = (typeB n).1 ∧ (typeB n).1 ≠ []) with
  | none => simp
  | some a => exact h a (List.mem_of_find?_eq_some hf)
/-- A bound of j attributes' values. -/
def kM (j : Nat) : Nat := j * 1048576
theorem kM_succ (j : Nat) : kM (j + 1) = kM j + 1048576 := by unfold kM; rw [Nat.succ_mul]
theorem kM_le {j : Nat} (h : j ≤ 1048576) : kM j ≤ 1099511627776 := Nat.le_trans (Nat.mul_le_mul_right _ h) (by decide)
theorem kM_zero : kM 0 = 0 := by unfold kM; rw [Nat.zero_mul]
def RMakeSays (w : World) (e : Ending) (w' : World) : Prop := ∃ nm A n c code, e = .returned (.tuple #[.agg #[.string nm, .slice A n c], .int .i64 code]) ∧ Ext w w'
theorem RMakeSays.of {w w' : World} {e : Ending} {nm : ByteArray} {A : Option Addr} {n c : Nat} {code : Int} (h : e = .returned (.tuple #[.agg #[.string nm, .slice A n c], .int .i64 code])) (hx : Ext w w') : RMakeSays w e w' := ⟨nm, A, n, c, code, h, hx⟩
set_option maxHeartbeats 16000000 in
theorem rmake_any {S : Nat → Prop} {A : Option Addr} {n c : Nat} {l : List Att} {w : World} (h : Row Elem.att S w A n c l) (nm : ByteArray) (hG : Gl w) (hl : l.length ≤ 1048576) (hv : ∀ a ∈ l, AttOk a) :
    Calls Tryz.prog 75 #[.string nm, .slice A n c] w (RMakeSays w) := by
  have HG := hid hG
  have HR := hid h
  have HLN := hid h.len
  have HL := hid hl
  have HV := hid hv
  have hn : n ≤ 1048576 := by have := h.len; omega
  have HN : ∀ w, Gl w → Calls Tryz.prog 42 #[.string nm] w (NormalSays w (bys nm)) := fun w hG => rnormal06_any nm w hG
  unfold NormalSays at HN
  have HB0 := hid (Bx.make (Ext.refl w) #[.string ⟨#[]⟩, .slice none 0 0] 38)
  show Calls _ _ _ _ (fun e w' => RMakeSays w e w')
  clear h hG hl hv
  generalize codeR (partsB (bys nm)) = cd at *
  generalize str (normalS (bys nm)) = nn at *
  by_cases hcd : cd = 0
  case neg =>
    have t1 : (cd != 0) = true := by rw [bne_iff_ne]; exact hcd
    clear hcd
    go_enter Tryz.func75, Tryz.ntmps75
    go_wp2_with (go_at_call 42; (with_reducible refine (HN _ (HG.out.ext HB0.out.ext)).mono ?_); rintro e w1 ⟨rfl, hx1⟩; have HB1 := hid (HB0.out.later hx1); have r0 := HB1.out.cell (i := 0) rfl; have r1 := HB1.out.cell (i := 1) rfl; have f0 := HB1.out.frozen 0; have f1 := HB1.out.frozen 1; clear hx1)
    (try simp only [Exit.inBlock, Exit.then])
    refine ret_cell_tmp _ rfl rfl ((HB1.out.set0 (.string ⟨#[]⟩)).set1 (.slice none 0 0)) Tryz.underlying38 rfl (by kernel_rfl) rfl ?_
    exact RMakeSays.of rfl ((HB1.out.set0 (.string ⟨#[]⟩)).set1 (.slice none 0 0)).ext
  subst hcd
  by_cases hnn : nn.size = 0
  · have t2 := emp_yes hnn
    clear hnn
    go_enter Tryz.func75, Tryz.ntmps75
    go_wp2_with (go_at_call 42; (with_reducible refine (HN _ (HG.out.ext HB0.out.ext)).mono ?_); rintro e w1 ⟨rfl, hx1⟩; have HB1 := hid (HB0.out.later hx1); have r0 := HB1.out.cell (i := 0) rfl; have r1 := HB1.out.cell (i := 1) rfl; have f0 := HB1.out.frozen 0; have f1 := HB1.out.frozen 1; clear hx1)
    (try simp only [Exit.inBlock, Exit.then])
    refine ret_cell_tmp _ rfl rfl ((HB1.out.set0 (.string ⟨#[]⟩)).set1 (.slice none 0 0)) Tryz.underlying38 rfl (by kernel_rfl) rfl ?_
    exact RMakeSays.of rfl ((HB1.out.set0 (.string ⟨#[]⟩)).set1 (.slice none 0 0)).ext
  have t2 := emp_nb hnn
  clear hnn
  go_enter Tryz.func75, Tryz.ntmps75
  go_wp2_with (go_at_call 42; (with_reducible refine (HN _ (HG.out.ext HB0.out.ext)).mono ?_); rintro e w1 ⟨rfl, hx1⟩; have HB1 := hid (HB0.out.later hx1); clear hx1)
  obtain ⟨g8, hg8⟩ : ∃ x, x = w1.heap.size := ⟨_, rfl⟩
  have HE1 := hid (Bx.make HB1.out.ext #[.string nn, .slice none 0 0] 38)
  have HR1 := hid (HB1.out.later (Ext.alloc w1 (.cells #[.string nn, .slice none 0 0] 38)))
  rw [← hg8] at HE1 ⊢
  have hgl : w.heap.size < g8 := by have := HB1.out.lt; omega
  have HGL := hid hgl
  obtain ⟨wb, hwb⟩ : ∃ x, x = w1.alloc (.cells #[.string nn, .slice none 0 0] 38) := ⟨_, rfl⟩
  rw [← hwb] at HE1 HR1 ⊢
  clear hg8 hgl hwb HN
  go_loopw [33] (fun i wr => ∃ (j : Nat) (A2 : Option Addr) (n2 c2 : Nat) (l2 : List Att), j ≤ n ∧ i = .int .i64 j ∧ Hid (Bx w wr g8 38 #[.string nn, .slice A2 n2 c2]) ∧ Hid (Bx w wr w.heap.size 38 #[.string ⟨#[]⟩, .slice none 0 0]) ∧ Hid (Row Elem.att (fun b => b ≠ w.heap.size ∧ b ≠ g8) wr A2 n2 c2 l2) ∧ Hid (l2.length ≤ j ∧ ∀ a ∈ l2, a.vals.length ≤ kM j)) (fun i _ => n - (intOf i).toNat)
  case atStart => exact ⟨0, none, 0, 0, [], by omega, rfl, HE1.out, HR1.out, Row.nil _ _ _, by simp [Hid]⟩
  case round =>
    obtain ⟨j, A2, n2, c2, l2, hj, rfl, HE, HB, HA2, HB2⟩ := hrel
    have e80 := HE.out.cell (i := 0) rfl
    have e81 := HE.out.cell (i := 1) rfl
    by_cases hlt : j < n
    · obtain ⟨b1, o1, v1, x1, rfl, g1, -, ⟨A1, n1, c1, rfl, r1⟩, q1⟩ := HR.out.at_ hlt
      have e10' := q1 0 _ rfl
      have e11' := q1 1 _ rfl
      simp only [Elem.att, Nat.add_zero] at e10' e11'
      have E10 := hid e10'
      have E11 := hid e11'
      have R1 := hid r1
      have HX := hid (HV.out x1 (List.mem_of_getElem? g1))
      have hn1 : n1 ≤ 1048576 := by have h1 := r1.len; have h2 := HX.out.2.1; omega
      have HM1 := hid r1.len
      have HT : ∀ w', Calls Tryz.prog 111 #[.string x1.type] w' (TypeSays w' (bys x1.type)) := fun w' => rtype_any x1.type w' (by have := HX.out.1; simp only [maxLen]; omega)
      unfold TypeSays at HT
      have HTL := hid (typeB_len (bys x1.type))
      have e10 := cell_later E10.out _ HE.out.ext
      have HJN := hid hj
      clear q1 g1 r1 e10' e11'
      generalize typeB (bys x1.type) = tk at *
      obtain ⟨t, k⟩ := tk
      simp only at HT HTL
      obtain ⟨ts, hts⟩ : ∃ ts, ts = str t := ⟨_, rfl⟩
      rw [← hts] at HT
      have HTS : Hid (ts.size ≤ 17) := by show _ ≤ _; rw [hts, str_size]; exact HTL.out
      clear hts HTL
      have HVA : ∀ w', Ext wr w' → Calls Tryz.prog 64 #[.agg #[.string nn, .slice A2 n2 c2], .string ts] w' (OwnVals w' (bys ts) l2) := fun w' hx => rvalues_any (HA2.out.ext hx) ts nn (by have := HTS.out; omega) (fun a ha => by have h1 := HB2.out.2 a ha; have h2 := HJN.out; have h3 : kM j ≤ 1099511627776 := kM_le (by omega); omega)
      unfold OwnVals at HVA
      have HVL := hid (valsE_len (n := bys ts) HB2.out.2)
      generalize valsE (bys ts) l2 = vs0 at *
      by_cases hz : ts.size = 0
      · have s2 := emp_yes hz
        clear hz
        go_wp2_with (go_at_call 111; (with_reducible refine (HT _).mono ?_); rintro e w2 ⟨rfl, hx2⟩; have HB3 := hid (HB.out.later hx2); have r0 := HB3.out.cell (i := 0) rfl; have r1 := HB3.out.cell (i := 1) rfl; have f0 := HB3.out.frozen 0; have f1 := HB3.out.frozen 1; clear hx2)
        (try simp only [Exit.inBlock, Exit.then])
        refine ret_cell_tmp _ rfl rfl ((HB3.out.set0 (.string ⟨#[]⟩)).set1 (.slice none 0 0)) Tryz.underlying38 rfl (by kernel_rfl) rfl ?_
        exact RMakeSays.of rfl ((HB3.out.set0 (.string ⟨#[]⟩)).set1 (.slice none 0 0)).ext
      have s2 := emp_nb hz
      clear hz
      by_cases hn0 : n1 = 0
      · subst hn0
        go_wp2_with (go_at_call 111; (with_reducible refine (HT _).mono ?_); rintro e w2 ⟨rfl, hx2⟩; have HB3 := hid (HB.out.later hx2); have e11 := cell_later E11.out _ HB3.out.ext; have r0 := HB3.out.cell (i := 0) rfl; have r1 := HB3.out.cell (i := 1) rfl; have f0 := HB3.out.frozen 0; have f1 := HB3.out.frozen 1; clear hx2)
        (try simp only [Exit.inBlock, Exit.then])
        refine ret_cell_tmp _ rfl rfl ((HB3.out.set0 (.string ⟨#[]⟩)).set1 (.slice none 0 0)) Tryz.underlying38 rfl (by kernel_rfl) rfl ?_
        exact RMakeSays.of rfl ((HB3.out.set0 (.string ⟨#[]⟩)).set1 (.slice none 0 0)).ext
      have t0 : ((n1 : Int) == 0) = false := by rw [beq_eq_false_iff_ne]; omega
      go_wp2_with (first
        | (go_at_call 111; (with_reducible refine (HT _).mono ?_); rintro e w2 ⟨rfl, hx2⟩; have HX2 := hid hx2; have HE2 := hid (HE.out.later hx2); have HB3 := hid (HB.out.later hx2); have e11 := cell_later E11.out _ HB3.out.ext; have e80 := HE2.out.cell (i := 0) rfl; have e81 := HE2.out.cell (i := 1) rfl; clear hx2)
        | (go_at_call 64; (with_reducible refine (HVA _ HX2.out).mono ?_); rintro e w3 ⟨v3, rfl, hg3⟩; have HG3 := hid hg3; have e11 := cell_later E11.out _ (HB3.out.ext.trans hg3.ext); clear hg3))
      go_loopw [12, 65] (fun v i wr' => ∃ (k : Nat) (l3 : List ByteArray), k ≤ n1 ∧ i = .int .i64 k ∧ Hid (GrowS w2 wr' v l3) ∧ Hid (l3.length ≤ kM j + k)) (fun _ i _ => n1 - (intOf i).toNat)
      case atStart => exact ⟨0, vs0, by omega, rfl, HG3.out, by show _ ≤ _; have := HVL.out; omega⟩
      case round =>
        obtain ⟨k, l3, hk, rfl, HGK, HLK⟩ := hrel
        have HEK := hid (HE2.out.later HGK.out.ext)
        have HBK := hid (HB3.out.later HGK.out.ext)
        have HLB : Hid (l3.length + 1 ≤ 8796093022208) := by show _ ≤ _; have h1 := HLK.out; have h2 := HJN.out; have h3 : kM j ≤ 1099511627776 := kM_le (by omega); omega
        obtain ⟨A4, c4, hv4, hr4⟩ := HGK.out.row
        have HR4 := hid hr4
        have HV4 := hid hv4
        clear hr4 hv4
        by_cases hlt2 : k < n1
        · obtain ⟨b5, o5, rfl, c5⟩ := (R1.out.ext HBK.out.ext).str_cell (by omega)
          have e5 := c5 k hlt2
          clear c5
          have e11 := cell_later E11.out _ HBK.out.ext
          generalize x1.vals[k]?.getD ByteArray.empty = x5 at *
          have HVV : ∀ w', Gl w' → Calls Tryz.prog 69 #[.string ts, .string x5] w' (ValZSays w' (bys ts) (bys x5)) := fun w' hG => rvalueZ_any ts x5 w' hG (by have := HTS.out; omega)
          have HWI : ∀ w', Ext wr w' → Calls Tryz.prog 116 #[.string ts, .slice A4 l3.length c4, .string x5] w' fun e w'' => e = .returned (.bool (hasZ (bys ts) (bys x5) l3)) ∧ Ext w' w'' := fun w' hx => rwithin_any (HR4.out.ext hx) ts x5 (HG.out.ext (HBK.out.ext.trans hx)) (by have := HTS.out; omega)
          unfold ValZSays at HVV
          generalize valZ (bys ts) (bys x5) = y at *
          obtain ⟨y1, y2⟩ := y
          simp only at HVV
          generalize hasZ (bys ts) (bys x5) l3 = hb at *
          obtain rfl := HV4.out
          clear HV4
          by_cases hy : y2 = 0
          · subst hy
            cases hb
            · go_wp2_with (first
                | (go_at_call 69; (with_reducible refine (HVV _ (HG.out.ext HBK.out.ext)).mono ?_); rintro e w5 ⟨rfl, hx5⟩; have HX5 := hid hx5; clear hx5)
                | (go_at_call 116; (with_reducible refine (HWI _ HX5.out).mono ?_); rintro e w6 ⟨rfl, hx6⟩; have HG6 := hid ((HGK.out.later HX5.out).later hx6); clear hx6)
                | (at_builtin; refine append_str1 rfl _ _ rfl _ _ rfl HG6.out rfl HLB.out ?_; intro v7 w7 hg7; have HG7 := hid hg7; clear hg7))
              exact ⟨⟨k + 1, _, by omega, by go_num, HG7.out, by show _ ≤ _; rw [List.length_append]; have := HLK.out; simp only [List.length_cons, List.length_nil]; omega⟩, by simp [intOf]; omega⟩
            · go_wp2_with (first
                | (go_at_call 69; (with_reducible refine (HVV _ (HG.out.ext HBK.out.ext)).mono ?_); rintro e w5 ⟨rfl, hx5⟩; have HX5 := hid hx5; clear hx5)
                | (go_at_call 116; (with_reducible refine (HWI _ HX5.out).mono ?_); rintro e w6 ⟨rfl, hx6⟩; have HB6 := hid ((HBK.out.later HX5.out).later hx6); have r0 := HB6.out.cell (i := 0) rfl; have r1 := HB6.out.cell (i := 1) rfl; have f0 := HB6.out.frozen 0; have f1 := HB6.out.frozen 1; clear hx6))
              (try simp only [Exit.inBlock, Exit.then])
              refine ret_cell_tmp _ rfl rfl ((HB6.out.set0 (.string ⟨#[]⟩)).set1 (.slice none 0 0)) Tryz.underlying38 rfl (by kernel_rfl) rfl ?_
              exact RMakeSays.of rfl ((HB6.out.set0 (.string ⟨#[]⟩)).set1 (.slice none 0 0)).ext
          · have ty : (y2 != 0) = true := by rw [bne_iff_ne]; exact hy
            clear hy
            go_wp2_with (go_at_call 69; (with_reducible refine (HVV _ (HG.out.ext HBK.out.ext)).mono ?_); rintro e w5 ⟨rfl, hx5⟩; have HB6 := hid (HBK.out.later hx5); have r0 := HB6.out.cell (i := 0) rfl; have r1 := HB6.out.cell (i := 1) rfl; have f0 := HB6.out.frozen 0; have f1 := HB6.out.frozen 1; clear hx5)
            (try simp only [Exit.inBlock, Exit.then])
            refine ret_cell_tmp _ rfl rfl ((HB6.out.set0 (.string ⟨#[]⟩)).set1 (.slice none 0 0)) Tryz.underlying38 rfl (by kernel_rfl) rfl ?_
            exact RMakeSays.of rfl ((HB6.out.set0 (.string ⟨#[]⟩)).set1 (.slice none 0 0)).ext
        · obtain rfl : k = n1 := by omega
          have HST : Calls Tryz.prog 130 #[.agg #[.string nn, .slice A2 n2 c2], .string ts, .slice A4 l3.length c4] wr (RSetSays (fun b => b ≠ w.heap.size ∧ b ≠ g8) wr nn l2 l3) :=
            rset_any (HA2.out.ext (HX2.out.trans HGK.out.ext)) HR4.out (fun b _ hb => by have h0 : w2.heap.size ≤ b := hb; have h1 := HE2.out.lt; have h2 := HB3.out.lt; exact ⟨by omega, by omega⟩) nn ts (by have h1 := HB2.out.1; have h2 := HJN.out; omega)
          unfold RSetSays at HST
          obtain rfl := HV4.out
          clear HV4 HR4
          have e80 := HEK.out.cell (i := 0) rfl
          have e81 := HEK.out.cell (i := 1) rfl
          go_wp2_with (go_at_call 130; (with_reducible refine HST.mono ?_); rintro e w6 ⟨A6, n6, c6, l6, rfl, hr6, hl6, hm6, hx6⟩; have HR6 := hid hr6; have HL6 := hid hl6; have HM6 := hid hm6; have HE6 := hid (HEK.out.later hx6); have HB6 := hid (HBK.out.later hx6); have p0 := HE6.out.cell (i := 0) rfl; have p1 := HE6.out.cell (i := 1) rfl; have q0 := HE6.out.frozen 0; have q1 := HE6.out.frozen 1; have hz6 := ext_sz hx6; clear hr6 hl6 hm6 hx6 e80 e81)
          have hne : w.heap.size ≠ g8 := by have := HGL.out; omega
          have hle : w.heap.size ≤ g8 := by have := HGL.out; omega
          have hlk := HEK.out.lt
          have hlb := HBK.out.lt
          refine ⟨⟨j + 1, A6, n6, c6, l6, by omega, by go_num, (HE6.out.set0 (.string nn)).set1 (.slice A6 n6 c6), (HB6.out.aside hle hne 0 _).aside hle hne 1 _, ?_, by have h1 := HL6.out; have h2 := HB2.out.1; omega, fun a ha => ?_⟩, by simp [intOf]; omega⟩
          · refine (HR6.out.same (w' := _) fun b hb => ?_).mono fun b _ hb => ?_
            · have hn2 : b ≠ g8 := by rcases hb with hb | hb; (exact hb.2); (have h3 : wr.heap.size ≤ b := hb; omega)
              rw [heap_setCell_other _ _ _ _ hn2, heap_setCell_other _ _ _ _ hn2]
            · rcases hb with hb | hb
              · exact hb
              · have h3 : wr.heap.size ≤ b := hb
                exact ⟨by omega, by omega⟩
          · rw [kM_succ]
            rcases HM6.out a ha with h1 | h1
            · have h2 := HB2.out.2 a h1
              omega
            · rw [h1]
              have h2 := HLK.out
              omega
    · obtain rfl : j = n := by omega
      have hvb : ∀ a ∈ l2, a.vals.length ≤ 8796093022208 := fun a ha => by have h1 := HB2.out.2 a ha; have h3 : kM j ≤ 1099511627776 := kM_le (by omega); omega
      have HMA : ∀ w', Ext wr w' → Calls Tryz.prog 131 #[.agg #[.string nn, .slice A2 n2 c2]] w' (BoolSays w') := fun w' hx => rmany_any (HA2.out.ext hx) nn
      unfold BoolSays at HMA
      have HVA : ∀ w', Ext wr w' → Calls Tryz.prog 64 #[.agg #[.string nn, .slice A2 n2 c2], .string ⟨#[111, 98, 106, 101, 99, 116, 67, 108, 97, 115, 115]⟩] w' (OwnVals w' (bys ⟨#[111, 98, 106, 101, 99, 116, 67, 108, 97, 115, 115]⟩) l2) := fun w' hx => rvalues_any (HA2.out.ext hx) ⟨#[111, 98, 106, 101, 99, 116, 67, 108, 97, 115, 115]⟩ nn (by decide) hvb
      unfold OwnVals at HVA
      have HNA : ∀ w', Ext wr w' → Calls Tryz.prog 65 #[.agg #[.string nn, .slice A2 n2 c2]] w' fun e w'' => e = .returned (.bool (namedZ (bys nn) l2)) ∧ Ext w' w'' := fun w' hx => rnamed_any (HA2.out.ext hx) nn (HG.out.ext (HB.out.ext.trans hx)) hvb
      clear hvb
      generalize valsE (bys ⟨#[111, 98, 106, 101, 99, 116, 67, 108, 97, 115, 115]⟩) l2 = vs0 at *
      generalize namedZ (bys nn) l2 = nb at *
      have tv : ((vs0.length : Int) == 0) = true ∨ ((vs0.length : Int) == 0) = false := by cases (vs0.length : Int) == 0 <;> simp
      rcases tv with tv | tv <;> cases nb
      all_goals
        go_wp2_with (first
          | (go_at_call 131; (with_reducible refine (HMA _ (Ext.refl _)).mono ?_); rintro e w5 ⟨b5, rfl, hx5⟩; have HX5 := hid hx5; have HE5 := hid (HE.out.later hx5); have HB5 := hid (HB.out.later hx5); have e80 := HE5.out.cell (i := 0) rfl; have e81 := HE5.out.cell (i := 1) rfl; have r0 := HB5.out.cell (i := 0) rfl; have r1 := HB5.out.cell (i := 1) rfl; have f0 := HB5.out.frozen 0; have f1 := HB5.out.frozen 1; clear hx5; cases b5)
          | (go_at_call 64; (with_reducible refine (HVA _ HX5.out).mono ?_); rintro e w6 ⟨v6, rfl, hg6⟩; obtain ⟨A7, c7, rfl, -⟩ := hg6.row; have HX6 := hid (HX5.out.trans hg6.ext); have HE6 := hid (HE5.out.later hg6.ext); have HB6 := hid (HB5.out.later hg6.ext); have e80 := HE6.out.cell (i := 0) rfl; have e81 := HE6.out.cell (i := 1) rfl; have r0 := HB6.out.cell (i := 0) rfl; have r1 := HB6.out.cell (i := 1) rfl; have f0 := HB6.out.frozen 0; have f1 := HB6.out.frozen 1; clear hg6)
          | (go_at_call 65; (with_reducible refine (HNA _ HX6.out).mono ?_); rintro e w7 ⟨rfl, hx7⟩; have HE7 := hid (HE6.out.later hx7); have HB7 := hid (HB6.out.later hx7); have e80 := HE7.out.cell (i := 0) rfl; have e81 := HE7.out.cell (i := 1) rfl; have r0 := HB7.out.cell (i := 0) rfl; have r1 := HB7.out.cell (i := 1) rfl; have f0 := HB7.out.frozen 0; have f1 := HB7.out.frozen 1; clear hx7))
        all_goals first
          | ((try simp only [Exit.inBlock, Exit.then]); refine ret_cell_tmp _ rfl rfl ((HB7.out.set0 (.string nn)).set1 (.slice A2 n2 c2)) Tryz.underlying38 rfl (by kernel_rfl) rfl ?_; exact RMakeSays.of rfl ((HB7.out.set0 (.string nn)).set1 (.slice A2 n2 c2)).ext)
          | ((try simp only [Exit.inBlock, Exit.then]); refine ret_cell_tmp _ rfl rfl ((HB7.out.set0 (.string ⟨#[]⟩)).set1 (.slice none 0 0)) Tryz.underlying38 rfl (by kernel_rfl) rfl ?_; exact RMakeSays.of rfl ((HB7.out.set0 (.string ⟨#[]⟩)).set1 (.slice none 0 0)).ext)
          | ((try simp only [Exit.inBlock, Exit.then]); refine ret_cell_tmp _ rfl rfl ((HB6.out.set0 (.string ⟨#[]⟩)).set1 (.slice none 0 0)) Tryz.underlying38 rfl (by kernel_rfl) rfl ?_; exact RMakeSays.of rfl ((HB6.out.set0 (.string ⟨#[]⟩)).set1 (.slice none 0 0)).ext)
          | ((try simp only [Exit.inBlock, Exit.then]); refine ret_cell_tmp _ rfl rfl ((HB5.out.set0 (.string ⟨#[]⟩)).set1 (.slice none 0 0)) Tryz.underlying38 rfl (by kernel_rfl) rfl ?_; exact RMakeSays.of rfl ((HB5.out.set0 (.string ⟨#[]⟩)).set1 (.slice none 0 0)).ext)
end Go.Proofs.YtencmdpjiafnaaaGreatDoor
