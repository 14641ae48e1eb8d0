import Derived.Test.YtencmdpjiafnaaaGreatDoorZ08
import Derived.Test.YtencmdpjiafnaaaGreatDoorZ06
import Derived.Laws.Tables
import Derived.Test.YtencmdpjiafnaaaGreatDoorZ03
/- A store into a row of texts of the call's own, at an operation. -/
namespace Go.Proofs.YtencmdpjiafnaaaGreatDoor
open Go.RowKit
set_option maxRecDepth 100000
set_option linter.unusedSimpArgs false

theorem over_set (cur : Array Value) (k : Nat) (v : Value) (hv : v.cells = #[v]) (hk : k < cur.size) : over cur k v = cur.setIfInBounds k v := by
  unfold over
  rw [hv]
  apply Array.ext'
  rw [Array.toList_setIfInBounds, List.set_eq_take_append_cons_drop, if_pos (by simpa using hk)]
  simp
/-- One cell of a row of the call's own is written. -/
theorem wp_store_own {P : Program} {w : World} {o : Oper} {a : Act} {K : Act → World → Prop} {Q : Exit → Act → World → Prop} (T : TypeId) (x y : Operand) (ho : o.op = .store T x y) (g k : Nat) (hx : a.eval x = .pointer (some ⟨g, k, none⟩))
    (v : Value) (hy : a.eval y = v) (hc : v.cells = #[v]) (hv : v.oneCell' = true) (hT : (P.info? T).map (·.size) = some 1) {base : Nat} {e : TypeId} {n cap size : Nat} {xs : List Value} (hown : w.ownsRow base e size (.slice (some ⟨g, 0, none⟩) n cap) n xs) (hk : k < n * size)
    (h : ∀ w', w'.ownsRow base e size (.slice (some ⟨g, 0, none⟩) n cap) n (xs.set k v) → w.grownBy w' (some g) → K (a.put o.dst undef) w') : o.wp P a w K Q := by
  have hown' := hown
  rcases hown.2 with ⟨h', _⟩ | ⟨g', cap', cur, h', hb, hg, hnc, hcm, hcs, htake⟩
  · cases h'
  · simp only [Value.slice.injEq, Option.some.injEq, Addr.mk.injEq, and_true, true_and] at h'
    obtain ⟨rfl, rfl⟩ := h'
    have hkc : k < cur.size := by rw [hcs]; exact Nat.lt_of_lt_of_le hk (Nat.mul_le_mul_right _ hnc)
    refine wp_store_at T x y ho g k hx v hy e cur hg (by rw [hc]; exact hT) (by rw [hc]; exact hkc) (by rw [hc]; simpa using hv) ?_
    rw [over_set cur k v hc hkc, ← setCell_eq_setRow w g k cur e _ v hg]
    obtain ⟨h1, h2⟩ := hown'.stored k v
    exact h _ h1 h2
theorem GrowS.form {w wr : World} {v : Value} {l : List ByteArray} (h : GrowS w wr v l) (hl : 0 < l.length) : ∃ g cap, v = .slice (some ⟨g, 0, none⟩) l.length cap ∧ w.heap.size ≤ g ∧ l.length ≤ cap ∧ cap ≤ maxLen ∧ (∀ k, k < l.length → wr.cell? ⟨g, k, none⟩ = some (.string (l[k]?.getD ByteArray.empty))) := by
  have ho := h.own
  rcases ho.2 with ⟨h', h0⟩ | ⟨g, cap, cur, h', hb, hg, hnc, hcm, hcs, htake⟩
  · omega
  · subst h'
    refine ⟨g, cap, rfl, hb, hnc, hcm, fun k hk => ?_⟩
    rw [ho.cellAt k (by simpa using hk), List.getElem?_map, List.getElem?_eq_getElem hk]
    rfl
theorem store_str_wp {w w0 : World} {o : Oper} {a : Act} {K : Act → World → Prop} {Q : Exit → Act → World → Prop} (x y : Operand) (ho : o.op = .store 9 x y) (g k n cap : Nat) (hx : a.eval x = .pointer (some ⟨g, k, none⟩))
    (s : ByteArray) (hy : a.eval y = .string s) (l : List ByteArray) (hG : GrowS w0 w (.slice (some ⟨g, 0, none⟩) n cap) l) (hn : n = l.length) (hk : k < l.length)
    (h : ∀ w', GrowS w0 w' (.slice (some ⟨g, 0, none⟩) n cap) (l.set k s) → Below w0.heap.size w w' → K (a.put o.dst undef) w') : o.wp Tryz.prog a w K Q := by
  subst hn
  have ho := hG.own
  refine wp_store_own 9 x y (by assumption) g k hx (.string s) hy rfl rfl (by kernel_rfl) ho (by simpa using hk) fun w' h1 h2 => ?_
  have hb := below_grown ho h2 (ext_sz hG.ext) (Nat.le_refl _)
  refine h w' ⟨?_, Below.trans hG.ext hb⟩ hb
  rw [List.length_set, List.map_set]
  exact h1
end Go.Proofs.YtencmdpjiafnaaaGreatDoor
/- Rows of pairs: a type and a value. -/
namespace Go.Proofs.YtencmdpjiafnaaaGreatDoor
open Go.RowKit
set_option maxRecDepth 100000
set_option linter.unusedSimpArgs false

def avaCells (x : Ava) : List Value := [.string (str x.type), .string (str x.val)]
def Elem.ava : Elem Ava := ⟨2, by decide, fun _ _ v x => v = avaCells x, fun h => by rw [h]; rfl, fun h _ => h, fun h _ => h⟩
/-- An owned row is a slice value, of whatever size its elements are. -/
theorem own_form' {w : World} {base : Nat} {e : TypeId} {v : Value} {n size : Nat} {vs : List Value} (h : w.ownsRow base e size v n vs) : ∃ A c, v = .slice A n c := by
  rcases h.2 with ⟨rfl, rfl⟩ | ⟨g, cap, cur, rfl, _⟩
  · exact ⟨_, _, rfl⟩
  · exact ⟨_, _, rfl⟩
theorem avaCells_len (l : List Ava) : (l.map avaCells).flatten.length = l.length * 2 := by
  induction l with
  | nil => rfl
  | cons x t ih => simp only [List.map_cons, List.flatten_cons, List.length_append, ih, List.length_cons, avaCells, List.length_nil]; omega
/-- A row of pairs of the call's own. -/
structure GrowA (T : TypeId) (w wr : World) (v : Value) (l : List Ava) : Prop where
  own : wr.ownsRow w.heap.size T 2 v l.length (l.map avaCells).flatten
  ext : Ext w wr
theorem GrowA.nil {T : TypeId} {w wr : World} (hx : Ext w wr) : GrowA T w wr (.slice none 0 0) [] := ⟨World.ownsRow_nil _ _ _ _, hx⟩
theorem GrowA.later {T : TypeId} {w wr w' : World} {v : Value} {l : List Ava} (h : GrowA T w wr v l) (hx : Ext wr w') : GrowA T w w' v l := ⟨own_ext h.own hx, h.ext.trans hx⟩
theorem GrowA.base {T : TypeId} {w w1 wr : World} {v : Value} {l : List Ava} (h : GrowA T w1 wr v l) (hx : Ext w w1) : GrowA T w wr v l := ⟨own_base h.own (ext_sz hx), hx.trans h.ext⟩
theorem GrowA.row {T : TypeId} {w wr : World} {v : Value} {l : List Ava} (h : GrowA T w wr v l) : ∃ A c, v = .slice A l.length c ∧ Row Elem.ava (fun b => w.heap.size ≤ b) wr A l.length c l := by
  have ho := h.own
  obtain ⟨A, c, rfl⟩ := own_form' ho
  refine ⟨A, c, rfl, own_rows (E := Elem.ava) (vss := l.map avaCells) ho rfl (by simp) (fun g hg => (ho.lt g hg).1) fun i v x hi hx => ?_⟩
  rw [List.getElem?_map, hx] at hi
  simpa [Elem.ava, avaCells] using hi.symm
theorem infoAva : (Tryz.prog.info? 129).map (fun i => (i.zero, i.size, i.bytes)) = some (some (.agg #[.string ByteArray.empty, .string ByteArray.empty]), 2, 32) := by kernel_rfl
theorem rinfoAva : (Tryz.prog.info? 153).map (fun i => (i.zero, i.size, i.bytes)) = some (some (.agg #[.string ByteArray.empty, .string ByteArray.empty]), 2, 32) := by kernel_rfl
theorem ava_cells_one (l : List Ava) : ∀ u ∈ (l.map avaCells).flatten, u.oneCell' = true := by
  intro u hu
  obtain ⟨l', h1, h2⟩ := List.mem_flatten.1 hu
  obtain ⟨x, _, rfl⟩ := List.mem_map.1 h1
  simp only [avaCells, List.mem_cons, List.not_mem_nil, or_false] at h2
  rcases h2 with rfl | rfl <;> rfl
section
variable {w w0 : World} {ops : Array Oper} {rest : List Oper} {o : Oper} {a : Act} {Q : Exit → Act → World → Prop} {K : Act → World → Prop}
theorem append_avas_wp (s x : Operand) (ho : o.op = .call { callee := .builtin .append, args := #[s, x], argTypes := #[109, 109] })
    (v : Value) (l : List Ava) (hs : a.eval s = v) (hg : GrowA 129 w0 w v l) (A : Option Addr) (m c : Nat) (ys : List Ava) (hx : a.eval x = .slice A m c) (hm : m = ys.length) (hy : Cells w A (ys.map avaCells).flatten)
    (hb : l.length + m ≤ 4398046511104) (h : ∀ v' w', GrowA 129 w0 w' v' (l ++ ys) → Below w0.heap.size w w' → K (a.put o.dst v') w') : o.wp Tryz.prog a w K Q := by
  refine wp_append_sz s x 109 ho w0.heap.size 129 (.agg #[.string ByteArray.empty, .string ByteArray.empty]) 2 32 Tryz.underlying109 infoAva rfl (by decide) v l.length (l.map avaCells).flatten hs hg.own A m c (ys.map avaCells).flatten hx (by rw [avaCells_len, hm]) hy (ava_cells_one ys) (by simp [maxLen]; omega) (by omega) (ext_sz hg.ext) ?_
  intro v' w' h1 h2 _
  have hb := below_grown hg.own h2 (ext_sz hg.ext) (Nat.le_refl _)
  refine h v' w' ⟨?_, Below.trans hg.ext hb⟩ hb
  rw [List.length_append, ← hm, List.map_append, List.flatten_append]
  exact h1
theorem append_avas (hgd : o.guard = none) (s x : Operand) (ho : o.op = .call { callee := .builtin .append, args := #[s, x], argTypes := #[109, 109] })
    (v : Value) (l : List Ava) (hs : a.eval s = v) (hg : GrowA 129 w0 w v l) (A : Option Addr) (m c : Nat) (ys : List Ava) (hx : a.eval x = .slice A m c) (hm : m = ys.length) (hy : Cells w A (ys.map avaCells).flatten)
    (hb : l.length + m ≤ 4398046511104) (h : ∀ v' w', GrowA 129 w0 w' v' (l ++ ys) → wpList Tryz.prog ops Q rest (a.put o.dst v') w') : wpList Tryz.prog ops Q (o :: rest) a w :=
  wpList_plain hgd fun _ hK => append_avas_wp s x ho v l hs hg A m c ys hx hm hy hb fun v' w' h1 _ => hK _ _ (h v' w' h1)
theorem rappend_avas_wp (s x : Operand) (ho : o.op = .call { callee := .builtin .append, args := #[s, x], argTypes := #[115, 115] })
    (v : Value) (l : List Ava) (hs : a.eval s = v) (hg : GrowA 153 w0 w v l) (A : Option Addr) (m c : Nat) (ys : List Ava) (hx : a.eval x = .slice A m c) (hm : m = ys.length) (hy : Cells w A (ys.map avaCells).flatten)
    (hb : l.length + m ≤ 4398046511104) (h : ∀ v' w', GrowA 153 w0 w' v' (l ++ ys) → Below w0.heap.size w w' → K (a.put o.dst v') w') : o.wp Tryz.prog a w K Q := by
  refine wp_append_sz s x 115 ho w0.heap.size 153 (.agg #[.string ByteArray.empty, .string ByteArray.empty]) 2 32 Tryz.underlying115 rinfoAva rfl (by decide) v l.length (l.map avaCells).flatten hs hg.own A m c (ys.map avaCells).flatten hx (by rw [avaCells_len, hm]) hy (ava_cells_one ys) (by simp [maxLen]; omega) (by omega) (ext_sz hg.ext) ?_
  intro v' w' h1 h2 _
  have hb := below_grown hg.own h2 (ext_sz hg.ext) (Nat.le_refl _)
  refine h v' w' ⟨?_, Below.trans hg.ext hb⟩ hb
  rw [List.length_append, ← hm, List.map_append, List.flatten_append]
  exact h1
theorem rappend_avas (hgd : o.guard = none) (s x : Operand) (ho : o.op = .call { callee := .builtin .append, args := #[s, x], argTypes := #[115, 115] })
    (v : Value) (l : List Ava) (hs : a.eval s = v) (hg : GrowA 153 w0 w v l) (A : Option Addr) (m c : Nat) (ys : List Ava) (hx : a.eval x = .slice A m c) (hm : m = ys.length) (hy : Cells w A (ys.map avaCells).flatten)
    (hb : l.length + m ≤ 4398046511104) (h : ∀ v' w', GrowA 153 w0 w' v' (l ++ ys) → wpList Tryz.prog ops Q rest (a.put o.dst v') w') : wpList Tryz.prog ops Q (o :: rest) a w :=
  wpList_plain hgd fun _ hK => rappend_avas_wp s x ho v l hs hg A m c ys hx hm hy hb fun v' w' h1 _ => hK _ _ (h v' w' h1)
end
theorem row_cells {S : Nat → Prop} {w : World} {A : Option Addr} {n c : Nat} {l : List Ava} (h : Row Elem.ava S w A n c l) : Cells w A (l.map avaCells).flatten := by
  obtain ⟨h1, h2, h3, vss, h4, h5, h6⟩ := h
  have e : vss = l.map avaCells := by
    apply List.ext_getElem?
    intro i
    rw [List.getElem?_map]
    cases hv : vss[i]? with
    | none =>
      have : l[i]? = none := by rw [List.getElem?_eq_none_iff] at hv ⊢; omega
      rw [this]; rfl
    | some v =>
      have hi := (List.getElem?_eq_some_iff.1 hv).1
      have hx : l[i]? = some l[i] := List.getElem?_eq_getElem (by omega)
      rw [hx, Option.map_some]
      exact congrArg some (h6 i v _ hv hx)
  rw [← e]
  exact h5.cells
/-- '[]AVA{x}' as a source. -/
theorem lit_ava1 (w : World) (x : Ava) (t : TypeId) : Cells (w.alloc (.cells #[.string (str x.type), .string (str x.val)] t)) (some ⟨w.heap.size, 0, none⟩) ([x].map avaCells).flatten := by
  refine .inr ⟨w.heap.size, 0, rfl, fun j u hj => ?_⟩
  rw [Nat.zero_add, box_a]
  simpa [avaCells] using hj
/-- A pair of a row. -/
theorem ava_at {S : Nat → Prop} {w : World} {A : Option Addr} {n c : Nat} {l : List Ava} (h : Row Elem.ava S w A n c l) {i : Nat} (hi : i < n) :
    ∃ b o x, A = some ⟨b, o, none⟩ ∧ l[i]? = some x ∧ w.cell? ⟨b, o + i * 2, none⟩ = some (.string (str x.type)) ∧ w.cell? ⟨b, o + i * 2 + 1, none⟩ = some (.string (str x.val)) := by
  obtain ⟨b, o, v, x, rfl, h1, -, rfl, h2⟩ := h.at_ hi
  exact ⟨b, o, x, rfl, h1, h2 0 _ rfl, h2 1 _ rfl⟩
end Go.Proofs.YtencmdpjiafnaaaGreatDoor
/- Rows of pairs of the call's own: their cells, and stores into them. -/
namespace Go.Proofs.YtencmdpjiafnaaaGreatDoor
open Go.RowKit
set_option maxRecDepth 100000
set_option linter.unusedSimpArgs false

theorem flat_at0 {l : List Ava} {j : Nat} {x : Ava} (h : l[j]? = some x) : (l.map avaCells).flatten[j * 2]? = some (.string (str x.type)) := by
  have := flatten_at (k := 2) (vss := l.map avaCells) (by intro v hv; obtain ⟨y, _, rfl⟩ := List.mem_map.1 hv; rfl) (i := j) (j := 0) (v := avaCells x) (u := .string (str x.type)) (by rw [List.getElem?_map, h]; rfl) rfl
  simpa using this
theorem flat_at1 {l : List Ava} {j : Nat} {x : Ava} (h : l[j]? = some x) : (l.map avaCells).flatten[j * 2 + 1]? = some (.string (str x.val)) :=
  flatten_at (k := 2) (vss := l.map avaCells) (by intro v hv; obtain ⟨y, _, rfl⟩ := List.mem_map.1 hv; rfl) (i := j) (j := 1) (v := avaCells x) (u := .string (str x.val)) (by rw [List.getElem?_map, h]; rfl) rfl
theorem flat_set0 : ∀ {l : List Ava} {j : Nat} {x : Ava} (t : List UInt8), l[j]? = some x → (l.map avaCells).flatten.set (j * 2) (.string (str t)) = ((l.set j ⟨t, x.val⟩).map avaCells).flatten
  | [], j, x, t, h => by simp at h
  | a :: l, 0, x, t, h => by simp at h; subst h; rfl
  | a :: l, j + 1, x, t, h => by
    have := flat_set0 (l := l) (j := j) t (by simpa using h)
    simp only [List.map_cons, List.flatten_cons, List.set_cons_succ, ← this]
    rw [List.set_append_right _ _ (by simp [avaCells]; omega)]
    congr 2
    simp [avaCells]; omega
theorem flat_set1 : ∀ {l : List Ava} {j : Nat} {x : Ava} (t : List UInt8), l[j]? = some x → (l.map avaCells).flatten.set (j * 2 + 1) (.string (str t)) = ((l.set j ⟨x.type, t⟩).map avaCells).flatten
  | [], j, x, t, h => by simp at h
  | a :: l, 0, x, t, h => by simp at h; subst h; rfl
  | a :: l, j + 1, x, t, h => by
    have := flat_set1 (l := l) (j := j) t (by simpa using h)
    simp only [List.map_cons, List.flatten_cons, List.set_cons_succ, ← this]
    rw [List.set_append_right _ _ (by simp [avaCells]; omega)]
    congr 2
    simp [avaCells]; omega
section
variable {T : TypeId} {w wr w' : World} {v : Value} {l : List Ava} {g n cap : Nat}
theorem GrowA.lt (h : GrowA T w wr (.slice (some ⟨g, 0, none⟩) n cap) l) : g < wr.heap.size := (h.own.lt g rfl).2
theorem GrowA.new (h : GrowA T w wr (.slice (some ⟨g, 0, none⟩) n cap) l) : w.heap.size ≤ g := (h.own.lt g rfl).1
theorem GrowA.form (h : GrowA T w wr v l) (hl : 0 < l.length) : ∃ g cap, v = .slice (some ⟨g, 0, none⟩) l.length cap ∧ l.length ≤ cap ∧ cap ≤ maxLen := by
  rcases h.own.2 with ⟨h', h0⟩ | ⟨g, cap, cur, h', hb, hg, hnc, hcm, hcs, htake⟩
  · omega
  · exact ⟨g, cap, h', hnc, hcm⟩
theorem GrowA.n_eq {A : Option Addr} (h : GrowA T w wr (.slice A n cap) l) : n = l.length := by
  rcases h.own.2 with ⟨h', h0⟩ | ⟨g, cap, cur, h', hb, hg, hnc, hcm, hcs, htake⟩
  · injection h' with _ h2 _; rw [h0]; exact h2
  · injection h' with _ h2 _
theorem GrowA.own' {A : Option Addr} (h : GrowA T w wr (.slice A n cap) l) : wr.ownsRow w.heap.size T 2 (.slice A n cap) n (l.map avaCells).flatten := by
  have := h.own
  rwa [← h.n_eq] at this
theorem GrowA.at0 (h : GrowA T w wr (.slice (some ⟨g, 0, none⟩) n cap) l) {j : Nat} {x : Ava} (hj : l[j]? = some x) : wr.cell? ⟨g, j * 2, none⟩ = some (.string (str x.type)) := by
  have hl := (List.getElem?_eq_some_iff.1 hj).1
  rw [h.own'.cellAt (j * 2) (by rw [h.n_eq]; omega)]
  exact flat_at0 hj
theorem GrowA.at1 (h : GrowA T w wr (.slice (some ⟨g, 0, none⟩) n cap) l) {j : Nat} {x : Ava} (hj : l[j]? = some x) : wr.cell? ⟨g, j * 2 + 1, none⟩ = some (.string (str x.val)) := by
  have hl := (List.getElem?_eq_some_iff.1 hj).1
  rw [h.own'.cellAt (j * 2 + 1) (by rw [h.n_eq]; omega)]
  exact flat_at1 hj
theorem GrowA.thaw (h : GrowA T w wr (.slice (some ⟨g, 0, none⟩) n cap) l) (j : Nat) : wr.frozen? ⟨g, j, none⟩ = false := h.own'.frozenAt j
theorem GrowA.set0 (h : GrowA T w wr (.slice (some ⟨g, 0, none⟩) n cap) l) {j : Nat} {x : Ava} (hj : l[j]? = some x) (t : List UInt8) :
    GrowA T w (wr.setCell ⟨g, j * 2, none⟩ (.string (str t))) (.slice (some ⟨g, 0, none⟩) n cap) (l.set j ⟨t, x.val⟩) := by
  obtain ⟨h1, h2⟩ := h.own'.stored (j * 2) (.string (str t))
  refine ⟨?_, h.ext.setCell h.new _⟩
  rw [flat_set0 t hj] at h1
  rw [List.length_set, ← h.n_eq]
  exact h1
theorem GrowA.set1 (h : GrowA T w wr (.slice (some ⟨g, 0, none⟩) n cap) l) {j : Nat} {x : Ava} (hj : l[j]? = some x) (t : List UInt8) :
    GrowA T w (wr.setCell ⟨g, j * 2 + 1, none⟩ (.string (str t))) (.slice (some ⟨g, 0, none⟩) n cap) (l.set j ⟨x.type, t⟩) := by
  obtain ⟨h1, h2⟩ := h.own'.stored (j * 2 + 1) (.string (str t))
  refine ⟨?_, h.ext.setCell h.new _⟩
  rw [flat_set1 t hj] at h1
  rw [List.length_set, ← h.n_eq]
  exact h1
/-- A whole pair is written. -/
theorem GrowA.put (h : GrowA T w wr (.slice (some ⟨g, 0, none⟩) n cap) l) {j : Nat} (hj : j < l.length) (x : Ava) :
    GrowA T w ((wr.setCell ⟨g, j * 2, none⟩ (.string (str x.type))).setCell ⟨g, j * 2 + 1, none⟩ (.string (str x.val))) (.slice (some ⟨g, 0, none⟩) n cap) (l.set j x) := by
  have h1 := h.set0 (List.getElem?_eq_getElem hj) x.type
  have h2 := h1.set1 (j := j) (x := ⟨x.type, l[j].val⟩) (by rw [List.getElem?_set_self hj]) x.val
  rw [List.set_set] at h2
  exact h2
end
end Go.Proofs.YtencmdpjiafnaaaGreatDoor
/- The walks of rule's words and of the reference's text. -/
namespace Go.Proofs.YtencmdpjiafnaaaGreatDoor
open Go.RowKit
set_option maxRecDepth 100000
set_option linter.unusedSimpArgs false

/-- What strings.Split at a blank answers: the premise is the library's contract. -/
def SplitSays : Prop := ∀ (s : ByteArray) (w : World), Gl w → s.size ≤ 4000000 → Calls Tryz.prog 232 #[.string s, .string ⟨#[32]⟩] w fun e w' =>
  ∃ A n, e = .returned (.slice A n n) ∧ Row Elem.str (fun _ => True) w' A n n (strs (splitSp [] (bys s))) ∧ Ext w w'
theorem splitSp_length : ∀ (l cur : List UInt8), (splitSp cur l).length ≤ l.length + 1
  | [], cur => by simp [splitSp]
  | c :: t, cur => by
    unfold splitSp
    split
    · have := splitSp_length t []; simp; omega
    · have := splitSp_length t (cur ++ [c]); simp; omega
def wordsS (l : List ByteArray) : List ByteArray := l.filter (fun x => decide (x.size ≠ 0))
theorem wordsS_strs (l : List (List UInt8)) : wordsS (strs l) = strs (l.filter (fun x => decide (x ≠ []))) := by
  unfold wordsS
  induction l with
  | nil => rfl
  | cons x t ih =>
    show List.filter _ (str x :: strs t) = _
    rw [List.filter_cons, List.filter_cons, ih]
    cases x with
    | nil => rfl
    | cons c r => rfl
theorem wordsS_take {l : List ByteArray} {j : Nat} {x : ByteArray} (h : l[j]? = some x) : wordsS (l.take (j + 1)) = if x.size = 0 then wordsS (l.take j) else wordsS (l.take j) ++ [x] := by
  unfold wordsS
  rw [List.take_add_one, h, List.filter_append]
  show _ ++ List.filter _ [x] = _
  rw [List.filter_cons, List.filter_nil]
  by_cases h0 : x.size = 0
  · rw [if_pos h0, decide_eq_false (not_not_intro h0), if_neg (by decide), List.append_nil]
  · rw [if_neg h0, decide_eq_true h0, if_pos rfl]
theorem wordsS_length (l : List ByteArray) : (wordsS l).length ≤ l.length := List.length_filter_le _ _
set_option maxHeartbeats 1000000 in
theorem words_any (HSp : SplitSays) (s : ByteArray) (w : World) (hG : Gl w) (hs : s.size ≤ 4000000) :
    Calls Tryz.prog 212 #[.string s] w fun e w' => ∃ v, e = .returned v ∧ GrowS w w' v (strs (wordsB (bys s))) := by
  have Hs := hid hs
  have HG := hid hG
  have HSP := hid HSp
  unfold SplitSays at HSP
  clear hs hG HSp
  go_enter Tryz.func212, Tryz.ntmps212
  go_wp2_with (go_at_call 232; (with_reducible refine (HSP.out s _ HG.out Hs.out).mono ?_); rintro e w1 ⟨A1, n1, rfl, hr1, hx1⟩; have HR1 := hid hr1; have HX1 := hid hx1; clear hr1 hx1)
  have hn1 : n1 ≤ 4000001 := by have h1 := HR1.out.len; have h2 := splitSp_length (bys s) []; have h3 := Hs.out; rw [List.length_map] at h1; rw [bys_len] at h2; omega
  have HL : Hid (strs (wordsB (bys s)) = wordsS (strs (splitSp [] (bys s)))) := by show _ = _; rw [wordsS_strs]; rfl
  generalize strs (splitSp [] (bys s)) = l at *
  go_loopw [3, 9] (fun v i wr => ∃ j : Nat, j ≤ n1 ∧ i = .int .i64 j ∧ Hid (GrowS w1 wr v (wordsS (l.take j)))) (fun _ i _ => n1 - (intOf i).toNat)
  case atStart => exact ⟨0, by omega, rfl, GrowS.nil (Ext.refl _)⟩
  case round =>
    obtain ⟨j, hj, rfl, HW⟩ := hrel
    by_cases hlt : j < n1
    · obtain ⟨b1, o1, v1, x1, rfl, g1, -, hv1, q1⟩ := (HR1.out.ext HW.out.ext).at_ hlt
      subst hv1
      have e1 := q1 0 _ rfl
      simp only [Elem.str, Nat.add_zero, Nat.mul_one] at e1
      have G1 := hid g1
      clear q1 g1
      by_cases h0 : x1.size = 0
      · have t0 := emp_yes h0
        have HH : Hid (wordsS (l.take (j + 1)) = wordsS (l.take j)) := by show _ = _; rw [wordsS_take G1.out, if_pos h0]
        clear h0
        go_wp2
        refine ⟨⟨j + 1, by omega, by go_num, ?_⟩, by simp [intOf]; omega⟩
        rw [HH.out]; exact HW
      · have t0 := emp_nb h0
        have HH : Hid (wordsS (l.take (j + 1)) = wordsS (l.take j) ++ [x1]) := by show _ = _; rw [wordsS_take G1.out, if_neg h0]
        clear h0
        go_wp2_with (at_builtin; refine append_str1 rfl _ _ rfl _ _ rfl HW.out rfl (by have := wordsS_length (l.take j); have h2 := List.length_take_le j l; omega) ?_; intro v' w3 hg3; have HG3 := hid hg3; clear hg3)
        refine ⟨⟨j + 1, by omega, by go_num, ?_⟩, by simp [intOf]; omega⟩
        rw [HH.out]; exact HG3
    · obtain rfl : j = n1 := by omega
      have hall : Hid (wordsS (l.take j) = wordsS l) := by show _ = _; rw [List.take_of_length_le (Nat.le_of_eq HR1.out.len.symm)]
      go_wp2
      go_ret
      refine ⟨_, rfl, ?_⟩
      rw [HL.out, ← hall.out]
      exact HW.out.base HX1.out
/-- What the reference's text answers. -/
def textR (v : List UInt8) : List UInt8 := if (0 : UInt8) ∈ lowerB v then [] else refSq [] false (lowerB v)
theorem textR_some (v : List UInt8) : textN v = if textR v = [] then none else some (textR v) := by
  rw [textN_ref]
  unfold textR
  by_cases h : (0 : UInt8) ∈ lowerB v
  · rw [if_pos (.inr h), if_pos h, if_pos rfl]
  · rw [if_neg h]
    by_cases h2 : refSq [] false (lowerB v) = []
    · rw [if_pos (.inl h2), if_pos h2]
    · rw [if_neg (by rintro (h3 | h3); exact h2 h3; exact h h3), if_neg h2]
set_option maxHeartbeats 1000000 in
theorem rtext_any (s : ByteArray) (w : World) (hs : s.size ≤ 4000000) :
    Calls Tryz.prog 167 #[.string s] w fun e w' => e = .returned (.string (str (textR (bys s)))) ∧ Ext w w' := by
  have Hs := hid hs
  have hml : (lowerB (bys s)).length ≤ 4000000 := by unfold lowerB; rw [List.length_map, bys_len]; exact hs
  have HT : Hid (textR (bys s) = if (0 : UInt8) ∈ lowerB (bys s) then [] else refSq [] false (lowerB (bys s))) := rfl
  have HL : ∀ w : World, Calls Tryz.prog 165 #[.string s] w fun e w' => e = .returned (.string (str (lowerB (bys s)))) ∧ Ext w w' := fun w => rlower_any s w (by have := Hs.out; simp only [maxLen]; omega)
  generalize lowerB (bys s) = m at *
  have HS := str_size m
  clear hs
  go_enter Tryz.func167, Tryz.ntmps167
  go_wp2_with (go_at_call 165; (with_reducible refine (HL _).mono ?_); rintro e w3 ⟨rfl, hx3⟩)
  have HX3 := hid hx3
  clear hx3 HL
  go_loopw [3, 4, 6] (fun v g i wr => ∃ (j : Nat) (out : List UInt8) (gap : Bool), j ≤ m.length ∧ out.length ≤ 2 * j ∧ i = .int .i64 j ∧ g = .bool gap ∧ Hid (GrowB w wr v out) ∧ Hid (refSq out gap (m.drop j) = refSq [] false m) ∧ Hid ((0 : UInt8) ∉ m.take j)) (fun _ _ i _ => m.length - (intOf i).toNat)
  case atStart => exact ⟨0, [], false, by omega, by simp, rfl, rfl, GrowB.nil HX3.out, by rw [List.drop_zero]; rfl, by simp [Hid]⟩
  case round =>
    obtain ⟨j, out, gap, hj, ho, rfl, rfl, HG, HR, HZ⟩ := hrel
    by_cases hlt : j < m.length
    · obtain ⟨x, hx⟩ : ∃ x, m[j]? = some x := ⟨m[j], List.getElem?_eq_getElem hlt⟩
      have e1 := str_get hx (by rw [str_size]; exact hlt)
      have hd : Hid (m.drop j = x :: m.drop (j + 1)) := by
        show _ = _
        obtain ⟨h1, h2⟩ := List.getElem?_eq_some_iff.1 hx
        rw [List.drop_eq_getElem_cons h1, h2]
      have htk : Hid (m.take (j + 1) = m.take j ++ [x]) := by show _ = _; rw [List.take_add_one, hx]; rfl
      have hmem : Hid (x ∈ m) := List.mem_of_getElem? hx
      clear hx
      by_cases h0 : x = 0
      · have t0 : ((x.toNat : Int) == 0) = true := byte_is (k := 0) (by decide) h0
        have HH : Hid (textR (bys s) = []) := by show _ = _; rw [HT.out, if_pos (by rw [← h0]; exact hmem.out)]
        clear h0
        go_wp2
        go_ret
        exact ⟨by rw [HH.out]; rfl, HG.out.ext⟩
      · have t0 : ((x.toNat : Int) == 0) = false := byte_isnt (k := 0) h0
        have HZ2 : Hid ((0 : UInt8) ∉ m.take (j + 1)) := by show ¬ _; rw [htk.out, List.mem_append]; rintro (h | h); exact HZ.out h; simp at h; exact h0 h.symm
        clear h0
        by_cases h32 : x = 32
        · have t1 : ((x.toNat : Int) == 32) = true := byte_is (k := 32) (by decide) h32
          have HH : Hid (refSq out true (m.drop (j + 1)) = refSq [] false m) := by show _ = _; rw [← HR.out, hd.out, refSq, if_pos h32]
          clear h32
          go_wp2
          exact ⟨⟨j + 1, out, true, by omega, by omega, by go_num, rfl, HG, HH, HZ2⟩, by simp [intOf]; omega⟩
        · have t1 : ((x.toNat : Int) == 32) = false := byte_isnt (k := 32) h32
          have hlo : out.length ≤ 8000000 := by omega
          obtain ⟨A1, c1, rfl, -⟩ := HG.out.sl
          by_cases hgo : gap = true ∧ out ≠ []
          · obtain ⟨rfl, hne⟩ := hgo
            have hpos : (0 : Int) < (out.length : Int) := by have := List.length_pos_iff.2 hne; omega
            have HH : Hid (refSq (out ++ [32] ++ [x]) false (m.drop (j + 1)) = refSq [] false m) := by show _ = _; rw [← HR.out, hd.out, refSq, if_neg h32]; simp [hne]
            clear h32 hne
            go_wp2_with (at_builtin; first
              | (refine append_grow rfl _ _ rfl _ _ rfl (HG1.out.later (Ext.alloc _ _)) _ 1 1 [x] rfl (sl_char _ x) (by simp; omega) ?_; intro v' w5 hg5; have HG5 := hid hg5; clear hg5)
              | (refine append_grow rfl _ _ rfl _ _ rfl (HG.out.later (Ext.alloc _ _)) _ 1 1 [32] rfl (sl_char _ 32) (by omega) ?_; intro v' w4 hg4; have HG1 := hid hg4; clear hg4))
            exact ⟨⟨j + 1, _, false, by omega, by simp; omega, by go_num, rfl, HG5, HH, HZ2⟩, by simp [intOf]; omega⟩
          · have HH : Hid (refSq (out ++ [x]) false (m.drop (j + 1)) = refSq [] false m) := by
              show _ = _
              rw [← HR.out, hd.out, refSq, if_neg h32, if_neg (by simpa using hgo)]
            clear h32
            by_cases hg1 : gap = true
            · subst hg1
              have hz : ¬ (0 : Int) < (out.length : Int) := by
                have : out = [] := by simpa using hgo
                subst this; simp
              clear hgo
              go_wp2_with (at_builtin; refine append_grow rfl _ _ rfl _ _ rfl (HG.out.later (Ext.alloc _ _)) _ 1 1 [x] rfl (sl_char _ x) (by omega) ?_; intro v' w5 hg5; have HG5 := hid hg5; clear hg5)
              exact ⟨⟨j + 1, _, false, by omega, by simp; omega, by go_num, rfl, HG5, HH, HZ2⟩, by simp [intOf]; omega⟩
            · have hg2 : gap = false := by simpa using hg1
              subst hg2
              clear hgo hg1
              go_wp2_with (at_builtin; refine append_grow rfl _ _ rfl _ _ rfl (HG.out.later (Ext.alloc _ _)) _ 1 1 [x] rfl (sl_char _ x) (by omega) ?_; intro v' w5 hg5; have HG5 := hid hg5; clear hg5)
              exact ⟨⟨j + 1, _, false, by omega, by simp; omega, by go_num, rfl, HG5, HH, HZ2⟩, by simp [intOf]; omega⟩
    · obtain rfl : j = m.length := by omega
      obtain ⟨A1, c1, rfl, hs1⟩ := HG.out.sl
      have hC := hs1.conv wr (Ext.refl wr)
      have HH : Hid (textR (bys s) = out) := by
        show _ = _
        rw [HT.out, if_neg (by have := HZ.out; rwa [List.take_length] at this), ← HR.out, List.drop_length]; rfl
      clear hs1
      go_wp2
      go_ret
      exact ⟨by rw [HH.out]; rfl, HG.out.ext⟩
end Go.Proofs.YtencmdpjiafnaaaGreatDoor
