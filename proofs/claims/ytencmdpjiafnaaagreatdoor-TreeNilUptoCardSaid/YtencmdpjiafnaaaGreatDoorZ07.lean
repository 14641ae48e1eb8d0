import Derived.Test.YtencmdpjiafnaaaGreatDoorZ06
/- append onto a row of the call's own, elements of any size; at an operation. Nothing of the program is named. -/
namespace Go.Proofs.YtencmdpjiafnaaaGreatDoor
open Go.RowKit

section
variable {P : Program} {w : World} {o : Oper} {a : Act} {K : Act → World → Prop} {Q : Exit → Act → World → Prop}
theorem run_append_sz (w : World) (base : Nat) (t ty e : TypeId) (i : TypeInfo) (z : Value) (size bytes : Nat) (ht : P.underlying t = some (.slice e)) (hi : P.info? e = some i) (hz : i.zero = some z)
    (hsize : i.size = size) (hby : i.bytes = bytes) (hzs : z.cells.size = size) (hsz : 0 < size)
    (v : Value) (n : Nat) (xs : List Value) (hown : w.ownsRow base e size v n xs)
    (A : Option Addr) (m c : Nat) (news : List Value) (hm : news.length = m * size) (hr : Cells w A news) (h1 : ∀ u ∈ news, u.oneCell' = true)
    (h63 : n + m ≤ maxLen) (hbytes : (n + m) * bytes ≤ 140737488355328) (hbase : base ≤ w.heap.size) :
    ∃ v' w', (Builtin.append_ #[t, t] ty #[v, .slice A m c]).run P w = .ok v' w' ∧ w'.ownsRow base e size v' (n + m) (xs ++ news) ∧ w.grownBy w' v.ownBlock ∧
      (v'.ownBlock = v.ownBlock ∨ v'.ownBlock = some w.heap.size) := by
  rcases A with _ | ad
  · have hn : news = [] := by
      rcases hr with h | ⟨b, off, h, _⟩
      · exact h
      · cases h
    subst hn
    have hm0 : m = 0 := by
      rcases Nat.eq_zero_or_pos m with h | h
      · exact h
      · have := Nat.mul_pos h hsz
        simp at hm
        omega
    subst hm0
    refine ⟨v, w, ?_, by simpa using hown, World.grownBy.refl w _, .inl rfl⟩
    rcases hown.2 with ⟨rfl, rfl⟩ | ⟨g, cap, cur, rfl, _, _, hnc, _⟩
    · simp [Builtin.append_, run_underlying ht, sizeOf, typeInfo, hi, Builtin.lenOf, Builtin.firstCells]
    · simp [Builtin.append_, run_underlying ht, sizeOf, typeInfo, hi, Builtin.lenOf, Builtin.firstCells, hnc, storeCells]
  · have hcells : ∀ j u, news[j]? = some u → w.cell? (ad.add j) = some u := by
      intro j u hu
      rcases hr with h | ⟨b, off, h, hc⟩
      · subst h; simp at hu
      · injection h with h
        subst h
        rw [addr_add]
        exact hc j u hu
    obtain ⟨v', w', hrun, h2, h3, _, h5⟩ := run_append_own_at (P := P) w base t ty e i z size bytes ht hi hz hsize hby hzs hsz v n xs hown ad m c news hm hcells h1 h63 hbytes hbase
    exact ⟨v', w', hrun, h2, h3, h5⟩
theorem wp_append_sz (s x : Operand) (t : TypeId)
    (ho : o.op = .call { callee := .builtin .append, args := #[s, x], argTypes := #[t, t] })
    (base : Nat) (e : TypeId) (z : Value) (size bytes : Nat) (ht : P.underlying t = some (.slice e)) (hinf : (P.info? e).map (fun i => (i.zero, i.size, i.bytes)) = some (some z, size, bytes)) (hzs : z.cells.size = size) (hsz : 0 < size)
    (v : Value) (n : Nat) (xs : List Value) (hs : a.eval s = v) (hown : w.ownsRow base e size v n xs)
    (A : Option Addr) (m c : Nat) (news : List Value) (hx : a.eval x = .slice A m c) (hm : news.length = m * size) (hr : Cells w A news) (h1 : ∀ u ∈ news, u.oneCell' = true)
    (h63 : n + m ≤ maxLen) (hbytes : (n + m) * bytes ≤ 140737488355328) (hbase : base ≤ w.heap.size)
    (h : ∀ v' w', w'.ownsRow base e size v' (n + m) (xs ++ news) → w.grownBy w' v.ownBlock → (v'.ownBlock = v.ownBlock ∨ v'.ownBlock = some w.heap.size) → K (a.put o.dst v') w') : o.wp P a w K Q := by
  obtain ⟨i, hi, hz0, hz1, hz2⟩ := info_parts hinf
  obtain ⟨v', w', hrun, h2, h3, h4⟩ := run_append_sz (P := P) w base t o.type e i z size bytes ht hi hz0 hz1 hz2 hzs hsz v n xs hown A m c news hm hr h1 h63 hbytes hbase
  unfold Oper.wp execOp
  simp only [ho, resolve, invoke, builtin, Sem.run_bind, Sem.run_pure, Result.andThen_ok, List.map_toArray, List.map_cons, List.map_nil, hs, hx, hrun]
  exact h v' w' h2 h3 h4
end
/-- An empty row of the call's own, as a literal '[]T{}' makes it. -/
theorem own_empty (w : World) (base : Nat) (hb : base ≤ w.heap.size) (e : TypeId) (size : Nat) : (w.alloc (.cells #[] e)).ownsRow base e size (.slice (some ⟨w.heap.size, 0, none⟩) 0 0) 0 [] :=
  ⟨by simp, .inr ⟨w.heap.size, 0, #[], rfl, hb, heap_alloc_new w _, Nat.le_refl _, by simp [maxLen], by simp, by simp⟩⟩

section
variable {P : Program} {w : World} {o : Oper} {a : Act} {K : Act → World → Prop} {Q : Exit → Act → World → Prop}
theorem wp_alloc' (T : TypeId) (ho : o.op = .alloc T) (z : Value) (hz : ∀ w, (zeroValue T).run P w = .ok z w)
    (h : ∀ g w', g = w.heap.size → Ext w w' → w'.heap.size = g + 1 → w'.heap[g]? = some (.cells z.cells T (0, 0)) → K (a.put o.dst (.pointer (some ⟨g, 0, none⟩))) w') : o.wp P a w K Q :=
  wp_alloc T ho z hz (h _ _ rfl (Ext.alloc _ _) (by simp) (heap_alloc_new w _))
theorem wp_store' (T : TypeId) (x y : Operand) (ho : o.op = .store T x y) (g off : Nat) (hx : a.eval x = .pointer (some ⟨g, off, none⟩)) (v : Value) (hy : a.eval y = v) (t : TypeId) (cur : Array Value)
    (hg : w.heap[g]? = some (.cells cur t (0, 0))) (hsz : (P.info? T).map (·.size) = some v.cells.size) (hfit : off + v.cells.size ≤ cur.size) (h1 : ∀ u ∈ v.cells.toList, u.oneCell' = true)
    (h : ∀ w', w.grownBy w' (some g) → w'.heap[g]? = some (.cells (over cur off v) t (0, 0)) → K (a.put o.dst undef) w') : o.wp P a w K Q :=
  wp_store_at T x y ho g off hx v hy t cur hg hsz hfit h1 (h _
    ⟨rfl, rfl, rfl, by simp [World.setRow], fun b _ hne => by
      have hb : ¬ g = b := fun e => hne (by rw [e])
      simp [World.setRow, Array.getElem?_modify, hb]⟩ (setRow_heap w g cur _ t _ hg))
end
theorem wp_load_cell {P : Program} {w : World} {o : Oper} {a : Act} {K : Act → World → Prop} {Q : Exit → Act → World → Prop} (T : TypeId) (x : Operand) (ho : o.op = .load T x) (p : Addr) (hx : a.eval x = .pointer (some p)) (v : Value) (hc : w.cell? p = some v) (hT : ∀ w, (isAgg T).run P w = .ok false w)
    (h : K (a.put o.dst v) w) : o.wp P a w K Q := by
  have hr : (execOp a.eval o).run P w = .ok (.value v) w := by
    unfold execOp
    simp only [ho, hx, Instr.loadAt, Instr.sureAddr, loadVar, Sem.run_bind, Sem.run_pure, Result.andThen_ok, hT]
    simp [run_load, hc]
  unfold Oper.wp
  rw [hr]
  exact h
theorem ext_sz {w w' : World} (h : Ext w w') : w.heap.size ≤ w'.heap.size := h.size
theorem row_later' {w w1 : World} {g : Nat} {cs : Array Value} {T : TypeId} (h : w.heap[g]? = some (.cells cs T (0, 0))) (hx : Ext w w1) : w1.heap[g]? = some (.cells cs T (0, 0)) :=
  (hx.block g (Array.getElem?_eq_some_iff.1 h).1).trans h
theorem row_grown {w w1 : World} {g : Nat} {cs : Array Value} {T : TypeId} {r : Option Nat} (h : w.heap[g]? = some (.cells cs T (0, 0))) (hx : w.grownBy w1 r) (hn : some g ≠ r) : w1.heap[g]? = some (.cells cs T (0, 0)) :=
  (hx.block g (Array.getElem?_eq_some_iff.1 h).1 hn).trans h
theorem row_lt {w : World} {g : Nat} {cs : Array Value} {T : TypeId} (h : w.heap[g]? = some (.cells cs T (0, 0))) : g < w.heap.size := (Array.getElem?_eq_some_iff.1 h).1
theorem below_grown {B : Nat} {w w' : World} {base : Nat} {e : TypeId} {size n : Nat} {v : Value} {xs : List Value} (ho : w.ownsRow base e size v n xs) (hg : w.grownBy w' v.ownBlock) (hb : B ≤ w.heap.size) (hB : B ≤ base) : Below B w w' :=
  (Below.refl B w).grown hg hb (fun k hk => Nat.le_trans hB (ho.lt k hk).1)
theorem below_stored {B : Nat} {w w' : World} {g : Nat} (hg : w.grownBy w' (some g)) (hb : B ≤ w.heap.size) (hB : B ≤ g) : Below B w w' :=
  (Below.refl B w).grown hg hb (fun k hk => by injection hk with hk; omega)
theorem Row.below {α : Type} {E : Elem α} {S : Nat → Prop} {w w' : World} {A : Option Addr} {n c : Nat} {l : List α} {B : Nat} (h : Row E S w A n c l) (hx : Below B w w') (hB : w.heap.size ≤ B) : Row E S w' A n c l :=
  (h.lt.same fun b hb => hx.block b (Nat.lt_of_lt_of_le hb.2 hB)).mono fun _ _ hs => hs.1
theorem own_str {S : Nat → Prop} {w : World} {base : Nat} {e : TypeId} {A : Option Addr} {n c : Nat} {l : List ByteArray} (h : w.ownsRow base e 1 (.slice A n c) n (l.map .string)) (hS : ∀ g, (Value.slice A n c).ownBlock = some g → S g) : Row Elem.str S w A n c l := by
  have hl : n = l.length := by simpa using h.1.symm
  refine ⟨hl, (own_cap h).1, (own_cap h).2, l.map fun s => [.string s], by simp [hl], ?_, fun i v x hi hx => ?_⟩
  · have hfl : ∀ l : List ByteArray, (l.map fun s => [Value.string s]).flatten = l.map .string := fun l => by
      induction l with
      | nil => rfl
      | cons x l ih => simp only [List.map_cons, List.flatten_cons, ih]; rfl
    rw [hfl]
    rcases h.2 with ⟨hv, hn⟩ | ⟨g, cap, cur, hv, hb, hh, hnc, hcm, hsz, htk⟩
    · exact .inl (by rw [hn] at hl; simp [List.length_eq_zero_iff.1 hl.symm])
    · injection hv with hA _ _
      subst hA
      refine .inr ⟨g, 0, rfl, hS g rfl, fun j u hj => ?_⟩
      rw [Nat.zero_add, cell_of_row w g j cur e (0, 0) hh]
      rw [← htk, List.getElem?_take] at hj
      split at hj
      · simpa using hj
      · cases hj
  · rw [List.getElem?_map, hx] at hi
    simp at hi
    exact hi.symm
theorem Row.str_cells {S : Nat → Prop} {w : World} {A : Option Addr} {n c : Nat} {l : List ByteArray} (h : Row Elem.str S w A n c l) : Cells w A (l.map .string) := by
  rcases Nat.eq_zero_or_pos n with h0 | h0
  · exact .inl (by have := h.len; rw [h0] at this; simp [List.length_eq_zero_iff.1 this.symm])
  · obtain ⟨b, off, hA, hc⟩ := h.str_cell h0
    refine .inr ⟨b, off, hA, fun j u hj => ?_⟩
    rw [List.getElem?_map] at hj
    obtain ⟨x, hx, rfl⟩ := Option.map_eq_some_iff.1 hj
    rw [hc j (by rw [h.len]; exact (List.getElem?_eq_some_iff.1 hx).1), hx]
    rfl
/-- A row of the call's own whose elements read as l, within S. -/
theorem own_rows {α : Type} {E : Elem α} {S : Nat → Prop} {w : World} {base : Nat} {e : TypeId} {A : Option Addr} {n c : Nat} {vss : List (List Value)} {l : List α} (h : w.ownsRow base e E.k (.slice A n c) n vss.flatten) (hl : n = l.length) (hv : vss.length = n)
    (hS : ∀ g, (Value.slice A n c).ownBlock = some g → S g) (hR : ∀ (i : Nat) v x, vss[i]? = some v → l[i]? = some x → E.R S w v x) : Row E S w A n c l := by
  rcases h.2 with ⟨hv0, hn⟩ | ⟨g, cap, cur, hv0, hb, hh, hnc, hcm, hsz, htk⟩
  · injection hv0 with h1 h2 h3
    subst h1 h2 h3
    have e1 : vss = [] := List.length_eq_zero_iff.1 hv
    have e2 : l = [] := List.length_eq_zero_iff.1 hl.symm
    subst e1 e2
    exact Row.nil E S w
  · injection hv0 with hA _ hc
    subst hA hc
    refine ⟨hl, hnc, hcm, vss, hv, .inr ⟨g, 0, rfl, hS g rfl, fun j u hj => ?_⟩, hR⟩
    rw [Nat.zero_add, cell_of_row w g j cur e (0, 0) hh]
    rw [← htk, List.getElem?_take] at hj
    split at hj
    · simpa using hj
    · cases hj
end Go.Proofs.YtencmdpjiafnaaaGreatDoor
