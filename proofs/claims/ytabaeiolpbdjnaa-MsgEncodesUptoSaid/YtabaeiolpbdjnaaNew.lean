/- Words for memory: slices that lie in new memory; rows of slices of bytes, of the call's own, that grow side by side. -/
import Derived.Test.YtabaeiolpbdjnaaMem
import Derived.Test.YtabaeiolpbdjnaaBerC
namespace Go.Proofs.Ytabaeiolpbdjnaa
open Go.RowKit
set_option maxRecDepth 100000

theorem ext_size {w w' : World} (h : Ext w w') : w.heap.size ≤ w'.heap.size := h.size
/-- What is there of xs lies in block B or a later one. -/
def New (B : Nat) (A : Option Addr) (xs : List UInt8) : Prop := xs = [] ∨ ∃ a, A = some a ∧ B ≤ a.block
theorem New.of_own {w : World} {base n c : Nat} {e : TypeId} {A : Option Addr} {xs : List UInt8} (h : w.ownsRow base e 1 (.slice A n c) n (xs.map bv)) : New base A xs := by
  obtain ⟨h1, h2⟩ := h
  rcases h2 with ⟨hv, hn⟩ | ⟨g, cap, cur, hv, hb, _⟩
  · subst hn; exact .inl (List.eq_nil_of_length_eq_zero (by simpa using h1))
  · injection hv with hA _ _
    exact .inr ⟨_, hA, hb⟩
theorem New.mono {B B' : Nat} {A : Option Addr} {xs : List UInt8} (h : New B A xs) (hb : B' ≤ B) : New B' A xs := by
  rcases h with h | ⟨a, h1, h2⟩
  · exact .inl h
  · exact .inr ⟨a, h1, by omega⟩

theorem clone_new (A : Option Addr) (n c : Nat) (xs : List UInt8) (w : World) (h : Sl w A n c xs) (hn : n ≤ 140737488355328) :
    Calls Try.prog 74 #[.slice A n c] w fun e w' => ∃ A' n' c', e = .returned (.slice A' n' c') ∧ Sl w' A' n' c' xs ∧ New w.heap.size A' xs ∧ Ext w w' := by
  rcases A with _ | a
  · have hx : xs = [] := by
      rcases h.cells with h' | ⟨b, off, hA, _⟩
      · simpa using h'
      · cases hA
    subst hx
    have hz := fun W => Lib.run_eql_slice_nil (P := Try.prog) W 33 5 none n c 0 0 Try.underlying33
    go_enter Try.func74, Try.ntmps74
    go_wp2
    go_ret
    exact ⟨_, _, _, rfl, Sl.nil w, .inl rfl, Ext.refl w⟩
  · have hz := fun W => Lib.run_eql_slice_nil (P := Try.prog) W 33 5 (some a) n c 0 0 Try.underlying33
    go_enter Try.func74, Try.ntmps74
    go_wp2_with (at_builtin; refine append_bytes rfl _ _ rfl w.heap.size _ 0 [] rfl (own_none _ _ (Nat.le_refl _)) _ _ _ _ rfl (h.ext (Ext.alloc _ _)) (by omega) (by simp) ?_; intro v' w1 ho1 hg1 _ _)
    go_ret
    obtain ⟨A4, c4, hv, hs⟩ := Sl.of_row ho1
    subst hv
    exact ⟨A4, _, c4, rfl, by simpa using hs, by have := New.of_own ho1; simpa using this, Below.trans (Ext.alloc w _) hg1⟩

theorem run_append_new (b : Addr) (ty : TypeId) (w : World) (A : Option Addr) (m c : Nat) (ys : List UInt8) (hy : Sl w A m c ys) (hm : m ≤ 140737488355328) :
    ∃ A' c' w', (Builtin.append_ #[33, 33] ty #[.slice (some b) 0 0, .slice A m c]).run Try.prog w = .ok (.slice A' m c') w' ∧ (Sl w' A' m c' ys ∧ New w.heap.size A' ys) ∧ Ext w w' := by
  obtain ⟨i0, hi, hz0, hz1, hz2⟩ := info_parts Try.infoByte
  have hl := hy.len
  rcases Nat.eq_zero_or_pos m with h0 | h0
  · subst h0
    have hx : ys = [] := List.eq_nil_of_length_eq_zero hl.symm
    subst hx
    refine ⟨some b, 0, w, ?_, ⟨⟨rfl, Nat.le_refl _, by simp [maxLen], .inl rfl⟩, .inl rfl⟩, Ext.refl w⟩
    rcases A with _ | a
    · simp [Builtin.append_, run_underlying Try.underlying33, sizeOf, typeInfo, hi, Builtin.lenOf, Builtin.firstCells, storeCells]
    · simp [Builtin.append_, run_underlying Try.underlying33, sizeOf, typeInfo, hi, Builtin.lenOf, Builtin.firstCells, storeCells, loadCells, loadCellsFrom]
  · obtain ⟨b2, off, rfl, hc⟩ := hy.cells.at_ (by simp; omega)
    obtain ⟨v', w', hr, ho, hg⟩ := run_append_arg_grows (P := Try.prog) w 33 ty 5 i0 (.int .u8 0) 1 1 Try.underlying33 hi hz0 hz1 hz2 rfl (by decide) b 0 0 [] rfl (fun j u hj => by simp at hj)
      ⟨b2, off, none⟩ m c (ys.map bv) (by simp; omega) (fun j u hj => by rw [addr_add]; exact hc j u hj) (by omega) (by simp [maxLen]; omega) (by omega)
    rw [Nat.zero_add, List.nil_append] at ho
    obtain ⟨A', c', rfl, hs⟩ := Sl.of_row ho
    exact ⟨A', c', w', hr, ⟨hs, New.of_own ho⟩, (Below.refl _ _).grown hg (Nat.le_refl _) (fun k hk => by cases hk)⟩
theorem new_wp {w : World} {o : Oper} {a : Act} {K : Act → World → Prop} {Q : Exit → Act → World → Prop} (s x : Operand)
    (ho : o.op = .call { callee := .builtin .append, args := #[s, x], argTypes := #[33, 33] })
    (b : Addr) (hs : a.eval s = .slice (some b) 0 0) (A : Option Addr) (m c : Nat) (ys : List UInt8) (hx : a.eval x = .slice A m c) (hy : Sl w A m c ys) (hm : m ≤ 140737488355328)
    (h : ∀ A' c' w', (Sl w' A' m c' ys ∧ New w.heap.size A' ys) → Ext w w' → K (a.put o.dst (.slice A' m c')) w') : o.wp Try.prog a w K Q := by
  obtain ⟨A', c', w', hr, h1, h2⟩ := run_append_new b o.type w A m c ys hy hm
  unfold Oper.wp execOp
  simp only [ho, resolve, invoke, builtin, Sem.run_bind, Sem.run_pure, Result.andThen_ok, List.map_toArray, List.map_cons, List.map_nil, hs, hx, hr]
  exact h A' c' w' h1 h2

/-! ## A row of bytes and a row of slices of bytes, side by side -/
/-- What is there of xs lies in neither block. -/
def Off (T L : Option Nat) (A : Option Addr) (xs : List UInt8) : Prop := xs = [] ∨ ∃ a, A = some a ∧ some a.block ≠ T ∧ some a.block ≠ L
section
variable {w w' : World} {A : Option Addr} {n c : Nat} {xs : List UInt8} {T L : Option Nat}
theorem Off.swap (h : Off T L A xs) : Off L T A xs := by
  rcases h with h | ⟨a, h1, h2, h3⟩
  · exact .inl h
  · exact .inr ⟨a, h1, h3, h2⟩
theorem New.off {B : Nat} (h : New B A xs) (hT : ∀ k, T = some k → k < B) (hL : ∀ k, L = some k → k < B) : Off T L A xs := by
  rcases h with h | ⟨a, h1, h2⟩
  · exact .inl h
  · exact .inr ⟨a, h1, fun e => by have := hT _ e.symm; omega, fun e => by have := hL _ e.symm; omega⟩
theorem Sl.lt (h : Sl w A n c xs) : xs = [] ∨ ∃ a, A = some a ∧ a.block < w.heap.size := by
  rcases h.cells with h1 | ⟨b, off, hA, hc⟩
  · exact .inl (by simpa using h1)
  · rcases xs with _ | ⟨x, xs⟩
    · exact .inl rfl
    · exact .inr ⟨_, hA, by have := World.block_lt_of_cell? w _ (hc 0 (bv x) rfl); simpa using this⟩
theorem Sl.grown (h : Sl w A n c xs) (ho : Off T L A xs) (hg : w.grownBy w' T) : Sl w' A n c xs := by
  refine ⟨h.len, h.cap, h.most, ?_⟩
  rcases ho with rfl | ⟨a, hA, h1, h2⟩
  · exact .inl rfl
  · rcases h.cells with hc | ⟨b, off, hA', hc⟩
    · exact .inl hc
    · refine .inr ⟨b, off, hA', fun j u hj => ?_⟩
      rw [hA] at hA'
      injection hA' with e
      subst e
      exact hg.cell (hc j u hj) h1
theorem Off.grown (h : Sl w A n c xs) (ho : Off T L A xs) {T' : Option Nat} (hT : T' = T ∨ T' = some w.heap.size) : Off T' L A xs := by
  rcases ho with h' | ⟨a, hA, h1, h2⟩
  · exact .inl h'
  · rcases h.lt with h' | ⟨a', hA', hlt⟩
    · exact .inl h'
    · rw [hA] at hA'
      injection hA' with e
      subst e
      refine .inr ⟨a, hA, ?_, h2⟩
      rcases hT with rfl | rfl
      · exact h1
      · intro e
        injection e with e
        omega
end

/-- The values vs are slices that read as xss, off both rows' blocks. -/
structure Vs (w : World) (T L : Option Nat) (vs : List Value) (xss : List (List UInt8)) : Prop where
  len : vs.length = xss.length
  each : ∀ (j : Nat) (v : Value), vs[j]? = some v → ∃ A n c, v = Value.slice A n c ∧ Sl w A n c (xss[j]?.getD []) ∧ Off T L A (xss[j]?.getD [])
section
variable {w w' : World} {T L : Option Nat} {vs : List Value} {xss : List (List UInt8)}
theorem Vs.nil (w : World) (T L : Option Nat) : Vs w T L [] [] := ⟨rfl, fun j v h => by simp at h⟩
theorem Vs.swap (h : Vs w T L vs xss) : Vs w L T vs xss := ⟨h.len, fun j v hj => by
  obtain ⟨A, n, c, h1, h2, h3⟩ := h.each j v hj
  exact ⟨A, n, c, h1, h2, h3.swap⟩⟩
theorem Vs.ext (h : Vs w T L vs xss) (hx : Ext w w') : Vs w' T L vs xss := ⟨h.len, fun j v hj => by
  obtain ⟨A, n, c, h1, h2, h3⟩ := h.each j v hj
  exact ⟨A, n, c, h1, h2.ext hx, h3⟩⟩
theorem Vs.grown (h : Vs w T L vs xss) {T' : Option Nat} (hg : w.grownBy w' T) (hT : T' = T ∨ T' = some w.heap.size) : Vs w' T' L vs xss := ⟨h.len, fun j v hj => by
  obtain ⟨A, n, c, h1, h2, h3⟩ := h.each j v hj
  exact ⟨A, n, c, h1, h2.grown h3 hg, h3.grown h2 hT⟩⟩
theorem Vs.grownR (h : Vs w T L vs xss) {L' : Option Nat} (hg : w.grownBy w' L) (hL : L' = L ∨ L' = some w.heap.size) : Vs w' T L' vs xss := (h.swap.grown hg hL).swap
theorem Vs.snoc (h : Vs w T L vs xss) {A : Option Addr} {n c : Nat} {xs : List UInt8} (hs : Sl w A n c xs) (ho : Off T L A xs) : Vs w T L (vs ++ [.slice A n c]) (xss ++ [xs]) := by
  refine ⟨by simp [h.len], fun j v hj => ?_⟩
  rcases Nat.lt_or_ge j vs.length with hlt | hge
  · rw [List.getElem?_append_left hlt] at hj
    rw [List.getElem?_append_left (by rw [← h.len]; exact hlt)]
    exact h.each j v hj
  · rw [List.getElem?_append_right hge] at hj
    rw [List.getElem?_append_right (by rw [← h.len]; exact hge)]
    have hj0 : j - vs.length = 0 := by
      have := (List.getElem?_eq_some_iff.1 hj).1
      simp at this
      omega
    rw [hj0] at hj
    rw [← h.len, hj0]
    simp at hj ⊢
    exact ⟨A, n, c, hj.symm, hs, ho⟩
theorem Vs.sls {base : Nat} {e : TypeId} {v : Value} {n : Nat} (h : Vs w T L vs xss) (ho : w.ownsRow base e 1 v n vs) : ∃ A c, v = .slice A n c ∧ Sls w A n c xss := by
  obtain ⟨A, c, rfl⟩ := own_form ho
  have hn : vs.length = n := by simpa using ho.1
  refine ⟨A, c, rfl, by rw [← hn, h.len], (own_cap ho).1, (own_cap ho).2, vs, hn, Cells.of_own ho, fun j v hj => ?_⟩
  obtain ⟨A, n, c, h1, h2, h3⟩ := h.each j v hj
  exact ⟨A, n, c, h1, h2⟩
end

theorem Try.infoRow : (Try.prog.info? 33).map (fun i => (i.zero, i.size, i.bytes)) = some (some (.slice none 0 0), 1, 24) := by kernel_rfl
/-- append of one slice of bytes onto a row of such, at the walk. -/
theorem append_row {w : World} {ops : Array Oper} {rest : List Oper} {o : Oper} {a : Act} {Q : Exit → Act → World → Prop} (hgd : o.guard = none) (s x : Operand)
    (ho : o.op = .call { callee := .builtin .append, args := #[s, x], argTypes := #[57, 57] })
    (base : Nat) (v : Value) (n : Nat) (vs : List Value) (hs : a.eval s = v) (hown : w.ownsRow base 33 1 v n vs)
    (g : Nat) (u : Value) (hx : a.eval x = .slice (some ⟨g, 0, none⟩) 1 1) (hc : w.cell? ⟨g, 0, none⟩ = some u) (h1 : u.oneCell' = true)
    (hbytes : (n + 1) * 24 ≤ 140737488355328) (hbase : base ≤ w.heap.size)
    (h : ∀ v' w', w'.ownsRow base 33 1 v' (n + 1) (vs ++ [u]) → Below base w w' → w.grownBy w' v.ownBlock → (v'.ownBlock = v.ownBlock ∨ v'.ownBlock = some w.heap.size) → wpList Try.prog ops Q rest (a.put o.dst v') w') : wpList Try.prog ops Q (o :: rest) a w := by
  obtain ⟨i0, hi, hz0, hz1, hz2⟩ := info_parts Try.infoRow
  refine wpList_append_cells hgd s x 57 ho base 33 i0 (.slice none 0 0) 24 Try.underlying57 hi hz0 hz1 hz2 rfl v n vs hs hown (some ⟨g, 0, none⟩) 1 1 [u] hx rfl ?_ ?_ (by simp [maxLen]; omega) hbytes hbase ?_
  · refine .inr ⟨g, 0, rfl, fun j u' hj => ?_⟩
    rcases j with _ | j
    · simp at hj; subst hj; exact hc
    · simp at hj
  · intro u' hu
    simp at hu
    subst hu
    exact h1
  · intro v' w' h1 h2 h3
    exact h v' w' h1 ((Below.refl base w).grown h2 hbase (fun k hk => (hown.lt k hk).1)) h2 h3
/-- Two rows of the call's own: bytes, slices of bytes. -/
structure Two (w wr : World) (v2 v3 : Value) (T : List UInt8) (k : Nat) (L : List (List UInt8)) (vs : List Value) : Prop where
  tags : wr.ownsRow w.heap.size 5 1 v2 T.length (T.map bv)
  rows : wr.ownsRow w.heap.size 33 1 v3 k vs
  read : Vs wr v2.ownBlock v3.ownBlock vs L
  apart : v2.ownBlock = none ∨ v2.ownBlock ≠ v3.ownBlock
  far : Ext w wr
section
variable {w wr w' : World} {v2 v3 : Value} {T : List UInt8} {k : Nat} {L : List (List UInt8)} {vs : List Value}
theorem Two.start (w : World) : Two w w (.slice none 0 0) (.slice none 0 0) [] 0 [] [] := ⟨World.ownsRow_nil _ _ _ _, World.ownsRow_nil _ _ _ _, Vs.nil _ _ _, .inl rfl, Ext.refl w⟩
theorem Two.ext (h : Two w wr v2 v3 T k L vs) (hx : Ext wr w') : Two w w' v2 v3 T k L vs := ⟨own_ext h.tags hx, own_ext h.rows hx, h.read.ext hx, h.apart, h.far.trans hx⟩
theorem Two.alloc (h : Two w wr v2 v3 T k L vs) (o : Obj) : Two w (wr.alloc o) v2 v3 T k L vs := h.ext (Ext.alloc _ _)
theorem Two.tag (h : Two w wr v2 v3 T k L vs) {v2' : Value} {t : UInt8} {m : Nat} (ho : w'.ownsRow w.heap.size 5 1 v2' m ((T ++ [t]).map bv)) (hg : wr.grownBy w' v2.ownBlock)
    (hv : v2'.ownBlock = v2.ownBlock ∨ v2'.ownBlock = some wr.heap.size) : Two w w' v2' v3 (T ++ [t]) k L vs := by
  have hm : m = (T ++ [t]).length := by simpa using ho.1.symm
  subst hm
  have hap : v3.ownBlock = none ∨ v3.ownBlock ≠ v2.ownBlock := by
    rcases h.apart with h1 | h1
    · rcases h3 : v3.ownBlock with _ | k3
      · exact .inl rfl
      · exact .inr (by rw [h1]; simp)
    · exact .inr fun e => h1 e.symm
  refine ⟨ho, h.rows.kept hg hap, h.read.grown hg hv, ?_, Below.grown h.far hg h.far.size (fun k hk => (h.tags.lt k hk).1)⟩
  rcases hv with e | e
  · rw [e]; exact h.apart
  · refine .inr fun e' => ?_
    rw [e] at e'
    have := (h.rows.lt _ e'.symm).2
    omega
theorem Two.row (h : Two w wr v2 v3 T k L vs) {v3' : Value} {A : Option Addr} {n c : Nat} {xs : List UInt8} (ho : w'.ownsRow w.heap.size 33 1 v3' (k + 1) (vs ++ [.slice A n c])) (hg : wr.grownBy w' v3.ownBlock)
    (hv : v3'.ownBlock = v3.ownBlock ∨ v3'.ownBlock = some wr.heap.size) (hs : Sl wr A n c xs) (hoff : Off v2.ownBlock v3.ownBlock A xs) : Two w w' v2 v3' T (k + 1) (L ++ [xs]) (vs ++ [.slice A n c]) := by
  refine ⟨h.tags.kept hg h.apart, ho, (h.read.snoc hs hoff).grownR hg hv, ?_, Below.grown h.far hg h.far.size (fun k hk => (h.rows.lt k hk).1)⟩
  rcases hv with e | e
  · rw [e]; exact h.apart
  · rcases h2 : v2.ownBlock with _ | k2
    · exact .inl rfl
    · refine .inr fun e' => ?_
      rw [e] at e'
      injection e' with e'
      have := (h.tags.lt _ h2).2
      omega
theorem Two.off (h : Two w wr v2 v3 T k L vs) {A : Option Addr} {xs : List UInt8} {B : Nat} (hn : New B A xs) (hb : wr.heap.size ≤ B) : Off v2.ownBlock v3.ownBlock A xs :=
  hn.off (fun k hk => by have := (h.tags.lt k hk).2; omega) (fun k hk => by have := (h.rows.lt k hk).2; omega)
end
theorem cell_new (w : World) (v : Value) (e : TypeId) : (w.alloc (.cells #[v] e)).cell? ⟨w.heap.size, 0, none⟩ = some v := by
  rw [cell_of_row _ _ 0 #[v] e (0, 0) (heap_alloc_new w _)]; rfl
end Go.Proofs.Ytabaeiolpbdjnaa
