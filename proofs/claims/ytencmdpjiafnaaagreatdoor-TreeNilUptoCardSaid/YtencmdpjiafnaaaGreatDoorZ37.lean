import Derived.Test.YtencmdpjiafnaaaGreatDoorZ34
/- A row of the call's own that grows; its elements may lie anywhere but in the row's own block and in the one kept apart. Nothing of the program's functions is named. -/
namespace Go.Proofs.YtencmdpjiafnaaaGreatDoor
open Go.RowKit
set_option maxRecDepth 100000
set_option linter.unusedSimpArgs false
set_option linter.unusedVariables false

def outer (S : Nat → Prop) (v : Value) (L : Option Nat) : Nat → Prop := fun b => S b ∧ some b ≠ v.ownBlock ∧ some b ≠ L
structure GrowM {α : Type} (E : Elem α) (S : Nat → Prop) (T : TypeId) (L : Option Nat) (w wr : World) (v : Value) (l : List α) : Prop where
  rows : ∃ vss : List (List Value), vss.length = l.length ∧ wr.ownsRow w.heap.size T E.k v l.length vss.flatten ∧ (∀ (i : Nat) u x, vss[i]? = some u → l[i]? = some x → E.R (outer S v L) wr u x)
  ext : Ext w wr
  apart : ∀ g, L = some g → v.ownBlock ≠ some g ∧ w.heap.size ≤ g ∧ g < wr.heap.size
section
variable {α : Type} {E : Elem α} {S : Nat → Prop} {T : TypeId} {L : Option Nat} {w wr w' : World} {v : Value} {l : List α}
theorem GrowM.nil (hx : Ext w wr) (hL : ∀ g, L = some g → w.heap.size ≤ g ∧ g < wr.heap.size) : GrowM E S T L w wr (.slice none 0 0) [] :=
  ⟨⟨[], rfl, World.ownsRow_nil _ _ _ _, fun i u x h => by simp at h⟩, hx, fun g hg => ⟨by simp [Value.ownBlock], hL g hg⟩⟩
theorem GrowM.later (h : GrowM E S T L w wr v l) (hx : Ext wr w') : GrowM E S T L w w' v l := by
  obtain ⟨⟨vss, h1, h2, h3⟩, h4, h5⟩ := h
  exact ⟨⟨vss, h1, own_ext h2 hx, fun i u x hi hl => elem_keep (h3 i u x hi hl) (fun b _ hb => hx.block b hb) (fun b hS _ => hS)⟩, h4.trans hx, fun g hg => ⟨(h5 g hg).1, (h5 g hg).2.1, Nat.lt_of_lt_of_le (h5 g hg).2.2 hx.size⟩⟩
theorem GrowM.setL {g : Nat} (h : GrowM E S T (some g) w wr v l) (i : Nat) (z : Value) : GrowM E S T (some g) w (wr.setCell ⟨g, i, none⟩ z) v l := by
  obtain ⟨⟨vss, h1, h2, h3⟩, h4, h5⟩ := h
  obtain ⟨ha, hb, hc⟩ := h5 g rfl
  refine ⟨⟨vss, h1, ?_, fun i' u x hi hl => elem_keep (h3 i' u x hi hl) (fun b hS _ => heap_setCell_other _ _ _ _ (fun e => hS.2.2 (by rw [e]))) (fun b hS _ => hS)⟩, h4.setCell hb _, fun g' hg => ⟨(h5 g' hg).1, (h5 g' hg).2.1, by simpa using (h5 g' hg).2.2⟩⟩
  obtain ⟨q1, q2⟩ := h2
  refine ⟨q1, ?_⟩
  rcases q2 with q2 | ⟨k, cap, cur, e1, e2, e3, e4⟩
  · exact .inl q2
  · refine .inr ⟨k, cap, cur, e1, e2, ?_, e4⟩
    rw [heap_setCell_other _ _ _ _ (fun e => ha (by rw [e1]; exact congrArg some e))]
    exact e3
theorem GrowM.row (h : GrowM E S T L w wr v l) : ∃ A c, v = .slice A l.length c ∧ Row E (fun b => S b ∨ w.heap.size ≤ b) wr A l.length c l := by
  obtain ⟨⟨vss, h1, h2, h3⟩, h4, h5⟩ := h
  obtain ⟨A, c, rfl⟩ : ∃ A c, v = .slice A l.length c := by
    rcases h2.2 with ⟨rfl, h0⟩ | ⟨g, cap, cur, rfl, _⟩
    · exact ⟨none, 0, by rw [h0]⟩
    · exact ⟨_, _, rfl⟩
  exact ⟨A, c, rfl, own_rows h2 rfl h1 (fun g hg => .inr (h2.lt g hg).1) fun i u x hi hl => E.mono (h3 i u x hi hl) fun b _ hS => .inl hS.1⟩
theorem GrowM.lt (h : GrowM E S T L w wr v l) {b : Nat} (hb : v.ownBlock = some b) : w.heap.size ≤ b ∧ b < wr.heap.size := by
  obtain ⟨⟨vss, h1, h2, h3⟩, h4, h5⟩ := h
  exact h2.lt b hb
theorem GrowM.ne (h : GrowM E S T L w wr v l) {g : Nat} (hg : wr.heap.size ≤ g) : v.ownBlock ≠ some g := fun e => by have := (h.lt e).2; omega
/-- A block is kept apart from now on (the row is empty yet). -/
theorem GrowM.aside {g : Nat} (h : GrowM E S T none w wr v ([] : List α)) (h1 : w.heap.size ≤ g) (h2 : g < wr.heap.size) (h3 : v.ownBlock ≠ some g) : GrowM E S T (some g) w wr v ([] : List α) := by
  obtain ⟨⟨vss, q1, q2, q3⟩, q4, q5⟩ := h
  exact ⟨⟨vss, q1, q2, fun i u x hi hl => by simp at hl⟩, q4, fun k hk => by injection hk with hk; subst hk; exact ⟨h3, h1, h2⟩⟩
/-- .. and no longer. -/
theorem GrowM.free (h : GrowM E S T L w wr v l) : GrowM E S T none w wr v l := by
  obtain ⟨⟨vss, q1, q2, q3⟩, q4, q5⟩ := h
  exact ⟨⟨vss, q1, q2, fun i u x hi hl => E.mono (q3 i u x hi hl) fun b _ hb => ⟨hb.1, hb.2.1, by simp⟩⟩, q4, fun k hk => by cases hk⟩
/-- What lies in old blocks lies apart. -/
theorem GrowM.old {S' : Nat → Prop} {u : List Value} {x : α} (h : GrowM E S T L w wr v l) (hs : ∀ b, b < w.heap.size → S' b → S b) (hE : E.R S' w u x) : E.R (outer S v L) wr u x := by
  obtain ⟨⟨vss, h1, h2, h3⟩, h4, h5⟩ := h
  have e1 : E.R (fun b => S' b ∧ b < w.heap.size) w u x := E.mono hE fun b hb hS => ⟨hS, hb⟩
  have e2 : E.R (fun b => S' b ∧ b < w.heap.size) wr u x := E.same e1 fun b hb => h4.block b hb.2
  refine E.mono e2 fun b _ hb => ⟨hs b hb.2 hb.1, fun e => ?_, fun e => ?_⟩
  · have := (h2.lt b e.symm).1; omega
  · have := (h5 b e.symm).2.1; omega
/-- .. what was made behind the row too. -/
theorem GrowM.new {S' : Nat → Prop} {u : List Value} {x : α} {w1 : World} (h : GrowM E S T L w wr v l) (hs : ∀ b, b < w1.heap.size → S' b → S b) (hS : ∀ b, S' b → b < w.heap.size ∨ wr.heap.size ≤ b) (hE : E.R S' w1 u x) : E.R (outer S v L) w1 u x := by
  obtain ⟨⟨vss, h1, h2, h3⟩, h4, h5⟩ := h
  refine E.mono hE fun b hlt hb => ⟨hs b hlt hb, fun e => ?_, fun e => ?_⟩
  · have h6 := h2.lt b e.symm
    have h7 := hS b hb
    omega
  · have h6 := h5 b e.symm
    have h7 := hS b hb
    omega
theorem GrowM.snoc {v' : Value} {xs : List α} {us : List (List Value)} (h : GrowM E S T L w wr v l) (hlen : us.length = xs.length) (hx : ∀ (i : Nat) u x, us[i]? = some u → xs[i]? = some x → E.R (outer S v L) wr u x) (ho : ∀ vss, wr.ownsRow w.heap.size T E.k v l.length vss → w'.ownsRow w.heap.size T E.k v' (l.length + xs.length) (vss ++ us.flatten)) (hg : wr.grownBy w' v.ownBlock)
    (hb : v'.ownBlock = v.ownBlock ∨ v'.ownBlock = some wr.heap.size) : GrowM E S T L w w' v' (l ++ xs) ∧ Below w.heap.size wr w' := by
  obtain ⟨⟨vss, h1, h2, h3⟩, h4, h5⟩ := h
  have hbw : Below w.heap.size wr w' := below_grown h2 hg (ext_sz h4) (Nat.le_refl _)
  have hkeep : ∀ b, outer S v L b → b < wr.heap.size → w'.heap[b]? = wr.heap[b]? := fun b hS hlt => hg.block b hlt hS.2.1
  have hin : ∀ b, outer S v L b → b < wr.heap.size → outer S v' L b := fun b hS hlt => ⟨hS.1, fun e => by
    rcases hb with hb | hb
    · exact hS.2.1 (by rw [e, hb])
    · rw [hb] at e; injection e with e; omega, hS.2.2⟩
  refine ⟨⟨⟨vss ++ us, by simp [h1, hlen], ?_, fun i u' x' hi hl => ?_⟩, Below.trans h4 hbw, fun g hgL => ?_⟩, hbw⟩
  · rw [List.length_append, List.flatten_append]
    exact ho _ h2
  · rcases Nat.lt_or_ge i vss.length with hlt | hge
    · rw [List.getElem?_append_left hlt] at hi
      rw [List.getElem?_append_left (by omega)] at hl
      exact elem_keep (h3 i u' x' hi hl) hkeep hin
    · rw [List.getElem?_append_right hge] at hi
      rw [List.getElem?_append_right (by omega), ← h1] at hl
      exact elem_keep (hx _ u' x' hi hl) hkeep hin
  · obtain ⟨ha, hb', hc⟩ := h5 g hgL
    refine ⟨?_, hb', Nat.lt_of_lt_of_le hc hg.size⟩
    rcases hb with hb | hb
    · rw [hb]; exact ha
    · rw [hb]; intro e; injection e with e; omega
end
section
variable {α : Type} {E : Elem α} {S : Nat → Prop} {w w0 : World} {o : Oper} {a : Act} {K : Act → World → Prop} {Q : Exit → Act → World → Prop} {ops : Array Oper} {rest : List Oper}
/-- A row of elements is appended. -/
theorem append_m_wp {T ST : TypeId} {z : Value} {bytes : Nat} (hu : Tryz.prog.underlying ST = some (.slice T)) (hinf : (Tryz.prog.info? T).map (fun i => (i.zero, i.size, i.bytes)) = some (some z, E.k, bytes)) (hzs : z.cells.size = E.k) (hby : bytes ≤ 1000)
    (s x : Operand) (ho : o.op = .call { callee := .builtin .append, args := #[s, x], argTypes := #[ST, ST] }) {L : Option Nat} (v : Value) (l : List α) (hs : a.eval s = v) (hg : GrowM E S T L w0 w v l)
    {A : Option Addr} {m c : Nat} (us : List (List Value)) (ys : List α) (hlen : us.length = ys.length) (hE : ∀ (i : Nat) u y, us[i]? = some u → ys[i]? = some y → E.R (outer S v L) w u y) (h1 : ∀ c ∈ us.flatten, c.oneCell' = true) (hx : a.eval x = .slice A m c) (hm : m = ys.length) (hcs : Cells w A us.flatten) (hb : l.length + m ≤ 8000000)
    (h : ∀ v' w', GrowM E S T L w0 w' v' (l ++ ys) → w.grownBy w' v.ownBlock → Below w0.heap.size w w' → K (a.put o.dst v') w') :
    o.wp Tryz.prog a w K Q := by
  have hg2 := hg
  obtain ⟨⟨vss, q1, q2, q3⟩, q4, q5⟩ := hg2
  have hlk : ∀ v ∈ us, v.length = E.k := fun v hv => by
    obtain ⟨j, hj, rfl⟩ := List.mem_iff_getElem.1 hv
    exact E.len (hE j us[j] (ys[j]'(by omega)) (List.getElem?_eq_getElem hj) (List.getElem?_eq_getElem (by omega)))
  have hfl : us.flatten.length = m * E.k := by
    have e : ∀ (u : List (List Value)), (∀ v ∈ u, v.length = E.k) → u.flatten.length = u.length * E.k := by
      intro u
      induction u with
      | nil => intro _; simp
      | cons v t ih => intro hh; rw [List.flatten_cons, List.length_append, ih (fun x hx => hh x (by simp [hx])), hh v (by simp), List.length_cons, Nat.succ_mul]; omega
    rw [e us hlk, hlen, hm]
  refine wp_append_sz s x ST ho w0.heap.size T z E.k bytes hu hinf hzs E.pos v l.length vss.flatten hs q2 A m c us.flatten hx hfl hcs h1 (by simp [maxLen]; omega) (Nat.le_trans (Nat.mul_le_mul hb hby) (by decide)) (ext_sz q4) ?_
  intro v' w' p1 p2 p3
  obtain ⟨k1, k2⟩ := hg.snoc (v' := v') (w' := w') hlen hE (fun vs' hvs' => by rw [own_cells_one q2 hvs', ← hm]; exact p1) p2 p3
  exact h v' w' k1 p2 k2
/-- One element of a fresh block is appended. -/
theorem append_m1_wp {T ST : TypeId} {z : Value} {bytes : Nat} (hu : Tryz.prog.underlying ST = some (.slice T)) (hinf : (Tryz.prog.info? T).map (fun i => (i.zero, i.size, i.bytes)) = some (some z, E.k, bytes)) (hzs : z.cells.size = E.k) (hby : bytes ≤ 1000)
    (s x : Operand) (ho : o.op = .call { callee := .builtin .append, args := #[s, x], argTypes := #[ST, ST] }) {L : Option Nat} (v : Value) (l : List α) (hs : a.eval s = v) (hg : GrowM E S T L w0 w v l)
    {t : TypeId} {u : List Value} (y : α) (hE : E.R (outer S v L) w u y) (h1 : ∀ c ∈ u, c.oneCell' = true) {g : Nat} (hx : a.eval x = .slice (some ⟨g, 0, none⟩) 1 1) (hgs : g = w.heap.size) (hb : l.length ≤ 4000000)
    (h : ∀ v' w', GrowM E S T L w0 w' v' (l ++ [y]) → (w.alloc (.cells u.toArray t)).grownBy w' v.ownBlock → Below w0.heap.size (w.alloc (.cells u.toArray t)) w' → K (a.put o.dst v') w') :
    o.wp Tryz.prog a (w.alloc (.cells u.toArray t)) K Q := by
  subst hgs
  refine append_m_wp hu hinf hzs hby s x ho v l hs (hg.later (Ext.alloc _ _)) [u] [y] rfl (fun i u' y' hi hy => ?_) (by simpa using h1) hx rfl (.inr ⟨_, 0, rfl, fun j c hj => by rw [Nat.zero_add, box_a]; simpa using hj⟩) (by omega) h
  rcases i with _ | i
  · simp at hi hy
    subst hi hy
    exact elem_keep hE (fun b _ hlt => (Ext.alloc w (.cells u.toArray t)).block b hlt) (fun b hS _ => hS)
  · simp at hi
theorem append_m {T ST : TypeId} {z : Value} {bytes : Nat} (hu : Tryz.prog.underlying ST = some (.slice T)) (hinf : (Tryz.prog.info? T).map (fun i => (i.zero, i.size, i.bytes)) = some (some z, E.k, bytes)) (hzs : z.cells.size = E.k) (hby : bytes ≤ 1000)
    (hgd : o.guard = none) (s x : Operand) (ho : o.op = .call { callee := .builtin .append, args := #[s, x], argTypes := #[ST, ST] }) {L : Option Nat} (v : Value) (l : List α) (hs : a.eval s = v) (hg : GrowM E S T L w0 w v l)
    {A : Option Addr} {m c : Nat} (us : List (List Value)) (ys : List α) (hlen : us.length = ys.length) (hE : ∀ (i : Nat) u y, us[i]? = some u → ys[i]? = some y → E.R (outer S v L) w u y) (h1 : ∀ c ∈ us.flatten, c.oneCell' = true) (hx : a.eval x = .slice A m c) (hm : m = ys.length) (hcs : Cells w A us.flatten) (hb : l.length + m ≤ 8000000)
    (h : ∀ v' w', GrowM E S T L w0 w' v' (l ++ ys) → w.grownBy w' v.ownBlock → Below w0.heap.size w w' → wpList Tryz.prog ops Q rest (a.put o.dst v') w') : wpList Tryz.prog ops Q (o :: rest) a w :=
  wpList_plain hgd fun _ hK => append_m_wp hu hinf hzs hby s x ho v l hs hg us ys hlen hE h1 hx hm hcs hb fun v' w' k1 k2 k3 => hK _ _ (h v' w' k1 k2 k3)
theorem append_m1 {T ST : TypeId} {z : Value} {bytes : Nat} (hu : Tryz.prog.underlying ST = some (.slice T)) (hinf : (Tryz.prog.info? T).map (fun i => (i.zero, i.size, i.bytes)) = some (some z, E.k, bytes)) (hzs : z.cells.size = E.k) (hby : bytes ≤ 1000)
    (hgd : o.guard = none) (s x : Operand) (ho : o.op = .call { callee := .builtin .append, args := #[s, x], argTypes := #[ST, ST] }) {L : Option Nat} (v : Value) (l : List α) (hs : a.eval s = v) (hg : GrowM E S T L w0 w v l)
    {t : TypeId} {u : List Value} (y : α) (hE : E.R (outer S v L) w u y) (h1 : ∀ c ∈ u, c.oneCell' = true) {g : Nat} (hx : a.eval x = .slice (some ⟨g, 0, none⟩) 1 1) (hgs : g = w.heap.size) (hb : l.length ≤ 4000000)
    (h : ∀ v' w', GrowM E S T L w0 w' v' (l ++ [y]) → (w.alloc (.cells u.toArray t)).grownBy w' v.ownBlock → Below w0.heap.size (w.alloc (.cells u.toArray t)) w' → wpList Tryz.prog ops Q rest (a.put o.dst v') w') :
    wpList Tryz.prog ops Q (o :: rest) a (w.alloc (.cells u.toArray t)) :=
  wpList_plain hgd fun _ hK => append_m1_wp hu hinf hzs hby s x ho v l hs hg y hE h1 hx hgs hb fun v' w' k1 k2 k3 => hK _ _ (h v' w' k1 k2 k3)
end
end Go.Proofs.YtencmdpjiafnaaaGreatDoor
