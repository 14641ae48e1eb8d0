import Derived.Test.YtencmdpjiafnaaaGreatDoorRows
import Derived.Test.YtencmdpjiafnaaaGreatDoorZ01
import Derived.WalkKit
import Derived.WalkSpells
import Derived.Maps.AppendAt
import Derived.Deep.AppendLies
import Derived.Deep.Draws
import Derived.Laws.OwnMore
import Derived.Laws.BytesArg
import Derived.ArgAppend
/- Words for memory: slices that read as lists of one-cell values, of bytes; append onto a row of the call's own from any source. Nothing of the program is named but the types of bytes. -/
namespace Go.Proofs.YtencmdpjiafnaaaGreatDoor
open Go.RowKit

theorem hid {p : Prop} (h : p) : Hid p := h
theorem cell_later {w : World} {p : Addr} {v : Value} (h : w.cell? p = some v) : ∀ w', Ext w w' → w'.cell? p = some v := fun _ hx => (Below.cell hx (World.block_lt_of_cell? w p h)).trans h
theorem addr_add (b off j : Nat) : (⟨b, off, none⟩ : Addr).add j = ⟨b, off + j, none⟩ := by unfold Addr.add; split <;> simp_all

/-- The cells that an address leads to. -/
def Cells (w : World) (A : Option Addr) (vs : List Value) : Prop :=
  vs = [] ∨ ∃ b off, A = some ⟨b, off, none⟩ ∧ ∀ j u, vs[j]? = some u → w.cell? ⟨b, off + j, none⟩ = some u

section
variable {w w' : World} {A : Option Addr} {vs : List Value}
theorem Cells.nil (w : World) (A : Option Addr) : Cells w A [] := .inl rfl
theorem Cells.at_ (h : Cells w A vs) (hx : 0 < vs.length) : ∃ b off, A = some ⟨b, off, none⟩ ∧ ∀ j u, vs[j]? = some u → w.cell? ⟨b, off + j, none⟩ = some u := by
  rcases h with h | h
  · subst h; simp at hx
  · exact h
theorem Cells.keep (h : Cells w A vs) (hk : ∀ p : Addr, p.block < w.heap.size → w'.cell? p = w.cell? p) : Cells w' A vs := by
  rcases h with h | ⟨b, off, hA, hc⟩
  · exact .inl h
  · refine .inr ⟨b, off, hA, fun j u hj => ?_⟩
    rw [hk _ (World.block_lt_of_cell? w _ (hc j u hj))]
    exact hc j u hj
theorem Cells.below (h : Cells w A vs) (hb : Below w.heap.size w w') : Cells w' A vs := h.keep fun _ hp => hb.cell hp
theorem Cells.take (h : Cells w A vs) (k : Nat) : Cells w A (vs.take k) := by
  rcases h with h | ⟨b, off, hA, hc⟩
  · exact .inl (by simp [h])
  · refine .inr ⟨b, off, hA, fun j u hj => hc j u ?_⟩
    rw [List.getElem?_take] at hj
    split at hj
    · exact hj
    · cases hj
theorem Cells.drop (h : Cells w A vs) (k : Nat) : Cells w (A.map (·.add k)) (vs.drop k) := by
  rcases h with h | ⟨b, off, hA, hc⟩
  · exact .inl (by simp [h])
  · refine .inr ⟨b, off + k, by simp [hA, addr_add], fun j u hj => ?_⟩
    rw [List.getElem?_drop] at hj
    rw [Nat.add_assoc]
    exact hc _ u hj
/-- What 's[k:..]' makes of an address: the model leaves it where it is if nothing is left of the capacity. -/
def cutA (A : Option Addr) (k cap size : Nat) : Option Addr := if cap = k then A else A.map (·.add (k * size))
theorem Cells.cut (h : Cells w A vs) {k cap : Nat} (hc : vs.length ≤ cap) : Cells w (cutA A k cap 1) (vs.drop k) := by
  unfold cutA
  split
  · subst_vars; exact .inl (List.drop_eq_nil_of_le hc)
  · simpa using h.drop k
theorem Cells.of_own {base : Nat} {e : TypeId} {n c : Nat} (h : w.ownsRow base e 1 (.slice A n c) n vs) : Cells w A vs := by
  obtain ⟨h1, h2⟩ := h
  rcases h2 with ⟨hv, hn⟩ | ⟨g, cap, cur, hv, hb, hh, hnc, hcm, hsz, htk⟩
  · subst hn; exact .inl (List.eq_nil_of_length_eq_zero (by simpa using h1))
  · injection hv with hA _ _
    refine .inr ⟨g, 0, hA, fun j u hj => ?_⟩
    rw [Nat.zero_add, cell_of_row w g j cur e (0, 0) hh]
    rw [← htk, List.getElem?_take] at hj
    split at hj
    · simpa using hj
    · cases hj
theorem own_cap {base : Nat} {e : TypeId} {n c : Nat} (h : w.ownsRow base e 1 (.slice A n c) n vs) : n ≤ c ∧ c ≤ maxLen := by
  obtain ⟨h1, h2⟩ := h
  rcases h2 with ⟨hv, hn⟩ | ⟨g, cap, cur, hv, hb, hh, hnc, hcm, hsz, htk⟩
  · injection hv with _ _ hc
    subst hn hc
    exact ⟨Nat.le_refl _, by simp [maxLen]⟩
  · injection hv with hA _ hc
    subst hc
    exact ⟨hnc, hcm⟩
/-- An owned row is a slice value, whatever else is known of it. -/
theorem own_form {base : Nat} {e : TypeId} {v : Value} {n : Nat} (h : w.ownsRow base e 1 v n vs) : ∃ A c, v = .slice A n c := by
  rcases h.2 with ⟨rfl, rfl⟩ | ⟨g, cap, cur, rfl, _⟩
  · exact ⟨_, _, rfl⟩
  · exact ⟨_, _, rfl⟩
end

theorem below_drewN {B : Nat} {a w : World} (h : Below B a w) (n : Nat) : Below B a (w.drewN n) := ⟨h.os, h.tape, h.output, h.size, h.block⟩

theorem results_tmp4 {fn : Func} {t u v x : Tmp} (h : fn.results = #[.tmp t, .tmp u, .tmp v, .tmp x]) (tmps : Array Value) (P : Program) (w : World) :
    (results fn tmps).run P w = .ok (.tuple #[tmps.getD t undef, tmps.getD u undef, tmps.getD v undef, tmps.getD x undef]) w := by simp [results, h]

/-- A byte as a cell holds it. -/
def bv (b : UInt8) : Value := .int .u8 (b.toNat : Int)
theorem bv_one (b : UInt8) : (bv b).oneCell' = true := rfl

/-- A slice value of bytes that reads as xs. -/
structure Sl (w : World) (A : Option Addr) (n c : Nat) (xs : List UInt8) : Prop where
  len : n = xs.length
  cap : n ≤ c
  most : c ≤ maxLen
  cells : Cells w A (xs.map bv)

section
variable {w w' : World} {A : Option Addr} {n c : Nat} {xs : List UInt8}
theorem Sl.below (h : Sl w A n c xs) (hb : Below w.heap.size w w') : Sl w' A n c xs := ⟨h.len, h.cap, h.most, h.cells.below hb⟩
theorem Sl.nil (w : World) : Sl w none 0 0 [] := ⟨rfl, Nat.le_refl _, by simp [maxLen], .inl rfl⟩
theorem Sl.at_ (h : Sl w A n c xs) (hn : 0 < n) : ∃ b off, A = some ⟨b, off, none⟩ ∧ ∀ j (_ : j < n), w.cell? ⟨b, off + j, none⟩ = some (.int .u8 (((xs[j]?).getD 0).toNat : Int)) := by
  obtain ⟨b, off, hA, hc⟩ := h.cells.at_ (by have := h.len; simp; omega)
  refine ⟨b, off, hA, fun j hj => hc j _ ?_⟩
  have hl : j < xs.length := by have := h.len; omega
  simp [hl, bv]
theorem Sl.cut (h : Sl w A n c xs) {l m : Nat} (hlm : l ≤ m) (hm : m ≤ n) : Sl w (cutA A l c 1) (m - l) (c - l) ((xs.drop l).take (m - l)) :=
  ⟨by have := h.len; simp; omega, by have := h.cap; omega, by have := h.most; omega, by
    have := (h.cells.cut (k := l) (cap := c) (by have := h.len; have := h.cap; simp; omega)).take (m - l)
    simpa using this⟩
theorem Sl.mid (h : Sl w A n c xs) {l k : Nat} (hk : l + k ≤ n) : Sl w (cutA A l c 1) k (c - l) ((xs.drop l).take k) := by
  have := h.cut (l := l) (m := l + k) (by omega) hk
  rwa [Nat.add_sub_cancel_left] at this
theorem Sl.head (h : Sl w A n c xs) {k : Nat} (hk : k ≤ n) : Sl w (cutA A 0 c 1) k c (xs.take k) := by
  have := h.mid (l := 0) (k := k) (by omega)
  simpa using this
theorem Sl.tail (h : Sl w A n c xs) {l : Nat} (hk : l ≤ n) : Sl w (cutA A l c 1) (n - l) (c - l) (xs.drop l) := by
  have := h.mid (l := l) (k := n - l) (by omega)
  rwa [List.take_of_length_le (by have := h.len; simp; omega)] at this
theorem Sl.cut_at {b off : Nat} (h : Sl w (some ⟨b, off, none⟩) n c xs) {l k : Nat} (hk : l + k ≤ n) :
    Sl w (if c = l then some ⟨b, off, none⟩ else some ⟨b, off + l, none⟩) k (c - l) ((xs.drop l).take k) := by
  have := h.mid hk
  have e : cutA (some ⟨b, off, none⟩) l c 1 = if c = l then some ⟨b, off, none⟩ else some ⟨b, off + l, none⟩ := by
    unfold cutA; simp [addr_add]
  rw [e] at this
  exact this
theorem Sl.tail_at {b off : Nat} (h : Sl w (some ⟨b, off, none⟩) n c xs) {l : Nat} (hk : l ≤ n) :
    Sl w (if c = l then some ⟨b, off, none⟩ else some ⟨b, off + l, none⟩) (n - l) (c - l) (xs.drop l) := by
  have := h.cut_at (l := l) (k := n - l) (by omega)
  rwa [List.take_of_length_le (by have := h.len; simp; omega)] at this
theorem Sl.of_own {base : Nat} {e : TypeId} (h : w.ownsRow base e 1 (.slice A n c) n (xs.map bv)) : Sl w A n c xs :=
  ⟨by simpa using h.1.symm, (own_cap h).1, (own_cap h).2, Cells.of_own h⟩
theorem Sl.of_row {base : Nat} {e : TypeId} {v : Value} (h : w.ownsRow base e 1 v n (xs.map bv)) : ∃ A c, v = .slice A n c ∧ Sl w A n c xs := by
  obtain ⟨A, c, rfl⟩ := own_form h
  exact ⟨A, c, rfl, Sl.of_own h⟩
end

theorem run_conv {P : Program} {w : World} {A : Option Addr} {n c : Nat} {xs : List UInt8} (h : Sl w A n c xs) (src dst e : Nat)
    (hs : P.underlying src = some (.slice e)) (he : P.underlying e = some (.int .u8)) (hd : P.underlying dst = some .string) :
    (convert src dst (.slice A n c)).run P w = .ok (.string ⟨xs.toArray⟩) w := by
  obtain ⟨hn, _, _, h⟩ := h
  subst hn
  rw [run_convert_bytes_string w src dst e _ _ c hs he hd]
  rcases A with _ | a
  · rcases h with h | ⟨b, off, hA, _⟩
    · have h : xs = [] := by simpa using h
      subst h; simp [Conv.bytesToString]; rfl
    · cases hA
  · have hl : (loadCells a xs.length).run P w = .ok ((xs.map fun b => (b.toNat : Int)).map (Value.int .u8)).toArray w := by
      have := run_loadCells_list (P := P) w a (xs.map bv) (fun j v hj => by
        rcases h with h | ⟨b, off, hA, hc⟩
        · have h : xs = [] := by simpa using h
          subst h; simp at hj
        · injection hA with hA
          subst hA
          rw [addr_add]
          exact hc j v hj)
      simp only [List.length_map] at this
      rw [this]
      simp [bv, Function.comp_def]
    rw [run_bytesToString w a _ c _ hl, foldl_push_bytes]
    have : List.map ((fun n : Int => UInt8.ofNat n.toNat) ∘ fun b : UInt8 => (b.toNat : Int)) xs = xs := by
      conv => rhs; rw [← List.map_id xs]
      apply List.map_congr_left
      intro b _
      simp
    simp [ByteArray.empty, ByteArray.emptyWithCapacity, this]
    rfl

/-- append onto a row of the call's own, from whatever source. -/
theorem run_append_cells {P : Program} (w : World) (base : Nat) (t ty e : TypeId) (i : TypeInfo) (z : Value) (bytes : Nat) (ht : P.underlying t = some (.slice e)) (hi : P.info? e = some i) (hz : i.zero = some z)
    (hsize : i.size = 1) (hby : i.bytes = bytes) (hzs : z.cells.size = 1)
    (v : Value) (n : Nat) (xs : List Value) (hown : w.ownsRow base e 1 v n xs)
    (A : Option Addr) (m c : Nat) (news : List Value) (hm : m = news.length) (hr : Cells w A news) (h1 : ∀ u ∈ news, u.oneCell' = true)
    (h63 : n + m ≤ maxLen) (hbytes : (n + m) * bytes ≤ 140737488355328) (hbase : base ≤ w.heap.size) :
    ∃ v' w', (Builtin.append_ #[t, t] ty #[v, .slice A m c]).run P w = .ok v' w' ∧ w'.ownsRow base e 1 v' (n + m) (xs ++ news) ∧ w.grownBy w' v.ownBlock ∧
      (v'.ownBlock = v.ownBlock ∨ v'.ownBlock = some w.heap.size) := by
  rcases A with _ | ad
  · have hn : news = [] := by
      rcases hr with h | ⟨b, off, h, _⟩
      · exact h
      · cases h
    subst hn
    simp at hm
    subst hm
    refine ⟨v, w, ?_, by simpa using hown, World.grownBy.refl w _, .inl rfl⟩
    rcases hown.2 with ⟨rfl, rfl⟩ | ⟨g, cap, cur, rfl, _, _, hnc, _⟩
    · simp [Builtin.append_, run_underlying ht, sizeOf, typeInfo, hi, Builtin.lenOf, Builtin.firstCells]
    · simp [Builtin.append_, run_underlying ht, sizeOf, typeInfo, hi, Builtin.lenOf, Builtin.firstCells, hnc, storeCells]
  · have hcells : ∀ j u, news[j]? = some u → w.cell? (ad.add j) = some u := by
      intro j u hu
      rcases hr with h | ⟨b, off, h, hc⟩
      · subst h; simp at hu
      · injection h with h
        subst h
        rw [addr_add]
        exact hc j u hu
    obtain ⟨v', w', hrun, h2, h3, _, h5⟩ := run_append_own_at (P := P) w base t ty e i z 1 bytes ht hi hz hsize hby hzs (by decide) v n xs hown ad m c news (by simpa using hm.symm) hcells h1 h63 hbytes hbase
    exact ⟨v', w', hrun, h2, h3, h5⟩

theorem wp_append_cells {P : Program} {w : World} {o : Oper} {a : Act} {K : Act → World → Prop} {Q : Exit → Act → World → Prop} (s x : Operand) (t : TypeId)
    (ho : o.op = .call { callee := .builtin .append, args := #[s, x], argTypes := #[t, t] })
    (base : Nat) (e : TypeId) (i : TypeInfo) (z : Value) (bytes : Nat) (ht : P.underlying t = some (.slice e)) (hi : P.info? e = some i) (hz : i.zero = some z)
    (hsize : i.size = 1) (hby : i.bytes = bytes) (hzs : z.cells.size = 1)
    (v : Value) (n : Nat) (xs : List Value) (hs : a.eval s = v) (hown : w.ownsRow base e 1 v n xs)
    (A : Option Addr) (m c : Nat) (news : List Value) (hx : a.eval x = .slice A m c) (hm : m = news.length) (hr : Cells w A news) (h1 : ∀ u ∈ news, u.oneCell' = true)
    (h63 : n + m ≤ maxLen) (hbytes : (n + m) * bytes ≤ 140737488355328) (hbase : base ≤ w.heap.size)
    (h : ∀ v' w', w'.ownsRow base e 1 v' (n + m) (xs ++ news) → w.grownBy w' v.ownBlock → (v'.ownBlock = v.ownBlock ∨ v'.ownBlock = some w.heap.size) → K (a.put o.dst v') w') : o.wp P a w K Q := by
  obtain ⟨v', w', hrun, h2, h3, h4⟩ := run_append_cells (P := P) w base t o.type e i z bytes ht hi hz hsize hby hzs v n xs hown A m c news hm hr h1 h63 hbytes hbase
  unfold Oper.wp execOp
  simp only [ho, resolve, invoke, builtin, Sem.run_bind, Sem.run_pure, Result.andThen_ok, List.map_toArray, List.map_cons, List.map_nil, hs, hx, hrun]
  exact h v' w' h2 h3 h4

theorem wpList_append_cells {P : Program} {w : World} {ops : Array Oper} {rest : List Oper} {o : Oper} {a : Act} {Q : Exit → Act → World → Prop} (hgd : o.guard = none) (s x : Operand) (t : TypeId)
    (ho : o.op = .call { callee := .builtin .append, args := #[s, x], argTypes := #[t, t] })
    (base : Nat) (e : TypeId) (i : TypeInfo) (z : Value) (bytes : Nat) (ht : P.underlying t = some (.slice e)) (hi : P.info? e = some i) (hz : i.zero = some z)
    (hsize : i.size = 1) (hby : i.bytes = bytes) (hzs : z.cells.size = 1)
    (v : Value) (n : Nat) (xs : List Value) (hs : a.eval s = v) (hown : w.ownsRow base e 1 v n xs)
    (A : Option Addr) (m c : Nat) (news : List Value) (hx : a.eval x = .slice A m c) (hm : m = news.length) (hr : Cells w A news) (h1 : ∀ u ∈ news, u.oneCell' = true)
    (h63 : n + m ≤ maxLen) (hbytes : (n + m) * bytes ≤ 140737488355328) (hbase : base ≤ w.heap.size)
    (h : ∀ v' w', w'.ownsRow base e 1 v' (n + m) (xs ++ news) → w.grownBy w' v.ownBlock → (v'.ownBlock = v.ownBlock ∨ v'.ownBlock = some w.heap.size) → wpList P ops Q rest (a.put o.dst v') w') : wpList P ops Q (o :: rest) a w :=
  wpList_plain hgd fun _ hK => wp_append_cells s x t ho base e i z bytes ht hi hz hsize hby hzs v n xs hs hown A m c news hx hm hr h1 h63 hbytes hbase fun v' w' h2 h3 h4 => hK _ _ (h v' w' h2 h3 h4)

/-! 's[l:h]', 's[l:]' of bytes, the address behind a name, so that no walk parts on it. -/
theorem elem_bytes : Tryz.prog.underlying 141 = some (.slice (Tryz.prog.elem 141)) := by kernel_rfl
theorem size_byte (w : World) : (sizeOf (Tryz.prog.elem 141)).run Tryz.prog w = .ok 1 w := by kernel_rfl
theorem slice_lh (A : Option Addr) (n c l k : Nat) (hlk : l + k ≤ c) (L H : Int) (hL : L = l) (hH : H = (l + k : Nat)) :
    ∀ w, (Instr.sliceAt 141 (.slice A n c) (some (.int .i64 L)) (some (.int .i64 H)) none).run Tryz.prog w = .ok (.slice (cutA A l c 1) k (c - l)) w := fun w => by
  subst hL hH
  have h1 : (l : Int) ≤ ((l + k : Nat) : Int) := by omega
  have h2 : ((l + k : Nat) : Int) ≤ (c : Int) := by omega
  have := run_slice_lh (P := Tryz.prog) w 141 A n c elem_bytes .i64 .i64 (l : Int) ((l + k : Nat) : Int) (by omega) h1 h2
  rw [run_sliceAt_slice w 141 _ _ _ _ elem_bytes, this, size_byte]
  simp only [sliced, cutA, Result.andThen, Int.toNat_natCast, Nat.add_sub_cancel_left]
theorem slice_l (A : Option Addr) (n c l : Nat) (hlk : l ≤ n) (L : Int) (hL : L = l) :
    ∀ w, (Instr.sliceAt 141 (.slice A n c) (some (.int .i64 L)) none none).run Tryz.prog w = .ok (.slice (cutA A l c 1) (n - l) (c - l)) w := fun w => by
  subst hL
  have h1 : (l : Int) ≤ (n : Int) := by omega
  have := run_slice_l (P := Tryz.prog) w 141 A n c elem_bytes .i64 (l : Int) (by omega) h1
  rw [run_sliceAt_slice w 141 _ _ _ _ elem_bytes, this, size_byte]
  simp only [sliced, cutA, Result.andThen, Int.toNat_natCast]
theorem slice_h (A : Option Addr) (n c k : Nat) (hlk : k ≤ c) (H : Int) (hH : H = k) :
    ∀ w, (Instr.sliceAt 141 (.slice A n c) none (some (.int .i64 H)) none).run Tryz.prog w = .ok (.slice (cutA A 0 c 1) k c) w := fun w => by
  subst hH
  have h2 : (k : Int) ≤ (c : Int) := by omega
  have := run_slice_h (P := Tryz.prog) w 141 A n c elem_bytes .i64 (k : Int) (by omega) h2
  rw [run_sliceAt_slice w 141 _ _ _ _ elem_bytes, this, size_byte]
  simp only [sliced, cutA, Result.andThen, Int.toNat_natCast, Nat.sub_zero]

theorem slice_hk (kh : IntKind) (A : Option Addr) (n c k : Nat) (hlk : k ≤ c) (H : Int) (hH : H = k) :
    ∀ w, (Instr.sliceAt 141 (.slice A n c) none (some (.int kh H)) none).run Tryz.prog w = .ok (.slice (cutA A 0 c 1) k c) w := fun w => by
  subst hH
  have h2 : (k : Int) ≤ (c : Int) := by omega
  have := run_slice_h (P := Tryz.prog) w 141 A n c elem_bytes kh (k : Int) (by omega) h2
  rw [run_sliceAt_slice w 141 _ _ _ _ elem_bytes, this, size_byte]
  simp only [sliced, cutA, Result.andThen, Int.toNat_natCast, Nat.sub_zero]

/-! The bytes' own row of the table of types. -/
theorem Tryz.infoByte : (Tryz.prog.info? 5).map (fun i => (i.zero, i.size, i.bytes)) = some (some (.int .u8 0), 1, 1) := by kernel_rfl

theorem Sl.ext {w w' : World} {A : Option Addr} {n c : Nat} {xs : List UInt8} (h : Sl w A n c xs) (hx : Ext w w') : Sl w' A n c xs := h.below hx
theorem Sl.conv {w : World} {A : Option Addr} {n c : Nat} {xs : List UInt8} (h : Sl w A n c xs) : ∀ w', Ext w w' → (convert 141 9 (.slice A n c)).run Tryz.prog w' = .ok (.string ⟨xs.toArray⟩) w' :=
  fun _ hb => run_conv (h.below hb) _ _ _ Tryz.underlying141 Tryz.underlying5 Tryz.underlying9

/-- append of bytes onto a row of bytes, at the walk: the source is a slice that reads as ys. -/
theorem append_bytes {w : World} {ops : Array Oper} {rest : List Oper} {o : Oper} {a : Act} {Q : Exit → Act → World → Prop} (hgd : o.guard = none) (s x : Operand)
    (ho : o.op = .call { callee := .builtin .append, args := #[s, x], argTypes := #[141, 141] })
    (base : Nat) (v : Value) (n : Nat) (xs : List UInt8) (hs : a.eval s = v) (hown : w.ownsRow base 5 1 v n (xs.map bv))
    (A : Option Addr) (m c : Nat) (ys : List UInt8) (hx : a.eval x = .slice A m c) (hy : Sl w A m c ys)
    (hbytes : n + m ≤ 140737488355328) (hbase : base ≤ w.heap.size)
    (h : ∀ v' w', w'.ownsRow base 5 1 v' (n + m) ((xs ++ ys).map bv) → Below base w w' → w.grownBy w' v.ownBlock → (v'.ownBlock = v.ownBlock ∨ v'.ownBlock = some w.heap.size) → wpList Tryz.prog ops Q rest (a.put o.dst v') w') : wpList Tryz.prog ops Q (o :: rest) a w := by
  obtain ⟨i0, hi, hz0, hz1, hz2⟩ := info_parts Tryz.infoByte
  refine wpList_append_cells hgd s x 141 ho base 5 i0 (.int .u8 0) 1 Tryz.underlying141 hi hz0 hz1 hz2 rfl v n (xs.map bv) hs hown A m c (ys.map bv) hx (by simpa using hy.len) hy.cells ?_ (by simp [maxLen]; omega) (by omega) hbase ?_
  · intro u hu
    obtain ⟨b, _, rfl⟩ := List.mem_map.1 hu
    rfl
  · intro v' w' h1 h2 h3
    rw [← List.map_append] at h1
    exact h v' w' h1 ((Below.refl base w).grown h2 hbase (fun k hk => (hown.lt k hk).1)) h2 h3

/-- append of bytes onto an empty slice without capacity: a new slice, nothing old written. -/
theorem run_append_fresh (b : Addr) (ty : TypeId) (w : World) (A : Option Addr) (m c : Nat) (ys : List UInt8) (hy : Sl w A m c ys) (hm : m ≤ 140737488355328) :
    ∃ A' c' w', (Builtin.append_ #[141, 141] ty #[.slice (some b) 0 0, .slice A m c]).run Tryz.prog w = .ok (.slice A' m c') w' ∧ Sl w' A' m c' ys ∧ Ext w w' := by
  obtain ⟨i0, hi, hz0, hz1, hz2⟩ := info_parts Tryz.infoByte
  have hl := hy.len
  rcases Nat.eq_zero_or_pos m with h0 | h0
  · subst h0
    have hx : ys = [] := List.eq_nil_of_length_eq_zero hl.symm
    subst hx
    refine ⟨some b, 0, w, ?_, ⟨rfl, Nat.le_refl _, by simp [maxLen], .inl rfl⟩, Ext.refl w⟩
    rcases A with _ | a
    · simp [Builtin.append_, run_underlying Tryz.underlying141, sizeOf, typeInfo, hi, Builtin.lenOf, Builtin.firstCells, storeCells]
    · simp [Builtin.append_, run_underlying Tryz.underlying141, sizeOf, typeInfo, hi, Builtin.lenOf, Builtin.firstCells, storeCells, loadCells, loadCellsFrom]
  · obtain ⟨b2, off, rfl, hc⟩ := hy.cells.at_ (by simp; omega)
    obtain ⟨v', w', hr, ho, hg⟩ := run_append_arg_grows (P := Tryz.prog) w 141 ty 5 i0 (.int .u8 0) 1 1 Tryz.underlying141 hi hz0 hz1 hz2 rfl (by decide) b 0 0 [] rfl (fun j u hj => by simp at hj)
      ⟨b2, off, none⟩ m c (ys.map bv) (by simp; omega) (fun j u hj => by rw [addr_add]; exact hc j u hj) (by omega) (by simp [maxLen]; omega) (by omega)
    rw [Nat.zero_add, List.nil_append] at ho
    obtain ⟨A', c', rfl, hs⟩ := Sl.of_row ho
    exact ⟨A', c', w', hr, hs, (Below.refl _ _).grown hg (Nat.le_refl _) (fun k hk => by cases hk)⟩

theorem fresh_wp {w : World} {o : Oper} {a : Act} {K : Act → World → Prop} {Q : Exit → Act → World → Prop} (s x : Operand)
    (ho : o.op = .call { callee := .builtin .append, args := #[s, x], argTypes := #[141, 141] })
    (b : Addr) (hs : a.eval s = .slice (some b) 0 0) (A : Option Addr) (m c : Nat) (ys : List UInt8) (hx : a.eval x = .slice A m c) (hy : Sl w A m c ys) (hm : m ≤ 140737488355328)
    (h : ∀ A' c' w', Sl w' A' m c' ys → Ext w w' → K (a.put o.dst (.slice A' m c')) w') : o.wp Tryz.prog a w K Q := by
  obtain ⟨A', c', w', hr, h1, h2⟩ := run_append_fresh b o.type w A m c ys hy hm
  unfold Oper.wp execOp
  simp only [ho, resolve, invoke, builtin, Sem.run_bind, Sem.run_pure, Result.andThen_ok, List.map_toArray, List.map_cons, List.map_nil, hs, hx, hr]
  exact h A' c' w' h1 h2

theorem own_ext {w w' : World} {base : Nat} {e : TypeId} {size : Nat} {v : Value} {n : Nat} {xs : List Value} (h : w.ownsRow base e size v n xs) (hx : Ext w w') : w'.ownsRow base e size v n xs :=
  h.kept ⟨hx.os, hx.tape, hx.output, hx.size, fun k hk _ => hx.block k hk⟩ (row := none) (by cases hv : v.ownBlock <;> simp)

/-- A new block of bytes, made by a literal. -/
theorem own_new (w : World) (xs : List UInt8) (n : Nat) (hn : n = xs.length) (hm : n ≤ maxLen) (base : Nat) (hb : base ≤ w.heap.size) :
    (w.alloc (.cells (xs.map bv).toArray 5)).ownsRow base 5 1 (.slice (some ⟨w.heap.size, 0, none⟩) n n) n (xs.map bv) := by
  subst hn
  exact ⟨by simp, .inr ⟨w.heap.size, xs.length, _, rfl, hb, heap_alloc_new w _, Nat.le_refl _, hm, by simp, by rw [Nat.mul_one]; exact List.take_of_length_le (by simp)⟩⟩

theorem bv_of (z : Int) (h : 0 ≤ z ∧ z < 256) : Value.int .u8 z = bv (UInt8.ofNat z.toNat) := by
  unfold bv
  congr 1
  rw [UInt8.toNat_ofNat']
  omega
theorem own_one (w : World) (z : Int) (h : 0 ≤ z ∧ z < 256) (base : Nat) (hb : base ≤ w.heap.size) :
    (w.alloc (.cells #[.int .u8 z] 5)).ownsRow base 5 1 (.slice (some ⟨w.heap.size, 0, none⟩) 1 1) 1 ([UInt8.ofNat z.toNat].map bv) := by
  rw [bv_of z h]
  exact own_new w [UInt8.ofNat z.toNat] 1 rfl (by simp [maxLen]) base hb
theorem sl_one (w : World) (z : Int) (h : 0 ≤ z ∧ z < 256) :
    Sl (w.alloc (.cells #[.int .u8 z] 5)) (some ⟨w.heap.size, 0, none⟩) 1 1 [UInt8.ofNat z.toNat] := Sl.of_own (own_one w z h 0 (Nat.zero_le _))
theorem sl_two (w : World) (y z : Int) (hy : 0 ≤ y ∧ y < 256) (h : 0 ≤ z ∧ z < 256) :
    Sl (w.alloc (.cells #[.int .u8 y, .int .u8 z] 5)) (some ⟨w.heap.size, 0, none⟩) 2 2 [UInt8.ofNat y.toNat, UInt8.ofNat z.toNat] := by
  rw [bv_of z h, bv_of y hy]
  exact Sl.of_own (own_new w [UInt8.ofNat y.toNat, UInt8.ofNat z.toNat] 2 rfl (by simp [maxLen]) 0 (Nat.zero_le _))
theorem own_none (w : World) (base : Nat) (hb : base ≤ w.heap.size) :
    (w.alloc (.cells #[] 5)).ownsRow base 5 1 (.slice (some ⟨w.heap.size, 0, none⟩) 0 0) 0 (([] : List UInt8).map bv) := own_new w [] 0 rfl (by simp [maxLen]) base hb

/-- '[]byte{}', '[]byte{x}', '[]byte{x, y}' as operations. -/
theorem lit0_wp {w : World} {o : Oper} {a : Act} {K : Act → World → Prop} {Q : Exit → Act → World → Prop} (ho : o.op = .buildSlice 141 0 #[])
    (h : ∀ b w', Ext w w' → K (a.put o.dst (.slice (some b) 0 0)) w') : o.wp Tryz.prog a w K Q := by
  have hr : (execOp a.eval o).run Tryz.prog w = .ok (.value (.slice (some ⟨w.heap.size, 0, none⟩) 0 0)) (w.alloc (.cells #[] 5)) := by
    unfold execOp
    simp only [ho]
    kernel_rfl
  unfold Oper.wp
  rw [hr]
  exact h _ _ (Ext.alloc _ _)
theorem lit1_wp {w : World} {o : Oper} {a : Act} {K : Act → World → Prop} {Q : Exit → Act → World → Prop} (x : Operand) (ho : o.op = .buildSlice 141 1 #[(0, x)]) (z : Int) (hx : a.eval x = .int .u8 z) (hz : 0 ≤ z ∧ z < 256)
    (h : ∀ A w', Ext w w' → Sl w' A 1 1 [UInt8.ofNat z.toNat] → K (a.put o.dst (.slice A 1 1)) w') : o.wp Tryz.prog a w K Q := by
  have hr : (execOp a.eval o).run Tryz.prog w = .ok (.value (.slice (some ⟨w.heap.size, 0, none⟩) 1 1)) (w.alloc (.cells #[.int .u8 z] 5)) := by
    unfold execOp
    simp only [ho, List.map_toArray, List.map_cons, List.map_nil, hx]
    kernel_rfl
  unfold Oper.wp
  rw [hr]
  exact h _ _ (Ext.alloc _ _) (sl_one w z hz)

/-- What the reading of an argument tells of a slice of bytes. -/
theorem Sl.of_ints {w : World} {x : Addr} {len cap : Nat} {zs : List Int} (hl : len ≤ cap) (hm : cap ≤ maxLen) (hz : zs.length = cap)
    (hcell : ∀ i, i < zs.length → w.cell? (x.add i) = some (.int .u8 (zs.getD i 0))) (hwz : ∀ n ∈ zs, (Lit.int .u8 n).wf = true) :
    Sl w (some x) len cap ((zs.take len).map fun z => UInt8.ofNat z.toNat) := by
  refine ⟨by simp; omega, hl, hm, ?_⟩
  rcases Nat.eq_zero_or_pos len with h0 | h0
  · subst h0; exact .inl (by simp)
  · obtain ⟨b, off, spot⟩ := x
    have hspot : spot = none := by simpa [Addr.add] using World.cell?_spot (hcell 0 (by omega))
    subst hspot
    refine .inr ⟨b, off, rfl, fun j u hj => ?_⟩
    have hj' : j < len := by
      rcases Nat.lt_or_ge j len with h | h
      · exact h
      · rw [List.getElem?_eq_none (by simp; omega)] at hj; cases hj
    have hjz : j < zs.length := by omega
    have hc := hcell j hjz
    rw [addr_add] at hc
    rw [hc]
    have hw := hwz zs[j] (List.getElem_mem hjz)
    simp [Lit.wf, IntKind.min, IntKind.max, IntKind.signed, IntKind.bits] at hw
    rw [List.getElem?_map, List.getElem?_map, List.getElem?_take_of_lt hj', List.getElem?_eq_getElem hjz] at hj
    simp only [Option.map_some, Option.some.injEq] at hj
    rw [← hj, ← bv_of _ (by omega)]
    simp [List.getD, List.getElem?_eq_getElem hjz]

/-- A slice of slices of bytes that reads as xss. -/
structure Sls (w : World) (A : Option Addr) (n c : Nat) (xss : List (List UInt8)) : Prop where
  len : n = xss.length
  cap : n ≤ c
  most : c ≤ maxLen
  cells : ∃ vs : List Value, vs.length = n ∧ Cells w A vs ∧ ∀ (j : Nat) (v : Value), vs[j]? = some v → ∃ Aj nj cj, v = Value.slice Aj nj cj ∧ Sl w Aj nj cj (xss[j]?.getD [])

section
variable {w w' : World} {A : Option Addr} {n c : Nat} {xss : List (List UInt8)}
theorem Sls.ext (h : Sls w A n c xss) (hx : Ext w w') : Sls w' A n c xss := by
  obtain ⟨h1, h2, h3, vs, h4, h5, h6⟩ := h
  refine ⟨h1, h2, h3, vs, h4, h5.below hx, fun j v hj => ?_⟩
  obtain ⟨Aj, nj, cj, hv, hs⟩ := h6 j v hj
  exact ⟨Aj, nj, cj, hv, hs.ext hx⟩
theorem Sls.nil (w : World) : Sls w none 0 0 [] := ⟨rfl, Nat.le_refl _, by simp [maxLen], [], rfl, .inl rfl, fun j v h => by simp at h⟩
theorem Sls.at_ (h : Sls w A n c xss) (hn : 0 < n) :
    ∃ b off, A = some ⟨b, off, none⟩ ∧ ∀ j (_ : j < n), ∃ Aj nj cj, w.cell? ⟨b, off + j, none⟩ = some (.slice Aj nj cj) ∧ Sl w Aj nj cj (xss[j]?.getD []) := by
  obtain ⟨h1, h2, h3, vs, h4, h5, h6⟩ := h
  obtain ⟨b, off, hA, hc⟩ := h5.at_ (by omega)
  refine ⟨b, off, hA, fun j hj => ?_⟩
  have hv : vs[j]? = some vs[j] := List.getElem?_eq_getElem (by omega)
  obtain ⟨Aj, nj, cj, hv', hs⟩ := h6 j _ hv
  exact ⟨Aj, nj, cj, by rw [hc j _ hv, hv'], hs⟩
end
end Go.Proofs.YtencmdpjiafnaaaGreatDoor
