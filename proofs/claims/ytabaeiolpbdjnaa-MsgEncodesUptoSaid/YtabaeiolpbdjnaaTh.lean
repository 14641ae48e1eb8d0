/- The walk of vergerlaw07's Theirs: a filter in new memory. -/
import Derived.Test.YtabaeiolpbdjnaaAp
import Derived.Test.YtabaeiolpbdjnaaMg
namespace Go.Proofs.Ytabaeiolpbdjnaa
open Go.RowKit
set_option maxRecDepth 100000
set_option linter.unusedSimpArgs false

/-- A filter whose lists are of a size that is looked at. -/
inductive FilOk : Fil → Prop where
  | mk {k : Int} {a v f l : ByteArray} {any : List ByteArray} {parts : List Fil} (h1 : any.length ≤ 1048576) (h2 : parts.length ≤ 1048576) (h3 : ∀ x ∈ parts, FilOk x) : FilOk (.mk k a v f l any parts)
/-- The filter, in new memory. -/
def FilNew (w : World) (x : Fil) (e : Ending) (w' : World) : Prop := ∃ us : List Value, e = .returned (.agg us.toArray) ∧ FilAt (fun b => w.heap.size ≤ b) w' us x ∧ Ext w w'
def TheirsSays (x : Fil) : Prop := FilOk x → ∀ (S : Nat → Prop) (vs : List Value) (w : World), FilAt S w vs x → Calls Try.prog 22 #[.agg vs.toArray] w (FilNew w x)
theorem cell_laterB {w wr : World} {B : Nat} {p : Addr} {v : Value} (h : w.cell? p = some v) (hB : w.heap.size ≤ B) (hx : Below B w wr) : ∀ w', Below B wr w' → w'.cell? p = some v := fun _ h' =>
  ((Below.trans hx h').cell (Nat.lt_of_lt_of_le (World.block_lt_of_cell? w p h) hB)).trans h
theorem boxRow {w : World} {g : Nat} {cs : Array Value} {T : TypeId} (hg : w.heap[g]? = some (.cells cs T (0, 0))) (i : Nat) {v : Value} (hv : cs[i]? = some v) : w.cell? ⟨g, i, none⟩ = some v := by
  rw [cell_of_row _ _ i cs T (0, 0) hg]; exact hv
theorem litstr_wp {w : World} {o : Oper} {a : Act} {K : Act → World → Prop} {Q : Exit → Act → World → Prop} (ho : o.op = .buildSlice 22 0 #[])
    (h : ∀ g w', g = w.heap.size → Ext w w' → w'.heap.size = g + 1 → (∀ base, base ≤ w.heap.size → w'.ownsRow base 9 1 (.slice (some ⟨g, 0, none⟩) 0 0) 0 []) → K (a.put o.dst (.slice (some ⟨g, 0, none⟩) 0 0)) w') : o.wp Try.prog a w K Q := by
  have hr : (execOp a.eval o).run Try.prog w = .ok (.value (.slice (some ⟨w.heap.size, 0, none⟩) 0 0)) (w.alloc (.cells #[] 9)) := by
    unfold execOp
    simp only [ho]
    kernel_rfl
  unfold Oper.wp
  rw [hr]
  exact h _ _ rfl (Ext.alloc _ _) (by simp) fun base hb => own_empty w base hb _ _
theorem Try.infoStr : (Try.prog.info? 9).map (fun i => (i.zero, i.size, i.bytes)) = some (some (.string ByteArray.empty), 1, 16) := by kernel_rfl

theorem Try.infoFil : (Try.prog.info? 39).map (fun i => (i.zero, i.size, i.bytes)) = some (some (.agg #[.int .i64 0, .string ByteArray.empty, .string ByteArray.empty, .string ByteArray.empty, .string ByteArray.empty, .slice none 0 0, .slice none 0 0]), 7, 120) := by kernel_rfl
theorem litfil_wp {w : World} {o : Oper} {a : Act} {K : Act → World → Prop} {Q : Exit → Act → World → Prop} (x : Operand) (ho : o.op = .buildSlice 37 1 #[(0, x)]) (x0 x1 x2 x3 x4 x5 x6 : Value) (hx : a.eval x = .agg #[x0, x1, x2, x3, x4, x5, x6])
    (h : ∀ g w', Ext w w' → Cells w' (some ⟨g, 0, none⟩) [x0, x1, x2, x3, x4, x5, x6] → K (a.put o.dst (.slice (some ⟨g, 0, none⟩) 1 1)) w') : o.wp Try.prog a w K Q := by
  have hr : (execOp a.eval o).run Try.prog w = .ok (.value (.slice (some ⟨w.heap.size, 0, none⟩) 1 1)) (w.alloc (.cells #[x0, x1, x2, x3, x4, x5, x6] 39)) := by
    unfold execOp
    simp only [ho, List.map_toArray, List.map_cons, List.map_nil, hx]
    kernel_rfl
  unfold Oper.wp
  rw [hr]
  refine h _ _ (Ext.alloc _ _) (.inr ⟨w.heap.size, 0, rfl, fun j u hj => ?_⟩)
  rw [Nat.zero_add, box_a]
  simpa using hj
theorem FilAt.belowB {S : Nat → Prop} {w w' : World} {v : List Value} {x : Fil} {B : Nat} (h : FilAt S w v x) (hx : Below B w w') (hB : w.heap.size ≤ B) : FilAt S w' v x :=
  ((h.mono (T := fun b => S b ∧ b < w.heap.size) fun _ hb hs => ⟨hs, hb⟩).same fun b hb => hx.block b (Nat.lt_of_lt_of_le hb.2 hB)).mono fun _ _ hs => hs.1
theorem FilAt.openP {S : Nat → Prop} {w : World} {vs : List Value} {x : Fil} (h : FilAt S w vs x) :
    ∃ A n c B m d, vs = [.int .i64 x.kind, .string x.attr, .string x.value, .string x.first, .string x.last, .slice A n c, .slice B m d] ∧ Row Elem.str S w A n c x.any ∧ Row Elem.fil S w B m d x.parts := by
  cases x
  exact FilAt.open_ h
theorem own_form7 {w : World} {base : Nat} {e : TypeId} {size : Nat} {v : Value} {n : Nat} {vs : List Value} (h : w.ownsRow base e size v n vs) : ∃ A c, v = .slice A n c := by
  rcases h.2 with ⟨rfl, rfl⟩ | ⟨g, cap, cur, rfl, _⟩
  · exact ⟨_, _, rfl⟩
  · exact ⟨_, _, rfl⟩
/-- What holds while the parts are laid. -/
structure TI (B0 B : Nat) (w2 wr : World) (g3 : Nat) (k : Int) (a v f l : ByteArray) (A : Option Addr) (n c : Nat) (any : List ByteArray) (parts : List Fil) (cv u : Value) (j : Nat) (pv : List (List Value)) : Prop where
  blk : wr.heap[g3]? = some (.cells #[.int .i64 k, .string a, .string v, .string f, .string l, .slice A n c, cv] 39 (0, 0))
  own : wr.ownsRow B 39 7 u j pv.flatten
  len : pv.length = j
  elems : ∀ (i : Nat) vs x, pv[i]? = some vs → parts[i]? = some x → FilAt (fun b => B0 ≤ b ∧ b ≠ g3 ∧ some b ≠ u.ownBlock) wr vs x
  any : Row Elem.str (fun b => B0 ≤ b ∧ b ≠ g3 ∧ some b ≠ u.ownBlock) wr A n c any
  low : B0 ≤ B ∧ B ≤ g3
  size : B ≤ wr.heap.size
  below : Below B w2 wr
  ne : u.ownBlock ≠ some g3
section
variable {B0 B : Nat} {w2 wr w' : World} {g3 : Nat} {k : Int} {a v f l : ByteArray} {A : Option Addr} {n c : Nat} {any : List ByteArray} {parts : List Fil} {cv u u' : Value} {j : Nat} {pv : List (List Value)}
theorem own_ext7 {w w' : World} {base : Nat} {e : TypeId} {size : Nat} {v : Value} {n : Nat} {xs : List Value} (h : w.ownsRow base e size v n xs) (hx : Ext w w') : w'.ownsRow base e size v n xs := own_ext h hx
theorem TI.ext (h : TI B0 B w2 wr g3 k a v f l A n c any parts cv u j pv) (hx : Ext wr w') : TI B0 B w2 w' g3 k a v f l A n c any parts cv u j pv :=
  ⟨row_later' h.blk hx, own_ext h.own hx, h.len, fun i vs x hi hp => (h.elems i vs x hi hp).ext hx, h.any.ext hx, h.low, Nat.le_trans h.size (ext_sz hx), Below.trans h.below (Below.mono hx h.size), h.ne⟩
theorem TI.push (h : TI B0 B w2 wr g3 k a v f l A n c any parts cv u j pv) {us : List Value} {x : Fil} {b0 : Nat} (ho : w'.ownsRow B 39 7 u' (j + 1) (pv.flatten ++ us)) (hg : wr.grownBy w' u.ownBlock) (hv : u'.ownBlock = u.ownBlock ∨ u'.ownBlock = some wr.heap.size)
    (hU : FilAt (fun b => b0 ≤ b) wr us x) (hx : parts[j]? = some x) (hb0 : B0 ≤ b0 ∧ g3 < b0 ∧ ∀ q, u.ownBlock = some q → q < b0) : TI B0 B w2 w' g3 k a v f l A n c any parts cv u' (j + 1) (pv ++ [us]) := by
  have hS : ∀ b, b < wr.heap.size → (B0 ≤ b ∧ b ≠ g3 ∧ some b ≠ u.ownBlock) → (B0 ≤ b ∧ b ≠ g3 ∧ some b ≠ u'.ownBlock) := fun b hb hs => ⟨hs.1, hs.2.1, fun e => by
    rcases hv with e' | e'
    · exact hs.2.2 (e.trans e')
    · rw [e'] at e; injection e with e; omega⟩
  have hsame : Same (fun b => (B0 ≤ b ∧ b ≠ g3 ∧ some b ≠ u.ownBlock) ∧ b < wr.heap.size) wr w' := fun b hb => hg.block b hb.2 hb.1.2.2
  have hfil : ∀ vs x, FilAt (fun b => B0 ≤ b ∧ b ≠ g3 ∧ some b ≠ u.ownBlock) wr vs x → FilAt (fun b => B0 ≤ b ∧ b ≠ g3 ∧ some b ≠ u'.ownBlock) w' vs x := fun vs x hf =>
    ((hf.mono (T := fun b => (B0 ≤ b ∧ b ≠ g3 ∧ some b ≠ u.ownBlock) ∧ b < wr.heap.size) fun _ hb hs => ⟨hs, hb⟩).same hsame |>.mono fun b _ hs => hS b hs.2 hs.1)
  have hUS : FilAt (fun b => B0 ≤ b ∧ b ≠ g3 ∧ some b ≠ u.ownBlock) wr us x := hU.mono fun b _ hb => ⟨Nat.le_trans hb0.1 hb, by have := hb0.2.1; omega, fun e => by have := hb0.2.2 b e.symm; omega⟩
  refine ⟨row_grown h.blk hg (Ne.symm h.ne), by simpa using ho, by simp [h.len], fun i vs y hi hp => ?_, (h.any.lt.same hsame).mono fun b _ hs => hS b hs.2 hs.1, h.low, Nat.le_trans h.size hg.size, Below.trans h.below (below_grown h.own hg h.size (Nat.le_refl _)), ?_⟩
  · rcases Nat.lt_or_ge i pv.length with hlt | hge
    · rw [List.getElem?_append_left hlt] at hi
      exact hfil _ _ (h.elems i vs y hi hp)
    · rw [List.getElem?_append_right hge] at hi
      have h0 : i - pv.length = 0 := by
        have := (List.getElem?_eq_some_iff.1 hi).1
        simp at this
        omega
      rw [h0] at hi
      simp at hi
      have : i = j := by have := h.len; omega
      subst this
      rw [hx] at hp
      injection hp with hp
      subst hi hp
      exact hfil _ _ hUS
  · intro e
    rcases hv with e' | e'
    · exact h.ne (e'.symm.trans e)
    · rw [e'] at e; injection e with e; have := row_lt h.blk; omega
theorem TI.store (h : TI B0 B w2 wr g3 k a v f l A n c any parts cv u j pv) (hg : wr.grownBy w' (some g3)) (hr : w'.heap[g3]? = some (.cells (over #[.int .i64 k, .string a, .string v, .string f, .string l, .slice A n c, cv] 6 u) 39 (0, 0))) (hu : ∃ A n c, u = .slice A n c) : TI B0 B w2 w' g3 k a v f l A n c any parts u u j pv := by
  obtain ⟨A', n', c', rfl⟩ := hu
  have hsame : Same (fun b => (B0 ≤ b ∧ b ≠ g3 ∧ some b ≠ (Value.slice A' n' c').ownBlock) ∧ b < wr.heap.size) wr w' := fun b hb => hg.block b hb.2 (fun e => hb.1.2.1 (by injection e))
  refine ⟨hr, h.own.kept hg (.inr h.ne), h.len, fun i vs x hi hp => ?_, (h.any.lt.same hsame).mono fun b _ hs => hs.1, h.low, Nat.le_trans h.size hg.size, Below.trans h.below (below_stored hg h.size h.low.2), h.ne⟩
  exact ((h.elems i vs x hi hp).mono (T := fun b => (B0 ≤ b ∧ b ≠ g3 ∧ some b ≠ (Value.slice A' n' c').ownBlock) ∧ b < wr.heap.size) fun _ hb hs => ⟨hs, hb⟩).same hsame |>.mono fun b _ hs => hs.1
end

set_option maxHeartbeats 4000000 in
theorem theirs_any : ∀ x, TheirsSays x := by
  refine Fil.ind fun k a v f l any parts ih => ?_
  rintro ⟨hk1, hk2, hk3⟩ S vs w h
  obtain ⟨A1, n1, c1, B1, m1, d1, rfl, r1, pr⟩ := FilAt.open_ h
  have IH := hid ih
  have HK := hid hk3
  have L1 := hid r1.len
  have L2 := hid pr.len
  have hn1 : n1 ≤ 1048576 := by rw [L1.out]; exact hk1
  have hm1 : m1 ≤ 1048576 := by rw [L2.out]; exact hk2
  have hz := (zero_of_info (P := Try.prog) (t := 39) (v := .agg #[.int .i64 0, .string ByteArray.empty, .string ByteArray.empty, .string ByteArray.empty, .string ByteArray.empty, .slice none 0 0, .slice none 0 0]) (n := 7) (by kernel_rfl)).1
  have HZ := hid hz
  clear h ih hk3 hz hk1 hk2
  go_enter Try.func22, Try.ntmps22
  go_wp2_with (first
    | (refine box_arm rfl 25 (.tmp 0) rfl _ rfl ?_; intro w1 hx1 hz1 hg1; have Hz1 := hid hz1; have Hg1 := hid hg1; have X1 := hid hx1; clear hz1 hg1 hx1)
    | (refine alloc_arm rfl 39 rfl _ HZ.out ?_; intro w2 hx2 hz2 hg2; have Hz2 := hid hz2; have Hg2 := hid hg2; have X2 := hid hx2; clear hz2 hg2 hx2))
  refine wp_region_planB w2.heap.size (.read 0 (.read 1 (.read 2 (.read 3 (.read 4 (.read 5 (.read 6 (.read 7 (.read 8 (.read 9 (.read 11 (.read 12 (.alt 10 (.alt 13 (.read 14 (.main 15 (.main 16 .done))) (.main 15 (.main 13 (.read 14 (.main 16 .done))))) (.main 15 (.main 10 (.main 13 (.read 14 (.main 16 .done)))))))))))))))))) (by kernel_rfl) (by kernel_rfl) ?_
  intro wD hxD
  have RA : Hid (∀ w', Below w2.heap.size wD w' → Cells w' A1 (any.map .string)) := fun w' hb => ((r1.ext (X1.out.trans X2.out)).below (Below.trans (Below.mono hxD (Nat.le_refl _)) hb) (Nat.le_refl _)).str_cells
  have XB : Hid (Below w2.heap.size wD wD) := Below.refl _ _
  have hBD := ext_sz hxD
  have p0 : ∀ w', Below w2.heap.size wD w' → w'.cell? ⟨w.heap.size, 0, none⟩ = some (.int .i64 k) := cell_laterB (cell_later (boxRow Hg1.out 0 rfl) _ X2.out) (Nat.le_refl _) hxD
  have p1 : ∀ w', Below w2.heap.size wD w' → w'.cell? ⟨w.heap.size, 1, none⟩ = some (.string a) := cell_laterB (cell_later (boxRow Hg1.out 1 rfl) _ X2.out) (Nat.le_refl _) hxD
  have p2 : ∀ w', Below w2.heap.size wD w' → w'.cell? ⟨w.heap.size, 2, none⟩ = some (.string v) := cell_laterB (cell_later (boxRow Hg1.out 2 rfl) _ X2.out) (Nat.le_refl _) hxD
  have p3 : ∀ w', Below w2.heap.size wD w' → w'.cell? ⟨w.heap.size, 3, none⟩ = some (.string f) := cell_laterB (cell_later (boxRow Hg1.out 3 rfl) _ X2.out) (Nat.le_refl _) hxD
  have p4 : ∀ w', Below w2.heap.size wD w' → w'.cell? ⟨w.heap.size, 4, none⟩ = some (.string l) := cell_laterB (cell_later (boxRow Hg1.out 4 rfl) _ X2.out) (Nat.le_refl _) hxD
  have p5 : ∀ w', Below w2.heap.size wD w' → w'.cell? ⟨w.heap.size, 5, none⟩ = some (.slice A1 n1 c1) := cell_laterB (cell_later (boxRow Hg1.out 5 rfl) _ X2.out) (Nat.le_refl _) hxD
  have p6 : ∀ w', Below w2.heap.size wD w' → w'.cell? ⟨w.heap.size, 6, none⟩ = some (.slice B1 m1 d1) := cell_laterB (cell_later (boxRow Hg1.out 6 rfl) _ X2.out) (Nat.le_refl _) hxD
  simp only [Act.put, List.setIfInBounds_toArray, List.set_cons_zero, List.set_cons_succ]
  repeat' (first
    | (refine walksB_move rfl rfl ?_; simp only [Act.put, Act.eval, List.setIfInBounds_toArray, List.set_cons_zero, List.set_cons_succ, Array.getD_eq_getD_getElem?, List.getElem?_toArray, List.getElem?_cons_zero, List.getElem?_cons_succ, Option.getD_some])
    | (refine walksB_assign rfl rfl ?_; simp only [Act.put, Act.eval, List.setIfInBounds_toArray, List.set_cons_zero, List.set_cons_succ, Array.getD_eq_getD_getElem?, List.getElem?_toArray, List.getElem?_cons_zero, List.getElem?_cons_succ, Option.getD_some])
    | (refine walksB_skip rfl rfl ?_; simp only [Act.put, List.setIfInBounds_toArray, List.set_cons_zero, List.set_cons_succ])
    | (refine walksB_unwanted rfl rfl ?_; simp only [Act.put, List.setIfInBounds_toArray, List.set_cons_zero, List.set_cons_succ])
    | (refine walksB_read (v := ?_) rfl rfl (fun w' hE => ?_) ?_; rotate_left 1; (· ((try (have hEx := Below.trans (Hid.out XB) hE)); go_simp; (try go_bits); with_reducible rfl)); simp only [Act.put, List.setIfInBounds_toArray, List.set_cons_zero, List.set_cons_succ])
    | (refine walksB_main rfl rfl (fun K hK => ?_); (first | (refine litstr_wp rfl ?_; intro ga wa ega hxa hza hoa; have hs := Nat.le_trans hBD (Below.size XB.out); have OW := hid (hoa w2.heap.size hs); (try have NE : Hid (some ga ≠ some g3) := hid (fun e => by injection e with e; have := row_lt G3.out; omega)); (try have G3 := hid (row_later' G3.out hxa)); have Ega := hid ega; have Hza := hid hza; clear ega hza hoa; have hBa := Below.mono hxa hs; have XB' := hid (Below.trans (Hid.out XB) (hBa)); clear XB; have XB := XB'; clear XB') | (refine wp_append_sz (.tmp 15) (.tmp 17) 22 rfl w2.heap.size 9 _ 1 16 Try.underlying22 Try.infoStr rfl (by decide) _ 0 [] rfl OW.out A1 n1 c1 (any.map .string) rfl (by simp [L1.out]) (RA.out _ XB.out) (by simp [Value.oneCell']) (by simp [maxLen]; omega) (by omega) (Nat.le_trans hBD (Below.size XB.out)) ?_; intro v18 wb hob hgb hvb; obtain ⟨A18, c18, rfl⟩ := own_form hob; have hs := Nat.le_trans hBD (Below.size XB.out); have hBb := below_grown OW.out hgb hs (Nat.le_refl _); (try have NV := hid (show (Value.slice A18 (0 + n1) c18).ownBlock ≠ some g3 from fun e => by rcases hvb with hv | hv; (· exact NE.out (hv.symm.trans e)); (· have h8 := row_lt G3.out; rw [hv] at e; injection e with e; omega))); (try have G3 := hid (row_grown G3.out hgb (Ne.symm NE.out))); have OV := hid hob; clear hob; have XB' := hid (Below.trans (Hid.out XB) (hBb)); clear XB; have XB := XB'; clear XB') | (refine wp_alloc' 39 rfl _ HZ.out ?_; intro g3 wc eg3 hxc hzc hrc; have hs := Nat.le_trans hBD (Below.size XB.out); have hg3 : w2.heap.size ≤ g3 := (by omega); have G3 := hid hrc; clear hrc; (try have NV := hid (show (Value.slice A18 (0 + n1) c18).ownBlock ≠ some g3 from fun e => by have := OV.out.lt _ e; omega)); (try have OV := hid (own_ext OV.out hxc)); (try have NE : Hid (some ga ≠ some g3) := hid (fun e => by injection e with e; have := Ega.out; have := Hza.out; omega)); (try have OW := hid (own_ext OW.out hxc)); have Eg3 := hid eg3; clear eg3 hzc; have hBc := Below.mono hxc hs; have XB' := hid (Below.trans (Hid.out XB) (hBc)); clear XB; have XB := XB'; clear XB') | (refine wp_store' 39 (.tmp 3) (.tmp 19) rfl g3 0 rfl (.agg #[.int .i64 k, .string a, .string v, .string f, .string l, .slice A18 n1 c18, .slice none 0 0]) rfl _ _ G3.out (by kernel_rfl) (by simp [Value.cells]) (by simp [Value.cells, Value.oneCell']) ?_; intro we hge hre; have hs := Nat.le_trans hBD (Below.size XB.out); have hBe := below_stored hge hs hg3; have G4 := hid hre; clear hre; have XB' := hid (Below.trans (Hid.out XB) (hBe)); clear XB; have XB := XB'; clear XB')); refine hK _ _ (by first | assumption | exact Below.refl _ _) ?_; clear hK K; try simp only [Act.put, List.setIfInBounds_toArray, List.set_cons_zero, List.set_cons_succ])
    | (refine walksB_alt ?_ ?_)
    | (refine walksB_main rfl rfl (fun K hK => ?_); go_wp2_with (fail); refine hK _ _ (by first | assumption | exact Below.refl _ _) ?_; clear hK K; try simp only [Act.put, List.setIfInBounds_toArray, List.set_cons_zero, List.set_cons_succ]))
  all_goals
    refine walksB_done ?_
    have hG5 := G4.out
    rw [show over (Value.agg #[Value.int IntKind.i64 0, Value.string ByteArray.empty, Value.string ByteArray.empty, Value.string ByteArray.empty, Value.string ByteArray.empty, Value.slice none 0 0, Value.slice none 0 0]).cells 0 (.agg #[.int .i64 k, .string a, .string v, .string f, .string l, .slice A18 n1 c18, .slice none 0 0]) = #[.int .i64 k, .string a, .string v, .string f, .string l, .slice A18 n1 c18, .slice none 0 0] from rfl] at hG5
    have G5 := hid hG5
    have BE : Hid (Below w2.heap.size w2 we) := Below.trans hxD XB.out
    have hO := OV.out.kept hge (.inr NV.out)
    rw [Nat.zero_add, List.nil_append] at hO
    have NV2 : (Value.slice A18 n1 c18).ownBlock ≠ some g3 := by have := NV.out; rwa [Nat.zero_add] at this
    have hB0 : w.heap.size ≤ w2.heap.size := ext_sz (X1.out.trans X2.out)
    have HT : Hid (TI w2.heap.size w2.heap.size w2 we g3 k a v f l A18 n1 c18 any parts (.slice none 0 0) (.slice none 0 0) 0 []) :=
      ⟨hG5, World.ownsRow_nil _ _ _ _, rfl, fun i vs x hi => by simp at hi, own_str hO fun g hg => ⟨(hO.lt g hg).1, fun e => by subst e; exact NV2 hg, by simp [Value.ownBlock]⟩, ⟨Nat.le_refl _, hg3⟩, Nat.le_trans hBD (Below.size XB.out), BE.out, by simp [Value.ownBlock]⟩
    have P6 : Hid (w2.cell? ⟨w.heap.size, 6, none⟩ = some (.slice B1 m1 d1)) := cell_later (boxRow Hg1.out 6 rfl) _ X2.out
    have p6' := p6 _ XB.out
    clear hG5 hO p0 p1 p2 p3 p4 p5 p6 OV
    simp only [Nat.zero_add]
    go_wp2
    clear p6'
    go_loopw [23] (fun i wr => ∃ (j : Nat) (Ap : Option Addr) (cp : Nat) (pv : List (List Value)), j ≤ m1 ∧ i = .int .i64 j ∧ Hid (TI w2.heap.size w2.heap.size w2 wr g3 k a v f l A18 n1 c18 any parts (.slice Ap j cp) (.slice Ap j cp) j pv)) (fun i _ => m1 - (intOf i).toNat)
    case atStart => exact ⟨0, none, 0, [], by omega, rfl, HT⟩
    case round =>
      obtain ⟨j, Ap, cp, pv, hj, rfl, HI⟩ := hrel
      by_cases hlt : j < m1
      · obtain ⟨b1, o1, v1, x1, rfl, gx, _, R1, q1⟩ := (pr.ext (X1.out.trans X2.out)).at_ hlt
        have hsx := hid (IH.out x1 (List.mem_of_getElem? gx) (HK.out x1 (List.mem_of_getElem? gx)))
        have HX1 := hid gx
        obtain ⟨ka, aa, va, fa, la, anya, pa⟩ := x1
        have HR := hid R1
        obtain ⟨E1, e1, i1, F1, f1, j1, rfl, -, -⟩ := FilAt.open_ R1
        have HC : Hid (∀ wc, Below w2.heap.size w2 wc → Calls Try.prog 22 #[.agg #[.int .i64 ka, .string aa, .string va, .string fa, .string la, .slice E1 e1 i1, .slice F1 f1 j1]] wc (FilNew wc (.mk ka aa va fa la anya pa))) := fun wc hb => hsx.out _ _ wc (FilAt.belowB HR.out hb (Nat.le_refl _))
        clear R1 gx
        go_wp2
        refine wp_region_planB w2.heap.size (.read 0 (.read 2 (.read 3 (.read 4 (.read 5 (.read 6 (.alt 1 (.main 7 (.main 8 (.main 9 (.read 10 (.main 11 .done))))) (.main 7 (.alt 1 (.main 8 (.main 9 (.read 10 (.main 11 .done)))) (.main 8 (.main 1 (.main 9 (.read 10 (.main 11 .done)))))))))))))) (by kernel_rfl) (by kernel_rfl) ?_
        intro wD hxD
        have XB : Hid (Below w2.heap.size wD wD) := Below.refl _ _
        have XF := hid (Below.trans HI.out.below (Below.mono hxD HI.out.size))
        have HJ := hid (HI.out.ext hxD)
        have y0 : ∀ w', Below w2.heap.size wD w' → w'.cell? ⟨b1, o1 + j * 7, none⟩ = some (.int .i64 ka) := cell_laterB (by have := q1 0 _ rfl; simpa [Elem.fil] using this) (Nat.le_refl _) XF.out; have y1 : ∀ w', Below w2.heap.size wD w' → w'.cell? ⟨b1, o1 + j * 7 + 1, none⟩ = some (.string aa) := cell_laterB (by have := q1 1 _ rfl; simpa [Elem.fil] using this) (Nat.le_refl _) XF.out; have y2 : ∀ w', Below w2.heap.size wD w' → w'.cell? ⟨b1, o1 + j * 7 + 2, none⟩ = some (.string va) := cell_laterB (by have := q1 2 _ rfl; simpa [Elem.fil] using this) (Nat.le_refl _) XF.out; have y3 : ∀ w', Below w2.heap.size wD w' → w'.cell? ⟨b1, o1 + j * 7 + 3, none⟩ = some (.string fa) := cell_laterB (by have := q1 3 _ rfl; simpa [Elem.fil] using this) (Nat.le_refl _) XF.out; have y4 : ∀ w', Below w2.heap.size wD w' → w'.cell? ⟨b1, o1 + j * 7 + 4, none⟩ = some (.string la) := cell_laterB (by have := q1 4 _ rfl; simpa [Elem.fil] using this) (Nat.le_refl _) XF.out; have y5 : ∀ w', Below w2.heap.size wD w' → w'.cell? ⟨b1, o1 + j * 7 + 5, none⟩ = some (.slice E1 e1 i1) := cell_laterB (by have := q1 5 _ rfl; simpa [Elem.fil] using this) (Nat.le_refl _) XF.out; have y6 : ∀ w', Below w2.heap.size wD w' → w'.cell? ⟨b1, o1 + j * 7 + 6, none⟩ = some (.slice F1 f1 j1) := cell_laterB (by have := q1 6 _ rfl; simpa [Elem.fil] using this) (Nat.le_refl _) XF.out; have y9 : ∀ w', Below w2.heap.size wD w' → w'.cell? ⟨w.heap.size, 6, none⟩ = some (.slice (some ⟨b1, o1, none⟩) m1 d1) := cell_laterB P6.out (Nat.le_refl _) XF.out
        clear q1
        repeat' (first
          | (refine walksB_move rfl rfl ?_; simp only [Act.put, Act.eval, List.setIfInBounds_toArray, List.set_cons_zero, List.set_cons_succ, Array.getD_eq_getD_getElem?, List.getElem?_toArray, List.getElem?_cons_zero, List.getElem?_cons_succ, Option.getD_some])
          | (refine walksB_assign rfl rfl ?_; simp only [Act.put, Act.eval, List.setIfInBounds_toArray, List.set_cons_zero, List.set_cons_succ, Array.getD_eq_getD_getElem?, List.getElem?_toArray, List.getElem?_cons_zero, List.getElem?_cons_succ, Option.getD_some])
          | (refine walksB_skip rfl rfl ?_; simp only [Act.put, List.setIfInBounds_toArray, List.set_cons_zero, List.set_cons_succ])
          | (refine walksB_unwanted rfl rfl ?_; simp only [Act.put, List.setIfInBounds_toArray, List.set_cons_zero, List.set_cons_succ])
          | (refine walksB_read (v := ?_) rfl rfl (fun w' hE => ?_) ?_; rotate_left 1; (· ((try (have hEx := Below.trans (Hid.out XB) hE)); go_simp; (try go_bits); with_reducible rfl)); simp only [Act.put, List.setIfInBounds_toArray, List.set_cons_zero, List.set_cons_succ])
          | (refine walksB_alt ?_ ?_))
        · refine walksB_main rfl rfl (fun K hK => ?_)
          refine wp_load_cell 37 (.tmp 26) rfl ⟨g3, 6, none⟩ rfl (.slice Ap j cp) (boxRow HJ.out.blk 6 rfl) (fun _ => by kernel_rfl) ?_
          refine hK _ _ (Below.refl _ _) ?_
          clear hK K
          try simp only [Act.put, List.setIfInBounds_toArray, List.set_cons_zero, List.set_cons_succ]
          refine walksB_main rfl rfl (fun K hK => ?_)
          go_wp2_with (go_at_call 22; (with_reducible refine (HC.out _ HJ.out.below).mono ?_); rintro e w4 ⟨us, rfl, hU, hx4⟩; obtain ⟨G1, g1, h1, G2, g2, h2, rfl, -, -⟩ := FilAt.open_ hU; have HLo := hid (show w2.heap.size ≤ wD.heap.size ∧ g3 < wD.heap.size ∧ ∀ q, (Value.slice Ap j cp).ownBlock = some q → q < wD.heap.size from ⟨Nat.le_trans HJ.out.low.1 HJ.out.size, row_lt HJ.out.blk, fun q hq => (HJ.out.own.lt q hq).2⟩); have HU := hid hU; clear hU; have hb4 := Below.mono hx4 HJ.out.size; have XB' := hid (Below.trans (Hid.out XB) (hb4)); clear XB; have XB := XB'; clear XB'; have HJ' := hid (HJ.out.ext hx4); clear HJ; have HJ := HJ'; clear HJ')
          refine hK _ _ (by first | assumption | exact Below.refl _ _) ?_
          clear hK K
          try simp only [Act.put, List.setIfInBounds_toArray, List.set_cons_zero, List.set_cons_succ]
          refine walksB_main rfl rfl (fun K hK => ?_)
          refine litfil_wp (.tmp 33) rfl (.int .i64 ka) (.string aa) (.string va) (.string fa) (.string la) (.slice G1 g1 h1) (.slice G2 g2 h2) rfl ?_
          intro gl wl hxl hcl
          have HCl := hid hcl
          clear hcl
          have hbl := Below.mono hxl HJ.out.size
          have XB' := hid (Below.trans (Hid.out XB) (hbl)); clear XB; have XB := XB'; clear XB'
          have HU' := hid (FilAt.ext HU.out hxl)
          clear HU
          have HU := HU'
          clear HU'
          have HJ' := hid (HJ.out.ext hxl)
          clear HJ
          have HJ := HJ'
          clear HJ'
          refine hK _ _ (by first | assumption | exact Below.refl _ _) ?_
          clear hK K
          try simp only [Act.put, List.setIfInBounds_toArray, List.set_cons_zero, List.set_cons_succ]
          refine walksB_main rfl rfl (fun K hK => ?_)
          refine wp_append_sz (.tmp 27) (.tmp 34) 37 rfl w2.heap.size 39 _ 7 120 Try.underlying37 Try.infoFil rfl (by decide) _ j pv.flatten rfl HJ.out.own (some ⟨gl, 0, none⟩) 1 1 [.int .i64 ka, .string aa, .string va, .string fa, .string la, .slice G1 g1 h1, .slice G2 g2 h2] rfl rfl HCl.out (by simp [Value.oneCell']) (by simp [maxLen]; omega) (by omega) HJ.out.size ?_
          intro u' wa hoa hga hva
          obtain ⟨Aq, cq, rfl⟩ := own_form7 hoa
          have hbl := below_grown HJ.out.own hga HJ.out.size (Nat.le_refl _)
          have XB' := hid (Below.trans (Hid.out XB) (hbl)); clear XB; have XB := XB'; clear XB'
          have HJ' := hid (HJ.out.push hoa hga hva HU.out HX1.out HLo.out)
          clear HJ
          have HJ := HJ'
          clear HJ'
          refine hK _ _ (by first | assumption | exact Below.refl _ _) ?_
          clear hK K
          try simp only [Act.put, List.setIfInBounds_toArray, List.set_cons_zero, List.set_cons_succ]
          refine walksB_read (v := ?_) rfl rfl (fun w' hE => ?_) ?_; rotate_left 1; (· (go_simp; (try go_bits); with_reducible rfl)); simp only [Act.put, List.setIfInBounds_toArray, List.set_cons_zero, List.set_cons_succ]
          refine walksB_main rfl rfl (fun K hK => ?_)
          refine wp_store' 37 (.tmp 36) (.tmp 35) rfl g3 6 rfl (.slice Aq (j + 1) cq) rfl _ _ HJ.out.blk (by kernel_rfl) (by simp [Value.cells]) (by simp [Value.cells, Value.oneCell']) ?_
          intro ws hgs hrs
          have hbl := below_stored hgs HJ.out.size HJ.out.low.2
          have HJ' := hid (HJ.out.store hgs hrs ⟨_, _, _, rfl⟩)
          clear HJ
          have HJ := HJ'
          clear HJ'
          refine hK _ _ (by first | assumption | exact Below.refl _ _) ?_
          clear hK K
          try simp only [Act.put, List.setIfInBounds_toArray, List.set_cons_zero, List.set_cons_succ]
          refine walksB_done ?_
          go_wp2
          exact ⟨⟨j + 1, Aq, cq, pv ++ [_], by omega, by go_num, HJ⟩, by simp [intOf]; omega⟩
        · refine walksB_main rfl rfl (fun K hK => ?_)
          go_wp2_with (go_at_call 22; (with_reducible refine (HC.out _ HJ.out.below).mono ?_); rintro e w4 ⟨us, rfl, hU, hx4⟩; obtain ⟨G1, g1, h1, G2, g2, h2, rfl, -, -⟩ := FilAt.open_ hU; have HLo := hid (show w2.heap.size ≤ wD.heap.size ∧ g3 < wD.heap.size ∧ ∀ q, (Value.slice Ap j cp).ownBlock = some q → q < wD.heap.size from ⟨Nat.le_trans HJ.out.low.1 HJ.out.size, row_lt HJ.out.blk, fun q hq => (HJ.out.own.lt q hq).2⟩); have HU := hid hU; clear hU; have hb4 := Below.mono hx4 HJ.out.size; have XB' := hid (Below.trans (Hid.out XB) (hb4)); clear XB; have XB := XB'; clear XB'; have HJ' := hid (HJ.out.ext hx4); clear HJ; have HJ := HJ'; clear HJ')
          refine hK _ _ (by first | assumption | exact Below.refl _ _) ?_
          clear hK K
          try simp only [Act.put, List.setIfInBounds_toArray, List.set_cons_zero, List.set_cons_succ]
          refine walksB_alt ?_ ?_
          · refine walksB_main rfl rfl (fun K hK => ?_)
            refine wp_load_cell 37 (.tmp 26) rfl ⟨g3, 6, none⟩ rfl (.slice Ap j cp) (boxRow HJ.out.blk 6 rfl) (fun _ => by kernel_rfl) ?_
            refine hK _ _ (Below.refl _ _) ?_
            clear hK K
            try simp only [Act.put, List.setIfInBounds_toArray, List.set_cons_zero, List.set_cons_succ]
            refine walksB_main rfl rfl (fun K hK => ?_)
            refine litfil_wp (.tmp 33) rfl (.int .i64 ka) (.string aa) (.string va) (.string fa) (.string la) (.slice G1 g1 h1) (.slice G2 g2 h2) rfl ?_
            intro gl wl hxl hcl
            have HCl := hid hcl
            clear hcl
            have hbl := Below.mono hxl HJ.out.size
            have XB' := hid (Below.trans (Hid.out XB) (hbl)); clear XB; have XB := XB'; clear XB'
            have HU' := hid (FilAt.ext HU.out hxl)
            clear HU
            have HU := HU'
            clear HU'
            have HJ' := hid (HJ.out.ext hxl)
            clear HJ
            have HJ := HJ'
            clear HJ'
            refine hK _ _ (by first | assumption | exact Below.refl _ _) ?_
            clear hK K
            try simp only [Act.put, List.setIfInBounds_toArray, List.set_cons_zero, List.set_cons_succ]
            refine walksB_main rfl rfl (fun K hK => ?_)
            refine wp_append_sz (.tmp 27) (.tmp 34) 37 rfl w2.heap.size 39 _ 7 120 Try.underlying37 Try.infoFil rfl (by decide) _ j pv.flatten rfl HJ.out.own (some ⟨gl, 0, none⟩) 1 1 [.int .i64 ka, .string aa, .string va, .string fa, .string la, .slice G1 g1 h1, .slice G2 g2 h2] rfl rfl HCl.out (by simp [Value.oneCell']) (by simp [maxLen]; omega) (by omega) HJ.out.size ?_
            intro u' wa hoa hga hva
            obtain ⟨Aq, cq, rfl⟩ := own_form7 hoa
            have hbl := below_grown HJ.out.own hga HJ.out.size (Nat.le_refl _)
            have XB' := hid (Below.trans (Hid.out XB) (hbl)); clear XB; have XB := XB'; clear XB'
            have HJ' := hid (HJ.out.push hoa hga hva HU.out HX1.out HLo.out)
            clear HJ
            have HJ := HJ'
            clear HJ'
            refine hK _ _ (by first | assumption | exact Below.refl _ _) ?_
            clear hK K
            try simp only [Act.put, List.setIfInBounds_toArray, List.set_cons_zero, List.set_cons_succ]
            refine walksB_read (v := ?_) rfl rfl (fun w' hE => ?_) ?_; rotate_left 1; (· (go_simp; (try go_bits); with_reducible rfl)); simp only [Act.put, List.setIfInBounds_toArray, List.set_cons_zero, List.set_cons_succ]
            refine walksB_main rfl rfl (fun K hK => ?_)
            refine wp_store' 37 (.tmp 36) (.tmp 35) rfl g3 6 rfl (.slice Aq (j + 1) cq) rfl _ _ HJ.out.blk (by kernel_rfl) (by simp [Value.cells]) (by simp [Value.cells, Value.oneCell']) ?_
            intro ws hgs hrs
            have hbl := below_stored hgs HJ.out.size HJ.out.low.2
            have HJ' := hid (HJ.out.store hgs hrs ⟨_, _, _, rfl⟩)
            clear HJ
            have HJ := HJ'
            clear HJ'
            refine hK _ _ (by first | assumption | exact Below.refl _ _) ?_
            clear hK K
            try simp only [Act.put, List.setIfInBounds_toArray, List.set_cons_zero, List.set_cons_succ]
            refine walksB_done ?_
            go_wp2
            exact ⟨⟨j + 1, Aq, cq, pv ++ [_], by omega, by go_num, HJ⟩, by simp [intOf]; omega⟩
          · refine walksB_main rfl rfl (fun K hK => ?_)
            refine litfil_wp (.tmp 33) rfl (.int .i64 ka) (.string aa) (.string va) (.string fa) (.string la) (.slice G1 g1 h1) (.slice G2 g2 h2) rfl ?_
            intro gl wl hxl hcl
            have HCl := hid hcl
            clear hcl
            have hbl := Below.mono hxl HJ.out.size
            have XB' := hid (Below.trans (Hid.out XB) (hbl)); clear XB; have XB := XB'; clear XB'
            have HU' := hid (FilAt.ext HU.out hxl)
            clear HU
            have HU := HU'
            clear HU'
            have HJ' := hid (HJ.out.ext hxl)
            clear HJ
            have HJ := HJ'
            clear HJ'
            refine hK _ _ (by first | assumption | exact Below.refl _ _) ?_
            clear hK K
            try simp only [Act.put, List.setIfInBounds_toArray, List.set_cons_zero, List.set_cons_succ]
            refine walksB_main rfl rfl (fun K hK => ?_)
            refine wp_load_cell 37 (.tmp 26) rfl ⟨g3, 6, none⟩ rfl (.slice Ap j cp) (boxRow HJ.out.blk 6 rfl) (fun _ => by kernel_rfl) ?_
            refine hK _ _ (Below.refl _ _) ?_
            clear hK K
            try simp only [Act.put, List.setIfInBounds_toArray, List.set_cons_zero, List.set_cons_succ]
            refine walksB_main rfl rfl (fun K hK => ?_)
            refine wp_append_sz (.tmp 27) (.tmp 34) 37 rfl w2.heap.size 39 _ 7 120 Try.underlying37 Try.infoFil rfl (by decide) _ j pv.flatten rfl HJ.out.own (some ⟨gl, 0, none⟩) 1 1 [.int .i64 ka, .string aa, .string va, .string fa, .string la, .slice G1 g1 h1, .slice G2 g2 h2] rfl rfl HCl.out (by simp [Value.oneCell']) (by simp [maxLen]; omega) (by omega) HJ.out.size ?_
            intro u' wa hoa hga hva
            obtain ⟨Aq, cq, rfl⟩ := own_form7 hoa
            have hbl := below_grown HJ.out.own hga HJ.out.size (Nat.le_refl _)
            have XB' := hid (Below.trans (Hid.out XB) (hbl)); clear XB; have XB := XB'; clear XB'
            have HJ' := hid (HJ.out.push hoa hga hva HU.out HX1.out HLo.out)
            clear HJ
            have HJ := HJ'
            clear HJ'
            refine hK _ _ (by first | assumption | exact Below.refl _ _) ?_
            clear hK K
            try simp only [Act.put, List.setIfInBounds_toArray, List.set_cons_zero, List.set_cons_succ]
            refine walksB_read (v := ?_) rfl rfl (fun w' hE => ?_) ?_; rotate_left 1; (· (go_simp; (try go_bits); with_reducible rfl)); simp only [Act.put, List.setIfInBounds_toArray, List.set_cons_zero, List.set_cons_succ]
            refine walksB_main rfl rfl (fun K hK => ?_)
            refine wp_store' 37 (.tmp 36) (.tmp 35) rfl g3 6 rfl (.slice Aq (j + 1) cq) rfl _ _ HJ.out.blk (by kernel_rfl) (by simp [Value.cells]) (by simp [Value.cells, Value.oneCell']) ?_
            intro ws hgs hrs
            have hbl := below_stored hgs HJ.out.size HJ.out.low.2
            have HJ' := hid (HJ.out.store hgs hrs ⟨_, _, _, rfl⟩)
            clear HJ
            have HJ := HJ'
            clear HJ'
            refine hK _ _ (by first | assumption | exact Below.refl _ _) ?_
            clear hK K
            try simp only [Act.put, List.setIfInBounds_toArray, List.set_cons_zero, List.set_cons_succ]
            refine walksB_done ?_
            go_wp2
            exact ⟨⟨j + 1, Aq, cq, pv ++ [_], by omega, by go_num, HJ⟩, by simp [intOf]; omega⟩
      · obtain rfl : m1 = j := by omega
        have Hr2 : Hid (wr.heap[w1.heap.size]? = _) := (HI.out.below.block w1.heap.size (row_lt Hg2.out)).trans Hg2.out
        have Hr3 := hid (HI.out.blk)
        go_wp2_with (first
          | (refine wpList_load_row rfl 39 (.tmp 3) rfl g3 rfl _ _ _ _ Hr3.out Try.underlying39 rfl (by kernel_rfl) ?_)
          | (refine store_arm rfl 39 (.tmp 2) (.tmp 38) rfl w1.heap.size 0 rfl (.agg #[.int .i64 k, .string a, .string v, .string f, .string l, .slice A18 n1 c18, .slice Ap m1 cp]) rfl _ _ Hr2.out (by kernel_rfl) (by simp [Value.cells]) (by simp [Value.cells, Value.oneCell']) ?_; intro wz hgz hzz hrz; have Hrz := hid hrz; have Hzz := hid hzz; clear hrz hzz))
        refine bodyPost_ret (v := .agg #[.int .i64 k, .string a, .string v, .string f, .string l, .slice A18 n1 c18, .slice Ap m1 cp]) (results_cell_row (p := 2) (ty := 39) (by kernel_rfl) _ _ _ _ _ _ _ rfl Hrz.out Try.underlying39 rfl (by kernel_rfl)) rfl ⟨[.int .i64 k, .string a, .string v, .string f, .string l, .slice A18 n1 c18, .slice Ap m1 cp], rfl, ?_, ?_⟩
        · have hw12 : w1.heap.size < w2.heap.size := row_lt Hg2.out
          have hsame : Same (fun b => w2.heap.size ≤ b) wr wz := fun b hb => by
            rcases Nat.lt_or_ge b wr.heap.size with h | h
            · exact hgz.block b h (fun e => by injection e with e; omega)
            · rw [Array.getElem?_eq_none (by rw [Hzz.out]; exact h), Array.getElem?_eq_none h]
          have hany := (HI.out.any.mono (T := fun b => w2.heap.size ≤ b) fun b _ hs => hs.1).same hsame
          have hparts : Row Elem.fil (fun b => w2.heap.size ≤ b) wr Ap m1 cp parts := own_rows (E := Elem.fil) HI.out.own L2.out HI.out.len (fun g hg => (HI.out.own.lt g hg).1) fun i v x hi hx => FilAt.mono (HI.out.elems i v x hi hx) fun b _ hs => hs.1
          exact FilAt.shut (hany.mono fun b _ hs => Nat.le_trans hB0 hs) ((hparts.same hsame).mono fun b _ hs => Nat.le_trans hB0 hs)
        · exact Below.trans (X1.out.trans X2.out) (Below.trans (Below.mono HI.out.below hB0) (below_stored hgz (Nat.le_trans hB0 HI.out.size) (ext_sz X1.out)))
end Go.Proofs.Ytabaeiolpbdjnaa
