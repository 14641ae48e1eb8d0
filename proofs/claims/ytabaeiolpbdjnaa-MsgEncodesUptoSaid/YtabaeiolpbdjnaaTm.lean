/- The walk of vergerlaw08's Theirs: a message in new memory. -/
import Derived.Test.YtabaeiolpbdjnaaTh
namespace Go.Proofs.Ytabaeiolpbdjnaa
open Go.RowKit
set_option maxRecDepth 100000
set_option linter.unusedSimpArgs false

/-- The message, in new memory or over what was there. -/
def MsgNew (w : World) (m : Msg) (e : Ending) (w' : World) : Prop := ∃ (us : Array Value) (d : MsgD), e = .returned (.agg us) ∧ us = (msgCells m d).toArray ∧ MsgRows (fun _ => True) w' m d ∧ Ext w w'
def zeroMsg : List Value := [.int .i64 0, .int .i64 0, .string ByteArray.empty, .string ByteArray.empty, .int .i64 0, .int .i64 0, .int .i64 0, .int .i64 0, .int .i64 0, .bool false,
   .int .i64 0, .string ByteArray.empty, .string ByteArray.empty, .string ByteArray.empty, .string ByteArray.empty, .slice none 0 0, .slice none 0 0,
   .slice none 0 0, .slice none 0 0, .slice none 0 0, .string ByteArray.empty, .bool false, .bool false, .string ByteArray.empty, .string ByteArray.empty, .string ByteArray.empty,
   .int .i64 0, .int .i64 0, .string ByteArray.empty, .string ByteArray.empty, .slice none 0 0, .slice none 0 0]
theorem MsgRows.same {S : Nat → Prop} {w w' : World} {m : Msg} {d : MsgD} (h : MsgRows S w m d) (hk : Same S w w') : MsgRows S w' m d :=
  ⟨h.any.same hk, h.parts.same hk, h.attrs.same hk, h.list.same hk, h.chgs.same hk, h.refs.same hk, h.ctls.same hk⟩
theorem MsgRows.mono {S T : Nat → Prop} {w : World} {m : Msg} {d : MsgD} (h : MsgRows S w m d) (hs : ∀ x, x < w.heap.size → S x → T x) : MsgRows T w m d :=
  ⟨h.any.mono hs, h.parts.mono hs, h.attrs.mono hs, h.list.mono hs, h.chgs.mono hs, h.refs.mono hs, h.ctls.mono hs⟩
/-- The cells of a control; of several. -/
def ctlCell (x : Ctl) : List Value := [.string x.oid, .bool x.crit, .bool x.has, .string x.val]
def ctlsCells (l : List Ctl) : List Value := (l.map ctlCell).flatten
/-- What holds while the controls are laid. -/
structure TM (B r : Nat) (w2 wr : World) (g3 : Nat) (m : Msg) (d0 : MsgD) (cv u : Sv) (j : Nat) : Prop where
  blk : wr.heap[g3]? = some (.cells (msgCells m { d0 with ctls := cv }).toArray 42 (0, 0))
  own : wr.ownsRow B 61 4 (.slice u.A u.n u.c) j (ctlsCells (m.ctls.take j))
  rows : MsgRows (fun b => (b ≠ r ∧ b ≠ g3) ∧ some b ≠ (Value.slice u.A u.n u.c).ownBlock) wr { m with ctls := [] } { d0 with ctls := ⟨none, 0, 0⟩ }
  low : B ≤ g3
  size : B ≤ wr.heap.size
  below : Below B w2 wr
  ne : (Value.slice u.A u.n u.c).ownBlock ≠ some g3
section
variable {B r : Nat} {w2 wr w' : World} {g3 : Nat} {m : Msg} {d0 : MsgD} {cv u u' : Sv} {j : Nat}
theorem TM.ext (h : TM B r w2 wr g3 m d0 cv u j) (hx : Ext wr w') : TM B r w2 w' g3 m d0 cv u j :=
  ⟨row_later' h.blk hx, own_ext h.own hx, h.rows.ext hx, h.low, Nat.le_trans h.size (ext_sz hx), Below.trans h.below (Below.mono hx h.size), h.ne⟩
theorem TM.push (h : TM B r w2 wr g3 m d0 cv u j) {x : Ctl} (hx : m.ctls[j]? = some x) (ho : w'.ownsRow B 61 4 (.slice u'.A u'.n u'.c) (j + 1) (ctlsCells (m.ctls.take j) ++ ctlCell x)) (hg : wr.grownBy w' (Value.slice u.A u.n u.c).ownBlock)
    (hv : (Value.slice u'.A u'.n u'.c).ownBlock = (Value.slice u.A u.n u.c).ownBlock ∨ (Value.slice u'.A u'.n u'.c).ownBlock = some wr.heap.size) : TM B r w2 w' g3 m d0 cv u' (j + 1) := by
  refine ⟨row_grown h.blk hg (Ne.symm h.ne), ?_, ?_, h.low, Nat.le_trans h.size hg.size, Below.trans h.below (below_grown h.own hg h.size (Nat.le_refl _)), ?_⟩
  · rw [List.take_add_one, hx]
    simpa [ctlsCells] using ho
  · have h1 := (h.rows.mono (T := fun b => ((b ≠ r ∧ b ≠ g3) ∧ some b ≠ (Value.slice u.A u.n u.c).ownBlock) ∧ b < wr.heap.size) fun _ hb hs => ⟨hs, hb⟩).same fun b hb => hg.block b hb.2 hb.1.2
    exact h1.mono fun b _ hs => ⟨hs.1.1, fun e => by
      rcases hv with e' | e'
      · exact hs.1.2 (e.trans e')
      · rw [e'] at e; injection e with e; have := hs.2; omega⟩
  · intro e
    rcases hv with e' | e'
    · exact h.ne (e'.symm.trans e)
    · rw [e'] at e; injection e with e; have := row_lt h.blk; omega
theorem TM.store (h : TM B r w2 wr g3 m d0 cv u j) (hg : wr.grownBy w' (some g3)) (hr : w'.heap[g3]? = some (.cells (over (msgCells m { d0 with ctls := cv }).toArray 31 (.slice u.A u.n u.c)) 42 (0, 0))) : TM B r w2 w' g3 m d0 u u j := by
  have h1 := (h.rows.mono (T := fun b => ((b ≠ r ∧ b ≠ g3) ∧ some b ≠ (Value.slice u.A u.n u.c).ownBlock) ∧ b < wr.heap.size) fun _ hb hs => ⟨hs, hb⟩).same fun b hb => hg.block b hb.2 (fun e => hb.1.1.2 (by injection e))
  exact ⟨hr, h.own.kept hg (.inr h.ne), h1.mono fun b _ hs => hs.1, h.low, Nat.le_trans h.size hg.size, Below.trans h.below (below_stored hg h.size h.low), h.ne⟩
end
theorem MsgRows.old {S : Nat → Prop} {w w2 : World} {m : Msg} {d : MsgD} (h : MsgRows S w m d) (hx : Ext w w2) : MsgRows (fun b => b < w.heap.size) w2 m d := (h.mono fun _ hb _ => hb).ext hx
theorem TM.start {B0 B r : Nat} {w2 we : World} {g3 : Nat} {m : Msg} {d : MsgD} {da dp : Sv} (hm : MsgRows (fun b => b < B0) w2 m d) (h0 : B0 ≤ r) (hr : r < B) (hB : w2.heap.size = B) (hb : Below B w2 we) (hg : B ≤ g3) (hs : B ≤ we.heap.size)
    (hc : we.heap[g3]? = some (.cells (msgCells m ⟨da, dp, d.attrs, d.list, d.chgs, d.refs, ⟨none, 0, 0⟩⟩).toArray 42 (0, 0))) (ra : Row Elem.str (fun b => b ≠ g3 ∧ B ≤ b) we da.A da.n da.c m.fil.any) (rp : Row Elem.fil (fun b => b ≠ g3 ∧ B ≤ b) we dp.A dp.n dp.c m.fil.parts) :
    TM B r w2 we g3 m ⟨da, dp, d.attrs, d.list, d.chgs, d.refs, ⟨none, 0, 0⟩⟩ ⟨none, 0, 0⟩ ⟨none, 0, 0⟩ 0 := by
  subst hB
  have hnew : ∀ b, b < we.heap.size → (b ≠ g3 ∧ w2.heap.size ≤ b) → (b ≠ r ∧ b ≠ g3) ∧ some b ≠ (Value.slice none 0 0).ownBlock := fun b _ h => ⟨⟨by omega, h.1⟩, by simp [Value.ownBlock]⟩
  have hlow : ∀ b, b < we.heap.size → b < B0 → (b ≠ r ∧ b ≠ g3) ∧ some b ≠ (Value.slice none 0 0).ownBlock := fun b _ h => ⟨⟨by omega, by omega⟩, by simp [Value.ownBlock]⟩
  have hsame : Same (· < B0) w2 we := fun b h => hb.block b (by omega)
  exact ⟨hc, World.ownsRow_nil _ _ _ _, ⟨ra.mono hnew, rp.mono hnew, (hm.attrs.same hsame).mono hlow, (hm.list.same hsame).mono hlow, (hm.chgs.same hsame).mono hlow, (hm.refs.same hsame).mono hlow, Row.nil _ _ _⟩, hg, hs, hb, by simp [Value.ownBlock]⟩
theorem TM.stop {B r : Nat} {w2 wr wz : World} {g3 : Nat} {m : Msg} {d0 : MsgD} {u : Sv} {j : Nat} (h : TM B r w2 wr g3 m d0 u u j) (hj : j = m.ctls.length) (hrB : r < B) (hg : wr.grownBy wz (some r)) : MsgRows (fun _ => True) wz m { d0 with ctls := u } := by
  subst hj
  have hct : Row Elem.ctl (fun b => B ≤ b) wr u.A u.n u.c m.ctls := by
    have ho := h.own
    have hu : u.n = m.ctls.length := by
      rcases ho.2 with ⟨e, h0⟩ | ⟨g, cap, cur, e, -⟩
      · injection e with _ e2 _
        rw [e2, ← h0]
      · injection e
    rw [hu] at ho ⊢
    rw [List.take_length, ctlsCells] at ho
    refine own_rows (E := Elem.ctl) ho rfl (by simp) (fun g hg => ((ho.lt g hg).1)) fun i v x hi hx => ?_
    rw [List.getElem?_map, hx] at hi
    simp at hi
    exact hi.symm
  have hrows := (h.rows.mono (T := fun b => b ≠ r ∧ b < wr.heap.size) fun _ hb hs => ⟨hs.1.1, hb⟩).same fun b hb => hg.block b hb.2 (fun e => hb.1 (by injection e))
  have hct' : Row Elem.ctl (fun _ => True) wz u.A u.n u.c m.ctls := ((hct.mono (T := fun b => b ≠ r ∧ b < wr.heap.size) fun _ hb hs => ⟨by omega, hb⟩).same fun b hb => hg.block b hb.2 (fun e => hb.1 (by injection e))).mono fun _ _ _ => trivial
  exact ⟨hrows.any.mono fun _ _ _ => trivial, hrows.parts.mono fun _ _ _ => trivial, hrows.attrs.mono fun _ _ _ => trivial, hrows.list.mono fun _ _ _ => trivial, hrows.chgs.mono fun _ _ _ => trivial, hrows.refs.mono fun _ _ _ => trivial, hct'⟩
theorem Try.infoCtl : (Try.prog.info? 61).map (fun i => (i.zero, i.size, i.bytes)) = some (some (.agg #[.string ByteArray.empty, .bool false, .bool false, .string ByteArray.empty]), 4, 40) := by kernel_rfl
theorem litctl_wp {w : World} {o : Oper} {a : Act} {K : Act → World → Prop} {Q : Exit → Act → World → Prop} (x : Operand) (ho : o.op = .buildSlice 40 1 #[(0, x)]) (x0 x1 x2 x3 : Value) (hx : a.eval x = .agg #[x0, x1, x2, x3])
    (h : ∀ g w', Ext w w' → Cells w' (some ⟨g, 0, none⟩) [x0, x1, x2, x3] → K (a.put o.dst (.slice (some ⟨g, 0, none⟩) 1 1)) w') : o.wp Try.prog a w K Q := by
  have hr : (execOp a.eval o).run Try.prog w = .ok (.value (.slice (some ⟨w.heap.size, 0, none⟩) 1 1)) (w.alloc (.cells #[x0, x1, x2, x3] 61)) := by
    unfold execOp
    simp only [ho, List.map_toArray, List.map_cons, List.map_nil, hx]
    kernel_rfl
  unfold Oper.wp
  rw [hr]
  refine h _ _ (Ext.alloc _ _) (.inr ⟨w.heap.size, 0, rfl, fun j u hj => ?_⟩)
  rw [Nat.zero_add, box_a]
  simpa using hj
set_option maxHeartbeats 4000000 in
theorem theirsmsg_any {m : Msg} {d : MsgD} {cs : Array Value} {S : Nat → Prop} (hcs : Hid (cs = (msgCells m d).toArray)) (w : World) (hm : MsgRows S w m d) (hf : FilOk m.fil) (hk : m.ctls.length ≤ 1048576) :
    Calls Try.prog 8 #[.agg cs] w (MsgNew w m) := by
  have Hm := hid hm
  have Hk := hid hk
  have Hf := hid hf
  have hz := (zero_of_info (P := Try.prog) (t := 42) (v := .agg zeroMsg.toArray) (n := 32) (by kernel_rfl)).1
  have HZ := hid hz
  clear hm hk hf hz
  go_enter Try.func8, Try.ntmps8
  go_wp2_with (first
    | (refine box_arm rfl 30 (.tmp 0) rfl cs rfl ?_; intro w1 hx1 hz1 hg1; have Hg1 := hid hg1; have X1 := hid hx1; clear hz1 hg1 hx1)
    | (refine alloc_arm rfl 42 rfl _ HZ.out ?_; intro w2 hx2 hz2 hg2; have Hg2 := hid hg2; have X2 := hid hx2; clear hz2 hg2 hx2))
  refine wp_region_planB w2.heap.size (.read 0 (.read 1 (.read 2 (.read 3 (.read 4 (.read 5 (.read 6 (.read 7 (.read 8 (.read 9 (.read 10 (.read 11 (.read 12 (.read 13 (.read 14 (.read 15 (.read 16 (.read 17 (.read 18 (.read 19 (.read 20 (.read 21 (.read 23 (.read 24 (.read 25 (.read 26 (.read 27 (.read 28 (.read 29 (.read 30 (.read 31 (.read 32 (.read 33 (.read 34 (.read 35 (.read 36 (.read 37 (.read 38 (.read 39 (.read 40 (.read 41 (.read 42 (.read 43 (.read 44 (.read 45 (.read 46 (.read 47 (.read 48 (.read 49 (.read 50 (.alt 22 (.read 51 (.main 52 (.main 53 .done))) (.main 52 (.main 22 (.read 51 (.main 53 .done))))))))))))))))))))))))))))))))))))))))))))))))))))))) (by kernel_rfl) (by kernel_rfl) ?_
  intro wD hxD
  have XB : Hid (Below w2.heap.size wD wD) := Below.refl _ _
  have XF : Hid (Below w2.heap.size w2 wD) := hxD
  have hBD := ext_sz hxD
  have Hm2 := hid (Hm.out.ext (X1.out.trans X2.out))
  have HC : Hid (∀ wc, Below w2.heap.size w2 wc → Calls Try.prog 22 #[.agg #[.int .i64 m.fil.kind, .string m.fil.attr, .string m.fil.value, .string m.fil.first, .string m.fil.last, .slice d.any.A d.any.n d.any.c, .slice d.parts.A d.parts.n d.parts.c]] wc (FilNew wc m.fil)) := fun wc hb => theirs_any m.fil Hf.out _ _ wc (FilAt.belowB Hm2.out.fil hb (Nat.le_refl _))
  have p0 : ∀ w', Below w2.heap.size wD w' → w'.cell? ⟨w.heap.size, 0, none⟩ = some (.int .i64 m.id) := cell_laterB (cell_later (boxCell Hg1.out 0 hcs rfl).out _ X2.out) (Nat.le_refl _) hxD; have p1 : ∀ w', Below w2.heap.size wD w' → w'.cell? ⟨w.heap.size, 1, none⟩ = some (.int .i64 m.kind) := cell_laterB (cell_later (boxCell Hg1.out 1 hcs rfl).out _ X2.out) (Nat.le_refl _) hxD; have p2 : ∀ w', Below w2.heap.size wD w' → w'.cell? ⟨w.heap.size, 2, none⟩ = some (.string m.name) := cell_laterB (cell_later (boxCell Hg1.out 2 hcs rfl).out _ X2.out) (Nat.le_refl _) hxD; have p3 : ∀ w', Below w2.heap.size wD w' → w'.cell? ⟨w.heap.size, 3, none⟩ = some (.string m.pw) := cell_laterB (cell_later (boxCell Hg1.out 3 hcs rfl).out _ X2.out) (Nat.le_refl _) hxD; have p4 : ∀ w', Below w2.heap.size wD w' → w'.cell? ⟨w.heap.size, 4, none⟩ = some (.int .i64 m.ver) := cell_laterB (cell_later (boxCell Hg1.out 4 hcs rfl).out _ X2.out) (Nat.le_refl _) hxD; have p5 : ∀ w', Below w2.heap.size wD w' → w'.cell? ⟨w.heap.size, 5, none⟩ = some (.int .i64 m.scope) := cell_laterB (cell_later (boxCell Hg1.out 5 hcs rfl).out _ X2.out) (Nat.le_refl _) hxD; have p6 : ∀ w', Below w2.heap.size wD w' → w'.cell? ⟨w.heap.size, 6, none⟩ = some (.int .i64 m.deref) := cell_laterB (cell_later (boxCell Hg1.out 6 hcs rfl).out _ X2.out) (Nat.le_refl _) hxD; have p7 : ∀ w', Below w2.heap.size wD w' → w'.cell? ⟨w.heap.size, 7, none⟩ = some (.int .i64 m.size) := cell_laterB (cell_later (boxCell Hg1.out 7 hcs rfl).out _ X2.out) (Nat.le_refl _) hxD; have p8 : ∀ w', Below w2.heap.size wD w' → w'.cell? ⟨w.heap.size, 8, none⟩ = some (.int .i64 m.time) := cell_laterB (cell_later (boxCell Hg1.out 8 hcs rfl).out _ X2.out) (Nat.le_refl _) hxD; have p9 : ∀ w', Below w2.heap.size wD w' → w'.cell? ⟨w.heap.size, 9, none⟩ = some (.bool m.tonly) := cell_laterB (cell_later (boxCell Hg1.out 9 hcs rfl).out _ X2.out) (Nat.le_refl _) hxD; have p10 : ∀ w', Below w2.heap.size wD w' → w'.cell? ⟨w.heap.size, 10, none⟩ = some (.int .i64 m.fil.kind) := cell_laterB (cell_later (boxCell Hg1.out 10 hcs rfl).out _ X2.out) (Nat.le_refl _) hxD; have p11 : ∀ w', Below w2.heap.size wD w' → w'.cell? ⟨w.heap.size, 11, none⟩ = some (.string m.fil.attr) := cell_laterB (cell_later (boxCell Hg1.out 11 hcs rfl).out _ X2.out) (Nat.le_refl _) hxD; have p12 : ∀ w', Below w2.heap.size wD w' → w'.cell? ⟨w.heap.size, 12, none⟩ = some (.string m.fil.value) := cell_laterB (cell_later (boxCell Hg1.out 12 hcs rfl).out _ X2.out) (Nat.le_refl _) hxD; have p13 : ∀ w', Below w2.heap.size wD w' → w'.cell? ⟨w.heap.size, 13, none⟩ = some (.string m.fil.first) := cell_laterB (cell_later (boxCell Hg1.out 13 hcs rfl).out _ X2.out) (Nat.le_refl _) hxD; have p14 : ∀ w', Below w2.heap.size wD w' → w'.cell? ⟨w.heap.size, 14, none⟩ = some (.string m.fil.last) := cell_laterB (cell_later (boxCell Hg1.out 14 hcs rfl).out _ X2.out) (Nat.le_refl _) hxD; have p15 : ∀ w', Below w2.heap.size wD w' → w'.cell? ⟨w.heap.size, 15, none⟩ = some (.slice d.any.A d.any.n d.any.c) := cell_laterB (cell_later (boxCell Hg1.out 15 hcs rfl).out _ X2.out) (Nat.le_refl _) hxD; have p16 : ∀ w', Below w2.heap.size wD w' → w'.cell? ⟨w.heap.size, 16, none⟩ = some (.slice d.parts.A d.parts.n d.parts.c) := cell_laterB (cell_later (boxCell Hg1.out 16 hcs rfl).out _ X2.out) (Nat.le_refl _) hxD; have p17 : ∀ w', Below w2.heap.size wD w' → w'.cell? ⟨w.heap.size, 17, none⟩ = some (.slice d.attrs.A d.attrs.n d.attrs.c) := cell_laterB (cell_later (boxCell Hg1.out 17 hcs rfl).out _ X2.out) (Nat.le_refl _) hxD; have p18 : ∀ w', Below w2.heap.size wD w' → w'.cell? ⟨w.heap.size, 18, none⟩ = some (.slice d.list.A d.list.n d.list.c) := cell_laterB (cell_later (boxCell Hg1.out 18 hcs rfl).out _ X2.out) (Nat.le_refl _) hxD; have p19 : ∀ w', Below w2.heap.size wD w' → w'.cell? ⟨w.heap.size, 19, none⟩ = some (.slice d.chgs.A d.chgs.n d.chgs.c) := cell_laterB (cell_later (boxCell Hg1.out 19 hcs rfl).out _ X2.out) (Nat.le_refl _) hxD; have p20 : ∀ w', Below w2.heap.size wD w' → w'.cell? ⟨w.heap.size, 20, none⟩ = some (.string m.nrdn) := cell_laterB (cell_later (boxCell Hg1.out 20 hcs rfl).out _ X2.out) (Nat.le_refl _) hxD; have p21 : ∀ w', Below w2.heap.size wD w' → w'.cell? ⟨w.heap.size, 21, none⟩ = some (.bool m.dold) := cell_laterB (cell_later (boxCell Hg1.out 21 hcs rfl).out _ X2.out) (Nat.le_refl _) hxD; have p22 : ∀ w', Below w2.heap.size wD w' → w'.cell? ⟨w.heap.size, 22, none⟩ = some (.bool m.hsup) := cell_laterB (cell_later (boxCell Hg1.out 22 hcs rfl).out _ X2.out) (Nat.le_refl _) hxD; have p23 : ∀ w', Below w2.heap.size wD w' → w'.cell? ⟨w.heap.size, 23, none⟩ = some (.string m.sup) := cell_laterB (cell_later (boxCell Hg1.out 23 hcs rfl).out _ X2.out) (Nat.le_refl _) hxD; have p24 : ∀ w', Below w2.heap.size wD w' → w'.cell? ⟨w.heap.size, 24, none⟩ = some (.string m.attr) := cell_laterB (cell_later (boxCell Hg1.out 24 hcs rfl).out _ X2.out) (Nat.le_refl _) hxD; have p25 : ∀ w', Below w2.heap.size wD w' → w'.cell? ⟨w.heap.size, 25, none⟩ = some (.string m.value) := cell_laterB (cell_later (boxCell Hg1.out 25 hcs rfl).out _ X2.out) (Nat.le_refl _) hxD; have p26 : ∀ w', Below w2.heap.size wD w' → w'.cell? ⟨w.heap.size, 26, none⟩ = some (.int .i64 m.target) := cell_laterB (cell_later (boxCell Hg1.out 26 hcs rfl).out _ X2.out) (Nat.le_refl _) hxD; have p27 : ∀ w', Below w2.heap.size wD w' → w'.cell? ⟨w.heap.size, 27, none⟩ = some (.int .i64 m.code) := cell_laterB (cell_later (boxCell Hg1.out 27 hcs rfl).out _ X2.out) (Nat.le_refl _) hxD; have p28 : ∀ w', Below w2.heap.size wD w' → w'.cell? ⟨w.heap.size, 28, none⟩ = some (.string m.matched) := cell_laterB (cell_later (boxCell Hg1.out 28 hcs rfl).out _ X2.out) (Nat.le_refl _) hxD; have p29 : ∀ w', Below w2.heap.size wD w' → w'.cell? ⟨w.heap.size, 29, none⟩ = some (.string m.text) := cell_laterB (cell_later (boxCell Hg1.out 29 hcs rfl).out _ X2.out) (Nat.le_refl _) hxD; have p30 : ∀ w', Below w2.heap.size wD w' → w'.cell? ⟨w.heap.size, 30, none⟩ = some (.slice d.refs.A d.refs.n d.refs.c) := cell_laterB (cell_later (boxCell Hg1.out 30 hcs rfl).out _ X2.out) (Nat.le_refl _) hxD
  simp only [Act.put, List.setIfInBounds_toArray, List.set_cons_zero, List.set_cons_succ]
  repeat' (first
    | (refine walksB_move rfl rfl ?_; simp only [Act.put, Act.eval, List.setIfInBounds_toArray, List.set_cons_zero, List.set_cons_succ, Array.getD_eq_getD_getElem?, List.getElem?_toArray, List.getElem?_cons_zero, List.getElem?_cons_succ, Option.getD_some])
    | (refine walksB_assign rfl rfl ?_; simp only [Act.put, Act.eval, List.setIfInBounds_toArray, List.set_cons_zero, List.set_cons_succ, Array.getD_eq_getD_getElem?, List.getElem?_toArray, List.getElem?_cons_zero, List.getElem?_cons_succ, Option.getD_some])
    | (refine walksB_skip rfl rfl ?_; simp only [Act.put, List.setIfInBounds_toArray, List.set_cons_zero, List.set_cons_succ])
    | (refine walksB_unwanted rfl rfl ?_; simp only [Act.put, List.setIfInBounds_toArray, List.set_cons_zero, List.set_cons_succ])
    | (refine walksB_read (v := ?_) rfl rfl (fun w' hE => ?_) ?_; rotate_left 1; (· ((try (have hEx := Below.trans (Hid.out XB) hE)); go_simp; (try go_bits); with_reducible rfl)); simp only [Act.put, List.setIfInBounds_toArray, List.set_cons_zero, List.set_cons_succ])
    | (refine walksB_alt ?_ ?_))
  · refine walksB_main rfl rfl (fun K hK => ?_)
    go_wp2_with (go_at_call 22; (with_reducible refine (HC.out _ (Below.trans XF.out XB.out)).mono ?_); rintro e w4 ⟨us, rfl, hU, hx4⟩; obtain ⟨G1, g1, h1, G2, g2, h2, rfl, ra, rp⟩ := FilAt.openP hU; have RA := hid ra; have RP := hid rp; clear ra rp hU; have hb4 := Below.mono hx4 (Nat.le_trans hBD (Below.size XB.out)); have H4 := hid (Nat.le_trans hBD (Below.size XB.out)); have XB' := hid (Below.trans (Hid.out XB) (hb4)); clear XB; have XB := XB'; clear XB'; (try have RA := hid (RA.out.mono (T := fun b => b ≠ g3 ∧ w2.heap.size ≤ b) fun b _ hs => by have h9 := row_lt G3.out; have h10 := H4.out; omega)); (try have RP := hid (RP.out.mono (T := fun b => b ≠ g3 ∧ w2.heap.size ≤ b) fun b _ hs => by have h9 := row_lt G3.out; have h10 := H4.out; omega)); (try have G3 := hid (row_later' G3.out hx4)))
    refine hK _ _ (by first | assumption | exact Below.refl _ _) ?_
    clear hK K
    try simp only [Act.put, List.setIfInBounds_toArray, List.set_cons_zero, List.set_cons_succ]
    refine walksB_read (v := .agg #[.int .i64 m.id, .int .i64 m.kind, .string m.name, .string m.pw, .int .i64 m.ver, .int .i64 m.scope, .int .i64 m.deref, .int .i64 m.size, .int .i64 m.time, .bool m.tonly, .int .i64 m.fil.kind, .string m.fil.attr, .string m.fil.value, .string m.fil.first, .string m.fil.last, .slice G1 g1 h1, .slice G2 g2 h2, .slice d.attrs.A d.attrs.n d.attrs.c, .slice d.list.A d.list.n d.list.c, .slice d.chgs.A d.chgs.n d.chgs.c, .string m.nrdn, .bool m.dold, .bool m.hsup, .string m.sup, .string m.attr, .string m.value, .int .i64 m.target, .int .i64 m.code, .string m.matched, .string m.text, .slice d.refs.A d.refs.n d.refs.c, .slice none 0 0]) rfl rfl (fun w' hE => (by kernel_rfl)) ?_
    try simp only [Act.put, List.setIfInBounds_toArray, List.set_cons_zero, List.set_cons_succ]
    refine walksB_main rfl rfl (fun K hK => ?_)
    refine wp_alloc' 42 rfl _ HZ.out ?_
    intro g3 wc eg3 hxc hzc hrc
    have hs := Nat.le_trans hBD (Below.size XB.out)
    have hg3 : w2.heap.size ≤ g3 := by omega
    have G3 := hid hrc
    have Eg3 := hid eg3
    clear hrc eg3 hzc
    have hBc := Below.mono hxc hs
    have XB' := hid (Below.trans (Hid.out XB) (hBc)); clear XB; have XB := XB'; clear XB'
    (try have RA := hid ((RA.out.lt.mono (T := fun b => b ≠ g3 ∧ w2.heap.size ≤ b) (fun b hb hs => by have h9 := hs.2; have h8 := Eg3.out; have h10 := H4.out; omega)).ext hxc))
    (try have RP := hid ((RP.out.lt.mono (T := fun b => b ≠ g3 ∧ w2.heap.size ≤ b) (fun b hb hs => by have h9 := hs.2; have h8 := Eg3.out; have h10 := H4.out; omega)).ext hxc))
    refine hK _ _ (by first | assumption | exact Below.refl _ _) ?_
    clear hK K
    try simp only [Act.put, List.setIfInBounds_toArray, List.set_cons_zero, List.set_cons_succ]
    refine walksB_main rfl rfl (fun K hK => ?_)
    refine wp_store' 42 (.tmp 3) (.tmp 56) rfl g3 0 rfl (.agg #[.int .i64 m.id, .int .i64 m.kind, .string m.name, .string m.pw, .int .i64 m.ver, .int .i64 m.scope, .int .i64 m.deref, .int .i64 m.size, .int .i64 m.time, .bool m.tonly, .int .i64 m.fil.kind, .string m.fil.attr, .string m.fil.value, .string m.fil.first, .string m.fil.last, .slice G1 g1 h1, .slice G2 g2 h2, .slice d.attrs.A d.attrs.n d.attrs.c, .slice d.list.A d.list.n d.list.c, .slice d.chgs.A d.chgs.n d.chgs.c, .string m.nrdn, .bool m.dold, .bool m.hsup, .string m.sup, .string m.attr, .string m.value, .int .i64 m.target, .int .i64 m.code, .string m.matched, .string m.text, .slice d.refs.A d.refs.n d.refs.c, .slice none 0 0]) rfl _ _ G3.out (by kernel_rfl) (by simp [Value.cells, zeroMsg]) (by simp [Value.cells, Value.oneCell']) ?_
    intro we hge hre
    have hs := Nat.le_trans hBD (Below.size XB.out)
    have hBe := below_stored hge hs hg3
    have RA2 := hid ((RA.out.lt.same fun b hb => hge.block b hb.2 (fun e => hb.1.1 (by injection e))).mono (T := fun b => b ≠ g3 ∧ w2.heap.size ≤ b) fun b _ hs => hs.1)
    have RP2 := hid ((RP.out.lt.same fun b hb => hge.block b hb.2 (fun e => hb.1.1 (by injection e))).mono (T := fun b => b ≠ g3 ∧ w2.heap.size ≤ b) fun b _ hs => hs.1)
    have G4 := hid hre
    clear hre
    have XB' := hid (Below.trans (Hid.out XB) (hBe)); clear XB; have XB := XB'; clear XB'
    refine hK _ _ (by first | assumption | exact Below.refl _ _) ?_
    clear hK K
    try simp only [Act.put, List.setIfInBounds_toArray, List.set_cons_zero, List.set_cons_succ]
    refine walksB_done ?_
    have HT : Hid (TM w2.heap.size w1.heap.size w2 we g3 m ⟨⟨G1, g1, h1⟩, ⟨G2, g2, h2⟩, d.attrs, d.list, d.chgs, d.refs, ⟨none, 0, 0⟩⟩ ⟨none, 0, 0⟩ ⟨none, 0, 0⟩ 0) :=
      TM.start (Hm.out.old (X1.out.trans X2.out)) (ext_sz X1.out) (row_lt Hg2.out) rfl (Below.trans XF.out XB.out) hg3 (Nat.le_trans hBD (Below.size XB.out)) (by have h7 := G4.out; exact h7) RA2.out RP2.out
    have PC := hid (cell_laterB (cell_later (boxCell Hg1.out 31 hcs rfl).out _ X2.out) (Nat.le_refl _) (Below.trans XF.out XB.out) _ (Below.refl _ _))
    have PD : Hid (w2.cell? ⟨w.heap.size, 31, none⟩ = some (.slice d.ctls.A d.ctls.n d.ctls.c)) := cell_later (boxCell Hg1.out 31 hcs rfl).out _ X2.out
    clear p0 p1 p2 p3 p4 p5 p6 p7 p8 p9 p10 p11 p12 p13 p14 p15 p16 p17 p18 p19 p20 p21 p22 p23 p24 p25 p26 p27 p28 p29 p30
    have pc := PC.out
    have hnk : d.ctls.n ≤ 1048576 := by rw [Hm.out.ctls.len]; exact Hk.out
    go_wp2
    clear pc
    go_loopw [60] (fun i wr => ∃ (j : Nat) (u : Sv), j ≤ d.ctls.n ∧ i = .int .i64 j ∧ Hid (TM w2.heap.size w1.heap.size w2 wr g3 m ⟨⟨G1, g1, h1⟩, ⟨G2, g2, h2⟩, d.attrs, d.list, d.chgs, d.refs, ⟨none, 0, 0⟩⟩ u u j)) (fun i _ => d.ctls.n - (intOf i).toNat)
    case atStart => exact ⟨0, ⟨none, 0, 0⟩, by omega, rfl, HT⟩
    case round =>
      obtain ⟨j, ⟨Au, nu, cu⟩, hj, rfl, HI⟩ := hrel
      by_cases hlt : j < d.ctls.n
      · obtain ⟨b1, o1, v1, x1, hA, gx, -, R1, q1⟩ := Hm2.out.ctls.at_ hlt
        have hv1 : v1 = [.string x1.oid, .bool x1.crit, .bool x1.has, .string x1.val] := R1
        subst hv1
        have HX1 := hid gx
        clear R1 gx
        go_wp2
        refine wp_region_planB w2.heap.size (.read 0 (.read 2 (.read 3 (.read 4 (.read 5 (.read 6 (.alt 1 (.main 7 (.main 8 (.read 9 (.main 10 .done)))) (.main 7 (.main 1 (.main 8 (.read 9 (.main 10 .done)))))))))))) (by kernel_rfl) (by kernel_rfl) ?_
        intro wD hxD
        have XB : Hid (Below w2.heap.size wD wD) := Below.refl _ _
        have XF := hid (Below.trans HI.out.below (Below.mono hxD HI.out.size))
        have HJ := hid (HI.out.ext hxD)
        have y0 : ∀ w', Below w2.heap.size wD w' → w'.cell? ⟨b1, o1 + j * 4, none⟩ = some (.string x1.oid) := cell_laterB (by have := q1 0 _ rfl; simpa [Elem.ctl] using this) (Nat.le_refl _) XF.out
        have y1 : ∀ w', Below w2.heap.size wD w' → w'.cell? ⟨b1, o1 + j * 4 + 1, none⟩ = some (.bool x1.crit) := cell_laterB (by have := q1 1 _ rfl; simpa [Elem.ctl] using this) (Nat.le_refl _) XF.out
        have y2 : ∀ w', Below w2.heap.size wD w' → w'.cell? ⟨b1, o1 + j * 4 + 2, none⟩ = some (.bool x1.has) := cell_laterB (by have := q1 2 _ rfl; simpa [Elem.ctl] using this) (Nat.le_refl _) XF.out
        have y3 : ∀ w', Below w2.heap.size wD w' → w'.cell? ⟨b1, o1 + j * 4 + 3, none⟩ = some (.string x1.val) := cell_laterB (by have := q1 3 _ rfl; simpa [Elem.ctl] using this) (Nat.le_refl _) XF.out
        have y9 : ∀ w', Below w2.heap.size wD w' → w'.cell? ⟨w.heap.size, 31, none⟩ = some (.slice (some ⟨b1, o1, none⟩) d.ctls.n d.ctls.c) := by rw [← hA]; exact cell_laterB PD.out (Nat.le_refl _) XF.out
        clear q1
        repeat' (first
          | (refine walksB_move rfl rfl ?_; simp only [Act.put, Act.eval, List.setIfInBounds_toArray, List.set_cons_zero, List.set_cons_succ, Array.getD_eq_getD_getElem?, List.getElem?_toArray, List.getElem?_cons_zero, List.getElem?_cons_succ, Option.getD_some])
          | (refine walksB_assign rfl rfl ?_; simp only [Act.put, Act.eval, List.setIfInBounds_toArray, List.set_cons_zero, List.set_cons_succ, Array.getD_eq_getD_getElem?, List.getElem?_toArray, List.getElem?_cons_zero, List.getElem?_cons_succ, Option.getD_some])
          | (refine walksB_skip rfl rfl ?_; simp only [Act.put, List.setIfInBounds_toArray, List.set_cons_zero, List.set_cons_succ])
          | (refine walksB_unwanted rfl rfl ?_; simp only [Act.put, List.setIfInBounds_toArray, List.set_cons_zero, List.set_cons_succ])
          | (refine walksB_read (v := ?_) rfl rfl (fun w' hE => ?_) ?_; rotate_left 1; (· ((try (have hEx := Below.trans (Hid.out XB) hE)); go_simp; (try go_bits); with_reducible rfl)); simp only [Act.put, List.setIfInBounds_toArray, List.set_cons_zero, List.set_cons_succ])
          | (refine walksB_alt ?_ ?_))
        · refine walksB_main rfl rfl (fun K hK => ?_)
          refine wp_load_cell 40 (.tmp 63) rfl ⟨g3, 31, none⟩ rfl (.slice Au nu cu) (boxRow HJ.out.blk 31 rfl) (fun _ => by kernel_rfl) ?_
          refine hK _ _ (by first | assumption | exact Below.refl _ _) ?_
          clear hK K
          try simp only [Act.put, List.setIfInBounds_toArray, List.set_cons_zero, List.set_cons_succ]
          refine walksB_main rfl rfl (fun K hK => ?_)
          refine litctl_wp (.tmp 69) rfl (.string x1.oid) (.bool x1.crit) (.bool x1.has) (.string x1.val) rfl ?_
          intro gl wl hxl hcl
          have HCl := hid hcl
          clear hcl
          have hbl := Below.mono hxl HJ.out.size
          have XB' := hid (Below.trans (Hid.out XB) (hbl)); clear XB; have XB := XB'; clear XB'
          have HJ' := hid (HJ.out.ext hxl)
          clear HJ
          have HJ := HJ'
          clear HJ'
          refine hK _ _ (by first | assumption | exact Below.refl _ _) ?_
          clear hK K
          try simp only [Act.put, List.setIfInBounds_toArray, List.set_cons_zero, List.set_cons_succ]
          refine walksB_main rfl rfl (fun K hK => ?_)
          refine wp_append_sz (.tmp 64) (.tmp 70) 40 rfl w2.heap.size 61 _ 4 40 Try.underlying40 Try.infoCtl rfl (by decide) _ j (ctlsCells (m.ctls.take j)) rfl HJ.out.own (some ⟨gl, 0, none⟩) 1 1 [.string x1.oid, .bool x1.crit, .bool x1.has, .string x1.val] rfl rfl HCl.out (by simp [Value.oneCell']) (by simp [maxLen]; omega) (by omega) HJ.out.size ?_
          intro u' wa hoa hga hva
          obtain ⟨Aq, cq, rfl⟩ := own_form7 hoa
          have hbl := below_grown HJ.out.own hga HJ.out.size (Nat.le_refl _)
          have XB' := hid (Below.trans (Hid.out XB) (hbl)); clear XB; have XB := XB'; clear XB'
          have HJ' := hid (HJ.out.push (u' := ⟨Aq, j + 1, cq⟩) HX1.out hoa hga hva)
          clear HJ
          have HJ := HJ'
          clear HJ'
          refine hK _ _ (by first | assumption | exact Below.refl _ _) ?_
          clear hK K
          try simp only [Act.put, List.setIfInBounds_toArray, List.set_cons_zero, List.set_cons_succ]
          refine walksB_read (v := ?_) rfl rfl (fun w' hE => ?_) ?_; rotate_left 1; (· (go_simp; (try go_bits); with_reducible rfl)); simp only [Act.put, List.setIfInBounds_toArray, List.set_cons_zero, List.set_cons_succ]
          refine walksB_main rfl rfl (fun K hK => ?_)
          refine wp_store' 40 (.tmp 72) (.tmp 71) rfl g3 31 rfl (.slice Aq (j + 1) cq) rfl _ _ HJ.out.blk (by kernel_rfl) (by simp [Value.cells]) (by simp [Value.cells, Value.oneCell']) ?_
          intro ws hgs hrs
          have hbl := below_stored hgs HJ.out.size HJ.out.low
          have HJ' := hid (HJ.out.store (u := ⟨Aq, j + 1, cq⟩) hgs hrs)
          clear HJ
          have HJ := HJ'
          clear HJ'
          refine hK _ _ (by first | assumption | exact Below.refl _ _) ?_
          clear hK K
          try simp only [Act.put, List.setIfInBounds_toArray, List.set_cons_zero, List.set_cons_succ]
          refine walksB_done ?_
          go_wp2
          exact ⟨⟨j + 1, ⟨Aq, j + 1, cq⟩, by omega, by go_num, HJ⟩, by simp [intOf]; omega⟩
        · refine walksB_main rfl rfl (fun K hK => ?_)
          refine litctl_wp (.tmp 69) rfl (.string x1.oid) (.bool x1.crit) (.bool x1.has) (.string x1.val) rfl ?_
          intro gl wl hxl hcl
          have HCl := hid hcl
          clear hcl
          have hbl := Below.mono hxl HJ.out.size
          have XB' := hid (Below.trans (Hid.out XB) (hbl)); clear XB; have XB := XB'; clear XB'
          have HJ' := hid (HJ.out.ext hxl)
          clear HJ
          have HJ := HJ'
          clear HJ'
          refine hK _ _ (by first | assumption | exact Below.refl _ _) ?_
          clear hK K
          try simp only [Act.put, List.setIfInBounds_toArray, List.set_cons_zero, List.set_cons_succ]
          refine walksB_main rfl rfl (fun K hK => ?_)
          refine wp_load_cell 40 (.tmp 63) rfl ⟨g3, 31, none⟩ rfl (.slice Au nu cu) (boxRow HJ.out.blk 31 rfl) (fun _ => by kernel_rfl) ?_
          refine hK _ _ (by first | assumption | exact Below.refl _ _) ?_
          clear hK K
          try simp only [Act.put, List.setIfInBounds_toArray, List.set_cons_zero, List.set_cons_succ]
          refine walksB_main rfl rfl (fun K hK => ?_)
          refine wp_append_sz (.tmp 64) (.tmp 70) 40 rfl w2.heap.size 61 _ 4 40 Try.underlying40 Try.infoCtl rfl (by decide) _ j (ctlsCells (m.ctls.take j)) rfl HJ.out.own (some ⟨gl, 0, none⟩) 1 1 [.string x1.oid, .bool x1.crit, .bool x1.has, .string x1.val] rfl rfl HCl.out (by simp [Value.oneCell']) (by simp [maxLen]; omega) (by omega) HJ.out.size ?_
          intro u' wa hoa hga hva
          obtain ⟨Aq, cq, rfl⟩ := own_form7 hoa
          have hbl := below_grown HJ.out.own hga HJ.out.size (Nat.le_refl _)
          have XB' := hid (Below.trans (Hid.out XB) (hbl)); clear XB; have XB := XB'; clear XB'
          have HJ' := hid (HJ.out.push (u' := ⟨Aq, j + 1, cq⟩) HX1.out hoa hga hva)
          clear HJ
          have HJ := HJ'
          clear HJ'
          refine hK _ _ (by first | assumption | exact Below.refl _ _) ?_
          clear hK K
          try simp only [Act.put, List.setIfInBounds_toArray, List.set_cons_zero, List.set_cons_succ]
          refine walksB_read (v := ?_) rfl rfl (fun w' hE => ?_) ?_; rotate_left 1; (· (go_simp; (try go_bits); with_reducible rfl)); simp only [Act.put, List.setIfInBounds_toArray, List.set_cons_zero, List.set_cons_succ]
          refine walksB_main rfl rfl (fun K hK => ?_)
          refine wp_store' 40 (.tmp 72) (.tmp 71) rfl g3 31 rfl (.slice Aq (j + 1) cq) rfl _ _ HJ.out.blk (by kernel_rfl) (by simp [Value.cells]) (by simp [Value.cells, Value.oneCell']) ?_
          intro ws hgs hrs
          have hbl := below_stored hgs HJ.out.size HJ.out.low
          have HJ' := hid (HJ.out.store (u := ⟨Aq, j + 1, cq⟩) hgs hrs)
          clear HJ
          have HJ := HJ'
          clear HJ'
          refine hK _ _ (by first | assumption | exact Below.refl _ _) ?_
          clear hK K
          try simp only [Act.put, List.setIfInBounds_toArray, List.set_cons_zero, List.set_cons_succ]
          refine walksB_done ?_
          go_wp2
          exact ⟨⟨j + 1, ⟨Aq, j + 1, cq⟩, by omega, by go_num, HJ⟩, by simp [intOf]; omega⟩
      · obtain hjn : j = m.ctls.length := by rw [← Hm.out.ctls.len]; omega
        have Hr2 : Hid (wr.heap[w1.heap.size]? = _) := (HI.out.below.block w1.heap.size (row_lt Hg2.out)).trans Hg2.out
        have Hr3 := hid (HI.out.blk)
        go_wp2_with (first
          | (refine wpList_load_row rfl 42 (.tmp 3) rfl g3 rfl _ _ _ _ Hr3.out Try.underlying42 rfl (by kernel_rfl) ?_)
          | (refine store_arm rfl 42 (.tmp 2) (.tmp 74) rfl w1.heap.size 0 rfl (.agg (msgCells m ⟨⟨G1, g1, h1⟩, ⟨G2, g2, h2⟩, d.attrs, d.list, d.chgs, d.refs, ⟨Au, nu, cu⟩⟩).toArray) rfl _ _ Hr2.out (by kernel_rfl) (by simp [Value.cells, zeroMsg]) (by simp [Value.cells, Value.oneCell']) ?_; intro wz hgz hzz hrz; have Hrz := hid hrz; have Hzz := hid hzz; clear hrz hzz))
        refine bodyPost_ret (v := .agg (msgCells m ⟨⟨G1, g1, h1⟩, ⟨G2, g2, h2⟩, d.attrs, d.list, d.chgs, d.refs, ⟨Au, nu, cu⟩⟩).toArray) (results_cell_row (p := 2) (ty := 42) (by kernel_rfl) _ _ _ _ _ _ _ rfl Hrz.out Try.underlying42 rfl (by kernel_rfl)) rfl ⟨_, ⟨⟨G1, g1, h1⟩, ⟨G2, g2, h2⟩, d.attrs, d.list, d.chgs, d.refs, ⟨Au, nu, cu⟩⟩, rfl, rfl, ?_, ?_⟩
        · exact HI.out.stop hjn (row_lt Hg2.out) hgz
        · have hB0 : w.heap.size ≤ w2.heap.size := ext_sz (X1.out.trans X2.out)
          exact Below.trans (X1.out.trans X2.out) (Below.trans (Below.mono HI.out.below hB0) (below_stored hgz (Nat.le_trans hB0 HI.out.size) (ext_sz X1.out)))
  · refine walksB_main rfl rfl (fun K hK => ?_)
    refine wp_alloc' 42 rfl _ HZ.out ?_
    intro g3 wc eg3 hxc hzc hrc
    have hs := Nat.le_trans hBD (Below.size XB.out)
    have hg3 : w2.heap.size ≤ g3 := by omega
    have G3 := hid hrc
    have Eg3 := hid eg3
    clear hrc eg3 hzc
    have hBc := Below.mono hxc hs
    have XB' := hid (Below.trans (Hid.out XB) (hBc)); clear XB; have XB := XB'; clear XB'
    (try have RA := hid ((RA.out.lt.mono (T := fun b => b ≠ g3 ∧ w2.heap.size ≤ b) (fun b hb hs => by have h9 := hs.2; have h8 := Eg3.out; have h10 := H4.out; omega)).ext hxc))
    (try have RP := hid ((RP.out.lt.mono (T := fun b => b ≠ g3 ∧ w2.heap.size ≤ b) (fun b hb hs => by have h9 := hs.2; have h8 := Eg3.out; have h10 := H4.out; omega)).ext hxc))
    refine hK _ _ (by first | assumption | exact Below.refl _ _) ?_
    clear hK K
    try simp only [Act.put, List.setIfInBounds_toArray, List.set_cons_zero, List.set_cons_succ]
    refine walksB_main rfl rfl (fun K hK => ?_)
    go_wp2_with (go_at_call 22; (with_reducible refine (HC.out _ (Below.trans XF.out XB.out)).mono ?_); rintro e w4 ⟨us, rfl, hU, hx4⟩; obtain ⟨G1, g1, h1, G2, g2, h2, rfl, ra, rp⟩ := FilAt.openP hU; have RA := hid ra; have RP := hid rp; clear ra rp hU; have hb4 := Below.mono hx4 (Nat.le_trans hBD (Below.size XB.out)); have H4 := hid (Nat.le_trans hBD (Below.size XB.out)); have XB' := hid (Below.trans (Hid.out XB) (hb4)); clear XB; have XB := XB'; clear XB'; (try have RA := hid (RA.out.mono (T := fun b => b ≠ g3 ∧ w2.heap.size ≤ b) fun b _ hs => by have h9 := row_lt G3.out; have h10 := H4.out; omega)); (try have RP := hid (RP.out.mono (T := fun b => b ≠ g3 ∧ w2.heap.size ≤ b) fun b _ hs => by have h9 := row_lt G3.out; have h10 := H4.out; omega)); (try have G3 := hid (row_later' G3.out hx4)))
    refine hK _ _ (by first | assumption | exact Below.refl _ _) ?_
    clear hK K
    try simp only [Act.put, List.setIfInBounds_toArray, List.set_cons_zero, List.set_cons_succ]
    refine walksB_read (v := .agg #[.int .i64 m.id, .int .i64 m.kind, .string m.name, .string m.pw, .int .i64 m.ver, .int .i64 m.scope, .int .i64 m.deref, .int .i64 m.size, .int .i64 m.time, .bool m.tonly, .int .i64 m.fil.kind, .string m.fil.attr, .string m.fil.value, .string m.fil.first, .string m.fil.last, .slice G1 g1 h1, .slice G2 g2 h2, .slice d.attrs.A d.attrs.n d.attrs.c, .slice d.list.A d.list.n d.list.c, .slice d.chgs.A d.chgs.n d.chgs.c, .string m.nrdn, .bool m.dold, .bool m.hsup, .string m.sup, .string m.attr, .string m.value, .int .i64 m.target, .int .i64 m.code, .string m.matched, .string m.text, .slice d.refs.A d.refs.n d.refs.c, .slice none 0 0]) rfl rfl (fun w' hE => (by kernel_rfl)) ?_
    try simp only [Act.put, List.setIfInBounds_toArray, List.set_cons_zero, List.set_cons_succ]
    refine walksB_main rfl rfl (fun K hK => ?_)
    refine wp_store' 42 (.tmp 3) (.tmp 56) rfl g3 0 rfl (.agg #[.int .i64 m.id, .int .i64 m.kind, .string m.name, .string m.pw, .int .i64 m.ver, .int .i64 m.scope, .int .i64 m.deref, .int .i64 m.size, .int .i64 m.time, .bool m.tonly, .int .i64 m.fil.kind, .string m.fil.attr, .string m.fil.value, .string m.fil.first, .string m.fil.last, .slice G1 g1 h1, .slice G2 g2 h2, .slice d.attrs.A d.attrs.n d.attrs.c, .slice d.list.A d.list.n d.list.c, .slice d.chgs.A d.chgs.n d.chgs.c, .string m.nrdn, .bool m.dold, .bool m.hsup, .string m.sup, .string m.attr, .string m.value, .int .i64 m.target, .int .i64 m.code, .string m.matched, .string m.text, .slice d.refs.A d.refs.n d.refs.c, .slice none 0 0]) rfl _ _ G3.out (by kernel_rfl) (by simp [Value.cells, zeroMsg]) (by simp [Value.cells, Value.oneCell']) ?_
    intro we hge hre
    have hs := Nat.le_trans hBD (Below.size XB.out)
    have hBe := below_stored hge hs hg3
    have RA2 := hid ((RA.out.lt.same fun b hb => hge.block b hb.2 (fun e => hb.1.1 (by injection e))).mono (T := fun b => b ≠ g3 ∧ w2.heap.size ≤ b) fun b _ hs => hs.1)
    have RP2 := hid ((RP.out.lt.same fun b hb => hge.block b hb.2 (fun e => hb.1.1 (by injection e))).mono (T := fun b => b ≠ g3 ∧ w2.heap.size ≤ b) fun b _ hs => hs.1)
    have G4 := hid hre
    clear hre
    have XB' := hid (Below.trans (Hid.out XB) (hBe)); clear XB; have XB := XB'; clear XB'
    refine hK _ _ (by first | assumption | exact Below.refl _ _) ?_
    clear hK K
    try simp only [Act.put, List.setIfInBounds_toArray, List.set_cons_zero, List.set_cons_succ]
    refine walksB_done ?_
    have HT : Hid (TM w2.heap.size w1.heap.size w2 we g3 m ⟨⟨G1, g1, h1⟩, ⟨G2, g2, h2⟩, d.attrs, d.list, d.chgs, d.refs, ⟨none, 0, 0⟩⟩ ⟨none, 0, 0⟩ ⟨none, 0, 0⟩ 0) :=
      TM.start (Hm.out.old (X1.out.trans X2.out)) (ext_sz X1.out) (row_lt Hg2.out) rfl (Below.trans XF.out XB.out) hg3 (Nat.le_trans hBD (Below.size XB.out)) (by have h7 := G4.out; exact h7) RA2.out RP2.out
    have PC := hid (cell_laterB (cell_later (boxCell Hg1.out 31 hcs rfl).out _ X2.out) (Nat.le_refl _) (Below.trans XF.out XB.out) _ (Below.refl _ _))
    have PD : Hid (w2.cell? ⟨w.heap.size, 31, none⟩ = some (.slice d.ctls.A d.ctls.n d.ctls.c)) := cell_later (boxCell Hg1.out 31 hcs rfl).out _ X2.out
    clear p0 p1 p2 p3 p4 p5 p6 p7 p8 p9 p10 p11 p12 p13 p14 p15 p16 p17 p18 p19 p20 p21 p22 p23 p24 p25 p26 p27 p28 p29 p30
    have pc := PC.out
    have hnk : d.ctls.n ≤ 1048576 := by rw [Hm.out.ctls.len]; exact Hk.out
    go_wp2
    clear pc
    go_loopw [60] (fun i wr => ∃ (j : Nat) (u : Sv), j ≤ d.ctls.n ∧ i = .int .i64 j ∧ Hid (TM w2.heap.size w1.heap.size w2 wr g3 m ⟨⟨G1, g1, h1⟩, ⟨G2, g2, h2⟩, d.attrs, d.list, d.chgs, d.refs, ⟨none, 0, 0⟩⟩ u u j)) (fun i _ => d.ctls.n - (intOf i).toNat)
    case atStart => exact ⟨0, ⟨none, 0, 0⟩, by omega, rfl, HT⟩
    case round =>
      obtain ⟨j, ⟨Au, nu, cu⟩, hj, rfl, HI⟩ := hrel
      by_cases hlt : j < d.ctls.n
      · obtain ⟨b1, o1, v1, x1, hA, gx, -, R1, q1⟩ := Hm2.out.ctls.at_ hlt
        have hv1 : v1 = [.string x1.oid, .bool x1.crit, .bool x1.has, .string x1.val] := R1
        subst hv1
        have HX1 := hid gx
        clear R1 gx
        go_wp2
        refine wp_region_planB w2.heap.size (.read 0 (.read 2 (.read 3 (.read 4 (.read 5 (.read 6 (.alt 1 (.main 7 (.main 8 (.read 9 (.main 10 .done)))) (.main 7 (.main 1 (.main 8 (.read 9 (.main 10 .done)))))))))))) (by kernel_rfl) (by kernel_rfl) ?_
        intro wD hxD
        have XB : Hid (Below w2.heap.size wD wD) := Below.refl _ _
        have XF := hid (Below.trans HI.out.below (Below.mono hxD HI.out.size))
        have HJ := hid (HI.out.ext hxD)
        have y0 : ∀ w', Below w2.heap.size wD w' → w'.cell? ⟨b1, o1 + j * 4, none⟩ = some (.string x1.oid) := cell_laterB (by have := q1 0 _ rfl; simpa [Elem.ctl] using this) (Nat.le_refl _) XF.out
        have y1 : ∀ w', Below w2.heap.size wD w' → w'.cell? ⟨b1, o1 + j * 4 + 1, none⟩ = some (.bool x1.crit) := cell_laterB (by have := q1 1 _ rfl; simpa [Elem.ctl] using this) (Nat.le_refl _) XF.out
        have y2 : ∀ w', Below w2.heap.size wD w' → w'.cell? ⟨b1, o1 + j * 4 + 2, none⟩ = some (.bool x1.has) := cell_laterB (by have := q1 2 _ rfl; simpa [Elem.ctl] using this) (Nat.le_refl _) XF.out
        have y3 : ∀ w', Below w2.heap.size wD w' → w'.cell? ⟨b1, o1 + j * 4 + 3, none⟩ = some (.string x1.val) := cell_laterB (by have := q1 3 _ rfl; simpa [Elem.ctl] using this) (Nat.le_refl _) XF.out
        have y9 : ∀ w', Below w2.heap.size wD w' → w'.cell? ⟨w.heap.size, 31, none⟩ = some (.slice (some ⟨b1, o1, none⟩) d.ctls.n d.ctls.c) := by rw [← hA]; exact cell_laterB PD.out (Nat.le_refl _) XF.out
        clear q1
        repeat' (first
          | (refine walksB_move rfl rfl ?_; simp only [Act.put, Act.eval, List.setIfInBounds_toArray, List.set_cons_zero, List.set_cons_succ, Array.getD_eq_getD_getElem?, List.getElem?_toArray, List.getElem?_cons_zero, List.getElem?_cons_succ, Option.getD_some])
          | (refine walksB_assign rfl rfl ?_; simp only [Act.put, Act.eval, List.setIfInBounds_toArray, List.set_cons_zero, List.set_cons_succ, Array.getD_eq_getD_getElem?, List.getElem?_toArray, List.getElem?_cons_zero, List.getElem?_cons_succ, Option.getD_some])
          | (refine walksB_skip rfl rfl ?_; simp only [Act.put, List.setIfInBounds_toArray, List.set_cons_zero, List.set_cons_succ])
          | (refine walksB_unwanted rfl rfl ?_; simp only [Act.put, List.setIfInBounds_toArray, List.set_cons_zero, List.set_cons_succ])
          | (refine walksB_read (v := ?_) rfl rfl (fun w' hE => ?_) ?_; rotate_left 1; (· ((try (have hEx := Below.trans (Hid.out XB) hE)); go_simp; (try go_bits); with_reducible rfl)); simp only [Act.put, List.setIfInBounds_toArray, List.set_cons_zero, List.set_cons_succ])
          | (refine walksB_alt ?_ ?_))
        · refine walksB_main rfl rfl (fun K hK => ?_)
          refine wp_load_cell 40 (.tmp 63) rfl ⟨g3, 31, none⟩ rfl (.slice Au nu cu) (boxRow HJ.out.blk 31 rfl) (fun _ => by kernel_rfl) ?_
          refine hK _ _ (by first | assumption | exact Below.refl _ _) ?_
          clear hK K
          try simp only [Act.put, List.setIfInBounds_toArray, List.set_cons_zero, List.set_cons_succ]
          refine walksB_main rfl rfl (fun K hK => ?_)
          refine litctl_wp (.tmp 69) rfl (.string x1.oid) (.bool x1.crit) (.bool x1.has) (.string x1.val) rfl ?_
          intro gl wl hxl hcl
          have HCl := hid hcl
          clear hcl
          have hbl := Below.mono hxl HJ.out.size
          have XB' := hid (Below.trans (Hid.out XB) (hbl)); clear XB; have XB := XB'; clear XB'
          have HJ' := hid (HJ.out.ext hxl)
          clear HJ
          have HJ := HJ'
          clear HJ'
          refine hK _ _ (by first | assumption | exact Below.refl _ _) ?_
          clear hK K
          try simp only [Act.put, List.setIfInBounds_toArray, List.set_cons_zero, List.set_cons_succ]
          refine walksB_main rfl rfl (fun K hK => ?_)
          refine wp_append_sz (.tmp 64) (.tmp 70) 40 rfl w2.heap.size 61 _ 4 40 Try.underlying40 Try.infoCtl rfl (by decide) _ j (ctlsCells (m.ctls.take j)) rfl HJ.out.own (some ⟨gl, 0, none⟩) 1 1 [.string x1.oid, .bool x1.crit, .bool x1.has, .string x1.val] rfl rfl HCl.out (by simp [Value.oneCell']) (by simp [maxLen]; omega) (by omega) HJ.out.size ?_
          intro u' wa hoa hga hva
          obtain ⟨Aq, cq, rfl⟩ := own_form7 hoa
          have hbl := below_grown HJ.out.own hga HJ.out.size (Nat.le_refl _)
          have XB' := hid (Below.trans (Hid.out XB) (hbl)); clear XB; have XB := XB'; clear XB'
          have HJ' := hid (HJ.out.push (u' := ⟨Aq, j + 1, cq⟩) HX1.out hoa hga hva)
          clear HJ
          have HJ := HJ'
          clear HJ'
          refine hK _ _ (by first | assumption | exact Below.refl _ _) ?_
          clear hK K
          try simp only [Act.put, List.setIfInBounds_toArray, List.set_cons_zero, List.set_cons_succ]
          refine walksB_read (v := ?_) rfl rfl (fun w' hE => ?_) ?_; rotate_left 1; (· (go_simp; (try go_bits); with_reducible rfl)); simp only [Act.put, List.setIfInBounds_toArray, List.set_cons_zero, List.set_cons_succ]
          refine walksB_main rfl rfl (fun K hK => ?_)
          refine wp_store' 40 (.tmp 72) (.tmp 71) rfl g3 31 rfl (.slice Aq (j + 1) cq) rfl _ _ HJ.out.blk (by kernel_rfl) (by simp [Value.cells]) (by simp [Value.cells, Value.oneCell']) ?_
          intro ws hgs hrs
          have hbl := below_stored hgs HJ.out.size HJ.out.low
          have HJ' := hid (HJ.out.store (u := ⟨Aq, j + 1, cq⟩) hgs hrs)
          clear HJ
          have HJ := HJ'
          clear HJ'
          refine hK _ _ (by first | assumption | exact Below.refl _ _) ?_
          clear hK K
          try simp only [Act.put, List.setIfInBounds_toArray, List.set_cons_zero, List.set_cons_succ]
          refine walksB_done ?_
          go_wp2
          exact ⟨⟨j + 1, ⟨Aq, j + 1, cq⟩, by omega, by go_num, HJ⟩, by simp [intOf]; omega⟩
        · refine walksB_main rfl rfl (fun K hK => ?_)
          refine litctl_wp (.tmp 69) rfl (.string x1.oid) (.bool x1.crit) (.bool x1.has) (.string x1.val) rfl ?_
          intro gl wl hxl hcl
          have HCl := hid hcl
          clear hcl
          have hbl := Below.mono hxl HJ.out.size
          have XB' := hid (Below.trans (Hid.out XB) (hbl)); clear XB; have XB := XB'; clear XB'
          have HJ' := hid (HJ.out.ext hxl)
          clear HJ
          have HJ := HJ'
          clear HJ'
          refine hK _ _ (by first | assumption | exact Below.refl _ _) ?_
          clear hK K
          try simp only [Act.put, List.setIfInBounds_toArray, List.set_cons_zero, List.set_cons_succ]
          refine walksB_main rfl rfl (fun K hK => ?_)
          refine wp_load_cell 40 (.tmp 63) rfl ⟨g3, 31, none⟩ rfl (.slice Au nu cu) (boxRow HJ.out.blk 31 rfl) (fun _ => by kernel_rfl) ?_
          refine hK _ _ (by first | assumption | exact Below.refl _ _) ?_
          clear hK K
          try simp only [Act.put, List.setIfInBounds_toArray, List.set_cons_zero, List.set_cons_succ]
          refine walksB_main rfl rfl (fun K hK => ?_)
          refine wp_append_sz (.tmp 64) (.tmp 70) 40 rfl w2.heap.size 61 _ 4 40 Try.underlying40 Try.infoCtl rfl (by decide) _ j (ctlsCells (m.ctls.take j)) rfl HJ.out.own (some ⟨gl, 0, none⟩) 1 1 [.string x1.oid, .bool x1.crit, .bool x1.has, .string x1.val] rfl rfl HCl.out (by simp [Value.oneCell']) (by simp [maxLen]; omega) (by omega) HJ.out.size ?_
          intro u' wa hoa hga hva
          obtain ⟨Aq, cq, rfl⟩ := own_form7 hoa
          have hbl := below_grown HJ.out.own hga HJ.out.size (Nat.le_refl _)
          have XB' := hid (Below.trans (Hid.out XB) (hbl)); clear XB; have XB := XB'; clear XB'
          have HJ' := hid (HJ.out.push (u' := ⟨Aq, j + 1, cq⟩) HX1.out hoa hga hva)
          clear HJ
          have HJ := HJ'
          clear HJ'
          refine hK _ _ (by first | assumption | exact Below.refl _ _) ?_
          clear hK K
          try simp only [Act.put, List.setIfInBounds_toArray, List.set_cons_zero, List.set_cons_succ]
          refine walksB_read (v := ?_) rfl rfl (fun w' hE => ?_) ?_; rotate_left 1; (· (go_simp; (try go_bits); with_reducible rfl)); simp only [Act.put, List.setIfInBounds_toArray, List.set_cons_zero, List.set_cons_succ]
          refine walksB_main rfl rfl (fun K hK => ?_)
          refine wp_store' 40 (.tmp 72) (.tmp 71) rfl g3 31 rfl (.slice Aq (j + 1) cq) rfl _ _ HJ.out.blk (by kernel_rfl) (by simp [Value.cells]) (by simp [Value.cells, Value.oneCell']) ?_
          intro ws hgs hrs
          have hbl := below_stored hgs HJ.out.size HJ.out.low
          have HJ' := hid (HJ.out.store (u := ⟨Aq, j + 1, cq⟩) hgs hrs)
          clear HJ
          have HJ := HJ'
          clear HJ'
          refine hK _ _ (by first | assumption | exact Below.refl _ _) ?_
          clear hK K
          try simp only [Act.put, List.setIfInBounds_toArray, List.set_cons_zero, List.set_cons_succ]
          refine walksB_done ?_
          go_wp2
          exact ⟨⟨j + 1, ⟨Aq, j + 1, cq⟩, by omega, by go_num, HJ⟩, by simp [intOf]; omega⟩
      · obtain hjn : j = m.ctls.length := by rw [← Hm.out.ctls.len]; omega
        have Hr2 : Hid (wr.heap[w1.heap.size]? = _) := (HI.out.below.block w1.heap.size (row_lt Hg2.out)).trans Hg2.out
        have Hr3 := hid (HI.out.blk)
        go_wp2_with (first
          | (refine wpList_load_row rfl 42 (.tmp 3) rfl g3 rfl _ _ _ _ Hr3.out Try.underlying42 rfl (by kernel_rfl) ?_)
          | (refine store_arm rfl 42 (.tmp 2) (.tmp 74) rfl w1.heap.size 0 rfl (.agg (msgCells m ⟨⟨G1, g1, h1⟩, ⟨G2, g2, h2⟩, d.attrs, d.list, d.chgs, d.refs, ⟨Au, nu, cu⟩⟩).toArray) rfl _ _ Hr2.out (by kernel_rfl) (by simp [Value.cells, zeroMsg]) (by simp [Value.cells, Value.oneCell']) ?_; intro wz hgz hzz hrz; have Hrz := hid hrz; have Hzz := hid hzz; clear hrz hzz))
        refine bodyPost_ret (v := .agg (msgCells m ⟨⟨G1, g1, h1⟩, ⟨G2, g2, h2⟩, d.attrs, d.list, d.chgs, d.refs, ⟨Au, nu, cu⟩⟩).toArray) (results_cell_row (p := 2) (ty := 42) (by kernel_rfl) _ _ _ _ _ _ _ rfl Hrz.out Try.underlying42 rfl (by kernel_rfl)) rfl ⟨_, ⟨⟨G1, g1, h1⟩, ⟨G2, g2, h2⟩, d.attrs, d.list, d.chgs, d.refs, ⟨Au, nu, cu⟩⟩, rfl, rfl, ?_, ?_⟩
        · exact HI.out.stop hjn (row_lt Hg2.out) hgz
        · have hB0 : w.heap.size ≤ w2.heap.size := ext_sz (X1.out.trans X2.out)
          exact Below.trans (X1.out.trans X2.out) (Below.trans (Below.mono HI.out.below hB0) (below_stored hgz (Nat.le_trans hB0 HI.out.size) (ext_sz X1.out)))
end Go.Proofs.Ytabaeiolpbdjnaa
