/- The walks of the reference's Small: it answers something. -/
import Derived.Test.YtabaeiolpbdjnaaMg
namespace Go.Proofs.Ytabaeiolpbdjnaa
open Go.RowKit
set_option maxRecDepth 100000

/-- Some integer is answered; nothing old is written. -/
def SomeI (w : World) (e : Ending) (w' : World) : Prop := ∃ r : Int, e = .returned (.int .i64 r) ∧ Ext w w'
def SomeB (w : World) (e : Ending) (w' : World) : Prop := ∃ r : Bool, e = .returned (.bool r) ∧ Ext w w'
theorem some_of {w w1 : World} {r : Int} (h : Ext w w1) : SomeI w (.returned (.int .i64 r)) w1 := ⟨r, rfl, h⟩
theorem someB_of {w w1 : World} {r : Bool} (h : Ext w w1) : SomeB w (.returned (.bool r)) w1 := ⟨r, rfl, h⟩
def SmallSays (x : Fil) : Prop := ∀ (S : Nat → Prop) (vs : List Value) (dp lf : Int) (w : World), FilAt S w vs x → Calls Try.prog 38 #[.agg vs.toArray, .int .i64 dp, .int .i64 lf] w (SomeI w)

set_option maxHeartbeats 4000000 in
theorem small_any : ∀ x, SmallSays x := by
  refine Fil.ind fun k a v f l any parts ih => ?_
  intro S vs dp lf w h
  obtain ⟨A1, n1, c1, B1, m1, d1, rfl, r1, p1⟩ := FilAt.open_ h
  have IH := hid ih
  have hm1 : m1 ≤ 9223372036854775807 := by have := p1.cap; have := p1.most; simp only [maxLen] at this; omega
  have hn1 : n1 ≤ 9223372036854775807 := by have := r1.cap; have := r1.most; simp only [maxLen] at this; omega
  clear h ih
  go_enter Try.func38, Try.ntmps38
  go_wp2
  all_goals try (go_ret; exact some_of (Ext.alloc _ _))
  go_loop [44] (fun i => ∃ j : Nat, j ≤ n1 ∧ i = .int .i64 j) (fun i => n1 - (intOf i).toNat)
  case atStart => exact ⟨0, by omega, rfl⟩
  case round =>
    obtain ⟨j, hj, rfl⟩ := hrel
    by_cases hlt : j < n1
    · obtain ⟨b1, o1, rfl, c1⟩ := (r1.ext (Ext.alloc _ (.cells #[.int .i64 k, .string a, .string v, .string f, .string l, .slice A1 n1 c1, .slice B1 m1 d1] 25))).str_cell (by omega)
      have e1 := c1 j hlt
      clear c1
      generalize any[j]?.getD ByteArray.empty = x at *
      go_wp2
      · go_ret
        exact some_of (Ext.alloc _ _)
      · go_round
        case rel => exact ⟨j + 1, by omega, by go_num⟩
        case measure => simp [intOf]; omega
    · obtain rfl : n1 = j := by omega
      go_wp2
      go_loopw [2, 60] (fun u i wr => ∃ (j : Nat) (r : Int), j ≤ m1 ∧ i = .int .i64 j ∧ u = .int .i64 r ∧ Hid (Ext (w.alloc (.cells #[.int .i64 k, .string a, .string v, .string f, .string l, .slice A1 n1 c1, .slice B1 m1 d1] 25)) wr)) (fun _ i _ => m1 - (intOf i).toNat)
      case atStart => exact ⟨0, _, by omega, rfl, rfl, Ext.refl _⟩
      case round =>
        obtain ⟨q, r, hq, rfl, rfl, hx⟩ := hrel
        have z1 : wr.cell? ⟨w.heap.size, 6, none⟩ = some (.slice B1 m1 d1) := cell_later (by rw [box_a]; rfl) _ hx.out
        by_cases hlt2 : q < m1
        · obtain ⟨b1, o1, v1, x1, rfl, g1, _, R1, q1⟩ := (p1.ext ((Ext.alloc _ _).trans hx.out)).at_ hlt2
          have hsx := hid (IH.out x1 (List.mem_of_getElem? g1))
          obtain ⟨ka, aa, va, fa, la, anya, pa⟩ := x1
          obtain ⟨E1, e1, i1, F1, f1, j1, rfl, -, -⟩ := FilAt.open_ R1
          have e10 := q1 0 _ rfl; have e11 := q1 1 _ rfl; have e12 := q1 2 _ rfl; have e13 := q1 3 _ rfl; have e14 := q1 4 _ rfl; have e15 := q1 5 _ rfl; have e16 := q1 6 _ rfl
          clear q1 g1
          simp only [Elem.fil, Nat.add_zero] at e10 e11 e12 e13 e14 e15 e16
          have HC : Hid (∀ dp lf, Calls Try.prog 38 #[.agg #[.int .i64 ka, .string aa, .string va, .string fa, .string la, .slice E1 e1 i1, .slice F1 f1 j1], .int .i64 dp, .int .i64 lf] wr (SomeI wr)) := fun dp lf => hsx.out _ _ dp lf _ R1
          clear R1
          by_cases hr0 : r < 0
          · go_wp2
            go_ret
            exact some_of ((Ext.alloc _ _).trans hx.out)
          · go_wp2_with (go_at_call 38; (with_reducible refine (HC.out _ _).mono ?_); rintro e w4 ⟨r4, rfl, hx4⟩)
            exact ⟨⟨q + 1, r4, by omega, by go_num, rfl, hx.out.trans hx4⟩, by simp [intOf]; omega⟩
        · obtain rfl : m1 = q := by omega
          go_wp2
          go_ret
          exact some_of ((Ext.alloc _ _).trans hx.out)

theorem smallfil_any {x : Fil} {S : Nat → Prop} {vs : List Value} {w : World} (h : FilAt S w vs x) : Calls Try.prog 12 #[.agg vs.toArray] w (SomeB w) := by
  have hc := small_any x
  obtain ⟨k, a, v, f, l, any, parts⟩ := x
  have h0 := h
  obtain ⟨A1, n1, c1, B1, m1, d1, rfl, -, -⟩ := FilAt.open_ h
  have HC : Hid (∀ w2, Ext w w2 → Calls Try.prog 38 #[.agg #[.int .i64 k, .string a, .string v, .string f, .string l, .slice A1 n1 c1, .slice B1 m1 d1], .int .i64 0, .int .i64 60] w2 (SomeI w2)) := fun w2 hx => hc _ _ 0 60 w2 (h0.ext hx)
  clear h0 h hc
  go_enter Try.func12, Try.ntmps12
  go_wp2_with (go_at_call 38; (with_reducible refine (HC.out _ (Ext.alloc _ _)).mono ?_); rintro e w4 ⟨r4, rfl, hx4⟩)
  go_ret
  exact someB_of ((Ext.alloc _ _).trans hx4)

set_option maxHeartbeats 4000000 in
theorem msgsmall_any {m : Msg} {d : MsgD} {cs : Array Value} {S : Nat → Prop} (hcs : Hid (cs = (msgCells m d).toArray)) (w : World) (hm : MsgRows S w m d) :
    Calls Try.prog 6 #[.agg cs] w (SomeB w) := by
  have Hm := hid hm
  have nl : d.list.n ≤ 9223372036854775807 := by have := hm.list.cap; have := hm.list.most; simp only [maxLen] at this; omega
  have nc : d.chgs.n ≤ 9223372036854775807 := by have := hm.chgs.cap; have := hm.chgs.most; simp only [maxLen] at this; omega
  clear hm
  go_enter Try.func6, Try.ntmps6
  go_wp2_with (refine box_arm rfl 30 (.tmp 0) rfl cs rfl ?_; intro w1 hx1 hz1 hg1; have Hg1 := hid hg1; clear hz1 hg1; have X1 := hid hx1; clear hx1; have p18 := (boxCell Hg1.out 18 hcs rfl).out; have p19 := (boxCell Hg1.out 19 hcs rfl).out; have p17 := (boxCell Hg1.out 17 hcs rfl).out; have p30 := (boxCell Hg1.out 30 hcs rfl).out; have p31 := (boxCell Hg1.out 31 hcs rfl).out)
  go_loop [3, 9] (fun s i => ∃ (j : Nat) (r : Int), j ≤ d.list.n ∧ i = .int .i64 j ∧ s = .int .i64 r) (fun _ i => d.list.n - (intOf i).toNat)
  case atStart => exact ⟨0, _, by omega, rfl, rfl⟩
  case round =>
    obtain ⟨j, r, hj, rfl, rfl⟩ := hrel
    by_cases hlt : j < d.list.n
    · obtain ⟨b1, o1, v1, x1, hA, g1, _, ⟨A1, n1, c1, rfl, r1⟩, q1⟩ := (Hm.out.list.ext X1.out).at_ hlt
      have e11 := q1 1 _ rfl
      clear q1 g1
      simp only [Elem.att] at e11
      rw [hA] at p18
      go_wp2
      exact ⟨⟨j + 1, _, by omega, by go_num, rfl⟩, by simp [intOf]; omega⟩
    · have Hj : Hid (j = d.list.n) := by show _ = _; omega
      have hge : ¬ (j : Int) < (d.list.n : Int) := by omega
      go_wp2
      go_loop [3, 26] (fun s i => ∃ (q : Nat) (r : Int), q ≤ d.chgs.n ∧ i = .int .i64 q ∧ s = .int .i64 r) (fun _ i => d.chgs.n - (intOf i).toNat)
      case atStart => exact ⟨0, _, by omega, rfl, rfl⟩
      case round =>
        obtain ⟨q, r', hq, rfl, rfl⟩ := hrel
        by_cases hlt2 : q < d.chgs.n
        · obtain ⟨b1, o1, v1, x1, hA, g1, _, ⟨A1, n1, c1, rfl, r1⟩, q1⟩ := (Hm.out.chgs.ext X1.out).at_ hlt2
          have e12 := q1 2 _ rfl
          clear q1 g1
          simp only [Elem.chg] at e12
          rw [hA] at p19
          go_wp2
          exact ⟨⟨q + 1, _, by omega, by go_num, rfl⟩, by simp [intOf]; omega⟩
        · have hge2 : ¬ (q : Int) < (d.chgs.n : Int) := by omega
          have HC : Hid (Calls Try.prog 12 #[.agg #[.int .i64 m.fil.kind, .string m.fil.attr, .string m.fil.value, .string m.fil.first, .string m.fil.last, .slice d.any.A d.any.n d.any.c, .slice d.parts.A d.parts.n d.parts.c]] w1 (SomeB w1)) := smallfil_any (Hm.out.ext X1.out).fil
          have p10 := (boxCell Hg1.out 10 hcs rfl).out; have p11 := (boxCell Hg1.out 11 hcs rfl).out; have p12 := (boxCell Hg1.out 12 hcs rfl).out; have p13 := (boxCell Hg1.out 13 hcs rfl).out; have p14 := (boxCell Hg1.out 14 hcs rfl).out; have p15 := (boxCell Hg1.out 15 hcs rfl).out; have p16 := (boxCell Hg1.out 16 hcs rfl).out
          go_wp2_with (go_at_call 12; (with_reducible refine HC.out.mono ?_); rintro e w4 ⟨r4, rfl, hx4⟩)
          · go_ret
            exact someB_of (X1.out.trans hx4)
          · go_ret
            exact someB_of X1.out
end Go.Proofs.Ytabaeiolpbdjnaa
