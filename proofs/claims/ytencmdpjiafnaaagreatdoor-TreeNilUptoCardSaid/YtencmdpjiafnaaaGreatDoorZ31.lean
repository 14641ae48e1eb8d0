import Derived.Test.YtencmdpjiafnaaaGreatDoorZ19
import Derived.Test.YtencmdpjiafnaaaGreatDoorZ07
import Derived.Test.YtencmdpjiafnaaaGreatDoorZ09
import Derived.Test.YtencmdpjiafnaaaGreatDoorZ30
/- A row of the call's own that grows, whatever its elements are: they lie in other blocks of the call's own. Nothing of the program is named. -/
namespace Go.Proofs.YtencmdpjiafnaaaGreatDoor
open Go.RowKit
set_option linter.unusedVariables false

/-- Where the elements may lead: blocks of the call's own, neither the row's nor the one kept apart. -/
def inner (w : World) (v : Value) (L : Option Nat) : Nat → Prop := fun b => w.heap.size ≤ b ∧ some b ≠ v.ownBlock ∧ some b ≠ L
structure GrowR {α : Type} (E : Elem α) (T : TypeId) (L : Option Nat) (w wr : World) (v : Value) (l : List α) : Prop where
  rows : ∃ vss : List (List Value), vss.length = l.length ∧ wr.ownsRow w.heap.size T E.k v l.length vss.flatten ∧ (∀ (i : Nat) u x, vss[i]? = some u → l[i]? = some x → E.R (inner w v L) wr u x)
  ext : Ext w wr
  apart : ∀ g, L = some g → v.ownBlock ≠ some g ∧ w.heap.size ≤ g ∧ g < wr.heap.size
section
variable {α : Type} {E : Elem α} {T : TypeId} {L : Option Nat} {w wr w' : World} {v : Value} {l : List α}
theorem GrowR.nil (hx : Ext w wr) (hL : ∀ g, L = some g → w.heap.size ≤ g ∧ g < wr.heap.size) : GrowR E T L w wr (.slice none 0 0) [] :=
  ⟨⟨[], rfl, World.ownsRow_nil _ _ _ _, fun i u x h => by simp at h⟩, hx, fun g hg => ⟨by simp [Value.ownBlock], hL g hg⟩⟩
/-- An element's relation, in a world in which all blocks of S below the heap's end are as they were. -/
theorem elem_keep {S S' : Nat → Prop} {u : List Value} {x : α} (h : E.R S wr u x) (hk : ∀ b, S b → b < wr.heap.size → w'.heap[b]? = wr.heap[b]?) (hs : ∀ b, S b → b < wr.heap.size → S' b) : E.R S' w' u x := by
  have h1 : E.R (fun b => S b ∧ b < wr.heap.size) wr u x := E.mono h fun b hb hS => ⟨hS, hb⟩
  have h2 : E.R (fun b => S b ∧ b < wr.heap.size) w' u x := E.same h1 fun b hb => hk b hb.1 hb.2
  exact E.mono h2 fun b _ hb => hs b hb.1 hb.2
theorem GrowR.later (h : GrowR E T L w wr v l) (hx : Ext wr w') : GrowR E T L w w' v l := by
  obtain ⟨⟨vss, h1, h2, h3⟩, h4, h5⟩ := h
  exact ⟨⟨vss, h1, own_ext h2 hx, fun i u x hi hl => elem_keep (h3 i u x hi hl) (fun b _ hb => hx.block b hb) (fun b hS _ => hS)⟩, h4.trans hx, fun g hg => ⟨(h5 g hg).1, (h5 g hg).2.1, Nat.lt_of_lt_of_le (h5 g hg).2.2 hx.size⟩⟩
/-- A store into the block that is kept apart. -/
theorem GrowR.setL {g : Nat} (h : GrowR E T (some g) w wr v l) (i : Nat) (z : Value) : GrowR E T (some g) w (wr.setCell ⟨g, i, none⟩ z) v l := by
  obtain ⟨⟨vss, h1, h2, h3⟩, h4, h5⟩ := h
  obtain ⟨ha, hb, hc⟩ := h5 g rfl
  refine ⟨⟨vss, h1, ?_, fun i' u x hi hl => elem_keep (h3 i' u x hi hl) (fun b hS _ => heap_setCell_other _ _ _ _ (fun e => hS.2.2 (by rw [e]))) (fun b hS _ => hS)⟩, h4.setCell hb _, fun g' hg => ⟨(h5 g' hg).1, (h5 g' hg).2.1, by simpa using (h5 g' hg).2.2⟩⟩
  obtain ⟨q1, q2⟩ := h2
  refine ⟨q1, ?_⟩
  rcases q2 with q2 | ⟨k, cap, cur, e1, e2, e3, e4⟩
  · exact .inl q2
  · refine .inr ⟨k, cap, cur, e1, e2, ?_, e4⟩
    rw [heap_setCell_other _ _ _ _ (fun e => ha (by rw [e1]; exact congrArg some e))]
    exact e3
/-- The row, for whoever reads it. -/
theorem GrowR.row (h : GrowR E T L w wr v l) : ∃ A c, v = .slice A l.length c ∧ Row E (fun b => w.heap.size ≤ b) wr A l.length c l := by
  obtain ⟨⟨vss, h1, h2, h3⟩, h4, h5⟩ := h
  obtain ⟨A, c, rfl⟩ : ∃ A c, v = .slice A l.length c := by
    rcases h2.2 with ⟨rfl, h0⟩ | ⟨g, cap, cur, rfl, _⟩
    · exact ⟨none, 0, by rw [h0]⟩
    · exact ⟨_, _, rfl⟩
  exact ⟨A, c, rfl, own_rows h2 rfl h1 (fun g hg => (h2.lt g hg).1) fun i u x hi hl => E.mono (h3 i u x hi hl) fun b _ hS => hS.1⟩
theorem GrowR.base {w0 : World} (h : GrowR E T none w wr v l) (hx : Ext w0 w) : GrowR E T none w0 wr v l := by
  obtain ⟨⟨vss, h1, h2, h3⟩, h4, h5⟩ := h
  refine ⟨⟨vss, h1, ?_, fun i u x hi hl => E.mono (h3 i u x hi hl) fun b _ hS => ⟨Nat.le_trans hx.size hS.1, hS.2⟩⟩, hx.trans h4, fun g hg => by cases hg⟩
  obtain ⟨q1, q2⟩ := h2
  refine ⟨q1, ?_⟩
  rcases q2 with q2 | ⟨k, cap, cur, e1, e2, e3⟩
  · exact .inl q2
  · exact .inr ⟨k, cap, cur, e1, Nat.le_trans hx.size e2, e3⟩
/-- An element that was made later lies apart. -/
theorem GrowR.fresh {u : List Value} {x : α} {w1 : World} (h : GrowR E T L w wr v l) (hx : Ext wr w1) {B : Nat} (hB : wr.heap.size ≤ B) (hE : E.R (fun b => B ≤ b) w' u x) : E.R (inner w v L) w' u x := by
  obtain ⟨⟨vss, h1, h2, h3⟩, h4, h5⟩ := h
  refine E.mono hE fun b _ hb => ⟨Nat.le_trans h4.size (Nat.le_trans hB hb), fun e => ?_, fun e => ?_⟩
  · have := (h2.lt b e.symm).2
    omega
  · have := (h5 b e.symm).2.2
    omega
/-- One more element, appended. -/
theorem GrowR.snoc {v' : Value} {x : α} {u : List Value} (h : GrowR E T L w wr v l) (hx : E.R (inner w v L) wr u x) (ho : ∀ vss, wr.ownsRow w.heap.size T E.k v l.length vss → w'.ownsRow w.heap.size T E.k v' (l.length + 1) (vss ++ u)) (hg : wr.grownBy w' v.ownBlock)
    (hb : v'.ownBlock = v.ownBlock ∨ v'.ownBlock = some wr.heap.size) : GrowR E T L w w' v' (l ++ [x]) ∧ Below w.heap.size wr w' := by
  obtain ⟨⟨vss, h1, h2, h3⟩, h4, h5⟩ := h
  have hbw : Below w.heap.size wr w' := below_grown h2 hg (ext_sz h4) (Nat.le_refl _)
  have hkeep : ∀ b, inner w v L b → b < wr.heap.size → w'.heap[b]? = wr.heap[b]? := fun b hS hlt => hg.block b hlt hS.2.1
  have hin : ∀ b, inner w v L b → b < wr.heap.size → inner w v' L b := fun b hS hlt => ⟨hS.1, fun e => by
    rcases hb with hb | hb
    · exact hS.2.1 (by rw [e, hb])
    · rw [hb] at e; injection e with e; omega, hS.2.2⟩
  refine ⟨⟨⟨vss ++ [u], by simp [h1], ?_, fun i u' x' hi hl => ?_⟩, Below.trans h4 hbw, fun g hgL => ?_⟩, hbw⟩
  · rw [List.length_append, List.length_cons, List.length_nil, List.flatten_append]
    simpa using ho _ h2
  · rcases Nat.lt_or_ge i vss.length with hlt | hge
    · rw [List.getElem?_append_left hlt] at hi
      rw [List.getElem?_append_left (by omega)] at hl
      exact elem_keep (h3 i u' x' hi hl) hkeep hin
    · rw [List.getElem?_append_right hge] at hi
      rw [List.getElem?_append_right (by omega)] at hl
      have hz : i - vss.length = 0 := by
        have := (List.getElem?_eq_some_iff.1 hi).1
        simp at this
        omega
      rw [hz] at hi
      rw [← h1, hz] at hl
      simp at hi hl
      subst hi hl
      exact elem_keep hx hkeep hin
  · obtain ⟨ha, hb', hc⟩ := h5 g hgL
    refine ⟨?_, hb', Nat.lt_of_lt_of_le hc hg.size⟩
    rcases hb with hb | hb
    · rw [hb]; exact ha
    · rw [hb]; intro e; injection e with e; omega
theorem Bx.grown {g : Nat} {U : TypeId} {cs : Array Value} {r : Option Nat} (h : Bx w wr g U cs) (hg : wr.grownBy w' r) (hne : r ≠ some g) (hb : Below w.heap.size wr w') : Bx w w' g U cs :=
  ⟨h.new, (hg.block g h.lt (fun e => hne e.symm)).trans h.blk, Below.trans h.ext hb⟩
end
end Go.Proofs.YtencmdpjiafnaaaGreatDoor
/- Rows of parts: a part is appended. -/
namespace Go.Proofs.YtencmdpjiafnaaaGreatDoor
open Go.RowKit
set_option maxRecDepth 100000
set_option linter.unusedSimpArgs false
set_option linter.unusedVariables false

abbrev Elem.part : Elem (List Ava) := Elem.slc Elem.ava
theorem infoPart : (Tryz.prog.info? 109).map (fun i => (i.zero, i.size, i.bytes)) = some (some (.slice none 0 0), 1, 24) := by kernel_rfl
theorem append_part {w w0 : World} {ops : Array Oper} {rest : List Oper} {o : Oper} {a : Act} {Q : Exit → Act → World → Prop} (hgd : o.guard = none) (s x : Operand)
    (ho : o.op = .call { callee := .builtin .append, args := #[s, x], argTypes := #[132, 132] }) {L : Option Nat} (v : Value) (l : List (List Ava)) (hs : a.eval s = v) (hg : GrowR Elem.part 109 L w0 w v l)
    {A : Option Addr} {n c : Nat} {t : TypeId} (y : List Ava) (hr : Row Elem.ava (inner w0 v L) w A n c y) (hx : a.eval x = .slice (some ⟨w.heap.size, 0, none⟩) 1 1) (hb : l.length ≤ 4000000)
    (h : ∀ v' w', GrowR Elem.part 109 L w0 w' v' (l ++ [y]) → (w.alloc (.cells #[.slice A n c] t)).grownBy w' v.ownBlock → Below w0.heap.size (w.alloc (.cells #[.slice A n c] t)) w' → wpList Tryz.prog ops Q rest (a.put o.dst v') w') :
    wpList Tryz.prog ops Q (o :: rest) a (w.alloc (.cells #[.slice A n c] t)) := by
  have hg' := hg.later (Ext.alloc w (.cells #[.slice A n c] t))
  have hg2 := hg'
  obtain ⟨⟨vss, h1, h2, h3⟩, h4, h5⟩ := hg'
  refine wpList_plain hgd fun _ hK => ?_
  refine wp_append_sz s x 132 ho w0.heap.size 109 (.slice none 0 0) 1 24 Tryz.underlying132 infoPart rfl (by decide) v l.length vss.flatten hs h2 _ 1 1 [.slice A n c] hx rfl (.inr ⟨_, 0, rfl, fun j u hj => by rw [Nat.zero_add, box_a]; simpa using hj⟩)
    (fun u hu => by simp at hu; subst hu; rfl) (by simp [maxLen]; omega) (by omega) (ext_sz h4) ?_
  intro v' w' q1 q2 q3
  have hE : Elem.part.R (inner w0 v L) (w.alloc (.cells #[.slice A n c] t)) [.slice A n c] y := ⟨A, n, c, rfl, hr.ext (Ext.alloc _ _)⟩
  obtain ⟨k1, k2⟩ := hg2.snoc (v' := v') (w' := w') hE (fun vs' hvs' => by
    have e : vs' = vss.flatten := by
      have e1 := hvs'.2
      have e2 := h2.2
      rcases e1 with ⟨_, z1⟩ | ⟨g, cap, cur, e3, e4, e5, e6, e7, e8, e9⟩
      · have z2 := hvs'.1
        have z3 := h2.1
        rw [z1, Nat.zero_mul] at z2 z3
        rw [List.eq_nil_of_length_eq_zero z2, List.eq_nil_of_length_eq_zero z3]
      · rcases e2 with ⟨z0, z1⟩ | ⟨g', cap', cur', f3, f4, f5, f6, f7, f8, f9⟩
        · rw [e3] at z0; cases z0
        · rw [e3] at f3
          injection f3 with f3 _ f3'
          injection f3 with f3
          injection f3 with f3
          subst f3
          rw [e5] at f5
          injection f5 with f5
          injection f5 with f5
          subst f5
          rw [← e9, ← f9]
    rw [e]
    exact q1) q2 q3
  exact hK _ _ (h v' w' k1 q2 k2)
theorem rinfoPart : (Tryz.prog.info? 115).map (fun i => (i.zero, i.size, i.bytes)) = some (some (.slice none 0 0), 1, 24) := by kernel_rfl
theorem rappend_part {w w0 : World} {ops : Array Oper} {rest : List Oper} {o : Oper} {a : Act} {Q : Exit → Act → World → Prop} (hgd : o.guard = none) (s x : Operand)
    (ho : o.op = .call { callee := .builtin .append, args := #[s, x], argTypes := #[150, 150] }) {L : Option Nat} (v : Value) (l : List (List Ava)) (hs : a.eval s = v) (hg : GrowR Elem.part 115 L w0 w v l)
    {A : Option Addr} {n c : Nat} {t : TypeId} (y : List Ava) (hr : Row Elem.ava (inner w0 v L) w A n c y) (hx : a.eval x = .slice (some ⟨w.heap.size, 0, none⟩) 1 1) (hb : l.length ≤ 4000000)
    (h : ∀ v' w', GrowR Elem.part 115 L w0 w' v' (l ++ [y]) → (w.alloc (.cells #[.slice A n c] t)).grownBy w' v.ownBlock → Below w0.heap.size (w.alloc (.cells #[.slice A n c] t)) w' → wpList Tryz.prog ops Q rest (a.put o.dst v') w') :
    wpList Tryz.prog ops Q (o :: rest) a (w.alloc (.cells #[.slice A n c] t)) := by
  have hg' := hg.later (Ext.alloc w (.cells #[.slice A n c] t))
  have hg2 := hg'
  obtain ⟨⟨vss, h1, h2, h3⟩, h4, h5⟩ := hg'
  refine wpList_plain hgd fun _ hK => ?_
  refine wp_append_sz s x 150 ho w0.heap.size 115 (.slice none 0 0) 1 24 Tryz.underlying150 rinfoPart rfl (by decide) v l.length vss.flatten hs h2 _ 1 1 [.slice A n c] hx rfl (.inr ⟨_, 0, rfl, fun j u hj => by rw [Nat.zero_add, box_a]; simpa using hj⟩)
    (fun u hu => by simp at hu; subst hu; rfl) (by simp [maxLen]; omega) (by omega) (ext_sz h4) ?_
  intro v' w' q1 q2 q3
  have hE : Elem.part.R (inner w0 v L) (w.alloc (.cells #[.slice A n c] t)) [.slice A n c] y := ⟨A, n, c, rfl, hr.ext (Ext.alloc _ _)⟩
  obtain ⟨k1, k2⟩ := hg2.snoc (v' := v') (w' := w') hE (fun vs' hvs' => by
    have e : vs' = vss.flatten := by
      have e1 := hvs'.2
      have e2 := h2.2
      rcases e1 with ⟨_, z1⟩ | ⟨g, cap, cur, e3, e4, e5, e6, e7, e8, e9⟩
      · have z2 := hvs'.1
        have z3 := h2.1
        rw [z1, Nat.zero_mul] at z2 z3
        rw [List.eq_nil_of_length_eq_zero z2, List.eq_nil_of_length_eq_zero z3]
      · rcases e2 with ⟨z0, z1⟩ | ⟨g', cap', cur', f3, f4, f5, f6, f7, f8, f9⟩
        · rw [e3] at z0; cases z0
        · rw [e3] at f3
          injection f3 with f3 _ f3'
          injection f3 with f3
          injection f3 with f3
          subst f3
          rw [e5] at f5
          injection f5 with f5
          injection f5 with f5
          subst f5
          rw [← e9, ← f9]
    rw [e]
    exact q1) q2 q3
  exact hK _ _ (h v' w' k1 q2 k2)
end Go.Proofs.YtencmdpjiafnaaaGreatDoor
/- The walks of dn's Parse and of the reference's. -/
namespace Go.Proofs.YtencmdpjiafnaaaGreatDoor
open Go.RowKit
set_option maxRecDepth 100000
set_option linter.unusedSimpArgs false
set_option linter.unusedVariables false

theorem Bx.setS {w wr : World} {g : Nat} {T : TypeId} {x : Value} (h : Bx w wr g T #[x]) (v : Value) : Bx w (wr.setCell ⟨g, 0, none⟩ v) g T #[v] := h.set 0 v
def parseS (s : List UInt8) : Except NameErr (List (List Ava)) :=
  if 1000 < s.length then .error .long
  else if s = [] then .ok []
  else if 12 < (splitF 44 [] s).length then .error .long
  else match (splitF 44 [] s).mapM partB with
    | none => .error .form
    | some l => .ok l
def okL {α : Type} (r : Except NameErr (List α)) : List α := match r with | .ok l => l | .error _ => []
def codeR {α : Type} (r : Except NameErr α) : Int := match r with | .ok _ => 0 | .error .long => 4 | .error .form => 2
def DnSays (w : World) (s : List UInt8) (e : Ending) (w' : World) : Prop :=
  ∃ A n c, e = .returned (.tuple #[.agg #[.slice A n c], .int .i64 (codeR (parseS s))]) ∧ Row Elem.part (fun b => w.heap.size ≤ b) w' A n c (okL (parseS s)) ∧ Ext w w'
def RDnSays (w : World) (s : List UInt8) (e : Ending) (w' : World) : Prop :=
  ∃ A n c, e = .returned (.tuple #[.slice A n c, .int .i64 (codeR (parseS s))]) ∧ Row Elem.part (fun b => w.heap.size ≤ b) w' A n c (okL (parseS s)) ∧ Ext w w'
set_option maxHeartbeats 2000000 in
theorem dnparse_any (s : ByteArray) (w : World) (hG : Gl w) : Calls Tryz.prog 104 #[.string s] w (DnSays w (bys s)) := by
  have HG := hid hG
  have HPD : Hid (parseS (bys s) = if 1000 < (bys s).length then .error .long else if bys s = [] then .ok [] else if 12 < (splitF 44 [] (bys s)).length then .error .long
    else match (splitF 44 [] (bys s)).mapM partB with | none => .error .form | some l => .ok l) := rfl
  clear hG
  by_cases hl : 1000 < s.size
  · have hl' : 1000 < (s.size : Int) := by omega
    have HF : Hid (parseS (bys s) = .error .long) := by show _ = _; rw [HPD.out, if_pos (by rw [bys_len]; exact hl)]
    have HBX := hid (Bx.make (Ext.refl w) #[.slice none 0 0] 134)
    clear hl HPD
    go_enter Tryz.func104, Tryz.ntmps104
    go_wp2
    (try simp only [Exit.inBlock, Exit.then])
    refine ret_cell_tmp _ rfl rfl HBX.out Tryz.underlying134 rfl (by kernel_rfl) rfl ?_
    exact ⟨none, 0, 0, by rw [HF.out]; rfl, by rw [HF.out]; exact Row.nil _ _ _, HBX.out.ext⟩
  · have hl' : ¬ 1000 < (s.size : Int) := by omega
    have Hs : Hid (s.size ≤ 1000) := by show _ ≤ _; omega
    rw [if_neg (by rw [bys_len]; exact hl)] at HPD
    by_cases h0 : s.size = 0
    · have e1 := emp_yes h0
      have HF : Hid (parseS (bys s) = .ok []) := by show _ = _; rw [HPD.out, if_pos (by rw [str_emp h0]; rfl)]
      have HBX := hid (Bx.make (Ext.refl w) #[.slice none 0 0] 134)
      clear hl h0 HPD
      go_enter Tryz.func104, Tryz.ntmps104
      go_wp2
      (try simp only [Exit.inBlock, Exit.then])
      refine ret_cell_tmp _ rfl rfl HBX.out Tryz.underlying134 rfl (by kernel_rfl) rfl ?_
      exact ⟨none, 0, 0, by rw [HF.out]; rfl, by rw [HF.out]; exact Row.nil _ _ _, HBX.out.ext⟩
    · have e1 := emp_nb h0
      rw [if_neg (fun h => h0 (by rw [← bys_len, h]; rfl))] at HPD
      have HSP : ∀ w, Calls Tryz.prog 134 #[.string s, .int .u8 44] w fun e w' => ∃ v, e = .returned v ∧ GrowS w w' v (strs (splitF 44 [] (bys s))) := fun w => split_any s 44 (by decide) w (by omega)
      have HPL : Hid (∀ p ∈ splitF 44 [] (bys s), p.length ≤ 1000) := fun p hp => by have := piece_le hp; rw [bys_len] at this; omega
      clear hl h0
      generalize splitF 44 [] (bys s) = P at *
      by_cases h12 : 12 < P.length
      · have h12' : 12 < (P.length : Int) := by omega
        have HF : Hid (parseS (bys s) = .error .long) := by show _ = _; rw [HPD.out, if_pos h12]
        clear h12 HPD
        go_enter Tryz.func104, Tryz.ntmps104
        go_wp2_with (go_at_call 134; (with_reducible refine (HSP _).mono ?_); rintro e w1 ⟨v1, rfl, hg1⟩; have HB := (Bx.make (Ext.refl w) #[.slice none 0 0] 134).later hg1.ext; have r0 := HB.cell (i := 0) rfl; have f0 := HB.frozen 0; have HBX := hid HB; obtain ⟨A1, c1, rfl, hr1⟩ := hg1.row; clear hg1 hr1 HB)
        (try simp only [Exit.inBlock, Exit.then])
        refine ret_cell_tmp _ rfl rfl (HBX.out.setS (.slice none 0 0)) Tryz.underlying134 rfl (by kernel_rfl) rfl ?_
        exact ⟨none, 0, 0, by rw [HF.out]; rfl, by rw [HF.out]; exact Row.nil _ _ _, (HBX.out.setS (.slice none 0 0)).ext⟩
      · have h12' : ¬ 12 < (P.length : Int) := by omega
        have hn12 : P.length ≤ 12 := by omega
        rw [if_neg h12] at HPD
        have HNO : Hid (P.mapM partB = none → parseS (bys s) = .error .form) := by intro h; rw [HPD.out, h]
        have HYS : Hid (∀ l, P.mapM partB = some l → parseS (bys s) = .ok l) := by intro l h; rw [HPD.out, h]
        clear h12 HPD
        go_enter Tryz.func104, Tryz.ntmps104
        go_wp2_with (go_at_call 134; (with_reducible refine (HSP _).mono ?_); rintro e w1 ⟨v1, rfl, hg1⟩; have HBX := hid ((Bx.make (Ext.refl w) #[.slice none 0 0] 134).later hg1.ext); have HX1 := hid ((Ext.alloc w (.cells #[.slice none 0 0] 134)).trans hg1.ext); obtain ⟨A1, c1, rfl, hr1⟩ := hg1.row; have HR1 := hid hr1; clear hg1 hr1)
        rw [List.length_map] at HR1
        go_loopw [25] (fun i wr => ∃ (j : Nat) (v : Value) (l0 : List (List Ava)), j ≤ P.length ∧ i = .int .i64 j ∧ Hid (GrowR Elem.part 109 (some w1.heap.size) w1 wr v l0) ∧ Hid (Bx w1 wr w1.heap.size 134 #[v]) ∧ Hid ((P.take j).mapM partB = some l0) ∧ Hid (l0.length = j)) (fun i _ => P.length - (intOf i).toNat)
        case atStart => exact ⟨0, _, [], by omega, rfl, GrowR.nil (Ext.alloc _ _) (fun g hg => by injection hg with hg; subst hg; simp), Bx.make (Ext.refl w1) _ _, by simp [Hid], rfl⟩
        case round =>
          obtain ⟨j, v, l0, hj, rfl, HGR, HBN, HM, HLN⟩ := hrel
          by_cases hlt : j < P.length
          · have hlt' : (j : Int) < (P.length : Int) := by omega
            obtain ⟨b, o, p, rfl, hp, e2⟩ := strs_row (HR1.out.ext HGR.out.ext) hlt
            have hpl := HPL.out p (List.mem_of_getElem? hp)
            have HPA : ∀ w, Gl w → Calls Tryz.prog 81 #[.string (str p)] w (PartSays w p) := fun w hG => by
              have := rdnparse_any (str p) w hG (by rw [str_size]; omega)
              rwa [bys_str] at this
            unfold PartSays at HPA
            cases hav : partB p with
            | none =>
              rw [hav] at HPA
              have HF := hid (HNO.out (mapM_none (List.mem_of_getElem? hp) hav))
              clear hp hav
              go_wp2_with (go_at_call 81; (with_reducible refine (HPA _ (HG.out.ext (HX1.out.trans HGR.out.ext))).mono ?_); rintro e w2 ⟨A2, n2, c2, rfl, -, hx2⟩; have HB := HBX.out.later (HGR.out.ext.trans hx2); have r0 := HB.cell (i := 0) rfl; have f0 := HB.frozen 0; have HBY := hid HB; clear hx2 HB)
              (try simp only [Exit.inBlock, Exit.then])
              refine ret_cell_tmp _ rfl rfl (HBY.out.setS (.slice none 0 0)) Tryz.underlying134 rfl (by kernel_rfl) rfl ?_
              exact ⟨none, 0, 0, by rw [HF.out]; rfl, by rw [HF.out]; exact Row.nil _ _ _, (HBY.out.setS (.slice none 0 0)).ext⟩
            | some x =>
              rw [hav] at HPA
              have HY := hid (mapM_take HM.out hp hav)
              have HL2 : Hid ((l0 ++ [x]).length = j + 1) := by show _ = _; rw [List.length_append, HLN.out]; rfl
              have HNB := hid (HGR.out.apart w1.heap.size rfl).1
              clear hp hav
              go_wp2_with (first
                | (go_at_call 81; (with_reducible refine (HPA _ (HG.out.ext (HX1.out.trans HGR.out.ext))).mono ?_); rintro e w2 ⟨A2, n2, c2, rfl, hr2, hx2⟩; have HR2 := hid (HGR.out.fresh hx2 (Nat.le_refl _) (E := Elem.part) (u := [.slice A2 n2 c2]) (x := x) ⟨A2, n2, c2, rfl, hr2⟩); have HG2 := hid (HGR.out.later hx2); have HB2 := hid (HBN.out.later hx2); have n0 := HB2.out.cell (i := 0) rfl; clear hr2 hx2)
                | (at_builtin; refine append_part rfl _ _ rfl v l0 rfl HG2.out (A := A2) (n := n2) (c := c2) x (by obtain ⟨A3, n3, c3, he, hr⟩ := HR2.out; injection he with he _; injection he with h1 h2 h3; subst h1 h2 h3; exact hr) rfl (by have := HLN.out; omega) ?_; intro v' w5 hg5 hgr5 hb5; obtain ⟨A5, c5, rfl, -⟩ := hg5.row; simp only [List.length_append, List.length_cons, List.length_nil, Nat.zero_add] at hg5; have HG5 := hid hg5; have HB5 := (HB2.out.later (Ext.alloc _ _)).grown hgr5 HNB.out hb5; have n1 := HB5.cell (i := 0) rfl; have f1 := HB5.frozen 0; have HB6 := hid HB5; clear hg5 hgr5 hb5 HB5))
              exact ⟨⟨j + 1, _, _, by omega, by go_num, HG5.out.setL 0 _, HB6.out.setS _, HY, HL2⟩, by simp [intOf]; omega⟩
          · obtain rfl : j = P.length := by omega
            have HMA : Hid (parseS (bys s) = .ok l0) := HYS.out l0 (by rw [← HM.out, List.take_length])
            obtain ⟨A2, c2, rfl, hr2⟩ := HGR.out.row
            have n0 := HBN.out.cell (i := 0) rfl
            have HB := HBX.out.later HGR.out.ext
            have r0 := HB.cell (i := 0) rfl
            have f0 := HB.frozen 0
            have HBY := hid HB
            have HR2 := hid hr2
            have hX1 := ext_sz HX1.out
            have hlt0 : Hid (w.heap.size < w1.heap.size) := HBX.out.lt
            clear HB hr2 HNO HYS HM
            go_wp2
            (try simp only [Exit.inBlock, Exit.then])
            refine ret_cell_tmp _ rfl rfl (HBY.out.setS (.slice A2 l0.length c2)) Tryz.underlying134 rfl (by kernel_rfl) rfl ?_
            refine ⟨A2, l0.length, c2, by rw [HMA.out]; rfl, ?_, (HBY.out.setS (.slice A2 l0.length c2)).ext⟩
            rw [HMA.out]
            refine (HR2.out.same (w' := _) fun b hb => heap_setCell_other _ _ _ _ ?_).mono fun b _ hb => Nat.le_trans hX1 hb
            have := hlt0.out
            show b ≠ w.heap.size
            omega
set_option maxHeartbeats 2000000 in
theorem rdnsparse_any (s : ByteArray) (w : World) (hG : Gl w) : Calls Tryz.prog 113 #[.string s] w (RDnSays w (bys s)) := by
  have HG := hid hG
  have HPD : Hid (parseS (bys s) = if 1000 < (bys s).length then .error .long else if bys s = [] then .ok [] else if 12 < (splitF 44 [] (bys s)).length then .error .long
    else match (splitF 44 [] (bys s)).mapM partB with | none => .error .form | some l => .ok l) := rfl
  clear hG
  by_cases hl : 1000 < s.size
  · have hl' : 1000 < (s.size : Int) := by omega
    have HF : Hid (parseS (bys s) = .error .long) := by show _ = _; rw [HPD.out, if_pos (by rw [bys_len]; exact hl)]
    clear hl HPD
    go_enter Tryz.func113, Tryz.ntmps113
    go_wp2
    go_ret2
    exact ⟨none, 0, 0, by rw [HF.out]; rfl, by rw [HF.out]; exact Row.nil _ _ _, Ext.refl _⟩
  · have hl' : ¬ 1000 < (s.size : Int) := by omega
    have Hs : Hid (s.size ≤ 1000) := by show _ ≤ _; omega
    rw [if_neg (by rw [bys_len]; exact hl)] at HPD
    by_cases h0 : s.size = 0
    · have e1 := emp_yes h0
      have HF : Hid (parseS (bys s) = .ok []) := by show _ = _; rw [HPD.out, if_pos (by rw [str_emp h0]; rfl)]
      clear hl h0 HPD
      go_enter Tryz.func113, Tryz.ntmps113
      go_wp2
      go_ret2
      exact ⟨none, 0, 0, by rw [HF.out]; rfl, by rw [HF.out]; exact Row.nil _ _ _, Ext.refl _⟩
    · have e1 := emp_nb h0
      rw [if_neg (fun h => h0 (by rw [← bys_len, h]; rfl))] at HPD
      have HSP : ∀ w, Calls Tryz.prog 145 #[.string s, .int .u8 44] w fun e w' => ∃ v, e = .returned v ∧ GrowS w w' v (strs (splitF 44 [] (bys s))) := fun w => rsplit_any s 44 (by decide) w (by omega)
      have HPL : Hid (∀ p ∈ splitF 44 [] (bys s), p.length ≤ 1000) := fun p hp => by have := piece_le hp; rw [bys_len] at this; omega
      clear hl h0
      generalize splitF 44 [] (bys s) = P at *
      by_cases h12 : 12 < P.length
      · have h12' : 12 < (P.length : Int) := by omega
        have HF : Hid (parseS (bys s) = .error .long) := by show _ = _; rw [HPD.out, if_pos h12]
        clear h12 HPD
        go_enter Tryz.func113, Tryz.ntmps113
        go_wp2_with (go_at_call 145; (with_reducible refine (HSP _).mono ?_); rintro e w1 ⟨v1, rfl, hg1⟩; have HX1 := hid hg1.ext; obtain ⟨A1, c1, rfl, hr1⟩ := hg1.row; clear hg1 hr1)
        go_ret2
        exact ⟨none, 0, 0, by rw [HF.out]; rfl, by rw [HF.out]; exact Row.nil _ _ _, HX1.out⟩
      · have h12' : ¬ 12 < (P.length : Int) := by omega
        have hn12 : P.length ≤ 12 := by omega
        rw [if_neg h12] at HPD
        have HNO : Hid (P.mapM partB = none → parseS (bys s) = .error .form) := by intro h; rw [HPD.out, h]
        have HYS : Hid (∀ l, P.mapM partB = some l → parseS (bys s) = .ok l) := by intro l h; rw [HPD.out, h]
        clear h12 HPD
        go_enter Tryz.func113, Tryz.ntmps113
        go_wp2_with (go_at_call 145; (with_reducible refine (HSP _).mono ?_); rintro e w1 ⟨v1, rfl, hg1⟩; have HX1 := hid hg1.ext; obtain ⟨A1, c1, rfl, hr1⟩ := hg1.row; have HR1 := hid hr1; clear hg1 hr1)
        rw [List.length_map] at HR1
        go_loopw [5, 21] (fun v i wr => ∃ (j : Nat) (l0 : List (List Ava)), j ≤ P.length ∧ i = .int .i64 j ∧ Hid (GrowR Elem.part 115 none w1 wr v l0) ∧ Hid ((P.take j).mapM partB = some l0) ∧ Hid (l0.length = j)) (fun _ i _ => P.length - (intOf i).toNat)
        case atStart => exact ⟨0, [], by omega, rfl, GrowR.nil (Ext.refl _) (fun g hg => by cases hg), by simp [Hid], rfl⟩
        case round =>
          obtain ⟨j, l0, hj, rfl, HGR, HM, HLN⟩ := hrel
          by_cases hlt : j < P.length
          · have hlt' : (j : Int) < (P.length : Int) := by omega
            obtain ⟨b, o, p, rfl, hp, e2⟩ := strs_row (HR1.out.ext HGR.out.ext) hlt
            have hpl := HPL.out p (List.mem_of_getElem? hp)
            have HPA : ∀ w, Gl w → Calls Tryz.prog 86 #[.string (str p)] w (PartSays w p) := fun w hG => by
              have := parsepart_any (str p) w hG (by rw [str_size]; omega)
              rwa [bys_str] at this
            unfold PartSays at HPA
            cases hav : partB p with
            | none =>
              rw [hav] at HPA
              have HF := hid (HNO.out (mapM_none (List.mem_of_getElem? hp) hav))
              clear hp hav
              go_wp2_with (go_at_call 86; (with_reducible refine (HPA _ (HG.out.ext (HX1.out.trans HGR.out.ext))).mono ?_); rintro e w2 ⟨A2, n2, c2, rfl, -, hx2⟩; have HX2 := hid hx2; clear hx2)
              go_ret2
              exact ⟨none, 0, 0, by rw [HF.out]; rfl, by rw [HF.out]; exact Row.nil _ _ _, HX1.out.trans (HGR.out.ext.trans HX2.out)⟩
            | some x =>
              rw [hav] at HPA
              have HY := hid (mapM_take HM.out hp hav)
              have HL2 : Hid ((l0 ++ [x]).length = j + 1) := by show _ = _; rw [List.length_append, HLN.out]; rfl
              clear hp hav
              go_wp2_with (first
                | (go_at_call 86; (with_reducible refine (HPA _ (HG.out.ext (HX1.out.trans HGR.out.ext))).mono ?_); rintro e w2 ⟨A2, n2, c2, rfl, hr2, hx2⟩; have HR2 := hid (HGR.out.fresh hx2 (Nat.le_refl _) (E := Elem.part) (u := [.slice A2 n2 c2]) (x := x) ⟨A2, n2, c2, rfl, hr2⟩); have HG2 := hid (HGR.out.later hx2); clear hr2 hx2)
                | (at_builtin; refine rappend_part rfl _ _ rfl _ l0 rfl HG2.out (A := A2) (n := n2) (c := c2) x (by obtain ⟨A3, n3, c3, he, hr⟩ := HR2.out; injection he with he _; injection he with h1 h2 h3; subst h1 h2 h3; exact hr) rfl (by have := HLN.out; omega) ?_; intro v' w5 hg5 hgr5 hb5; have HG5 := hid hg5; clear hg5 hgr5 hb5))
              exact ⟨⟨j + 1, _, by omega, by go_num, HG5, HY, HL2⟩, by simp [intOf]; omega⟩
          · obtain rfl : j = P.length := by omega
            have HMA : Hid (parseS (bys s) = .ok l0) := HYS.out l0 (by rw [← HM.out, List.take_length])
            obtain ⟨A2, c2, rfl, hr2⟩ := HGR.out.row
            have HR2 := hid hr2
            clear hr2 HNO HYS HM
            go_wp2
            go_ret2
            refine ⟨A2, l0.length, c2, by rw [HMA.out]; rfl, ?_, HX1.out.trans HGR.out.ext⟩
            rw [HMA.out]
            exact HR2.out.mono fun b _ hb => Nat.le_trans (ext_sz HX1.out) hb
end Go.Proofs.YtencmdpjiafnaaaGreatDoor
