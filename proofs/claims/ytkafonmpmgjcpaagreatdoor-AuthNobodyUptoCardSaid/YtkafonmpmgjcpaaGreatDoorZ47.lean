import Derived.Test.YtkafonmpmgjcpaaGreatDoorZ46
import Derived.Test.YtkafonmpmgjcpaaGreatDoorZ09
import Derived.BigQuiet
import Derived.Deep.QuietTactic
/- The walk of awake. -/
namespace Go.Proofs.YtkafonmpmgjcpaaGreatDoor
open Go.RowKit
set_option maxRecDepth 100000
set_option linter.unusedSimpArgs false
set_option linter.unusedVariables false
/-- The config's entry that awake asks about. -/
def wakeE : Ent := ⟨⟨#[100, 99, 61, 120]⟩, [⟨⟨#[100, 99]⟩, [⟨#[120]⟩]⟩, ⟨⟨#[111, 98, 106, 101, 99, 116, 67, 108, 97, 115, 115]⟩, [⟨#[111]⟩]⟩, ⟨⟨#[117, 115, 101, 114, 80, 97, 115, 115, 119, 111, 114, 100]⟩, [⟨#[112, 119]⟩]⟩]⟩
def wakeS : List (List Ctx) := [[⟨⟨#[100, 99, 61, 120]⟩, [wakeE]⟩]]
theorem wake_bind : bindE wakeS [68, 67, 61, 88] [112, 119] = ([100, 99, 61, 120], 0) := by decide +kernel
theorem Row.new {α : Type} {E : Elem α} {w : World} {vss : List (List Value)} {l : List α} (h : ∀ (i : Nat) v x, vss[i]? = some v → l[i]? = some x → E.R (fun _ => True) w v x) (hl : vss.length = l.length) (hm : l.length ≤ maxLen) (t : TypeId) :
    Row E (fun _ => True) (w.alloc (.cells vss.flatten.toArray t)) (some ⟨w.heap.size, 0, none⟩) l.length l.length l := by
  have hx : Ext w (w.alloc (.cells vss.flatten.toArray t)) := Ext.alloc _ _
  refine ⟨rfl, Nat.le_refl _, hm, vss, hl, .inr ⟨w.heap.size, 0, rfl, trivial, fun j u hj => ?_⟩, fun i v x hi hxx => ?_⟩
  · rw [Nat.zero_add, cell_of_row _ _ j vss.flatten.toArray t (0, 0) (heap_alloc_new w _)]
    simpa using hj
  · exact (E.same (E.mono (h i v x hi hxx) (T := fun b => True ∧ b < w.heap.size) (fun b hb _ => ⟨trivial, hb⟩)) fun b hb => hx.block b hb.2) |> fun q => E.mono q fun _ _ _ => trivial
theorem at_one {α : Type} {a b : α} {i : Nat} (h : [a][i]? = some b) : b = a := by
  cases i with
  | zero => simpa using h.symm
  | succ i => simp at h
theorem at_three {α β : Type} {a b c v : α} {x y z u : β} {i : Nat} (h : [a, b, c][i]? = some v) (k : [x, y, z][i]? = some u) : v = a ∧ u = x ∨ v = b ∧ u = y ∨ v = c ∧ u = z := by
  rcases i with _ | _ | _ | i
  · simp at h k; exact .inl ⟨h.symm, k.symm⟩
  · simp at h k; exact .inr (.inl ⟨h.symm, k.symm⟩)
  · simp at h k; exact .inr (.inr ⟨h.symm, k.symm⟩)
  · simp at h
theorem wake_row' {w w1 w2 w3 w4 w5 w6 w7 w8 : World}
    (e1 : w1 = w.alloc (.cells #[.string ⟨#[120]⟩] 9))
    (e2 : w2 = w1.alloc (.cells #[.string ⟨#[111]⟩] 9))
    (e3 : w3 = w2.alloc (.cells #[.string ⟨#[112, 119]⟩] 9))
    (e4 : w4 = w3.alloc (.cells #[.string ⟨#[100, 99]⟩, .slice (some ⟨w.heap.size, 0, none⟩) 1 1, .string ⟨#[111, 98, 106, 101, 99, 116, 67, 108, 97, 115, 115]⟩, .slice (some ⟨w.heap.size + 1, 0, none⟩) 1 1, .string ⟨#[117, 115, 101, 114, 80, 97, 115, 115, 119, 111, 114, 100]⟩, .slice (some ⟨w.heap.size + 1 + 1, 0, none⟩) 1 1] 52))
    (e5 : w5 = w4.alloc (.cells #[.string ⟨#[100, 99, 61, 120]⟩, .slice (some ⟨w.heap.size + 1 + 1 + 1, 0, none⟩) 3 3] 55))
    (e6 : w6 = w5.alloc (.cells #[.string ⟨#[100, 99, 61, 120]⟩, .slice (some ⟨w.heap.size + 1 + 1 + 1, 0, none⟩) 3 3] 55))
    (e7 : w7 = w6.alloc (.cells #[.string ⟨#[100, 99, 61, 120]⟩, .slice (some ⟨w.heap.size + 1 + 1 + 1 + 1 + 1, 0, none⟩) 1 1, .slice none 0 0] 60))
    (e8 : w8 = w7.alloc (.cells #[.slice (some ⟨w.heap.size + 1 + 1 + 1 + 1 + 1 + 1, 0, none⟩) 1 1] 63)) : Ext w w8 ∧ Row Elem.srv (fun _ => True) w8 (some ⟨w.heap.size + 1 + 1 + 1 + 1 + 1 + 1 + 1, 0, none⟩) 1 1 wakeS := by
  have s1 : w1.heap.size = w.heap.size + 1 := by rw [e1]; simp
  have x1 : Ext w w1 := by rw [e1]; exact Ext.alloc _ _
  have s2 : w2.heap.size = w.heap.size + 1 + 1 := by rw [e2]; simp [s1]
  have x2 : Ext w1 w2 := by rw [e2]; exact Ext.alloc _ _
  have s3 : w3.heap.size = w.heap.size + 1 + 1 + 1 := by rw [e3]; simp [s2]
  have x3 : Ext w2 w3 := by rw [e3]; exact Ext.alloc _ _
  have s4 : w4.heap.size = w.heap.size + 1 + 1 + 1 + 1 := by rw [e4]; simp [s3]
  have x4 : Ext w3 w4 := by rw [e4]; exact Ext.alloc _ _
  have s5 : w5.heap.size = w.heap.size + 1 + 1 + 1 + 1 + 1 := by rw [e5]; simp [s4]
  have x5 : Ext w4 w5 := by rw [e5]; exact Ext.alloc _ _
  have s6 : w6.heap.size = w.heap.size + 1 + 1 + 1 + 1 + 1 + 1 := by rw [e6]; simp [s5]
  have x6 : Ext w5 w6 := by rw [e6]; exact Ext.alloc _ _
  have s7 : w7.heap.size = w.heap.size + 1 + 1 + 1 + 1 + 1 + 1 + 1 := by rw [e7]; simp [s6]
  have x7 : Ext w6 w7 := by rw [e7]; exact Ext.alloc _ _
  have s8 : w8.heap.size = w.heap.size + 1 + 1 + 1 + 1 + 1 + 1 + 1 + 1 := by rw [e8]; simp [s7]
  have x8 : Ext w7 w8 := by rw [e8]; exact Ext.alloc _ _
  have r1 : Row Elem.str (fun _ => True) w1 (some ⟨w.heap.size, 0, none⟩) 1 1 [⟨#[120]⟩] := by rw [e1]; exact Row.one (E := Elem.str) (S := fun _ => True) (v := [.string ⟨#[120]⟩]) rfl _
  have r2 : Row Elem.str (fun _ => True) w2 (some ⟨w.heap.size + 1, 0, none⟩) 1 1 [⟨#[111]⟩] := by rw [e2, ← s1]; exact Row.one (E := Elem.str) (S := fun _ => True) (v := [.string ⟨#[111]⟩]) rfl _
  have r3 : Row Elem.str (fun _ => True) w3 (some ⟨w.heap.size + 1 + 1, 0, none⟩) 1 1 [⟨#[112, 119]⟩] := by rw [e3, ← s2]; exact Row.one (E := Elem.str) (S := fun _ => True) (v := [.string ⟨#[112, 119]⟩]) rfl _
  have q1 := ((r1.ext x2).ext x3)
  have q2 := r2.ext x3
  have r4 : Row Elem.att (fun _ => True) w4 (some ⟨w.heap.size + 1 + 1 + 1, 0, none⟩) 3 3 wakeE.atts := by
    rw [e4, ← s3]
    refine Row.new (E := Elem.att) (vss := [[.string ⟨#[100, 99]⟩, .slice (some ⟨w.heap.size, 0, none⟩) 1 1], [.string ⟨#[111, 98, 106, 101, 99, 116, 67, 108, 97, 115, 115]⟩, .slice (some ⟨w.heap.size + 1, 0, none⟩) 1 1], [.string ⟨#[117, 115, 101, 114, 80, 97, 115, 115, 119, 111, 114, 100]⟩, .slice (some ⟨w.heap.size + 1 + 1, 0, none⟩) 1 1]]) (l := wakeE.atts) (fun i v x hv hx => ?_) rfl (by decide) _
    rcases at_three hv hx with ⟨rfl, rfl⟩ | ⟨rfl, rfl⟩ | ⟨rfl, rfl⟩
    · exact ⟨_, _, _, rfl, q1⟩
    · exact ⟨_, _, _, rfl, q2⟩
    · exact ⟨_, _, _, rfl, r3⟩
  have q4 := r4.ext x5
  have r6 : Row Elem.ent (fun _ => True) w6 (some ⟨w.heap.size + 1 + 1 + 1 + 1 + 1, 0, none⟩) 1 1 [wakeE] := by
    rw [e6, ← s5]
    exact Row.one (E := Elem.ent) (S := fun _ => True) (v := [.string ⟨#[100, 99, 61, 120]⟩, .slice (some ⟨w.heap.size + 1 + 1 + 1, 0, none⟩) 3 3]) ⟨_, _, _, rfl, q4⟩ _
  have r7 : Row Elem.ctx (fun _ => True) w7 (some ⟨w.heap.size + 1 + 1 + 1 + 1 + 1 + 1, 0, none⟩) 1 1 [⟨⟨#[100, 99, 61, 120]⟩, [wakeE]⟩] := by
    rw [e7, ← s6]
    exact Row.one (E := Elem.ctx) (S := fun _ => True) (v := [.string ⟨#[100, 99, 61, 120]⟩, .slice (some ⟨w.heap.size + 1 + 1 + 1 + 1 + 1, 0, none⟩) 1 1, .slice none 0 0]) ⟨_, _, _, _, _, _, rfl, r6⟩ _
  refine ⟨(((((((x1.trans x2).trans x3).trans x4).trans x5).trans x6).trans x7).trans x8), ?_⟩
  rw [e8, ← s7]
  exact Row.one (E := Elem.srv) (S := fun _ => True) (v := [.slice (some ⟨w.heap.size + 1 + 1 + 1 + 1 + 1 + 1, 0, none⟩) 1 1]) ⟨_, _, _, rfl, r7⟩ _
set_option maxHeartbeats 1000000 in
theorem awake_any (w : World) (hG : Gl w) : Calls Tryz.prog 6 #[] w fun e w' => e = .returned (.bool true) ∧ Ext w w' := by
  have HB : ∀ (A : Option Addr) w8, Ext w w8 ∧ Row Elem.srv (fun _ => True) w8 A 1 1 wakeS → Calls Tryz.prog 14 #[.agg #[.slice A 1 1, .slice none 0 0], .string ⟨#[68, 67, 61, 88]⟩, .string ⟨#[112, 119]⟩] w8 fun e w' =>
      e = .returned (.tuple #[.string ⟨#[100, 99, 61, 120]⟩, .int .i64 0]) ∧ Ext w w' := fun A w8 h => by
    have := bind_any (B := none) (m := 0) (d := 0) h.2 ⟨#[68, 67, 61, 88]⟩ ⟨#[112, 119]⟩ (hG.ext h.1) (by
      intro x hx a ha
      have : x = wakeE := by simpa [entsS, entsC, wakeS] using hx
      subst this
      have h3 : ∀ a ∈ wakeE.atts, a.vals.length ≤ 8796093022208 := by decide
      exact h3 a ha)
    refine this.mono fun e w' hh => ?_
    unfold BindSays at hh
    have hw : bindE wakeS (bys ⟨#[68, 67, 61, 88]⟩) (bys ⟨#[112, 119]⟩) = ([100, 99, 61, 120], 0) := wake_bind
    rw [hw] at hh
    exact ⟨hh.1, h.1.trans hh.2⟩
  clear hG
  go_enter Tryz.func6, Tryz.ntmps6
  go_wp2_with (go_at_call 14; (with_reducible refine (HB _ _ (wake_row' rfl rfl rfl rfl rfl rfl rfl rfl)).mono ?_); rintro e w9 ⟨rfl, hx9⟩; have HX9 := hid hx9; clear hx9)
  go_ret
  exact ⟨rfl, HX9.out⟩
end Go.Proofs.YtkafonmpmgjcpaaGreatDoor
/- The walk of vergerlaw20's AuthControls. -/
namespace Go.Proofs.YtkafonmpmgjcpaaGreatDoor
open Go.RowKit
set_option maxRecDepth 100000
set_option linter.unusedSimpArgs false
set_option linter.unusedVariables false

def ctlCells (y : Ctl) : List Value := [.string y.oid, .bool y.crit, .bool y.has, .string y.val]
/-- A row of controls of the call's own. -/
structure GrowC (w wr : World) (v : Value) (l : List Ctl) : Prop where
  own : wr.ownsRow w.heap.size 27 4 v l.length (l.map ctlCells).flatten
  ext : Ext w wr
theorem GrowC.row {w wr : World} {v : Value} {l : List Ctl} (h : GrowC w wr v l) : ∃ A c, v = .slice A l.length c ∧ Row Elem.ctl (fun b => w.heap.size ≤ b) wr A l.length c l := by
  have ho := h.own
  obtain ⟨A, c, rfl⟩ : ∃ A c, v = .slice A l.length c := by
    rcases ho.2 with ⟨rfl, h0⟩ | ⟨g, cap, cur, rfl, _⟩
    · exact ⟨none, 0, by rw [h0]⟩
    · exact ⟨_, _, rfl⟩
  refine ⟨A, c, rfl, own_rows (E := Elem.ctl) ho rfl (by simp) (fun g hg => (ho.lt g hg).1) fun i u x hi hl => ?_⟩
  rw [List.getElem?_map, hl] at hi
  injection hi with hi
  exact hi.symm
theorem GrowC.later {w wr w' : World} {v : Value} {l : List Ctl} (h : GrowC w wr v l) (hx : Ext wr w') : GrowC w w' v l := ⟨own_ext h.own hx, h.ext.trans hx⟩
theorem infoCtl20 : (Tryz.prog.info? 27).map (fun i => (i.zero, i.size, i.bytes)) = some (some (.agg #[.string ByteArray.empty, .bool false, .bool false, .string ByteArray.empty]), 4, 40) := by kernel_rfl
theorem append_ctl {w w0 : World} {ops : Array Oper} {rest : List Oper} {o : Oper} {a : Act} {Q : Exit → Act → World → Prop} (hgd : o.guard = none) (s x : Operand)
    (ho : o.op = .call { callee := .builtin .append, args := #[s, x], argTypes := #[24, 24] }) (v : Value) (l : List Ctl) (hs : a.eval s = v) (hg : GrowC w0 w v l)
    {t : TypeId} (y : Ctl) (hx : a.eval x = .slice (some ⟨w.heap.size, 0, none⟩) 1 1) (hb : l.length ≤ 4000000)
    (h : ∀ v' w', GrowC w0 w' v' (l ++ [y]) → wpList Tryz.prog ops Q rest (a.put o.dst v') w') :
    wpList Tryz.prog ops Q (o :: rest) a (w.alloc (.cells #[.string y.oid, .bool y.crit, .bool y.has, .string y.val] t)) := by
  have hg' := hg.later (Ext.alloc w (.cells #[.string y.oid, .bool y.crit, .bool y.has, .string y.val] t))
  refine wpList_plain hgd fun _ hK => ?_
  refine wp_append_sz s x 24 ho w0.heap.size 27 _ 4 40 Tryz.underlying24 infoCtl20 rfl (by decide) v l.length (l.map ctlCells).flatten hs hg'.own _ 1 1 (ctlCells y) hx rfl (.inr ⟨_, 0, rfl, fun j u hj => by rw [Nat.zero_add, box_a]; unfold ctlCells at hj; simpa using hj⟩)
    (fun u hu => by simp [ctlCells] at hu; rcases hu with rfl | rfl | rfl | rfl <;> rfl) (by simp [maxLen]; omega) (by omega) (ext_sz hg'.ext) ?_
  intro v' w' q1 q2 q3
  refine hK _ _ (h v' w' ⟨?_, Below.trans hg'.ext (below_grown hg'.own q2 (ext_sz hg'.ext) (Nat.le_refl _))⟩)
  rw [List.length_append, List.map_append, List.flatten_append]
  simpa using q1
theorem eql_wish (x y : Bool) (s : ByteArray) (w : World) : (binOp .eql 32 (.agg #[.bool x, .bool y, .string s]) (.agg #[.bool x, .bool y, .string s])).run Tryz.prog w = .ok (.bool true) w := by
  have h := str_eq (rfl : s = s)
  go_simp
set_option maxHeartbeats 2000000 in
theorem controlslaw_any {S : Nat → Prop} {A : Option Addr} {n c : Nat} {l : List Ctl} {w : World} (hG : Gl w) (h : Row Elem.ctl S w A n c l) (kind : Int) (hs : ∀ x ∈ l, x.oid.size ≤ 4000000 ∧ x.val.size ≤ 4000000) :
    Calls Tryz.prog 3 #[.int .i64 kind, .slice A n c] w fun e w' => e = .returned (.bool true) ∧ Ext w w' := by
  have HG := hid hG
  have HR := hid h
  have HS := hid hs
  have HLN := hid h.len
  have hn : n ≤ 9223372036854775807 := by have := h.cap; have := h.most; simp only [maxLen] at this; omega
  have HAW : ∀ w, Gl w → Calls Tryz.prog 6 #[] w fun e w' => e = .returned (.bool true) ∧ Ext w w' := fun w hG => awake_any w hG
  clear hG h hs
  by_cases h100 : 100 < n
  · have h1 : (100 : Int) < (n : Int) := by omega
    clear h100
    go_enter Tryz.func3, Tryz.ntmps3
    go_wp2_with (go_at_call 6; first
      | ((with_reducible refine (HAW _ HG.out).mono ?_); rintro e w1 ⟨rfl, hx1⟩; have HX1 := hid hx1; have HGN := hid (HG.out.ext hx1); clear hx1 HG)
      | ((with_reducible refine (HAW _ HGN.out).mono ?_); rintro e w2 ⟨rfl, hx2⟩; have HX2 := hid hx2; clear hx2))
    go_ret
    exact ⟨rfl, HX1.out.trans HX2.out⟩
  · have h1 : ¬ (100 : Int) < (n : Int) := by omega
    have hn100 : n ≤ 100 := by omega
    clear h100
    go_enter Tryz.func3, Tryz.ntmps3
    go_wp2_with (go_at_call 6; (with_reducible refine (HAW _ HG.out).mono ?_); rintro e w1 ⟨rfl, hx1⟩; have HX1 := hid hx1; clear hx1)
    go_loopw [5, 21] (fun v i wr => ∃ j : Nat, j ≤ n ∧ i = .int .i64 j ∧ Hid (GrowC w wr v (l.take j))) (fun _ i _ => n - (intOf i).toNat)
    case atStart => exact ⟨0, by omega, rfl, ⟨World.ownsRow_nil _ _ _ _, HX1.out⟩⟩
    case round =>
      obtain ⟨j, hj, rfl, HGR⟩ := hrel
      by_cases hlt : j < n
      · obtain ⟨b1, o1, v1, x1, rfl, g1, -, r1, q1⟩ := HR.out.at_ hlt
        obtain ⟨oid, crit, has, val⟩ := x1
        cases r1
        have e10 := cell_later (q1 0 _ rfl) _ HGR.out.ext
        have e11 := cell_later (q1 1 _ rfl) _ HGR.out.ext
        have e12 := cell_later (q1 2 _ rfl) _ HGR.out.ext
        have e13 := cell_later (q1 3 _ rfl) _ HGR.out.ext
        simp only [Elem.ctl, Nat.add_zero] at e10 e11 e12 e13
        clear q1
        have Hg := hid g1
        have hsz := HS.out _ (List.mem_of_getElem? g1)
        have ho : oid.size ≤ 4000000 := hsz.1
        have hv : val.size ≤ 4000000 := hsz.2
        clear g1 hsz
        by_cases hbig : 3000 < oid.size + val.size
        · have hb : (3000 : Int) < (oid.size : Int) + (val.size : Int) := by omega
          clear hbig
          go_wp2
          refine wp_region_plan (.read 0 (.read 1 (.read 2 (.read 3 (.read 4 (.read 5 (.read 6 (.read 7 (.read 8 (.read 9 (.read 10 (.read 11 (.read 12 (.read 13 .done)))))))))))))) (by kernel_rfl) (by kernel_rfl) ?_
          intro wD hxD
          have XE : Hid (Ext wD wD) := Ext.refl _
          have c1 := cell_later (cell_later e10 _ hxD)
          have c2 := cell_later (cell_later e13 _ hxD)
          repeat' (first
            | (refine walks_move rfl rfl ?_; simp only [Act.put, Act.eval, List.setIfInBounds_toArray, List.set_cons_zero, List.set_cons_succ, Array.getD_eq_getD_getElem?, List.getElem?_toArray, List.getElem?_cons_zero, List.getElem?_cons_succ, Option.getD_some])
            | (refine walks_assign rfl rfl ?_; simp only [Act.put, Act.eval, List.setIfInBounds_toArray, List.set_cons_zero, List.set_cons_succ, Array.getD_eq_getD_getElem?, List.getElem?_toArray, List.getElem?_cons_zero, List.getElem?_cons_succ, Option.getD_some])
            | (refine walks_skip rfl rfl ?_; simp only [Act.put, List.setIfInBounds_toArray, List.set_cons_zero, List.set_cons_succ])
            | (refine walks_unwanted rfl rfl ?_; simp only [Act.put, List.setIfInBounds_toArray, List.set_cons_zero, List.set_cons_succ])
            | (refine walks_read (v := ?_) rfl rfl (fun w' hE => ?_) ?_; rotate_left 1; (· ((try (have hEx := Ext.trans (Hid.out XE) hE)); go_simp; (try go_bits); with_reducible rfl)); simp only [Act.put, List.setIfInBounds_toArray, List.set_cons_zero, List.set_cons_succ])
            | (refine walks_alt ?_ ?_)
            | (refine walks_main rfl rfl (fun K hK => ?_); go_wp2_with (fail); refine hK _ _ (by first | assumption | exact Ext.alloc _ _ | exact Ext.refl _) ?_; clear hK K; try simp only [Act.put, List.setIfInBounds_toArray, List.set_cons_zero, List.set_cons_succ]))
          refine walks_done ?_
          go_wp2
          go_ret
          exact ⟨rfl, HGR.out.ext.trans hxD⟩
        · have hb : ¬ (3000 : Int) < (oid.size : Int) + (val.size : Int) := by omega
          clear hbig
          go_wp2
          refine wp_region_plan (.read 0 (.read 1 (.read 2 (.read 3 (.read 4 (.read 5 (.read 6 (.read 7 (.read 8 (.read 9 (.read 10 (.read 11 (.read 12 (.read 13 .done)))))))))))))) (by kernel_rfl) (by kernel_rfl) ?_
          intro wD hxD
          have XE : Hid (Ext wD wD) := Ext.refl _
          have c1 := cell_later (cell_later e10 _ hxD)
          have c2 := cell_later (cell_later e13 _ hxD)
          repeat' (first
            | (refine walks_move rfl rfl ?_; simp only [Act.put, Act.eval, List.setIfInBounds_toArray, List.set_cons_zero, List.set_cons_succ, Array.getD_eq_getD_getElem?, List.getElem?_toArray, List.getElem?_cons_zero, List.getElem?_cons_succ, Option.getD_some])
            | (refine walks_assign rfl rfl ?_; simp only [Act.put, Act.eval, List.setIfInBounds_toArray, List.set_cons_zero, List.set_cons_succ, Array.getD_eq_getD_getElem?, List.getElem?_toArray, List.getElem?_cons_zero, List.getElem?_cons_succ, Option.getD_some])
            | (refine walks_skip rfl rfl ?_; simp only [Act.put, List.setIfInBounds_toArray, List.set_cons_zero, List.set_cons_succ])
            | (refine walks_unwanted rfl rfl ?_; simp only [Act.put, List.setIfInBounds_toArray, List.set_cons_zero, List.set_cons_succ])
            | (refine walks_read (v := ?_) rfl rfl (fun w' hE => ?_) ?_; rotate_left 1; (· ((try (have hEx := Ext.trans (Hid.out XE) hE)); go_simp; (try go_bits); with_reducible rfl)); simp only [Act.put, List.setIfInBounds_toArray, List.set_cons_zero, List.set_cons_succ])
            | (refine walks_alt ?_ ?_)
            | (refine walks_main rfl rfl (fun K hK => ?_); go_wp2_with (fail); refine hK _ _ (by first | assumption | exact Ext.alloc _ _ | exact Ext.refl _) ?_; clear hK K; try simp only [Act.put, List.setIfInBounds_toArray, List.set_cons_zero, List.set_cons_succ]))
          refine walks_done ?_
          have d0 := cell_later e10 _ hxD
          have d1 := cell_later e11 _ hxD
          have d2 := cell_later e12 _ hxD
          have d3 := cell_later e13 _ hxD
          have HGD := hid (HGR.out.later hxD)
          have HLT : Hid ((l.take j).length ≤ 4000000) := by show _ ≤ _; rw [List.length_take]; omega
          go_wp2_with (at_builtin; refine append_ctl rfl _ _ rfl _ (l.take j) rfl HGD.out ⟨oid, crit, has, val⟩ rfl HLT.out ?_; intro v' w3 hg3; have HG3 := hid hg3; clear hg3)
          exact ⟨⟨j + 1, by omega, by go_num, by have e : l.take (j + 1) = l.take j ++ [⟨oid, crit, has, val⟩] := by (rw [List.take_add_one, Hg.out]; rfl)
                                                 rw [e]; exact HG3⟩, by simp [intOf]; omega⟩
      · obtain rfl : j = n := by omega
        have hgr := HGR.out
        rw [List.take_of_length_le (Nat.le_of_eq HLN.out.symm)] at hgr
        obtain ⟨A2, c2, rfl, hr2⟩ := hgr.row
        have HR2 := hid hr2
        have HXR := hid hgr.ext
        have HC1 : ∀ w', Ext wr w' → Calls Tryz.prog 7 #[.int .i64 kind, .slice A2 l.length c2] w' (CtlSays w' (runC (noneK kind) [] l wsh0)) := fun w' hx => controls_any (HR2.out.ext hx) kind (fun x hx => Nat.le_trans (HS.out x hx).1 (by simp [maxLen]))
        have HC2 : ∀ w', Ext wr w' → Calls Tryz.prog 8 #[.int .i64 kind, .slice A j c] w' (CtlSays w' (runC (noneK kind) [] l wsh0)) := fun w' hx => rcontrols_any (HR.out.ext (HXR.out.trans hx)) kind
        unfold CtlSays at HC1 HC2
        clear hgr hr2 HGR
        generalize runC (noneK kind) [] l wsh0 = R at *
        obtain ⟨⟨q1, q2, q3⟩, q4⟩ := R
        simp only at HC1 HC2
        have HEQ := eql_wish q1 q2 q3
        go_wp2_with (first
          | (go_at_call 7; (with_reducible refine (HC1 _ (Ext.refl _)).mono ?_); rintro e w2 ⟨rfl, hx2⟩; have HX2 := hid (hx2.trans (Ext.alloc w2 (.cells #[.bool q1, .bool q2, .string q3] 29))); clear hx2)
          | (go_at_call 8; (with_reducible refine (HC2 _ HX2.out).mono ?_); rintro e w3 ⟨rfl, hx3⟩; have HX3 := hid hx3; have HB7 := ((Bx.make (Ext.refl w2) #[.bool q1, .bool q2, .string q3] 29).later hx3).later (Ext.alloc w3 (.cells #[.bool q1, .bool q2, .string q3] 32)); have a0 := HB7.cell (i := 0) rfl; have a1 := HB7.cell (i := 1) rfl; have a2 := HB7.cell (i := 2) rfl; clear hx3 HB7))
        go_ret
        exact ⟨rfl, (HXR.out.trans (HX2.out.trans HX3.out)).trans (Ext.alloc _ _)⟩
end Go.Proofs.YtkafonmpmgjcpaaGreatDoor
