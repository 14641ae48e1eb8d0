import Derived.Test.YtencmdpjiafnaaaGreatDoorZ40
import Derived.Test.YtencmdpjiafnaaaGreatDoorZ32
import Derived.Test.YtencmdpjiafnaaaGreatDoorZ43
import Derived.Test.YtencmdpjiafnaaaGreatDoorZ42
/- An op of vergerlaw10 among the arguments: its cells, and what the bound gives. -/
namespace Go.Proofs.YtencmdpjiafnaaaGreatDoor
open Go.RowKit Go.ChangeShapes Go.WideShapes Go.Deep
set_option maxRecDepth 100000
set_option linter.unusedSimpArgs false
set_option linter.unusedVariables false

/-- An op (its slices by what they read as). -/
structure Opr where
  kind : Int
  name : ByteArray
  part : ByteArray
  sup : ByteArray
  flag : Bool
  has : Bool
  atts : List Att
  chgs : List Chg
/-- .. its cells, by its two slices. -/
def Opr.cells (o : Opr) (A : Option Addr) (n c : Nat) (B : Option Addr) (m d : Nat) : List Value :=
  [.int .i64 o.kind, .string o.name, .string o.part, .string o.sup, .bool o.flag, .bool o.has, .slice A n c, .slice B m d]
def Elem.opr : Elem Opr :=
  ⟨8, by decide, fun S w v a => ∃ A n c B m d, v = a.cells A n c B m d ∧ Row Elem.att S w A n c a.atts ∧ Row Elem.chg S w B m d a.chgs, fun ⟨_, _, _, _, _, _, h, _⟩ => by rw [h]; rfl,
    fun ⟨A, n, c, B, m, d, h, hr, hs⟩ hk => ⟨A, n, c, B, m, d, h, hr.same hk, hs.same hk⟩, fun ⟨A, n, c, B, m, d, h, hr, hs⟩ k => ⟨A, n, c, B, m, d, h, hr.mono k, hs.mono k⟩⟩
def ChgOk (c : Chg) : Prop := (-9223372036854775808 ≤ c.op ∧ c.op ≤ 9223372036854775807) ∧ AttOk c.att
structure OprOk (o : Opr) : Prop where
  k1 : -9223372036854775808 ≤ o.kind
  k2 : o.kind ≤ 9223372036854775807
  name : o.name.size ≤ 1048576
  part : o.part.size ≤ 1048576
  sup : o.sup.size ≤ 1048576
  atts : o.atts.length ≤ 1048576 ∧ ∀ a ∈ o.atts, AttOk a
  chgs : o.chgs.length ≤ 1048576 ∧ ∀ a ∈ o.chgs, ChgOk a
section
variable {H : Type} {enc : TypeId × Value → H} {W : World}
theorem chg_open {M : Nat} (hM0 : M ≤ 1048576) {fuel : Nat} {cs : List Value} {x : DataW H × List MemPlace} (h : DataW.trod enc Tryz.prog W 0 (fun _ => true) true fuel 80 cs = some x) (hM : Rows.uptoBulk x.1 ≤ M) : ∃ a : Chg, Elem.chg.R (fun _ => True) W cs a ∧ ChgOk a := by
  obtain ⟨hl, hf⟩ := agg_open Tryz.underlying80 h hM
  obtain ⟨m0, y0, h0, b0⟩ := hf 0 _ rfl
  obtain ⟨k, e0, q0⟩ := int_open Tryz.underlying3 h0
  obtain ⟨m1, y1, h1, b1⟩ := hf 1 _ rfl
  obtain ⟨a, ⟨A1, n1, c1, e1, r1⟩, q1⟩ := att_open hM0 h1 (Nat.le_of_lt b1)
  have hcs : cs.drop 0 = [.int .i64 k, .string a.type, .slice A1 n1 c1] := by rw [drop_one (i := 0) (j := 1) e0 (by kernel_rfl) rfl, drop_more (i := 1) (n := 2) (j := 3) e1 (by kernel_rfl) rfl, drop_all (n := 3) hl (by kernel_rfl)]; rfl
  rw [List.drop_zero] at hcs
  exact ⟨⟨k, a⟩, ⟨A1, n1, c1, hcs, r1⟩, q0, q1⟩
theorem opr_open {M : Nat} (hM0 : M ≤ 1048576) {fuel : Nat} {cs : List Value} {x : DataW H × List MemPlace} (h : DataW.trod enc Tryz.prog W 0 (fun _ => true) true fuel 48 cs = some x) (hM : Rows.uptoBulk x.1 ≤ M) :
    ∃ (A : Option Addr) (n c : Nat) (B : Option Addr) (m d : Nat) (o : Opr), cs = o.cells A n c B m d ∧ Row Elem.att (fun _ => True) W A n c o.atts ∧ Row Elem.chg (fun _ => True) W B m d o.chgs ∧ OprOk o := by
  obtain ⟨hl, hf⟩ := agg_open Tryz.underlying48 h hM
  obtain ⟨m0, y0, h0, b0⟩ := hf 0 _ rfl
  obtain ⟨k, e0, q0⟩ := int_open Tryz.underlying3 h0
  obtain ⟨m1, y1, h1, b1⟩ := hf 1 _ rfl
  obtain ⟨s1, e1, q1⟩ := str_open Tryz.underlying9 h1 (Nat.le_of_lt b1)
  obtain ⟨m2, y2, h2, b2⟩ := hf 2 _ rfl
  obtain ⟨s2, e2, q2⟩ := str_open Tryz.underlying9 h2 (Nat.le_of_lt b2)
  obtain ⟨m3, y3, h3, b3⟩ := hf 3 _ rfl
  obtain ⟨s3, e3, q3⟩ := str_open Tryz.underlying9 h3 (Nat.le_of_lt b3)
  obtain ⟨m4, y4, h4, b4⟩ := hf 4 _ rfl
  obtain ⟨x4, e4⟩ := bool_open Tryz.underlying4 h4
  obtain ⟨m5, y5, h5, b5⟩ := hf 5 _ rfl
  obtain ⟨x5, e5⟩ := bool_open Tryz.underlying4 h5
  obtain ⟨m6, y6, h6, b6⟩ := hf 6 _ rfl
  obtain ⟨A6, n6, c6, l6, e6, r6, g6, q6⟩ := row_open Elem.att AttOk Tryz.underlying36 (by kernel_rfl) (fun n cs x hx hb => att_open (M := 1048576) (Nat.le_refl _) hx (by omega)) h6 (Nat.le_of_lt b6)
  obtain ⟨m7, y7, h7, b7⟩ := hf 7 _ rfl
  obtain ⟨A7, n7, c7, l7, e7, r7, g7, q7⟩ := row_open Elem.chg ChgOk Tryz.underlying46 (by kernel_rfl) (fun n cs x hx hb => chg_open (M := 1048576) (Nat.le_refl _) hx (by omega)) h7 (Nat.le_of_lt b7)
  have hcs : cs.drop 0 = [.int .i64 k, .string s1, .string s2, .string s3, .bool x4, .bool x5, .slice A6 n6 c6, .slice A7 n7 c7] := by
    rw [drop_one (i := 0) (j := 1) e0 (by kernel_rfl) rfl, drop_one (i := 1) (j := 2) e1 (by kernel_rfl) rfl, drop_one (i := 2) (j := 3) e2 (by kernel_rfl) rfl, drop_one (i := 3) (j := 4) e3 (by kernel_rfl) rfl, drop_one (i := 4) (j := 5) e4 (by kernel_rfl) rfl, drop_one (i := 5) (j := 6) e5 (by kernel_rfl) rfl, drop_one (i := 6) (j := 7) e6 (by kernel_rfl) rfl, drop_one (i := 7) (j := 8) e7 (by kernel_rfl) rfl, drop_all (n := 8) hl (by kernel_rfl)]
  rw [List.drop_zero] at hcs
  refine ⟨A6, n6, c6, A7, n7, c7, ⟨k, s1, s2, s3, x4, x5, l6, l7⟩, hcs, r6, r7, ⟨q0.1, q0.2, ?_, ?_, ?_, ⟨Nat.le_trans g6 hM0, q6⟩, ⟨Nat.le_trans g7 hM0, q7⟩⟩⟩
  all_goals exact Nat.le_trans (Nat.le_of_lt (by assumption)) hM0
end
end Go.Proofs.YtencmdpjiafnaaaGreatDoor
/- The walk of vergerlaw10's step at a nil tree and the reference's empty one. -/
namespace Go.Proofs.YtencmdpjiafnaaaGreatDoor
open Go.RowKit
set_option maxRecDepth 100000
set_option linter.unusedSimpArgs false
set_option linter.unusedVariables false

theorem grown_chain {w w1 w2 : World} {g : Nat} (hx : Ext w w1) (h3 : w1.grownBy w2 (some g)) : w.grownBy w2 (some g) :=
  ⟨h3.os.trans hx.os, h3.tape.trans hx.tape, h3.output.trans hx.output, Nat.le_trans hx.size h3.size, fun k hk hn => (h3.block k (Nat.lt_of_lt_of_le hk hx.size) hn).trans (hx.block k hk)⟩
/-- What an op wants of a nil tree. -/
def wantK (k : Int) : Int := if k < 1 ∨ 4 < k then 0 else 1
def StepSays (w : World) (g : Nat) (o : Opr) (e : Ending) (w' : World) : Prop := ∃ k : Int, e = .returned (.tuple #[.int .i64 (wantK o.kind), .int .i64 k]) ∧ w.grownBy w' (some g)
theorem StepSays.of {w w' : World} {g : Nat} {o : Opr} {e : Ending} {k : Int} (h : e = .returned (.tuple #[.int .i64 (wantK o.kind), .int .i64 k])) (hx : w.grownBy w' (some g)) : StepSays w g o e w' := ⟨k, h, hx⟩
theorem int_grown {w : World} {e : Ending} {w' : World} {g : Nat} (h : IntSays' w e w') : GrownSays w g e w' := by
  obtain ⟨k, h1, h2⟩ := h
  exact ⟨k, h1, grown_ext h2 _⟩
set_option maxHeartbeats 8000000 in
theorem step_nil {S T : Nat → Prop} {A B : Option Addr} {n c m d : Nat} {o : Opr} {w : World} (ha : Row Elem.att S w A n c o.atts) (hc : Row Elem.chg T w B m d o.chgs) (hk : OprOk o) (hp : o.part.size ≤ 3000) (g : Nat) (hG : Gl w) (hg : w.heap[g]? = some (.cells #[.slice none 0 0] 54 (0, 0))) :
    Calls Tryz.prog 20 #[.pointer none, .pointer (some ⟨g, 0, none⟩), .agg #[.int .i64 o.kind, .string o.name, .string o.part, .string o.sup, .bool o.flag, .bool o.has, .slice A n c, .slice B m d]] w (StepSays w g o) := by
  have HG := hid hG
  have HGG := hid hg
  have hgl := row_lt hg
  have HB0 := hid (Bx.make (Ext.refl w) #[.int .i64 o.kind, .string o.name, .string o.part, .string o.sup, .bool o.flag, .bool o.has, .slice A n c, .slice B m d] 48)
  have ck := HB0.out.cell (i := 0) rfl
  have HCG : ∀ w', Ext w w' → w'.cell? ⟨g, 0, none⟩ = some (.slice none 0 0) := fun w' hx => by rw [cell_of_row w' g 0 _ _ (0, 0) (row_later' HGG.out hx)]; rfl
  obtain ⟨S9, hS9⟩ : ∃ S : Nat → Prop, S = fun b => b < w.heap.size + 1 ∧ b ≠ g := ⟨_, rfl⟩
  have HSI : Hid (∀ b, S9 b → b < w.heap.size + 1 ∧ b ≠ g) := fun b hb => by rw [hS9] at hb; exact hb
  have HS1 : Hid (S9 w.heap.size) := by show S9 _; rw [hS9]; exact ⟨by omega, by omega⟩
  obtain ⟨PR, hPR⟩ : ∃ p, p = Pre.same S9 := ⟨_, rfl⟩
  have HPS : Hid (∀ w w', Same S9 w w' → PR.r w w') := fun w w' h => by rw [hPR]; exact h
  have HPT : Hid (∀ w w', PR.r w w' → Same S9 w w') := fun w w' h => by rw [hPR] at h; exact h
  show Calls _ _ _ _ (fun e w' => StepSays w g o e w')
  clear hPR hS9 hgl
  by_cases h1 : o.kind = 1
  · have t1 : (o.kind == 1) = true := by rw [h1]; rfl
    have HK : Hid (wantK o.kind = 1) := by show _ = _; rw [h1]; rfl
    have HNIL : ∀ w', Gl w' → Calls Tryz.prog 24 #[.pointer none, .string o.name, .slice A n c] w' fun e w'' => e = .returned (.int .i64 1) ∧ Ext w' w'' := fun w' _ => nil_add o.name A n c w'
    have HREF : ∀ w', Ext w w' → Calls Tryz.prog 43 #[.pointer (some ⟨g, 0, none⟩), .string o.name, .slice A n c] w' (GrownSays w' g) := fun w' hx => radd_nil (ha.ext hx) o.name g (hG.ext hx) hk.atts.1 hk.atts.2 (row_later' hg hx)
    unfold GrownSays at HREF
    clear ha hc hk hp hG hg h1 HCG
    go_enter Tryz.func20, Tryz.ntmps20
    go_wp2
    refine wp_region_planR PR (.read 0 (.read 1 (.read 2 (.read 3 (.read 4 (.read 6 (.read 7 (.read 8 (.read 9 (.read 10 (.main 5 (.main 11 (.read 12 (.read 13 .done)))))))))))))) (by kernel_rfl) (by kernel_rfl) ?_
    intro wD hxD
    have XR : Hid (PR.r wD wD) := PR.refl _
    have HBD := hid (HB0.out.later hxD)
    have HSR : Hid (∀ b, S9 b → b < wD.heap.size) := fun b hb => by have h1 := (HSI.out b hb).1; have h2 := hxD.size; simp only [World.alloc, Array.size_push] at h2; omega
    have ce : ∀ (i : Nat) v, #[Value.int .i64 o.kind, .string o.name, .string o.part, .string o.sup, .bool o.flag, .bool o.has, .slice A n c, .slice B m d][i]? = some v → ∀ w', PR.r wD w' → w'.cell? ⟨w.heap.size, i, none⟩ = some v := fun i v hv w' hk => by rw [World.cell?_of_block (HPT.out _ _ hk _ HS1.out)]; exact HBD.out.cell hv
    have ce1 := ce 1 _ rfl
    have ce2 := ce 2 _ rfl
    have ce3 := ce 3 _ rfl
    have ce4 := ce 4 _ rfl
    have ce5 := ce 5 _ rfl
    have ce6 := ce 6 _ rfl
    have ce7 := ce 7 _ rfl
    clear ce
    repeat' (first
      | (refine walksR_move rfl rfl ?_; simp only [Act.put, Act.eval, List.setIfInBounds_toArray, List.set_cons_zero, List.set_cons_succ, Array.getD_eq_getD_getElem?, List.getElem?_toArray, List.getElem?_cons_zero, List.getElem?_cons_succ, Option.getD_some])
      | (refine walksR_assign rfl rfl ?_; simp only [Act.put, Act.eval, List.setIfInBounds_toArray, List.set_cons_zero, List.set_cons_succ, Array.getD_eq_getD_getElem?, List.getElem?_toArray, List.getElem?_cons_zero, List.getElem?_cons_succ, Option.getD_some])
      | (refine walksR_skip rfl rfl ?_; simp only [Act.put, List.setIfInBounds_toArray, List.set_cons_zero, List.set_cons_succ])
      | (refine walksR_unwanted rfl rfl ?_; simp only [Act.put, List.setIfInBounds_toArray, List.set_cons_zero, List.set_cons_succ])
      | (refine walksR_read (v := ?_) rfl rfl (fun w' hE => ?_) ?_; rotate_left 1; (· ((try (have hEx := Pre.trans _ (Hid.out XR) hE)); go_simp; (try go_bits); with_reducible rfl)); simp only [Act.put, List.setIfInBounds_toArray, List.set_cons_zero, List.set_cons_succ])
      | (refine walksR_alt ?_ ?_)
      | (refine walksR_main rfl rfl (fun K hK => ?_); go_wp2_with (first | (go_at_call 24; (with_reducible refine (HNIL _ (HG.out.ext HBD.out.ext)).mono ?_); rintro e w5 ⟨rfl, hx5⟩; have HX5 := hid (HBD.out.ext.trans hx5); have hs5 : PR.r _ w5 := HPS.out _ _ (fun b hb => hx5.block b (HSR.out b hb)); have HSR5 : Hid (∀ b, S9 b → b < w5.heap.size) := (fun b hb => Nat.lt_of_lt_of_le (HSR.out b hb) hx5.size); clear hx5; have XR' := hid (Pre.trans _ (Hid.out XR) hs5); clear XR; have XR := XR'; clear XR') | (go_at_call 43; (with_reducible refine (HREF _ HX5.out).mono ?_); rintro e w6 ⟨k6, rfl, hg6⟩; have HG6 := hid hg6; have hs6 : PR.r _ w6 := HPS.out _ _ (fun b hb => hg6.block b (HSR5.out b hb) (fun e => by injection e with e; exact (HSI.out b hb).2 e)); clear hg6; have XR' := hid (Pre.trans _ (Hid.out XR) hs6); clear XR; have XR := XR'; clear XR')); refine hK _ _ (by first | assumption | exact Pre.refl _ _ | exact Hid.out HPS _ _ (Same.alloc_of (Hid.out HSR) _) | exact Hid.out HPS _ _ (Same.set_of (Hid.out HNE) _)) ?_; clear hK K; try simp only [Act.put, List.setIfInBounds_toArray, List.set_cons_zero, List.set_cons_succ]))
    all_goals
      refine walksR_done ?_
      go_wp2
      go_ret2
      exact StepSays.of (k := k6) (by rw [HK.out]; rfl) (grown_chain HX5.out HG6.out)
  have t1 : (o.kind == 1) = false := beq_eq_false_iff_ne.2 h1
  by_cases h2 : o.kind = 2
  · have t2 : (o.kind == 2) = true := by rw [h2]; rfl
    have HK : Hid (wantK o.kind = 1) := by show _ = _; rw [h2]; rfl
    have HNIL : ∀ w', Gl w' → Calls Tryz.prog 44 #[.pointer none, .string o.name] w' fun e w'' => e = .returned (.int .i64 1) ∧ Ext w' w'' := fun w' h => nil_delete o.name w' h
    have HREF : ∀ w', Ext w w' → Calls Tryz.prog 45 #[.pointer (some ⟨g, 0, none⟩), .string o.name] w' (GrownSays w' g) := fun w' hx => (rdelete_nil o.name g w' (hG.ext hx) (HCG w' hx)).mono fun _ _ h => int_grown h
    unfold GrownSays at HREF
    clear ha hc hk hp hG hg h1 h2 HCG
    go_enter Tryz.func20, Tryz.ntmps20
    go_wp2
    refine wp_region_planR PR (.read 0 (.read 1 (.read 2 (.read 4 (.read 5 (.read 6 (.main 3 (.main 7 (.read 8 (.read 9 .done)))))))))) (by kernel_rfl) (by kernel_rfl) ?_
    intro wD hxD
    have XR : Hid (PR.r wD wD) := PR.refl _
    have HBD := hid (HB0.out.later hxD)
    have HSR : Hid (∀ b, S9 b → b < wD.heap.size) := fun b hb => by have h1 := (HSI.out b hb).1; have h2 := hxD.size; simp only [World.alloc, Array.size_push] at h2; omega
    have ce : ∀ (i : Nat) v, #[Value.int .i64 o.kind, .string o.name, .string o.part, .string o.sup, .bool o.flag, .bool o.has, .slice A n c, .slice B m d][i]? = some v → ∀ w', PR.r wD w' → w'.cell? ⟨w.heap.size, i, none⟩ = some v := fun i v hv w' hk => by rw [World.cell?_of_block (HPT.out _ _ hk _ HS1.out)]; exact HBD.out.cell hv
    have ce1 := ce 1 _ rfl
    have ce2 := ce 2 _ rfl
    have ce3 := ce 3 _ rfl
    have ce4 := ce 4 _ rfl
    have ce5 := ce 5 _ rfl
    have ce6 := ce 6 _ rfl
    have ce7 := ce 7 _ rfl
    clear ce
    repeat' (first
      | (refine walksR_move rfl rfl ?_; simp only [Act.put, Act.eval, List.setIfInBounds_toArray, List.set_cons_zero, List.set_cons_succ, Array.getD_eq_getD_getElem?, List.getElem?_toArray, List.getElem?_cons_zero, List.getElem?_cons_succ, Option.getD_some])
      | (refine walksR_assign rfl rfl ?_; simp only [Act.put, Act.eval, List.setIfInBounds_toArray, List.set_cons_zero, List.set_cons_succ, Array.getD_eq_getD_getElem?, List.getElem?_toArray, List.getElem?_cons_zero, List.getElem?_cons_succ, Option.getD_some])
      | (refine walksR_skip rfl rfl ?_; simp only [Act.put, List.setIfInBounds_toArray, List.set_cons_zero, List.set_cons_succ])
      | (refine walksR_unwanted rfl rfl ?_; simp only [Act.put, List.setIfInBounds_toArray, List.set_cons_zero, List.set_cons_succ])
      | (refine walksR_read (v := ?_) rfl rfl (fun w' hE => ?_) ?_; rotate_left 1; (· ((try (have hEx := Pre.trans _ (Hid.out XR) hE)); go_simp; (try go_bits); with_reducible rfl)); simp only [Act.put, List.setIfInBounds_toArray, List.set_cons_zero, List.set_cons_succ])
      | (refine walksR_alt ?_ ?_)
      | (refine walksR_main rfl rfl (fun K hK => ?_); go_wp2_with (first | (go_at_call 44; (with_reducible refine (HNIL _ (HG.out.ext HBD.out.ext)).mono ?_); rintro e w5 ⟨rfl, hx5⟩; have HX5 := hid (HBD.out.ext.trans hx5); have hs5 : PR.r _ w5 := HPS.out _ _ (fun b hb => hx5.block b (HSR.out b hb)); have HSR5 : Hid (∀ b, S9 b → b < w5.heap.size) := (fun b hb => Nat.lt_of_lt_of_le (HSR.out b hb) hx5.size); clear hx5; have XR' := hid (Pre.trans _ (Hid.out XR) hs5); clear XR; have XR := XR'; clear XR') | (go_at_call 45; (with_reducible refine (HREF _ HX5.out).mono ?_); rintro e w6 ⟨k6, rfl, hg6⟩; have HG6 := hid hg6; have hs6 : PR.r _ w6 := HPS.out _ _ (fun b hb => hg6.block b (HSR5.out b hb) (fun e => by injection e with e; exact (HSI.out b hb).2 e)); clear hg6; have XR' := hid (Pre.trans _ (Hid.out XR) hs6); clear XR; have XR := XR'; clear XR')); refine hK _ _ (by first | assumption | exact Pre.refl _ _ | exact Hid.out HPS _ _ (Same.alloc_of (Hid.out HSR) _) | exact Hid.out HPS _ _ (Same.set_of (Hid.out HNE) _)) ?_; clear hK K; try simp only [Act.put, List.setIfInBounds_toArray, List.set_cons_zero, List.set_cons_succ]))
    all_goals
      refine walksR_done ?_
      go_wp2
      go_ret2
      exact StepSays.of (k := k6) (by rw [HK.out]; rfl) (grown_chain HX5.out HG6.out)
  have t2 : (o.kind == 2) = false := beq_eq_false_iff_ne.2 h2
  by_cases h3 : o.kind = 3
  · have t3 : (o.kind == 3) = true := by rw [h3]; rfl
    have HK : Hid (wantK o.kind = 1) := by show _ = _; rw [h3]; rfl
    have HNIL : ∀ w', Gl w' → Calls Tryz.prog 46 #[.pointer none, .string o.name, .slice B m d] w' fun e w'' => e = .returned (.int .i64 1) ∧ Ext w' w'' := fun w' h => nil_modify o.name B m d w' h
    have HREF : ∀ w', Ext w w' → Calls Tryz.prog 47 #[.pointer (some ⟨g, 0, none⟩), .string o.name, .slice B m d] w' (GrownSays w' g) := fun w' hx => (rmodify_nil o.name B m d g w' (hG.ext hx) (HCG w' hx)).mono fun _ _ h => int_grown h
    unfold GrownSays at HREF
    clear ha hc hk hp hG hg h1 h2 h3 HCG
    go_enter Tryz.func20, Tryz.ntmps20
    go_wp2
    refine wp_region_planR PR (.read 0 (.read 1 (.read 2 (.read 3 (.read 4 (.read 6 (.read 7 (.read 8 (.read 9 (.read 10 (.main 5 (.main 11 (.read 12 (.read 13 .done)))))))))))))) (by kernel_rfl) (by kernel_rfl) ?_
    intro wD hxD
    have XR : Hid (PR.r wD wD) := PR.refl _
    have HBD := hid (HB0.out.later hxD)
    have HSR : Hid (∀ b, S9 b → b < wD.heap.size) := fun b hb => by have h1 := (HSI.out b hb).1; have h2 := hxD.size; simp only [World.alloc, Array.size_push] at h2; omega
    have ce : ∀ (i : Nat) v, #[Value.int .i64 o.kind, .string o.name, .string o.part, .string o.sup, .bool o.flag, .bool o.has, .slice A n c, .slice B m d][i]? = some v → ∀ w', PR.r wD w' → w'.cell? ⟨w.heap.size, i, none⟩ = some v := fun i v hv w' hk => by rw [World.cell?_of_block (HPT.out _ _ hk _ HS1.out)]; exact HBD.out.cell hv
    have ce1 := ce 1 _ rfl
    have ce2 := ce 2 _ rfl
    have ce3 := ce 3 _ rfl
    have ce4 := ce 4 _ rfl
    have ce5 := ce 5 _ rfl
    have ce6 := ce 6 _ rfl
    have ce7 := ce 7 _ rfl
    clear ce
    repeat' (first
      | (refine walksR_move rfl rfl ?_; simp only [Act.put, Act.eval, List.setIfInBounds_toArray, List.set_cons_zero, List.set_cons_succ, Array.getD_eq_getD_getElem?, List.getElem?_toArray, List.getElem?_cons_zero, List.getElem?_cons_succ, Option.getD_some])
      | (refine walksR_assign rfl rfl ?_; simp only [Act.put, Act.eval, List.setIfInBounds_toArray, List.set_cons_zero, List.set_cons_succ, Array.getD_eq_getD_getElem?, List.getElem?_toArray, List.getElem?_cons_zero, List.getElem?_cons_succ, Option.getD_some])
      | (refine walksR_skip rfl rfl ?_; simp only [Act.put, List.setIfInBounds_toArray, List.set_cons_zero, List.set_cons_succ])
      | (refine walksR_unwanted rfl rfl ?_; simp only [Act.put, List.setIfInBounds_toArray, List.set_cons_zero, List.set_cons_succ])
      | (refine walksR_read (v := ?_) rfl rfl (fun w' hE => ?_) ?_; rotate_left 1; (· ((try (have hEx := Pre.trans _ (Hid.out XR) hE)); go_simp; (try go_bits); with_reducible rfl)); simp only [Act.put, List.setIfInBounds_toArray, List.set_cons_zero, List.set_cons_succ])
      | (refine walksR_alt ?_ ?_)
      | (refine walksR_main rfl rfl (fun K hK => ?_); go_wp2_with (first | (go_at_call 46; (with_reducible refine (HNIL _ (HG.out.ext HBD.out.ext)).mono ?_); rintro e w5 ⟨rfl, hx5⟩; have HX5 := hid (HBD.out.ext.trans hx5); have hs5 : PR.r _ w5 := HPS.out _ _ (fun b hb => hx5.block b (HSR.out b hb)); have HSR5 : Hid (∀ b, S9 b → b < w5.heap.size) := (fun b hb => Nat.lt_of_lt_of_le (HSR.out b hb) hx5.size); clear hx5; have XR' := hid (Pre.trans _ (Hid.out XR) hs5); clear XR; have XR := XR'; clear XR') | (go_at_call 47; (with_reducible refine (HREF _ HX5.out).mono ?_); rintro e w6 ⟨k6, rfl, hg6⟩; have HG6 := hid hg6; have hs6 : PR.r _ w6 := HPS.out _ _ (fun b hb => hg6.block b (HSR5.out b hb) (fun e => by injection e with e; exact (HSI.out b hb).2 e)); clear hg6; have XR' := hid (Pre.trans _ (Hid.out XR) hs6); clear XR; have XR := XR'; clear XR')); refine hK _ _ (by first | assumption | exact Pre.refl _ _ | exact Hid.out HPS _ _ (Same.alloc_of (Hid.out HSR) _) | exact Hid.out HPS _ _ (Same.set_of (Hid.out HNE) _)) ?_; clear hK K; try simp only [Act.put, List.setIfInBounds_toArray, List.set_cons_zero, List.set_cons_succ]))
    all_goals
      refine walksR_done ?_
      go_wp2
      go_ret2
      exact StepSays.of (k := k6) (by rw [HK.out]; rfl) (grown_chain HX5.out HG6.out)
  have t3 : (o.kind == 3) = false := beq_eq_false_iff_ne.2 h3
  by_cases h4 : o.kind = 4
  · have t4 : (o.kind == 4) = true := by rw [h4]; rfl
    have HK : Hid (wantK o.kind = 1) := by show _ = _; rw [h4]; rfl
    have HNIL : ∀ w', Gl w' → Calls Tryz.prog 48 #[.pointer none, .string o.name, .string o.part, .bool o.flag, .string o.sup, .bool o.has] w' fun e w'' => e = .returned (.int .i64 1) ∧ Ext w' w'' := fun w' h => nil_rename o.name o.part o.flag o.sup o.has w' h
    have HREF : ∀ w', Ext w w' → Calls Tryz.prog 49 #[.pointer (some ⟨g, 0, none⟩), .string o.name, .string o.part, .bool o.flag, .string o.sup, .bool o.has] w' (GrownSays w' g) := fun w' hx => (rrename_nil o.name o.part o.flag o.sup o.has g w' (hG.ext hx) (HCG w' hx) (by omega)).mono fun _ _ h => int_grown h
    unfold GrownSays at HREF
    clear ha hc hk hp hG hg h1 h2 h3 h4 HCG
    go_enter Tryz.func20, Tryz.ntmps20
    go_wp2
    refine wp_region_planR PR (.read 0 (.read 1 (.read 2 (.read 3 (.read 4 (.read 5 (.read 6 (.read 7 (.read 8 (.read 9 (.read 10 (.read 12 (.read 13 (.read 14 (.read 15 (.read 16 (.read 17 (.read 18 (.read 19 (.read 20 (.read 21 (.read 22 (.main 11 (.main 23 (.read 24 (.read 25 .done)))))))))))))))))))))))))) (by kernel_rfl) (by kernel_rfl) ?_
    intro wD hxD
    have XR : Hid (PR.r wD wD) := PR.refl _
    have HBD := hid (HB0.out.later hxD)
    have HSR : Hid (∀ b, S9 b → b < wD.heap.size) := fun b hb => by have h1 := (HSI.out b hb).1; have h2 := hxD.size; simp only [World.alloc, Array.size_push] at h2; omega
    have ce : ∀ (i : Nat) v, #[Value.int .i64 o.kind, .string o.name, .string o.part, .string o.sup, .bool o.flag, .bool o.has, .slice A n c, .slice B m d][i]? = some v → ∀ w', PR.r wD w' → w'.cell? ⟨w.heap.size, i, none⟩ = some v := fun i v hv w' hk => by rw [World.cell?_of_block (HPT.out _ _ hk _ HS1.out)]; exact HBD.out.cell hv
    have ce1 := ce 1 _ rfl
    have ce2 := ce 2 _ rfl
    have ce3 := ce 3 _ rfl
    have ce4 := ce 4 _ rfl
    have ce5 := ce 5 _ rfl
    have ce6 := ce 6 _ rfl
    have ce7 := ce 7 _ rfl
    clear ce
    repeat' (first
      | (refine walksR_move rfl rfl ?_; simp only [Act.put, Act.eval, List.setIfInBounds_toArray, List.set_cons_zero, List.set_cons_succ, Array.getD_eq_getD_getElem?, List.getElem?_toArray, List.getElem?_cons_zero, List.getElem?_cons_succ, Option.getD_some])
      | (refine walksR_assign rfl rfl ?_; simp only [Act.put, Act.eval, List.setIfInBounds_toArray, List.set_cons_zero, List.set_cons_succ, Array.getD_eq_getD_getElem?, List.getElem?_toArray, List.getElem?_cons_zero, List.getElem?_cons_succ, Option.getD_some])
      | (refine walksR_skip rfl rfl ?_; simp only [Act.put, List.setIfInBounds_toArray, List.set_cons_zero, List.set_cons_succ])
      | (refine walksR_unwanted rfl rfl ?_; simp only [Act.put, List.setIfInBounds_toArray, List.set_cons_zero, List.set_cons_succ])
      | (refine walksR_read (v := ?_) rfl rfl (fun w' hE => ?_) ?_; rotate_left 1; (· ((try (have hEx := Pre.trans _ (Hid.out XR) hE)); go_simp; (try go_bits); with_reducible rfl)); simp only [Act.put, List.setIfInBounds_toArray, List.set_cons_zero, List.set_cons_succ])
      | (refine walksR_alt ?_ ?_)
      | (refine walksR_main rfl rfl (fun K hK => ?_); go_wp2_with (first | (go_at_call 48; (with_reducible refine (HNIL _ (HG.out.ext HBD.out.ext)).mono ?_); rintro e w5 ⟨rfl, hx5⟩; have HX5 := hid (HBD.out.ext.trans hx5); have hs5 : PR.r _ w5 := HPS.out _ _ (fun b hb => hx5.block b (HSR.out b hb)); have HSR5 : Hid (∀ b, S9 b → b < w5.heap.size) := (fun b hb => Nat.lt_of_lt_of_le (HSR.out b hb) hx5.size); clear hx5; have XR' := hid (Pre.trans _ (Hid.out XR) hs5); clear XR; have XR := XR'; clear XR') | (go_at_call 49; (with_reducible refine (HREF _ HX5.out).mono ?_); rintro e w6 ⟨k6, rfl, hg6⟩; have HG6 := hid hg6; have hs6 : PR.r _ w6 := HPS.out _ _ (fun b hb => hg6.block b (HSR5.out b hb) (fun e => by injection e with e; exact (HSI.out b hb).2 e)); clear hg6; have XR' := hid (Pre.trans _ (Hid.out XR) hs6); clear XR; have XR := XR'; clear XR')); refine hK _ _ (by first | assumption | exact Pre.refl _ _ | exact Hid.out HPS _ _ (Same.alloc_of (Hid.out HSR) _) | exact Hid.out HPS _ _ (Same.set_of (Hid.out HNE) _)) ?_; clear hK K; try simp only [Act.put, List.setIfInBounds_toArray, List.set_cons_zero, List.set_cons_succ]))
    all_goals
      refine walksR_done ?_
      go_wp2
      go_ret2
      exact StepSays.of (k := k6) (by rw [HK.out]; rfl) (grown_chain HX5.out HG6.out)
  have t4 : (o.kind == 4) = false := beq_eq_false_iff_ne.2 h4
  have HK : Hid (wantK o.kind = 0) := by show _ = _; unfold wantK; rw [if_pos (by omega)]
  clear ha hc hk hp hG hg h1 h2 h3 h4 HCG
  go_enter Tryz.func20, Tryz.ntmps20
  go_wp2
  go_ret2
  exact StepSays.of (k := 0) (by rw [HK.out]; rfl) (grown_ext HB0.out.ext _)
end Go.Proofs.YtencmdpjiafnaaaGreatDoor
