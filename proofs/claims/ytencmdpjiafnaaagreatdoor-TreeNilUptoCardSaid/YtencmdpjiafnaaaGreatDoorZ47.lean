import Derived.Test.YtencmdpjiafnaaaGreatDoorZ19
import Derived.Maps.OwnOps
import Derived.Maps.Views
import Derived.Maps.OwnSet
import Derived.StringKeys
import Derived.WalkSpells
import Derived.Test.YtencmdpjiafnaaaGreatDoorZ42
import Derived.Test.YtencmdpjiafnaaaGreatDoorZ07
import Derived.Test.YtencmdpjiafnaaaGreatDoorZ46
import Derived.Test.YtencmdpjiafnaaaGreatDoorZ36
import Derived.Test.YtencmdpjiafnaaaGreatDoorZ37
import Derived.Test.YtencmdpjiafnaaaGreatDoorZ38
import Derived.Test.YtencmdpjiafnaaaGreatDoorZ44
/- A tree's map: New, Len, set at the empty one. -/
namespace Go.Proofs.YtencmdpjiafnaaaGreatDoor
open Go.RowKit
open Go.Maps Go.MapKept
set_option maxRecDepth 100000
set_option linter.unusedSimpArgs false
set_option linter.unusedVariables false

theorem mlawE : Keyed Tryz.prog 9 := string_keyed Tryz.underlying9
theorem zeroEnt (w : World) : (zeroValue 38).run Tryz.prog w = .ok (.agg #[.string ⟨#[]⟩, .slice none 0 0]) w := by kernel_rfl
/-- What is looked up in an empty map is not there. -/
theorem look_empty {w : World} {B : Nat} (hb : w.heap[B]? = some (.map #[] 0)) (s : ByteArray) (hs : s.size ≤ maxLen) :
    (Instr.lookup 61 (.map (some B)) (.string s) true).run Tryz.prog w = .ok (.tuple #[.agg #[.string ⟨#[]⟩, .slice none 0 0], .bool false]) w := by
  rcases Maps.fit_look (H := Unit) (R := fun _ => some (.lit (.bool true), [])) true mlawE Tryz.underlying61 (zeroEnt w) hb ⟨by simp, stamped_empty 0, by simp⟩ (key := .string s) (kl := .string s.data.toList) (WideMaps.keyOf_string_mk Tryz.underlying9 hs) with ⟨h1, -, -⟩ | ⟨e0, y, h1, -⟩
  · exact h1
  · simp at h1
/-- A store into an empty map: it has one entry. -/
theorem put_empty {w : World} {B : Nat} (hb : w.heap[B]? = some (.map #[] 0)) (s : ByteArray) (hs : s.size ≤ maxLen) (v : Value) :
    ∃ w' es clock, (Instr.mapUpdate 61 (.map (some B)) (.string s) v).run Tryz.prog w = .ok () w' ∧ w'.heap[B]? = some (.map es clock) ∧ es.size = 1 ∧ w.grownBy w' (some B) := by
  have h0 : w.ownsMap (H := Unit) Tryz.prog 9 (fun _ => some (.lit (.bool true), [])) B 0 (.map []) := ⟨#[], 0, hb, ⟨by simp, stamped_empty 0, by simp⟩, Nat.le_refl _, rfl⟩
  obtain ⟨w', h1, ⟨es, clock, h2, h3, h4, h5⟩, h6⟩ := h0.update mlawE Tryz.underlying61 (by simp [maxLen]) (key := .string s) (val := v) (kl := .string s.data.toList) (WideMaps.keyOf_string_mk Tryz.underlying9 hs) rfl
  refine ⟨w', es, clock, h1, h2, ?_, h6⟩
  have e1 : es.size = ((es.toList.map (Go.WideElems.rg Tryz.prog 9 (fun _ => some ((.lit (.bool true) : DataW Unit), [])))).foldr DataW.insert []).length := by rw [length_sorted]; simp
  have e2 : (DataW.map []).put (.string s.data.toList) (.lit (.bool true) : DataW Unit) = .map [(.string s.data.toList, .lit (.bool true))] := by simp [DataW.put, DataW.insert]
  rw [e2] at h5
  injection h5 with h5
  rw [e1, ← h5]
  rfl
def NewSays (w : World) (e : Ending) (w' : World) : Prop := ∃ g B, e = .returned (.pointer (some ⟨g, 0, none⟩)) ∧ w'.heap[g]? = some (.cells #[.map (some B)] 63 (0, 0)) ∧ w'.heap[B]? = some (.map #[] 0) ∧ w.heap.size ≤ B ∧ B < g ∧ Ext w w'
theorem new_any (w : World) : Calls Tryz.prog 23 #[] w (NewSays w) := by
  have hmm := @run_makeMap Tryz.prog
  go_enter Tryz.func23, Tryz.ntmps23
  go_wp2
  go_ret
  refine ⟨_, w.heap.size, rfl, ?_, ?_, Nat.le_refl _, by simp, (Ext.alloc _ _).trans (Ext.alloc _ _)⟩
  · have := heap_alloc_new (w.alloc (.map #[] 0)) (.cells #[.map (some w.heap.size)] 63)
    rwa [show (w.alloc (.map #[] 0)).heap.size = w.heap.size + 1 by simp] at this
  · exact ((Ext.alloc (w.alloc (.map #[] 0)) _).block _ (by simp)).trans (heap_alloc_new w _)
set_option maxHeartbeats 1000000 in
theorem len_any (g B : Nat) (es : Array MapEntry) (clock : Nat) (w : World) (hg : w.heap[g]? = some (.cells #[.map (some B)] 63 (0, 0))) (hb : w.heap[B]? = some (.map es clock)) (hz : es.size = 1) :
    Calls Tryz.prog 21 #[.pointer (some ⟨g, 0, none⟩)] w fun e w' => e = .returned (.int .i64 1) ∧ Ext w w' := by
  have c0 : w.cell? ⟨g, 0, none⟩ = some (.map (some B)) := by rw [cell_of_row w g 0 _ _ (0, 0) hg]; rfl
  have hlen : (Builtin.len_ #[61] 3 #[.map (some B)]).run Tryz.prog w = .ok (.int .i64 1) w := by
    have := MapKept.run_getObj_map (P := Tryz.prog) hb
    simp [Builtin.len_, run_underlying Tryz.underlying61, this, hz, Result.andThen]
    rfl
  go_enter Tryz.func21, Tryz.ntmps21
  go_wp2
  go_ret
  exact ⟨rfl, Ext.refl _⟩
theorem mapput_wp {w w' : World} {o : Oper} {a : Act} {K : Act → World → Prop} {Q : Exit → Act → World → Prop} (T : TypeId) (m x v : Operand) (ho : o.op = .mapUpdate T m x v) {M X V : Value} (hm : a.eval m = M) (hx : a.eval x = X) (hv : a.eval v = V)
    (hrun : (Instr.mapUpdate T M X V).run Tryz.prog w = .ok () w') (h : K (a.put o.dst undef) w') : o.wp Tryz.prog a w K Q := by
  unfold Oper.wp
  simp [execOp, ho, hm, hx, hv, hrun, Result.andThen]
  exact h
def PutSays (w : World) (B : Nat) (e : Ending) (w' : World) : Prop := e = .returned (.tuple #[]) ∧ ∃ es clock, w'.heap[B]? = some (.map es clock) ∧ es.size = 1 ∧ w.grownBy w' (some B)
set_option maxHeartbeats 2000000 in
theorem tset_any (g B : Nat) (s : ByteArray) (A : Option Addr) (n c : Nat) (w : World) (hs : s.size ≤ maxLen) (hg : w.heap[g]? = some (.cells #[.map (some B)] 63 (0, 0))) (hb : w.heap[B]? = some (.map #[] 0)) :
    Calls Tryz.prog 52 #[.pointer (some ⟨g, 0, none⟩), .agg #[.string s, .slice A n c]] w (PutSays w B) := by
  have HS := hid hs
  have HG := hid hg
  have HB := hid hb
  have hgl := row_lt hg
  have hbl : B < w.heap.size := (Array.getElem?_eq_some_iff.1 hb).1
  have hne : g ≠ B := fun e => by rw [e, hb] at hg; simp at hg
  have HB0 := hid (Bx.make (Ext.refl w) #[.string s, .slice A n c] 38)
  have c0 := cell_later (v := .map (some B)) (p := ⟨g, 0, none⟩) (by rw [cell_of_row w g 0 _ _ (0, 0) hg]; rfl) _ (Ext.alloc w (.cells #[.string s, .slice A n c] 38))
  show Calls _ _ _ _ (fun e w' => PutSays w B e w')
  obtain ⟨S9, hS9⟩ : ∃ S : Nat → Prop, S = fun b => b < w.heap.size + 1 ∧ b ≠ B := ⟨_, rfl⟩
  have HSI : Hid (∀ b, S9 b → b < w.heap.size + 1 ∧ b ≠ B) := fun b hb => by rw [hS9] at hb; exact hb
  have HS1 : Hid (S9 w.heap.size) := by show S9 _; rw [hS9]; exact ⟨by omega, by omega⟩
  have HS2 : Hid (S9 g) := by show S9 _; rw [hS9]; exact ⟨by omega, hne⟩
  have HBL := hid hbl
  obtain ⟨PR, hPR⟩ : ∃ p, p = Pre.same S9 := ⟨_, rfl⟩
  have HPS : Hid (∀ w w', Same S9 w w' → PR.r w w') := fun w w' h => by rw [hPR]; exact h
  have HPT : Hid (∀ w w', PR.r w w' → Same S9 w w') := fun w w' h => by rw [hPR] at h; exact h
  clear hs hg hb hgl hbl hne hPR hS9
  have hme := fun W => run_eql_map_nil (P := Tryz.prog) W 61 9 38 (some B) Tryz.underlying61
  go_enter Tryz.func52, Tryz.ntmps52
  go_wp2
  refine wp_region_planR PR (.read 0 (.read 1 (.read 2 (.read 3 (.read 4 (.read 5 (.read 6 (.main 7 .done)))))))) (by kernel_rfl) (by kernel_rfl) ?_
  intro wD hxD
  have XR : Hid (PR.r wD wD) := PR.refl _
  have HBD := hid (HB0.out.later hxD)
  have HGD := hid (row_later' HG.out HBD.out.ext)
  have HMD : Hid (wD.heap[B]? = some (.map #[] 0)) := by show _ = _; rw [HBD.out.ext.block B HBL.out]; exact HB.out
  have ce0 : ∀ w', PR.r wD w' → w'.cell? ⟨w.heap.size, 0, none⟩ = some (.string s) := fun w' hk => by rw [World.cell?_of_block (HPT.out _ _ hk _ HS1.out)]; exact HBD.out.cell (i := 0) rfl
  have ce1 : ∀ w', PR.r wD w' → w'.cell? ⟨w.heap.size, 1, none⟩ = some (.slice A n c) := fun w' hk => by rw [World.cell?_of_block (HPT.out _ _ hk _ HS1.out)]; exact HBD.out.cell (i := 1) rfl
  have cg : ∀ w', PR.r wD w' → w'.cell? ⟨g, 0, none⟩ = some (.map (some B)) := fun w' hk => by rw [World.cell?_of_block (HPT.out _ _ hk _ HS2.out), cell_of_row wD g 0 _ _ (0, 0) HGD.out]; rfl
  obtain ⟨w8, es, clock, hrun, hes, hsz, hgr⟩ := put_empty HMD.out s HS.out (.agg #[.string s, .slice A n c])
  have HRUN := hid hrun
  have HES := hid hes
  have HSZ := hid hsz
  have HGR := hid hgr
  have hs8 : PR.r wD w8 := HPS.out _ _ (fun b hb => hgr.block b (by have h1 := (HSI.out b hb).1; have h2 := hxD.size; simp only [World.alloc, Array.size_push] at h2; omega) (fun e => by injection e with e; exact (HSI.out b hb).2 e))
  clear hrun hes hsz hgr
  repeat' (first
    | (refine walksR_move rfl rfl ?_; simp only [Act.put, Act.eval, List.setIfInBounds_toArray, List.set_cons_zero, List.set_cons_succ, Array.getD_eq_getD_getElem?, List.getElem?_toArray, List.getElem?_cons_zero, List.getElem?_cons_succ, Option.getD_some])
    | (refine walksR_assign rfl rfl ?_; simp only [Act.put, Act.eval, List.setIfInBounds_toArray, List.set_cons_zero, List.set_cons_succ, Array.getD_eq_getD_getElem?, List.getElem?_toArray, List.getElem?_cons_zero, List.getElem?_cons_succ, Option.getD_some])
    | (refine walksR_skip rfl rfl ?_; simp only [Act.put, List.setIfInBounds_toArray, List.set_cons_zero, List.set_cons_succ])
    | (refine walksR_unwanted rfl rfl ?_; simp only [Act.put, List.setIfInBounds_toArray, List.set_cons_zero, List.set_cons_succ])
    | (refine walksR_read (v := ?_) rfl rfl (fun w' hE => ?_) ?_; rotate_left 1; (· ((try (have hEx := Pre.trans _ (Hid.out XR) hE)); go_simp; (try go_bits); with_reducible rfl)); simp only [Act.put, List.setIfInBounds_toArray, List.set_cons_zero, List.set_cons_succ])
    | (refine walksR_main rfl rfl (fun K hK => ?_); (first | (refine mapput_wp 61 (.tmp 16) (.tmp 18) (.tmp 19) rfl rfl rfl rfl HRUN.out ?_)); refine hK _ _ (by first | assumption | exact Pre.refl _ _ | exact Hid.out HPS _ _ (Same.alloc_of (Hid.out HSR) _) | exact Hid.out HPS _ _ (Same.set_of (Hid.out HNE) _)) ?_; clear hK K; try simp only [Act.put, List.setIfInBounds_toArray, List.set_cons_zero, List.set_cons_succ])
    | (refine walksR_alt ?_ ?_)
    | (refine walksR_main rfl rfl (fun K hK => ?_); go_wp2_with (fail); refine hK _ _ (by first | assumption | exact Pre.refl _ _ | exact Hid.out HPS _ _ (Same.alloc_of (Hid.out HSR) _) | exact Hid.out HPS _ _ (Same.set_of (Hid.out HNE) _)) ?_; clear hK K; try simp only [Act.put, List.setIfInBounds_toArray, List.set_cons_zero, List.set_cons_succ]))
  all_goals
    refine walksR_done ?_
    go_wp2
    refine bodyPost_ret (v := .tuple #[]) (by kernel_rfl) rfl ⟨rfl, es, clock, HES.out, HSZ.out, ?_⟩
    have hb8 := HGR.out
    have hb9 := HBD.out.ext
    exact ⟨hb8.os.trans hb9.os, hb8.tape.trans hb9.tape, hb8.output.trans hb9.output, Nat.le_trans hb9.size hb8.size, fun k hk hn => (hb8.block k (Nat.lt_of_lt_of_le hk hb9.size) hn).trans (hb9.block k hk)⟩
end Go.Proofs.YtencmdpjiafnaaaGreatDoor
/- The walks of the tree's Add at awake's attributes, and of awake. -/
namespace Go.Proofs.YtencmdpjiafnaaaGreatDoor
open Go.RowKit
open Go.Maps Go.MapKept
set_option maxRecDepth 100000
set_option linter.unusedSimpArgs false
set_option linter.unusedVariables false

theorem Row.lit2 {α : Type} {E : Elem α} {w : World} {vss : List (List Value)} {l : List α} (h : ∀ (i : Nat) v x, vss[i]? = some v → l[i]? = some x → E.R (fun _ => True) w v x) (hl : vss.length = l.length) (hm : l.length ≤ maxLen) (t : TypeId) :
    Row E (fun _ => True) (w.alloc (.cells vss.flatten.toArray t)) (some ⟨w.heap.size, 0, none⟩) l.length l.length l := by
  have hx : Ext w (w.alloc (.cells vss.flatten.toArray t)) := Ext.alloc _ _
  refine ⟨rfl, Nat.le_refl _, hm, vss, hl, .inr ⟨w.heap.size, 0, rfl, trivial, fun j u hj => ?_⟩, fun i v x hi hxx => ?_⟩
  · rw [Nat.zero_add, cell_of_row _ _ j vss.flatten.toArray t (0, 0) (heap_alloc_new w _)]
    simpa using hj
  · exact (E.same (E.mono (h i v x hi hxx) (T := fun b => True ∧ b < w.heap.size) (fun b hb _ => ⟨trivial, hb⟩)) fun b hb => hx.block b hb.2) |> fun q => E.mono q fun _ _ _ => trivial
theorem above_root (p : Option Addr) (w : World) : Calls Tryz.prog 28 #[.pointer p, .string ⟨#[]⟩] w fun e w' => e = .returned (.int .i64 0) ∧ Ext w w' := by
  go_enter Tryz.func28, Tryz.ntmps28
  go_wp2
  go_ret
  exact ⟨rfl, Ext.refl _⟩
theorem len_empty {w : World} {B : Nat} (hb : w.heap[B]? = some (.map #[] 0)) : (Builtin.len_ #[61] 3 #[.map (some B)]).run Tryz.prog w = .ok (.int .i64 0) w := by
  have := MapKept.run_getObj_map (P := Tryz.prog) hb
  simp [Builtin.len_, run_underlying Tryz.underlying61, this, Result.andThen]
  rfl
theorem wake_parent : parentS [100, 99, 61, 120] = ([], true) := by decide +kernel
set_option maxHeartbeats 4000000 in
theorem tadd_wake {S : Nat → Prop} {A : Option Addr} {c : Nat} {w : World} (h : Row Elem.att S w A 2 c [wakeOC, wakeDC]) (hG : Gl w) (g B : Nat) (hg : w.heap[g]? = some (.cells #[.map (some B)] 63 (0, 0))) (hb : w.heap[B]? = some (.map #[] 0)) :
    Calls Tryz.prog 24 #[.pointer (some ⟨g, 0, none⟩), .string ⟨#[100, 99, 61, 120]⟩, .slice A 2 c] w fun e w' => e = .returned (.int .i64 0) ∧ ∃ es clock, w'.heap[B]? = some (.map es clock) ∧ es.size = 1 ∧ w.grownBy w' (some B) := by
  have HMK := make_wake h hG
  have HG := hid hG
  have HGG := hid hg
  have HGB := hid hb
  have hgl := row_lt hg
  have hbl : B < w.heap.size := (Array.getElem?_eq_some_iff.1 hb).1
  have HGL := hid hgl
  have HBL := hid hbl
  have HPA : ∀ w', Gl w' → Calls Tryz.prog 27 #[.string ⟨#[100, 99, 61, 120]⟩] w' fun e w'' => e = .returned (.tuple #[.string ⟨#[]⟩, .bool true]) ∧ Ext w' w'' := fun w' hG => by
    have := dnparent_any ⟨#[100, 99, 61, 120]⟩ w' hG
    unfold ParentSays at this
    rw [show bys ⟨#[100, 99, 61, 120]⟩ = [100, 99, 61, 120] from rfl, wake_parent] at this
    exact this
  clear h hG hg hb hgl hbl
  go_enter Tryz.func24, Tryz.ntmps24
  go_wp2_with (go_at_call 51; (with_reducible refine HMK.mono ?_); rintro e w1 ⟨A2, n2, c2, rfl, hx1⟩; have HX1 := hid hx1; have HB1 := hid (Bx.make hx1 #[.string ⟨#[100, 99, 61, 120]⟩, .slice A2 n2 c2] 38); clear hx1)
  obtain ⟨S9, hS9⟩ : ∃ S : Nat → Prop, S = fun b => b < w1.heap.size + 1 := ⟨_, rfl⟩
  have HSI : Hid (∀ b, S9 b → b < w1.heap.size + 1) := fun b hb => by rw [hS9] at hb; exact hb
  have HS1 : Hid (S9 w1.heap.size) := by show S9 _; rw [hS9]; show _ < _; omega
  have HS2 : Hid (S9 g) := by show S9 _; rw [hS9]; show _ < _; have h1 := HX1.out.size; have h2 := HGL.out; omega
  have HS3 : Hid (S9 B) := by show S9 _; rw [hS9]; show _ < _; have h1 := HX1.out.size; have h2 := HBL.out; omega
  obtain ⟨PR, hPR⟩ : ∃ p, p = Pre.same S9 := ⟨_, rfl⟩
  have HPS : Hid (∀ w w', Same S9 w w' → PR.r w w') := fun w w' h => by rw [hPR]; exact h
  have HPT : Hid (∀ w w', PR.r w w' → Same S9 w w') := fun w w' h => by rw [hPR] at h; exact h
  clear hPR hS9
  refine wp_region_planR PR (.read 0 (.read 1 (.read 2 (.read 3 (.read 4 (.read 5 (.read 6 (.read 7 (.read 8 (.read 9 (.main 10 (.main 11 (.read 12 .done))))))))))))) (by kernel_rfl) (by kernel_rfl) ?_
  intro wD hxD
  have XR : Hid (PR.r wD wD) := PR.refl _
  have HBD := hid (HB1.out.later hxD)
  have HGD := hid (row_later' HGG.out HBD.out.ext)
  have HMD : Hid (wD.heap[B]? = some (.map #[] 0)) := by show _ = _; rw [HBD.out.ext.block B HBL.out]; exact HGB.out
  have HSR : Hid (∀ b, S9 b → b < wD.heap.size) := fun b hb => by have h1 := HSI.out b hb; have h2 := hxD.size; simp only [World.alloc, Array.size_push] at h2; omega
  have HNE : Hid (∀ b, S9 b → b ≠ wD.heap.size) := fun b hb => by have h1 := HSR.out b hb; omega
  have ce0 : ∀ w', PR.r wD w' → w'.cell? ⟨w1.heap.size, 0, none⟩ = some (.string ⟨#[100, 99, 61, 120]⟩) := fun w' hk => by rw [World.cell?_of_block (HPT.out _ _ hk _ HS1.out)]; exact HBD.out.cell (i := 0) rfl
  have cg : ∀ w', PR.r wD w' → w'.cell? ⟨g, 0, none⟩ = some (.map (some B)) := fun w' hk => by rw [World.cell?_of_block (HPT.out _ _ hk _ HS2.out), cell_of_row wD g 0 _ _ (0, 0) HGD.out]; rfl
  have hlk : ∀ w', PR.r wD w' → (Instr.lookup 61 (.map (some B)) (.string ⟨#[100, 99, 61, 120]⟩) true).run Tryz.prog w' = .ok (.tuple #[.agg #[.string ⟨#[]⟩, .slice none 0 0], .bool false]) w' := fun w' hk => look_empty (by rw [HPT.out _ _ hk _ HS3.out]; exact HMD.out) _ (by decide)
  repeat' (first
    | (refine walksR_move rfl rfl ?_; simp only [Act.put, Act.eval, List.setIfInBounds_toArray, List.set_cons_zero, List.set_cons_succ, Array.getD_eq_getD_getElem?, List.getElem?_toArray, List.getElem?_cons_zero, List.getElem?_cons_succ, Option.getD_some])
    | (refine walksR_assign rfl rfl ?_; simp only [Act.put, Act.eval, List.setIfInBounds_toArray, List.set_cons_zero, List.set_cons_succ, Array.getD_eq_getD_getElem?, List.getElem?_toArray, List.getElem?_cons_zero, List.getElem?_cons_succ, Option.getD_some])
    | (refine walksR_skip rfl rfl ?_; simp only [Act.put, List.setIfInBounds_toArray, List.set_cons_zero, List.set_cons_succ])
    | (refine walksR_unwanted rfl rfl ?_; simp only [Act.put, List.setIfInBounds_toArray, List.set_cons_zero, List.set_cons_succ])
    | (refine walksR_read (v := ?_) rfl rfl (fun w' hE => ?_) ?_; rotate_left 1; (· ((try (have hEx := Pre.trans _ (Hid.out XR) hE)); go_simp; (try go_bits); with_reducible rfl)); simp only [Act.put, List.setIfInBounds_toArray, List.set_cons_zero, List.set_cons_succ])
    | (refine walksR_alt ?_ ?_)
    | (refine walksR_main rfl rfl (fun K hK => ?_); go_wp2_with (fail); refine hK _ _ (by first | assumption | exact Pre.refl _ _ | exact Hid.out HPS _ _ (Same.alloc_of (Hid.out HSR) _) | exact Hid.out HPS _ _ (Same.set_of (Hid.out HNE) _)) ?_; clear hK K; try simp only [Act.put, List.setIfInBounds_toArray, List.set_cons_zero, List.set_cons_succ]))
  all_goals
    refine walksR_done ?_
    have HB2 := hid (HBD.out.later (Ext.alloc wD (.cells #[.string ⟨#[]⟩, .slice none 0 0] 38)))
    have p0 := HB2.out.cell (i := 0) rfl
    clear XR cg ce0 hlk
    go_wp2_with (first
      | (go_at_call 27; (with_reducible refine (HPA _ (HG.out.ext HB2.out.ext)).mono ?_); rintro e w5 ⟨rfl, hx5⟩; have HB3 := hid (HB2.out.later hx5); clear hx5)
      | (go_at_call 28; (with_reducible refine (above_root (some ⟨g, 0, none⟩) _).mono ?_); rintro e w6 ⟨rfl, hx6⟩; have HB4 := hid (HB3.out.later hx6); have HG6 := hid (row_later' HGG.out HB4.out.ext); have HM6 : Hid (w6.heap[B]? = some (.map #[] 0)) := (by (show _ = _); rw [HB4.out.ext.block B HBL.out]; exact HGB.out); have cg := cell_of_row w6 g 0 _ _ (0, 0) HG6.out; have hlen := len_empty HM6.out; have q0 := HB4.out.cell (i := 0) rfl; have q1 := HB4.out.cell (i := 1) rfl; have HST := tset_any g B ⟨#[100, 99, 61, 120]⟩ A2 n2 c2 w6 (by decide) HG6.out HM6.out; unfold PutSays at HST; clear hx6)
      | (go_at_call 52; (with_reducible refine HST.mono ?_); rintro e w7 ⟨rfl, es, clock, h1, h2, h3⟩; have H1 := hid h1; have H2 := hid h2; have H3 := hid h3; clear h1 h2 h3))
    go_ret
    have h3 := H3.out
    have hx := HB4.out.ext
    exact ⟨rfl, es, clock, H1.out, H2.out, ⟨h3.os.trans hx.os, h3.tape.trans hx.tape, h3.output.trans hx.output, Nat.le_trans hx.size h3.size, fun k hk hn => (h3.block k (Nat.lt_of_lt_of_le hk hx.size) hn).trans (hx.block k hk)⟩⟩
theorem wake_rows {w1 w2 w3 w4 : World} (e2 : w2 = w1.alloc (.cells #[.string ⟨#[111]⟩] 9)) (e3 : w3 = w2.alloc (.cells #[.string ⟨#[120]⟩] 9))
    (e4 : w4 = w3.alloc (.cells #[.string ⟨#[111, 98, 106, 101, 99, 116, 67, 108, 97, 115, 115]⟩, .slice (some ⟨w1.heap.size, 0, none⟩) 1 1, .string ⟨#[100, 99]⟩, .slice (some ⟨w1.heap.size + 1, 0, none⟩) 1 1] 60)) :
    Ext w1 w4 ∧ Row Elem.att (fun _ => True) w4 (some ⟨w1.heap.size + 1 + 1, 0, none⟩) 2 2 [wakeOC, wakeDC] := by
  have s2 : w2.heap.size = w1.heap.size + 1 := by rw [e2]; simp
  have x2 : Ext w1 w2 := by rw [e2]; exact Ext.alloc _ _
  have s3 : w3.heap.size = w1.heap.size + 1 + 1 := by rw [e3]; simp [s2]
  have x3 : Ext w2 w3 := by rw [e3]; exact Ext.alloc _ _
  have x4 : Ext w3 w4 := by rw [e4]; exact Ext.alloc _ _
  have r1 : Row Elem.str (fun _ => True) w2 (some ⟨w1.heap.size, 0, none⟩) 1 1 [⟨#[111]⟩] := by rw [e2]; exact Row.one (E := Elem.str) (S := fun _ => True) (v := [.string ⟨#[111]⟩]) rfl _
  have r2 : Row Elem.str (fun _ => True) w3 (some ⟨w1.heap.size + 1, 0, none⟩) 1 1 [⟨#[120]⟩] := by rw [e3, ← s2]; exact Row.one (E := Elem.str) (S := fun _ => True) (v := [.string ⟨#[120]⟩]) rfl _
  have q1 := r1.ext x3
  refine ⟨x2.trans (x3.trans x4), ?_⟩
  rw [e4, ← s3]
  refine Row.lit2 (E := Elem.att) (vss := [[.string ⟨#[111, 98, 106, 101, 99, 116, 67, 108, 97, 115, 115]⟩, .slice (some ⟨w1.heap.size, 0, none⟩) 1 1], [.string ⟨#[100, 99]⟩, .slice (some ⟨w1.heap.size + 1, 0, none⟩) 1 1]]) (l := [wakeOC, wakeDC]) (fun i v x hv hx => ?_) rfl (by decide) _
  rcases i with _ | _ | i
  · simp at hv hx; subst hv hx; exact ⟨_, _, _, rfl, q1⟩
  · simp at hv hx; subst hv hx; exact ⟨_, _, _, rfl, r2⟩
  · simp at hv
set_option maxHeartbeats 1000000 in
theorem awake10_any (w : World) (hG : Gl w) : Calls Tryz.prog 6 #[] w fun e w' => e = .returned (.bool true) ∧ Ext w w' := by
  have HNW := new_any w
  unfold NewSays at HNW
  have HAD : ∀ (g B : Nat) (A : Option Addr) w1 w4, Ext w w1 → Ext w1 w4 ∧ Row Elem.att (fun _ => True) w4 A 2 2 [wakeOC, wakeDC] → w1.heap[g]? = some (.cells #[.map (some B)] 63 (0, 0)) → w1.heap[B]? = some (.map #[] 0) →
      Calls Tryz.prog 24 #[.pointer (some ⟨g, 0, none⟩), .string ⟨#[100, 99, 61, 120]⟩, .slice A 2 2] w4 fun e w' => e = .returned (.int .i64 0) ∧ ∃ es clock, w'.heap[B]? = some (.map es clock) ∧ es.size = 1 ∧ w4.grownBy w' (some B) :=
    fun g B A w1 w4 hx hh hg hb => tadd_wake hh.2 (hG.ext (hx.trans hh.1)) g B (row_later' hg hh.1) (by rw [hh.1.block B (Array.getElem?_eq_some_iff.1 hb).1]; exact hb)
  clear hG
  go_enter Tryz.func6, Tryz.ntmps6
  go_wp2_with (first
    | (go_at_call 23; (with_reducible refine HNW.mono ?_); rintro e w1 ⟨g, B, rfl, hg, hb, hB, hgB, hx1⟩; have HX1 := hid hx1; have HGT := hid hg; have HMB := hid hb; have HBW := hid hB; have HGB := hid hgB; clear hg hb hB hgB hx1)
    | (go_at_call 24; (with_reducible refine (HAD g B _ w1 _ HX1.out (wake_rows rfl rfl rfl) HGT.out HMB.out).mono ?_); rintro e w5 ⟨rfl, es, clock, h1, h2, h3⟩; have HXW := hid ((wake_rows (w1 := w1) rfl rfl rfl).1); have H3 := hid h3; have HG5 : Hid (w5.heap[g]? = some (.cells #[.map (some B)] 63 (0, 0))) := (by (show _ = _); rw [h3.block g (Nat.lt_of_lt_of_le (row_lt HGT.out) HXW.out.size) (fun e => by injection e with e; have := HGB.out; omega)]; exact row_later' HGT.out HXW.out); have HLN := hid (len_any g B es clock w5 HG5.out h1 h2); clear h1 h2 h3)
    | (go_at_call 21; (with_reducible refine HLN.out.mono ?_); rintro e w6 ⟨rfl, hx6⟩; have HX6 := hid hx6; clear hx6))
  go_ret
  refine ⟨rfl, ?_⟩
  have hx4 := HX1.out.trans HXW.out
  have h3 := H3.out
  have hx5 : Ext w w5 := Below.grown hx4 h3 hx4.size (fun k hk => by injection hk with hk; have := HBW.out; omega)
  exact hx5.trans HX6.out
end Go.Proofs.YtencmdpjiafnaaaGreatDoor
/- The walk of vergerlaw10's Few at a script of one op: it answers. -/
namespace Go.Proofs.YtencmdpjiafnaaaGreatDoor
open Go.RowKit
set_option maxRecDepth 100000
set_option linter.unusedSimpArgs false
set_option linter.unusedVariables false

/-- A new block of one element; where it leads. -/
theorem Row.one_in {α : Type} {E : Elem α} {S : Nat → Prop} {w : World} {v : List Value} {x : α} (h : E.R S w v x) (t : TypeId) :
    Row E (fun b => (S b ∧ b < w.heap.size) ∨ b = w.heap.size) (w.alloc (.cells v.toArray t)) (some ⟨w.heap.size, 0, none⟩) 1 1 [x] := by
  have hx : Ext w (w.alloc (.cells v.toArray t)) := Ext.alloc _ _
  refine ⟨rfl, Nat.le_refl _, by simp [maxLen], [v], rfl, .inr ⟨w.heap.size, 0, rfl, .inr rfl, fun j u hj => ?_⟩, fun i v' x' hi hx' => ?_⟩
  · rw [Nat.zero_add, cell_of_row _ _ j v.toArray t (0, 0) (heap_alloc_new w _)]
    simpa using hj
  · rcases i with _ | i
    · simp at hi hx'
      subst hi hx'
      have h1 : E.R (fun b => S b ∧ b < w.heap.size) w v x := E.mono h fun b hb hS => ⟨hS, hb⟩
      exact E.mono (E.same h1 fun b hb => hx.block b hb.2) fun _ _ hb => .inl hb
    · simp at hi
theorem infoEnt' : (Tryz.prog.info? 38).map (fun i => (i.zero, i.size, i.bytes)) = some (some (.agg #[.string ByteArray.empty, .slice none 0 0]), Elem.ent.k, 40) := by kernel_rfl
/-- .. and of what size an op's part is then. -/
def FewSays (w : World) (o : Opr) (e : Ending) (w' : World) : Prop := ∃ b : Bool, e = .returned (.bool b) ∧ (b = true → o.part.size ≤ 3000) ∧ Ext w w'
theorem FewSays.of {w w' : World} {o : Opr} {e : Ending} {b : Bool} (h : e = .returned (.bool b)) (k : b = true → o.part.size ≤ 3000) (hx : Ext w w') : FewSays w o e w' := ⟨b, h, k, hx⟩
set_option maxHeartbeats 8000000 in
theorem few10_any {S : Nat → Prop} {X : Option Addr} {c1 : Nat} {o : Opr} {w : World} (h : Row Elem.opr S w X 1 c1 [o]) (hk : o.chgs.length ≤ 2000000) (hp : o.part.size ≤ 2000000) (hq : o.sup.size ≤ 2000000) :
    Calls Tryz.prog 19 #[.slice X 1 c1] w (FewSays w o) := by
  have HR := hid h
  have HK := hid hk
  have HPZ := hid hp
  have HQZ := hid hq
  clear h hk hp hq
  go_enter Tryz.func19, Tryz.ntmps19
  go_wp2
  go_loopw [3, 9] (fun v i wr => ∃ (j : Nat) (l' : List Ent), j ≤ 1 ∧ i = .int .i64 j ∧ Hid (GrowM Elem.ent (fun _ => True) 38 none w wr v l') ∧ Hid (j = 0 → l' = []) ∧ Hid (j = 1 → o.part.size ≤ 3000)) (fun _ i _ => 1 - (intOf i).toNat)
  case atStart => exact ⟨0, [], by omega, rfl, GrowM.nil (Ext.refl _) (fun g hg => by cases hg), fun _ => rfl, fun h => by cases h⟩
  case round =>
    obtain ⟨j, l', hj, rfl, HGR, HZ, HSZ⟩ := hrel
    by_cases hlt : j < 1
    · obtain rfl : j = 0 := by omega
      obtain rfl := HZ.out rfl
      clear HZ
      obtain ⟨b1, o1, v1, x1, rfl, g1, -, ⟨A, n, c, B, m, d, rfl, ra, rc⟩, q1⟩ := HR.out.at_ (i := 0) (by omega)
      obtain rfl : x1 = o := by simpa using g1.symm
      have e10 := cell_later (q1 0 _ rfl) _ HGR.out.ext
      have e11 := cell_later (q1 1 _ rfl) _ HGR.out.ext
      have e12 := cell_later (q1 2 _ rfl) _ HGR.out.ext
      have e13 := cell_later (q1 3 _ rfl) _ HGR.out.ext
      have e14 := cell_later (q1 4 _ rfl) _ HGR.out.ext
      have e15 := cell_later (q1 5 _ rfl) _ HGR.out.ext
      have e16 := cell_later (q1 6 _ rfl) _ HGR.out.ext
      have e17 := cell_later (q1 7 _ rfl) _ HGR.out.ext
      simp only [Elem.opr, Nat.add_zero, Nat.zero_mul] at e10 e11 e12 e13 e14 e15 e16 e17
      have RA := hid ra
      have RC := hid rc
      have HLN := hid rc.len
      have hm : m ≤ 9223372036854775807 := by have := rc.cap; have := rc.most; simp only [maxLen] at this; omega
      have HB0 := hid (Bx.make HGR.out.ext #[.int .i64 x1.kind, .string x1.name, .string x1.part, .string x1.sup, .bool x1.flag, .bool x1.has, .slice A n c, .slice B m d] 48)
      have HNE := hid (HGR.out.ne (Nat.le_refl _))
      have HG1 := hid ((HGR.out.later (Ext.alloc wr (.cells #[.int .i64 x1.kind, .string x1.name, .string x1.part, .string x1.sup, .bool x1.flag, .bool x1.has, .slice A n c, .slice B m d] 48))).aside (ext_sz HGR.out.ext) HB0.out.lt HNE.out)
      have HE1 := hid (HG1.out.old (S' := S) (fun _ _ _ => trivial) (u := [.string x1.name, .slice A n c]) (x := (⟨x1.name, x1.atts⟩ : Ent)) ⟨A, n, c, rfl, RA.out⟩)
      clear q1 g1 ra rc
      go_wp2_with (at_builtin; refine append_m1 Tryz.underlying22 infoEnt' rfl (by decide) rfl _ _ rfl _ _ rfl HG1.out (u := [.string x1.name, .slice A n c]) ⟨x1.name, x1.atts⟩ HE1.out (by intro c hc; simp at hc; rcases hc with rfl | rfl <;> rfl) rfl (by simp) (by simp) ?_; intro v' w3 hg3 k1 k2; have HG3 := hid hg3; have HB3 := hid ((HB0.out.later (Ext.alloc _ (.cells #[.string x1.name, .slice A n c] 38))).grown k1 HNE.out k2); have p7 := HB3.out.cell (i := 7) rfl; clear hg3 k1 k2)
      · go_ret
        exact FewSays.of rfl (fun h => by cases h) HB0.out.ext
      · rename_i hwr
        have HPS : Hid (x1.part.size ≤ 3000) := by show _ ≤ _; have h1 := HPZ.out; have h2 := HQZ.out; unfold wrap64 at hwr; omega
        clear hwr
        clear HG1 HE1
        obtain ⟨wo, hwo⟩ : ∃ x, x = wr := ⟨_, rfl⟩
        subst hwo
        go_loopw [3, 39] (fun v i wr => ∃ (k : Nat) (l' : List Ent), k ≤ m ∧ i = .int .i64 k ∧ Hid (GrowM Elem.ent (fun _ => True) 38 (some wo.heap.size) w wr v l') ∧ Hid (l'.length = k + 1) ∧ Hid (Bx w wr wo.heap.size 48 #[.int .i64 x1.kind, .string x1.name, .string x1.part, .string x1.sup, .bool x1.flag, .bool x1.has, .slice A n c, .slice B m d])) (fun _ i _ => m - (intOf i).toNat)
        case atStart => exact ⟨0, _, by omega, rfl, HG3.out, by simp [Hid], HB3.out⟩
        case round =>
          obtain ⟨k, l', hk, rfl, HG, HL, HB⟩ := hrel
          have p7 := HB.out.cell (i := 7) rfl
          by_cases hlt2 : k < m
          · obtain ⟨b2, o2, v2, x2, rfl, g2, -, ⟨A2, n2, c2, rfl, r2⟩, q2⟩ := RC.out.at_ hlt2
            have e20 := cell_later (q2 0 _ rfl) _ HG.out.ext
            have e21 := cell_later (q2 1 _ rfl) _ HG.out.ext
            have e22 := cell_later (q2 2 _ rfl) _ HG.out.ext
            simp only [Elem.chg, Nat.add_zero] at e20 e21 e22
            have HA1 := hid (Row.one_in (E := Elem.att) (S := fun b => S b ∧ b < w.heap.size) (w := wr) (v := [.string x2.att.type, .slice A2 n2 c2]) (x := x2.att) ⟨A2, n2, c2, rfl, (r2.lt).ext HG.out.ext⟩ 60)
            have HG1 := hid (HG.out.later (Ext.alloc wr (.cells #[.string x2.att.type, .slice A2 n2 c2] 60)))
            have HE1 := hid (HG.out.new (w1 := wr.alloc (.cells #[.string x2.att.type, .slice A2 n2 c2] 60)) (S' := fun b => ((S b ∧ b < w.heap.size) ∧ b < wr.heap.size) ∨ b = wr.heap.size) (fun _ _ _ => trivial) (fun b hb => by rcases hb with hb | hb; exact .inl hb.1.2; exact .inr (by omega)) (u := [.string ⟨#[]⟩, .slice (some ⟨wr.heap.size, 0, none⟩) 1 1]) (x := (⟨⟨#[]⟩, [x2.att]⟩ : Ent)) ⟨_, _, _, rfl, HA1.out⟩)
            have HNE2 := hid (HG1.out.ne (Nat.le_refl _))
            have HNB := hid (HG.out.apart _ rfl).1
            have hl2 : l'.length ≤ 4000000 := by have := HL.out; have := HK.out; have := HLN.out; omega
            have HLT := hid hl2
            clear q2 g2 r2 hl2
            go_wp2_with (at_builtin; refine append_m1 Tryz.underlying22 infoEnt' rfl (by decide) rfl _ _ rfl _ _ rfl HG1.out (u := [.string ⟨#[]⟩, .slice (some ⟨wr.heap.size, 0, none⟩) 1 1]) ⟨⟨#[]⟩, [x2.att]⟩ HE1.out (by intro c hc; simp at hc; rcases hc with rfl | rfl <;> rfl) rfl (by simp) HLT.out ?_; intro v' w3 hg3 k1 k2; have HG5 := hid hg3; have HB5 := hid (((HB.out.later (Ext.alloc _ _)).later (Ext.alloc _ _)).grown k1 HNB.out k2); clear hg3 k1 k2)
            exact ⟨⟨k + 1, _, by omega, by go_num, HG5, by show _ = _; rw [List.length_append, HL.out]; rfl, HB5.out⟩, by simp [intOf]; omega⟩
          · obtain rfl : k = m := by omega
            go_wp2
            exact ⟨⟨1, l', by omega, by go_num, HG.out.free, fun h => by omega, fun _ => HPS.out⟩, by simp [intOf]⟩
    · obtain rfl : j = 1 := by omega
      obtain ⟨A2, c2, rfl, hr2⟩ := HGR.out.row
      have HSM : ∀ w', Ext wr w' → Calls Tryz.prog 7 #[.slice A2 l'.length c2] w' (BoolSays w') := fun w' hx => rsmall09_any (hr2.ext hx)
      unfold BoolSays at HSM
      clear hr2
      go_wp2_with (go_at_call 7; (with_reducible refine (HSM _ (Ext.refl _)).mono ?_); rintro e w7 ⟨b7, rfl, hx7⟩; have HX7 := hid (HGR.out.ext.trans hx7); clear hx7)
      go_ret
      exact FewSays.of rfl (fun _ => by have h := HSZ.out; simpa using h) HX7.out
end Go.Proofs.YtencmdpjiafnaaaGreatDoor
