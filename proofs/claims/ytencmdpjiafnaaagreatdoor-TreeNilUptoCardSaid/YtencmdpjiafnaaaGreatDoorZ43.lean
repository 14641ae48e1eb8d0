import Derived.Test.YtencmdpjiafnaaaGreatDoorZ38
import Derived.Test.YtencmdpjiafnaaaGreatDoorZ40
import Derived.Test.YtencmdpjiafnaaaGreatDoorZ41
import Derived.Test.YtencmdpjiafnaaaGreatDoorZ42
/- The reference's Sorted at one entry, and Add on the empty tree. -/
namespace Go.Proofs.YtencmdpjiafnaaaGreatDoor
open Go.RowKit
set_option maxRecDepth 100000
set_option linter.unusedSimpArgs false
set_option linter.unusedVariables false

/-- Two cells, as they are. -/
def Elem.raw : Elem (Value × Value) := ⟨2, by decide, fun _ _ v x => v = [x.1, x.2], fun h => by rw [h]; rfl, fun h _ => h, fun h _ => h⟩
theorem infoRawE : (Tryz.prog.info? 38).map (fun i => (i.zero, i.size, i.bytes)) = some (some (.agg #[.string ByteArray.empty, .slice none 0 0]), Elem.raw.k, 40) := by kernel_rfl
theorem infoRawK : (Tryz.prog.info? 101).map (fun i => (i.zero, i.size, i.bytes)) = some (some (.agg #[.slice none 0 0, .bool false]), Elem.raw.k, 32) := by kernel_rfl
def SomeSlice (w : World) (e : Ending) (w' : World) : Prop := ∃ A n c, e = .returned (.slice A n c) ∧ Ext w w'
theorem SomeSlice.of {w w' : World} {e : Ending} {A : Option Addr} {n c : Nat} (h : e = .returned (.slice A n c)) (hx : Ext w w') : SomeSlice w e w' := ⟨A, n, c, h, hx⟩
set_option maxHeartbeats 8000000 in
theorem sorted_one (b o c1 : Nat) (nm : ByteArray) (A : Option Addr) (n c : Nat) (w : World) (hG : Gl w) (h0 : w.cell? ⟨b, o, none⟩ = some (.string nm)) (h1 : w.cell? ⟨b, o + 1, none⟩ = some (.slice A n c)) :
    Calls Tryz.prog 34 #[.slice (some ⟨b, o, none⟩) 1 c1] w (SomeSlice w) := by
  have HP := rparts_any nm
  unfold TextsSays at HP
  have HG := hid hG
  have H0 := hid h0
  have H1 := hid h1
  clear hG h0 h1
  generalize okL (partsB (bys nm)) = pl at *
  generalize codeR (partsB (bys nm)) = cd at *
  go_enter Tryz.func34, Tryz.ntmps34
  go_wp2
  go_loopw [3, 4, 14] (fun u v i wr => ∃ (j : Nat), j ≤ 1 ∧ i = .int .i64 j ∧ (∃ A n c, u = .slice A n c) ∧ (j = 0 → u = .slice none 0 0 ∧ v = .slice none 0 0) ∧ Hid (Ext w wr)) (fun _ _ i _ => 1 - (intOf i).toNat)
  case atStart => exact ⟨0, by omega, rfl, ⟨_, _, _, rfl⟩, fun _ => ⟨rfl, rfl⟩, Ext.refl _⟩
  case round =>
    obtain ⟨j, hj, rfl, ⟨A9, n9, c9, rfl⟩, hz, hx⟩ := hrel
    by_cases hlt : j < 1
    · obtain rfl : j = 0 := by omega
      obtain ⟨hz1, rfl⟩ := hz rfl
      injection hz1 with y1 y2 y3
      subst y1 y2 y3
      clear hz
      have e0 := cell_later H0.out _ hx.out
      go_wp2_with (go_at_call 66; (with_reducible refine (HP _ (HG.out.ext hx.out)).mono ?_); rintro e w1 ⟨A1, n1, c2, rfl, -, hx1⟩; have HX1 := hid (hx.out.trans hx1); clear hx1)
      go_loopw [9] (fun i wr => i = .int .i64 0 ∧ Hid (Bx w wr w1.heap.size 101 #[.slice A1 n1 c2, .bool (cd == 0)])) (fun _ _ => 0)
      case atStart => exact ⟨rfl, Bx.make HX1.out _ _⟩
      case round =>
        obtain ⟨rfl, HBK⟩ := hrel
        go_wp2
        refine wp_region_plan (.read 0 (.read 1 (.read 2 (.read 3 (.read 4 (.read 5 (.read 6 (.read 7 (.read 8 (.read 9 (.main 10 (.read 11 .done)))))))))))) (by kernel_rfl) (by kernel_rfl) ?_
        intro wD hxD
        have XE : Hid (Ext wD wD) := Ext.refl _
        repeat' (first
          | (refine walks_move rfl rfl ?_; simp only [Act.put, Act.eval, List.setIfInBounds_toArray, List.set_cons_zero, List.set_cons_succ, Array.getD_eq_getD_getElem?, List.getElem?_toArray, List.getElem?_cons_zero, List.getElem?_cons_succ, Option.getD_some])
          | (refine walks_assign rfl rfl ?_; simp only [Act.put, Act.eval, List.setIfInBounds_toArray, List.set_cons_zero, List.set_cons_succ, Array.getD_eq_getD_getElem?, List.getElem?_toArray, List.getElem?_cons_zero, List.getElem?_cons_succ, Option.getD_some])
          | (refine walks_skip rfl rfl ?_; simp only [Act.put, List.setIfInBounds_toArray, List.set_cons_zero, List.set_cons_succ])
          | (refine walks_unwanted rfl rfl ?_; simp only [Act.put, List.setIfInBounds_toArray, List.set_cons_zero, List.set_cons_succ])
          | (refine walks_read (v := ?_) rfl rfl (fun w' hE => ?_) ?_; rotate_left 1; (· ((try (have hEx := Ext.trans (Hid.out XE) hE)); go_simp; (try go_bits); with_reducible rfl)); simp only [Act.put, List.setIfInBounds_toArray, List.set_cons_zero, List.set_cons_succ])
          | (refine walks_alt ?_ ?_)
          | (refine walks_main rfl rfl (fun K hK => ?_); go_wp2_with (fail); refine hK _ _ (by first | assumption | exact Ext.alloc _ _ | exact Ext.refl _) ?_; clear hK K; try simp only [Act.put, List.setIfInBounds_toArray, List.set_cons_zero, List.set_cons_succ]))
        refine walks_done ?_
        have HB4 := hid (HBK.out.later hxD)
        clear XE hxD
        go_wp2
        refine wp_region_plan (.read 0 (.read 1 (.read 2 (.read 3 (.read 4 (.read 5 (.read 6 (.read 7 (.read 8 (.read 9 (.read 10 (.read 11 (.read 12 (.read 13 (.read 14 (.read 15 (.read 16 .done))))))))))))))))) (by kernel_rfl) (by kernel_rfl) ?_
        intro wD hxD
        have XE : Hid (Ext wD wD) := Ext.refl _
        repeat' (first
          | (refine walks_move rfl rfl ?_; simp only [Act.put, Act.eval, List.setIfInBounds_toArray, List.set_cons_zero, List.set_cons_succ, Array.getD_eq_getD_getElem?, List.getElem?_toArray, List.getElem?_cons_zero, List.getElem?_cons_succ, Option.getD_some])
          | (refine walks_assign rfl rfl ?_; simp only [Act.put, Act.eval, List.setIfInBounds_toArray, List.set_cons_zero, List.set_cons_succ, Array.getD_eq_getD_getElem?, List.getElem?_toArray, List.getElem?_cons_zero, List.getElem?_cons_succ, Option.getD_some])
          | (refine walks_skip rfl rfl ?_; simp only [Act.put, List.setIfInBounds_toArray, List.set_cons_zero, List.set_cons_succ])
          | (refine walks_unwanted rfl rfl ?_; simp only [Act.put, List.setIfInBounds_toArray, List.set_cons_zero, List.set_cons_succ])
          | (refine walks_read (v := ?_) rfl rfl (fun w' hE => ?_) ?_; rotate_left 1; (· ((try (have hEx := Ext.trans (Hid.out XE) hE)); go_simp; (try go_bits); with_reducible rfl)); simp only [Act.put, List.setIfInBounds_toArray, List.set_cons_zero, List.set_cons_succ])
          | (refine walks_alt ?_ ?_)
          | (refine walks_main rfl rfl (fun K hK => ?_); go_wp2_with (fail); refine hK _ _ (by first | assumption | exact Ext.alloc _ _ | exact Ext.refl _) ?_; clear hK K; try simp only [Act.put, List.setIfInBounds_toArray, List.set_cons_zero, List.set_cons_succ]))
        refine walks_done ?_
        have HB5 := hid (HB4.out.later hxD)
        have e0 := cell_later H0.out _ HB5.out.ext
        have e1 := cell_later H1.out _ HB5.out.ext
        have HGN := hid (GrowM.nil (E := Elem.raw) (S := fun _ => True) (T := 38) (L := none) (Ext.refl wD) (fun g hg => by cases hg))
        clear XE hxD
        go_wp2_with (at_builtin; first
          | (refine append_m1 Tryz.underlying99 infoRawK rfl (by decide) rfl _ _ rfl _ _ rfl HGM.out (u := [.slice A1 n1 c2, .bool (cd == 0)]) (.slice A1 n1 c2, .bool (cd == 0)) rfl (by intro c hc; simp at hc; rcases hc with rfl | rfl <;> rfl) rfl rfl (by simp) ?_; intro v7 w7 hg7 _ _; obtain ⟨A7, c7, hv7, -⟩ := hg7.row; have hv7' : v7 = .slice A7 1 c7 := hv7; subst hv7'; clear hv7; have HG7 := hid hg7; clear hg7)
          | (refine append_m Tryz.underlying99 infoRawK rfl (by decide) rfl _ _ rfl _ _ rfl HG7.out [] [] rfl (fun i u y hi _ => by simp at hi) (by simp) rfl rfl (Cells.nil _ _) (by simp) ?_; intro v8 w8 hg8 _ _; have HG8 := hid hg8; clear hg8)
          | (refine append_m1 Tryz.underlying22 infoRawE rfl (by decide) rfl _ _ rfl _ _ rfl HGN.out (u := [.string nm, .slice A n c]) (.string nm, .slice A n c) rfl (by intro c hc; simp at hc; rcases hc with rfl | rfl <;> rfl) rfl rfl (by simp) ?_; intro v5 w5 hg5 _ _; obtain ⟨A5, c5, hv5, -⟩ := hg5.row; have hv5' : v5 = .slice A5 1 c5 := hv5; subst hv5'; clear hv5; have HG5 := hid hg5; clear hg5)
          | (refine append_m Tryz.underlying22 infoRawE rfl (by decide) rfl _ _ rfl _ _ rfl HG5.out [] [] rfl (fun i u y hi _ => by simp at hi) (by simp) rfl rfl (Cells.nil _ _) (by simp) ?_; intro v6 w6 hg6 _ _; obtain ⟨A6, c6, hv6, -⟩ := hg6.row; have hv6' : v6 = .slice A6 1 c6 := hv6; subst hv6'; clear hv6; have HB6 := hid (HB5.out.later hg6.ext); have k0 := HB6.out.cell (i := 0) rfl; have k1 := HB6.out.cell (i := 1) rfl; have HGM := hid (GrowM.nil (E := Elem.raw) (S := fun _ => True) (T := 101) (L := none) (Ext.refl w6) (fun g hg => by cases hg)); clear hg6))
        exact ⟨⟨1, by omega, by go_num, ⟨_, _, _, rfl⟩, fun h => by omega, HB6.out.ext.trans HG8.out.ext⟩, by simp [intOf]⟩
    · obtain rfl : j = 1 := by omega
      go_wp2
      go_ret
      exact SomeSlice.of rfl hx.out
theorem GrowM.at0 {α : Type} {E : Elem α} {S : Nat → Prop} {T : TypeId} {w wr : World} {g : Nat} (hx : Ext w wr) (h : wr.heap[g]? = some (.cells #[] T (0, 0))) (hg : w.heap.size ≤ g) : GrowM E S T none w wr (.slice (some ⟨g, 0, none⟩) 0 0) ([] : List α) :=
  ⟨⟨[], rfl, ⟨by simp, .inr ⟨g, 0, #[], rfl, hg, h, Nat.le_refl _, by simp [maxLen], by simp, by simp⟩⟩, fun i u x h => by simp at h⟩, hx, fun g hg => by cases hg⟩
theorem raw_one {S : Nat → Prop} {w : World} {x y : Value} {i : Nat} {u : List Value} {z : Value × Value} (hu : [[x, y]][i]? = some u) (hz : [(x, y)][i]? = some z) : Elem.raw.R S w u z := by
  rcases i with _ | i
  · simp at hu hz
    subst hu hz
    rfl
  · simp at hu
/-- What a call leaves of the old blocks but one. -/
def GrownSays (w : World) (g : Nat) (e : Ending) (w' : World) : Prop := ∃ k : Int, e = .returned (.int .i64 k) ∧ w.grownBy w' (some g)
theorem grown_ext {w w' : World} (h : Ext w w') (r : Option Nat) : w.grownBy w' r := ⟨h.os, h.tape, h.output, h.size, fun b hb _ => h.block b hb⟩
theorem grown_set {w w1 : World} (h : Ext w w1) (g i : Nat) (v : Value) : w.grownBy (w1.setCell ⟨g, i, none⟩ v) (some g) :=
  ⟨h.os, h.tape, h.output, by rw [show (w1.setCell ⟨g, i, none⟩ v).heap.size = w1.heap.size by simp]; exact h.size, fun b hb hne => by rw [heap_setCell_other _ _ _ _ (fun e => hne (by rw [e]))]; exact h.block b hb⟩
theorem GrownSays.of {w w' : World} {g : Nat} {e : Ending} {k : Int} (h : e = .returned (.int .i64 k)) (hx : w.grownBy w' (some g)) : GrownSays w g e w' := ⟨k, h, hx⟩
section
variable {w w0 : World} {o : Oper} {a : Act} {K : Act → World → Prop} {Q : Exit → Act → World → Prop}
theorem litsE0_wp (ho : o.op = .buildSlice 22 0 #[])
    (h : ∀ g w', g = w.heap.size → Ext w w' → w'.heap[g]? = some (.cells #[] 38 (0, 0)) → K (a.put o.dst (.slice (some ⟨g, 0, none⟩) 0 0)) w') : o.wp Tryz.prog a w K Q := by
  have hr : (execOp a.eval o).run Tryz.prog w = .ok (.value (.slice (some ⟨w.heap.size, 0, none⟩) 0 0)) (w.alloc (.cells #[] 38)) := by
    unfold execOp
    simp only [ho]
    kernel_rfl
  unfold Oper.wp
  rw [hr]
  exact h _ _ rfl (Ext.alloc _ _) (heap_alloc_new w _)
theorem litsE1_wp {s1 : ByteArray} {A1 : Option Addr} {n1 c1 : Nat} (v0 : Operand) (ho : o.op = .buildSlice 22 1 #[(0, v0)]) (hv : a.eval v0 = .agg #[.string s1, .slice A1 n1 c1])
    (h : ∀ g w', g = w.heap.size → Ext w w' → w'.heap[g]? = some (.cells #[.string s1, .slice A1 n1 c1] 38 (0, 0)) → K (a.put o.dst (.slice (some ⟨g, 0, none⟩) 1 1)) w') : o.wp Tryz.prog a w K Q := by
  have hr : (execOp a.eval o).run Tryz.prog w = .ok (.value (.slice (some ⟨w.heap.size, 0, none⟩) 1 1)) (w.alloc (.cells #[.string s1, .slice A1 n1 c1] 38)) := by
    unfold execOp
    simp only [ho, List.map_toArray, List.map_cons, List.map_nil, hv]
    kernel_rfl
  unfold Oper.wp
  rw [hr]
  exact h _ _ rfl (Ext.alloc _ _) (heap_alloc_new w _)
end
set_option maxHeartbeats 8000000 in
theorem radd_nil {S : Nat → Prop} {A : Option Addr} {n c : Nat} {l : List Att} {w : World} (h : Row Elem.att S w A n c l) (s : ByteArray) (g : Nat) (hG : Gl w) (hl : l.length ≤ 1048576) (hv : ∀ a ∈ l, AttOk a)
    (hg : w.heap[g]? = some (.cells #[.slice none 0 0] 54 (0, 0))) :
    Calls Tryz.prog 43 #[.pointer (some ⟨g, 0, none⟩), .string s, .slice A n c] w (GrownSays w g) := by
  have HMK := rmake_any h s hG hl hv
  unfold RMakeSays at HMK
  have HG := hid hG
  have hc : w.cell? ⟨g, 0, none⟩ = some (.slice none 0 0) := by rw [cell_of_row w g 0 _ _ (0, 0) hg]; rfl
  have HC := hid hc
  have HGB := hid hg
  have HA : ∀ q w, Gl w → Calls Tryz.prog 30 #[.slice none 0 0, .string q] w fun e w' => e = .returned (.int .i64 (-1)) ∧ Ext w w' := fun q w hG => at_nil q w hG
  have HPN : ∀ (q : ByteArray) w', Ext w w' → Calls Tryz.prog 76 #[.pointer (some ⟨g, 0, none⟩), .string q] w' (IntSays' w') := fun q w' hx => parent_nil q g w' (HG.out.ext hx) (cell_later HC.out _ hx)
  unfold IntSays' at HPN
  have HPA : ∀ q w, Gl w → Calls Tryz.prog 31 #[.string q] w fun e w' => ∃ (u : ByteArray) (b : Bool), e = .returned (.tuple #[.string u, .bool b]) ∧ Ext w w' := fun q w hG => (rparent_any q w hG).mono fun e w' hh => ⟨_, _, hh.1, hh.2⟩
  show Calls _ _ _ _ (fun e w' => GrownSays w g e w')
  clear h hG hl hv hc hg
  go_enter Tryz.func43, Tryz.ntmps43
  go_wp2_with (go_at_call 75; (with_reducible refine HMK.mono ?_); rintro e w1 ⟨nm, A2, n2, c2, code, rfl, hx1⟩; have HX1 := hid hx1; have HB1 := hid (Bx.make hx1 #[.string nm, .slice A2 n2 c2] 38); have hcc : (code != 0) = true ∨ (code != 0) = false := (by cases code != 0 <;> simp); clear hx1; rcases hcc with hcc | hcc)
  any_goals (go_ret; exact GrownSays.of rfl (grown_ext HB1.out.ext _))
  refine wp_region_plan (.read 0 (.read 1 (.read 2 (.read 3 (.read 4 (.read 5 (.main 6 (.read 7 .done)))))))) (by kernel_rfl) (by kernel_rfl) ?_
  intro wD hxD
  have XE : Hid (Ext wD wD) := Ext.refl _
  have HB2 := hid (HB1.out.later hxD)
  have c0 := cell_later (cell_later HC.out _ HB2.out.ext)
  have k0 := cell_later (HB2.out.cell (i := 0) rfl)
  repeat' (first
    | (refine walks_move rfl rfl ?_; simp only [Act.put, Act.eval, List.setIfInBounds_toArray, List.set_cons_zero, List.set_cons_succ, Array.getD_eq_getD_getElem?, List.getElem?_toArray, List.getElem?_cons_zero, List.getElem?_cons_succ, Option.getD_some])
    | (refine walks_assign rfl rfl ?_; simp only [Act.put, Act.eval, List.setIfInBounds_toArray, List.set_cons_zero, List.set_cons_succ, Array.getD_eq_getD_getElem?, List.getElem?_toArray, List.getElem?_cons_zero, List.getElem?_cons_succ, Option.getD_some])
    | (refine walks_skip rfl rfl ?_; simp only [Act.put, List.setIfInBounds_toArray, List.set_cons_zero, List.set_cons_succ])
    | (refine walks_unwanted rfl rfl ?_; simp only [Act.put, List.setIfInBounds_toArray, List.set_cons_zero, List.set_cons_succ])
    | (refine walks_read (v := ?_) rfl rfl (fun w' hE => ?_) ?_; rotate_left 1; (· ((try (have hEx := Ext.trans (Hid.out XE) hE)); go_simp; (try go_bits); with_reducible rfl)); simp only [Act.put, List.setIfInBounds_toArray, List.set_cons_zero, List.set_cons_succ])
    | (refine walks_alt ?_ ?_)
    | (refine walks_main rfl rfl (fun K hK => ?_); go_wp2_with ((go_at_call 30; (with_reducible refine (HA _ _ (HG.out.ext (HB2.out.ext.trans XE.out))).mono ?_); rintro e w5 ⟨rfl, hx5⟩; have XE' := hid (Ext.trans (Hid.out XE) hx5); clear XE; have XE := XE'; clear XE')); refine hK _ _ (by first | assumption | exact Ext.alloc _ _ | exact Ext.refl _) ?_; clear hK K; try simp only [Act.put, List.setIfInBounds_toArray, List.set_cons_zero, List.set_cons_succ]))
  refine walks_done ?_
  have HB3 := hid (HB2.out.later XE.out)
  have p0 := HB3.out.cell (i := 0) rfl
  clear c0 k0
  go_wp2_with (first
    | (go_at_call 31; (with_reducible refine (HPA _ _ (HG.out.ext HB3.out.ext)).mono ?_); rintro e w6 ⟨u, b, rfl, hx6⟩; have HB4 := hid (HB3.out.later hx6); clear hx6)
    | (go_at_call 76; (with_reducible refine (HPN _ _ HB4.out.ext).mono ?_); rintro e w7 ⟨k, rfl, hx7⟩; have HB5 := hid (HB4.out.later hx7); have c7 := cell_later HC.out _ HB5.out.ext; have hkk : (k != 0) = true ∨ (k != 0) = false := (by cases k != 0 <;> simp); clear hx7; rcases hkk with hkk | hkk))
  any_goals (go_ret; exact GrownSays.of rfl (grown_ext HB5.out.ext _))
  have hgl : g < w7.heap.size := World.block_lt_of_cell? _ _ (cell_later HC.out _ HB5.out.ext)
  have hgw : g < w1.heap.size := World.block_lt_of_cell? _ _ (cell_later HC.out _ HX1.out)
  obtain ⟨S9, hS9⟩ : ∃ S : Nat → Prop, S = fun b => b < w7.heap.size ∧ b ≠ g := ⟨_, rfl⟩
  have HSI : Hid (∀ b, S9 b → b < w7.heap.size) := fun b hb => by rw [hS9] at hb; exact hb.1
  have HNE : Hid (∀ b, S9 b → b ≠ g) := fun b hb => by rw [hS9] at hb; exact hb.2
  have HSE : Hid (S9 w1.heap.size) := by show S9 _; rw [hS9]; exact ⟨HB5.out.lt, by omega⟩
  obtain ⟨PR, hPR⟩ : ∃ p, p = Pre.same S9 := ⟨_, rfl⟩
  have HPS : Hid (∀ w w', Same S9 w w' → PR.r w w') := fun w w' h => by rw [hPR]; exact h
  have HPT : Hid (∀ w w', PR.r w w' → Same S9 w w') := fun w w' h => by rw [hPR] at h; exact h
  have HG7 := hid (row_later' HGB.out HB5.out.ext)
  clear hPR hS9 c7
  refine wp_region_planR PR (.read 0 (.read 2 (.read 3 (.read 4 (.read 7 (.alt 1 (.alt 5 (.alt 6 (.main 8 (.main 9 (.main 10 (.read 11 (.read 12 (.main 13 .done)))))) (.main 8 (.main 6 (.main 9 (.main 10 (.read 11 (.read 12 (.main 13 .done)))))))) (.main 8 (.main 5 (.main 6 (.main 9 (.main 10 (.read 11 (.read 12 (.main 13 .done))))))))) (.alt 5 (.alt 1 (.alt 6 (.main 8 (.main 9 (.main 10 (.read 11 (.read 12 (.main 13 .done)))))) (.main 8 (.main 6 (.main 9 (.main 10 (.read 11 (.read 12 (.main 13 .done)))))))) (.main 8 (.main 1 (.main 6 (.main 9 (.main 10 (.read 11 (.read 12 (.main 13 .done))))))))) (.main 8 (.alt 1 (.main 5 (.main 6 (.main 9 (.main 10 (.read 11 (.read 12 (.main 13 .done))))))) (.main 5 (.main 1 (.main 6 (.main 9 (.main 10 (.read 11 (.read 12 (.main 13 .done))))))))))))))))) (by kernel_rfl) (by kernel_rfl) ?_
  intro wD hxD
  have XR : Hid (PR.r wD wD) := PR.refl _
  have HX9 := hid (HB5.out.ext.trans hxD)
  have HGC := hid (row_later' HG7.out hxD)
  have HGL := hid (Nat.lt_of_lt_of_le hgl hxD.size)
  have HSR : Hid (∀ b, S9 b → b < wD.heap.size) := fun b hb => Nat.lt_of_lt_of_le (HSI.out b hb) hxD.size
  have HBD := hid (HB5.out.later hxD)
  have ce0 : ∀ w', PR.r wD w' → w'.cell? ⟨w1.heap.size, 0, none⟩ = some (.string nm) := fun w' hk => by rw [World.cell?_of_block (HPT.out _ _ hk _ HSE.out)]; exact HBD.out.cell (i := 0) rfl
  have ce1 : ∀ w', PR.r wD w' → w'.cell? ⟨w1.heap.size, 1, none⟩ = some (.slice A2 n2 c2) := fun w' hk => by rw [World.cell?_of_block (HPT.out _ _ hk _ HSE.out)]; exact HBD.out.cell (i := 1) rfl
  have HX97 := hid hxD
  have HZ7 := hid (ext_sz HB5.out.ext)
  have HGW := hid hgl
  clear hgl hgw
  repeat' (first
    | (refine walksR_move rfl rfl ?_; simp only [Act.put, Act.eval, List.setIfInBounds_toArray, List.set_cons_zero, List.set_cons_succ, Array.getD_eq_getD_getElem?, List.getElem?_toArray, List.getElem?_cons_zero, List.getElem?_cons_succ, Option.getD_some])
    | (refine walksR_assign rfl rfl ?_; simp only [Act.put, Act.eval, List.setIfInBounds_toArray, List.set_cons_zero, List.set_cons_succ, Array.getD_eq_getD_getElem?, List.getElem?_toArray, List.getElem?_cons_zero, List.getElem?_cons_succ, Option.getD_some])
    | (refine walksR_skip rfl rfl ?_; simp only [Act.put, List.setIfInBounds_toArray, List.set_cons_zero, List.set_cons_succ])
    | (refine walksR_unwanted rfl rfl ?_; simp only [Act.put, List.setIfInBounds_toArray, List.set_cons_zero, List.set_cons_succ])
    | (refine walksR_read (v := ?_) rfl rfl (fun w' hE => ?_) ?_; rotate_left 1; (· ((try (have hEx := Pre.trans _ (Hid.out XR) hE)); go_simp; (try go_bits); with_reducible rfl)); simp only [Act.put, List.setIfInBounds_toArray, List.set_cons_zero, List.set_cons_succ])
    | (refine walksR_main rfl rfl (fun K hK => ?_); (first | (refine wp_load_cell 22 (.tmp 51) rfl ⟨g, 0, none⟩ rfl (.slice none 0 0) (by rw [cell_of_row _ g 0 _ _ (0, 0) HGC.out]; rfl) (fun _ => by kernel_rfl) ?_) | (refine litsE0_wp rfl ?_; intro gb w8 hgb hx8 hh8; have HZB : Hid (w7.heap.size ≤ gb) := (by (show _ ≤ _); rw [hgb]; exact HX97.out.size); (try (have HNU : Hid (gu ≠ gb) := (by have h1 := row_lt HU.out; (show _ ≠ _); omega))); have hs8 : PR.r _ w8 := HPS.out _ _ (fun b hb => hx8.block b (HSR.out b hb)); have HX9' := hid (HX9.out.trans hx8); clear HX9; have HX9 := HX9'; clear HX9'; have HGC' := hid (row_later' HGC.out hx8); clear HGC; have HGC := HGC'; clear HGC'; have HSR' : Hid (∀ b, S9 b → b < w8.heap.size) := (fun b hb => Nat.lt_of_lt_of_le (HSR.out b hb) hx8.size); clear HSR; have HSR := HSR'; clear HSR'; have HX97' := hid (HX97.out.trans hx8); clear HX97; have HX97 := HX97'; clear HX97'; (try (have HU' := hid (row_later' HU.out hx8); clear HU; have HU := HU'; clear HU')); (try (have HE0' := hid (row_later' HE0.out hx8); clear HE0; have HE0 := HE0'; clear HE0')); have HE0 := hid hh8; clear hgb hh8 hx8; have XR' := hid (Pre.trans _ (Hid.out XR) hs8); clear XR; have XR := XR'; clear XR') | (refine litsE1_wp (.tmp 54) rfl rfl ?_; intro gu w8 hgu hx8 hh8; (try (have HNU : Hid (gu ≠ gb) := (by have h1 := row_lt HE0.out; (show _ ≠ _); omega))); have hs8 : PR.r _ w8 := HPS.out _ _ (fun b hb => hx8.block b (HSR.out b hb)); have HX9' := hid (HX9.out.trans hx8); clear HX9; have HX9 := HX9'; clear HX9'; have HGC' := hid (row_later' HGC.out hx8); clear HGC; have HGC := HGC'; clear HGC'; have HSR' : Hid (∀ b, S9 b → b < w8.heap.size) := (fun b hb => Nat.lt_of_lt_of_le (HSR.out b hb) hx8.size); clear HSR; have HSR := HSR'; clear HSR'; have HX97' := hid (HX97.out.trans hx8); clear HX97; have HX97 := HX97'; clear HX97'; (try (have HU' := hid (row_later' HU.out hx8); clear HU; have HU := HU'; clear HU')); (try (have HE0' := hid (row_later' HE0.out hx8); clear HE0; have HE0 := HE0'; clear HE0')); have HU := hid hh8; clear hgu hh8 hx8; have XR' := hid (Pre.trans _ (Hid.out XR) hs8); clear XR; have XR := XR'; clear XR') | (refine append_m_wp Tryz.underlying22 infoRawE rfl (by decide) (.tmp 53) (.tmp 55) rfl _ [] rfl (GrowM.at0 (S := fun _ => True) HX9.out HE0.out (Nat.le_trans HZ7.out HZB.out)) [[.string nm, .slice A2 n2 c2]] [(.string nm, .slice A2 n2 c2)] rfl (fun i u y hu hy => raw_one hu hy) (by intro c hc; simp at hc; rcases hc with rfl | rfl <;> rfl) rfl rfl (.inr ⟨gu, 0, rfl, fun j c hj => by rw [Nat.zero_add, cell_of_row _ gu j _ _ (0, 0) HU.out]; simpa using hj⟩) (by simp) ?_; intro v9 w8 hg9 k1 k2; obtain ⟨A9, c9, hv9, hr9⟩ := hg9.row; have hv9' : v9 = .slice A9 1 c9 := hv9; subst hv9'; obtain ⟨b9, o9, y9, z9, rfl, hy9, -, hz9, hq9⟩ := hr9.at_ (i := 0) (by simp); have hz9' : y9 = [.string nm, .slice A2 n2 c2] := (by simp at hy9; subst hy9; exact hz9); subst hz9'; have hq0 := hq9 0 _ rfl; have hq1 := hq9 1 _ rfl; simp only [Elem.raw, Nat.zero_mul, Nat.add_zero] at hq0 hq1; have E90 := hid hq0; have E91 := hid hq1; have hs8 : PR.r _ w8 := HPS.out _ _ (fun b hb => k1.block b (HSR.out b hb) (fun e => by have e2 : some b = some gb := e; injection e2 with e2; have h1 := HSI.out b hb; have h2 := HZB.out; omega)); have HX9' : Hid (Ext w w8) := Below.trans HX9.out k2; clear HX9; have HX9 := HX9'; clear HX9'; have HGC' := hid (row_grown HGC.out k1 (fun e => by have e2 : some g = some gb := e; injection e2 with e2; have h1 := HGW.out; have h2 := HZB.out; omega)); clear HGC; have HGC := HGC'; clear HGC'; have HSR' : Hid (∀ b, S9 b → b < w8.heap.size) := (fun b hb => Nat.lt_of_lt_of_le (HSR.out b hb) k1.size); clear HSR; have HSR := HSR'; clear HSR'; clear hv9 hr9 hq9 hq0 hq1 hg9 k1 k2 hz9; have XR' := hid (Pre.trans _ (Hid.out XR) hs8); clear XR; have XR := XR'; clear XR')); refine hK _ _ (by first | assumption | exact Pre.refl _ _ | exact Hid.out HPS _ _ (Same.alloc_of (Hid.out HSR) _) | exact Hid.out HPS _ _ (Same.set_of (Hid.out HNE) _)) ?_; clear hK K; try simp only [Act.put, List.setIfInBounds_toArray, List.set_cons_zero, List.set_cons_succ])
    | (refine walksR_alt ?_ ?_)
    | (refine walksR_main rfl rfl (fun K hK => ?_); go_wp2_with ((go_at_call 34; (have HSO := sorted_one b9 o9 c9 nm A2 n2 c2 _ (HG.out.ext HX9.out) E90.out E91.out; unfold SomeSlice at HSO; with_reducible refine HSO.mono ?_); rintro e w8 ⟨A10, n10, c10, rfl, hx8⟩; have hs8 : PR.r _ w8 := HPS.out _ _ (fun b hb => hx8.block b (HSR.out b hb)); have HX9' := hid (HX9.out.trans hx8); clear HX9; have HX9 := HX9'; clear HX9'; have HGC' := hid (row_later' HGC.out hx8); clear HGC; have HGC := HGC'; clear HGC'; have HSR' : Hid (∀ b, S9 b → b < w8.heap.size) := (fun b hb => Nat.lt_of_lt_of_le (HSR.out b hb) hx8.size); clear HSR; have HSR := HSR'; clear HSR'; clear hx8; have cg := cell_of_row w8 g 0 _ _ (0, 0) HGC.out; have fg := frozen_of_row w8 g 0 _ _ HGC.out; have XR' := hid (Pre.trans _ (Hid.out XR) hs8); clear XR; have XR := XR'; clear XR')); refine hK _ _ (by first | assumption | exact Pre.refl _ _ | exact Hid.out HPS _ _ (Same.alloc_of (Hid.out HSR) _) | exact Hid.out HPS _ _ (Same.set_of (Hid.out HNE) _)) ?_; clear hK K; try simp only [Act.put, List.setIfInBounds_toArray, List.set_cons_zero, List.set_cons_succ]))
  all_goals
    refine walksR_done ?_
    go_wp2
    go_ret
    exact GrownSays.of rfl (grown_set HX9.out g 0 _)
end Go.Proofs.YtencmdpjiafnaaaGreatDoor
