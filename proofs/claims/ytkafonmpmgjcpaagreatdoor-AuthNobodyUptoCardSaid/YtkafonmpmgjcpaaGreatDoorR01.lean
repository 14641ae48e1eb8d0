import Derived.Test.YtkafonmpmgjcpaaGreatDoorZ44
import Derived.Test.YtkafonmpmgjcpaaGreatDoorShl
import Derived.Test.YtkafonmpmgjcpaaGreatDoorZ05
import Derived.Test.YtkafonmpmgjcpaaGreatDoorZ45
import Derived.Deep.DeepCutAuto
import Derived.Test.YtkafonmpmgjcpaaGreatDoorZ15
import Derived.Test.YtkafonmpmgjcpaaGreatDoorZ47
/- The walks of policy's rules: what a rule is, whether it is formed, whom it is about; and the reference's. -/
namespace Go.Proofs.YtkafonmpmgjcpaaGreatDoor
open Go.RowKit
set_option maxRecDepth 100000
set_option linter.unusedSimpArgs false
set_option linter.unusedVariables false

/-- A rule. -/
structure Rul where
  who : ByteArray
  target : ByteArray
  attr : ByteArray
  rights : Int
  allow : Bool
def Rul.cells (r : Rul) : List Value := [.string r.who, .string r.target, .string r.attr, .int .i64 r.rights, .bool r.allow]
def Elem.rul : Elem Rul := ⟨5, by decide, fun _ _ v x => v = x.cells, fun h => by rw [h]; rfl, fun h _ => h, fun h _ => h⟩
/-- Whose a rule may be. -/
def whoF (s : List UInt8) : Bool := if Lib.hasPrefix s [64] then codeR (partsB (Lib.trimPrefix s [64])) == 0 else decide (s = [42]) || (decide (s = [45]) || decide (s = [61]))
def formedR (r : Rul) : Bool := whoF (bys r.who) && (codeR (partsB (bys r.target)) == 0 && (decide ((typeB (bys r.attr)).1 = bys r.attr) && (decide (0 < r.rights) && decide (r.rights ≤ 63))))
theorem toList_bys (s : ByteArray) : s.toList = bys s := by rw [ByteArray.toList_eq]; try rfl
theorem lst_yes {s : ByteArray} {l : List UInt8} (h : bys s = l) : (s.toList == l) = true := by rw [toList_bys, h]; exact beq_self_eq_true _
theorem lst_no {s : ByteArray} {l : List UInt8} (h : ¬ bys s = l) : (s.toList == l) = false := by rw [toList_bys]; exact beq_eq_false_iff_ne.2 h
theorem beq_yes {s t : ByteArray} (h : bys s = bys t) : (s.toList == t.toList) = true := by rw [toList_bys, toList_bys, h]; exact beq_self_eq_true _
theorem beq_no {s t : ByteArray} (h : ¬ bys s = bys t) : (s.toList == t.toList) = false := by rw [toList_bys, toList_bys]; exact beq_eq_false_iff_ne.2 h
theorem cutpre_any (s p : ByteArray) (w : World) : Calls Tryz.prog 15 #[.string s, .string p] w fun e w' => e = .returned (.tuple #[.string (str (Lib.trimPrefix (bys s) (bys p))), .bool (Lib.hasPrefix (bys s) (bys p))]) ∧ w' = w := by
  refine (Tryz.strings_CutPrefix s p w).mono ?_
  rintro e w' ⟨rfl, rfl⟩
  exact ⟨rfl, rfl⟩
set_option maxHeartbeats 4000000 in
theorem rulform_any (r : Rul) (w : World) (hG : Gl w) (ha : r.attr.size ≤ 4000000) :
    Calls Tryz.prog 52 #[.agg r.cells.toArray] w fun e w' => e = .returned (.bool (formedR r)) ∧ Ext w w' := by
  obtain ⟨who, target, attr, rights, allow⟩ := r
  simp only at ha
  have HG := hid hG
  have HNT : ∀ w, Gl w → Calls Tryz.prog 16 #[.string target] w (NormalSays w (bys target)) := fun w hG => dnnormal_any target w hG
  have HNW : ∀ w, Gl w → Calls Tryz.prog 16 #[.string (str (Lib.trimPrefix (bys who) [64]))] w (NormalSays w (bys (str (Lib.trimPrefix (bys who) [64])))) := fun w hG => dnnormal_any _ w hG
  have HTY : ∀ w, Calls Tryz.prog 25 #[.string attr] w (TypeSays w (bys attr)) := fun w => type_any attr w (by simp only [maxLen]; omega)
  have HCP : ∀ w, Calls Tryz.prog 15 #[.string who, .string ⟨#[64]⟩] w fun e w' => e = .returned (.tuple #[.string (str (Lib.trimPrefix (bys who) [64])), .bool (Lib.hasPrefix (bys who) [64])]) ∧ w' = w := fun w => cutpre_any who ⟨#[64]⟩ w
  have HFD : Hid (formedR ⟨who, target, attr, rights, allow⟩ = ((if Lib.hasPrefix (bys who) [64] then codeR (partsB (Lib.trimPrefix (bys who) [64])) == 0 else decide (bys who = [42]) || (decide (bys who = [45]) || decide (bys who = [61]))) && (codeR (partsB (bys target)) == 0 && (decide ((typeB (bys attr)).1 = bys attr) && (decide (0 < rights) && decide (rights ≤ 63)))))) := rfl
  rw [bys_str] at HNW
  unfold NormalSays at HNT HNW
  unfold TypeSays at HTY
  unfold Rul.cells
  simp only
  clear hG ha
  generalize formedR ⟨who, target, attr, rights, allow⟩ = R at *
  have HB0 := hid (Bx.make (Ext.refl w) #[.string who, .string target, .string attr, .int .i64 rights, .bool allow] 71)
  generalize codeR (partsB (bys target)) = c1 at *
  generalize normalS (bys target) = nt at *
  generalize typeB (bys attr) = tk at *
  obtain ⟨ty, tn⟩ := tk
  simp only at HTY HFD
  generalize normalS (Lib.trimPrefix (bys who) [64]) = nw at *
  generalize codeR (partsB (Lib.trimPrefix (bys who) [64])) = c0 at *
  generalize str (Lib.trimPrefix (bys who) [64]) = tw at *
  cases hp : Lib.hasPrefix (bys who) [64]
  · rw [hp] at HCP HFD
    clear hp HNW
    simp only [Bool.false_eq_true, if_false] at HFD
    by_cases h1 : bys who = [42]
    · have e1 := lst_yes h1
      rw [decide_eq_true h1, Bool.true_or, Bool.true_and] at HFD
      clear h1
      have k1 : (c1 == 0) = true ∨ (c1 == 0) = false := by cases c1 == 0 <;> simp
      have k2 : ((str ty).toList == attr.toList) = true ∧ Hid (decide (ty = bys attr) = true) ∨ ((str ty).toList == attr.toList) = false ∧ Hid (decide (ty = bys attr) = false) := by
        by_cases h : ty = bys attr
        · exact .inl ⟨beq_yes (by rw [bys_str, h]), decide_eq_true h⟩
        · exact .inr ⟨beq_no (by rw [bys_str]; exact h), decide_eq_false h⟩
      have k3 : decide (0 < rights) = true ∨ decide (0 < rights) = false := by cases decide (0 < rights) <;> simp
      have k4 : decide (rights ≤ 63) = true ∨ decide (rights ≤ 63) = false := by cases decide (rights ≤ 63) <;> simp
      rcases k1 with k1 | k1 <;> rcases k2 with ⟨k2, HK2⟩ | ⟨k2, HK2⟩ <;> rcases k3 with k3 | k3 <;> rcases k4 with k4 | k4
      all_goals
        rw [k1, HK2.out, k3, k4] at HFD
        generalize str ty = tys at *
        go_enter Tryz.func52, Tryz.ntmps52
        go_wp2_with (first
          | (go_at_call 15; (with_reducible refine (HCP _).mono ?_); rintro e w1 ⟨rfl, rfl⟩)
          | (go_at_call 16; (with_reducible refine (HNT _ (HG.out.ext HB0.out.ext)).mono ?_); rintro e w2 ⟨rfl, hx2⟩; have HB2 := hid (HB0.out.later hx2); have a2 := HB2.out.cell (i := 2) rfl; clear hx2)
          | (go_at_call 25; (with_reducible refine (HTY _).mono ?_); rintro e w3 ⟨rfl, hx3⟩; have HB3 := hid (HB2.out.later hx3); have b2 := HB3.out.cell (i := 2) rfl; have b3 := HB3.out.cell (i := 3) rfl; clear hx3 a2))
        go_ret
        exact ⟨by rw [HFD.out]; rfl, HB3.out.ext⟩
    · have e1 := lst_no h1
      rw [decide_eq_false h1, Bool.false_or] at HFD
      by_cases h2 : bys who = [45]
      · have e2 := lst_yes h2
        rw [decide_eq_true h2, Bool.true_or, Bool.true_and] at HFD
        clear h1 h2
        have k1 : (c1 == 0) = true ∨ (c1 == 0) = false := by cases c1 == 0 <;> simp
        have k2 : ((str ty).toList == attr.toList) = true ∧ Hid (decide (ty = bys attr) = true) ∨ ((str ty).toList == attr.toList) = false ∧ Hid (decide (ty = bys attr) = false) := by
          by_cases h : ty = bys attr
          · exact .inl ⟨beq_yes (by rw [bys_str, h]), decide_eq_true h⟩
          · exact .inr ⟨beq_no (by rw [bys_str]; exact h), decide_eq_false h⟩
        have k3 : decide (0 < rights) = true ∨ decide (0 < rights) = false := by cases decide (0 < rights) <;> simp
        have k4 : decide (rights ≤ 63) = true ∨ decide (rights ≤ 63) = false := by cases decide (rights ≤ 63) <;> simp
        rcases k1 with k1 | k1 <;> rcases k2 with ⟨k2, HK2⟩ | ⟨k2, HK2⟩ <;> rcases k3 with k3 | k3 <;> rcases k4 with k4 | k4
        all_goals
          rw [k1, HK2.out, k3, k4] at HFD
          generalize str ty = tys at *
          go_enter Tryz.func52, Tryz.ntmps52
          go_wp2_with (first
            | (go_at_call 15; (with_reducible refine (HCP _).mono ?_); rintro e w1 ⟨rfl, rfl⟩)
            | (go_at_call 16; (with_reducible refine (HNT _ (HG.out.ext HB0.out.ext)).mono ?_); rintro e w2 ⟨rfl, hx2⟩; have HB2 := hid (HB0.out.later hx2); have a2 := HB2.out.cell (i := 2) rfl; clear hx2)
            | (go_at_call 25; (with_reducible refine (HTY _).mono ?_); rintro e w3 ⟨rfl, hx3⟩; have HB3 := hid (HB2.out.later hx3); have b2 := HB3.out.cell (i := 2) rfl; have b3 := HB3.out.cell (i := 3) rfl; clear hx3 a2))
          go_ret
          exact ⟨by rw [HFD.out]; rfl, HB3.out.ext⟩
      · have e2 := lst_no h2
        rw [decide_eq_false h2, Bool.false_or] at HFD
        by_cases h3 : bys who = [61]
        · have e3 := lst_yes h3
          rw [decide_eq_true h3, Bool.true_and] at HFD
          clear h1 h2 h3
          have k1 : (c1 == 0) = true ∨ (c1 == 0) = false := by cases c1 == 0 <;> simp
          have k2 : ((str ty).toList == attr.toList) = true ∧ Hid (decide (ty = bys attr) = true) ∨ ((str ty).toList == attr.toList) = false ∧ Hid (decide (ty = bys attr) = false) := by
            by_cases h : ty = bys attr
            · exact .inl ⟨beq_yes (by rw [bys_str, h]), decide_eq_true h⟩
            · exact .inr ⟨beq_no (by rw [bys_str]; exact h), decide_eq_false h⟩
          have k3 : decide (0 < rights) = true ∨ decide (0 < rights) = false := by cases decide (0 < rights) <;> simp
          have k4 : decide (rights ≤ 63) = true ∨ decide (rights ≤ 63) = false := by cases decide (rights ≤ 63) <;> simp
          rcases k1 with k1 | k1 <;> rcases k2 with ⟨k2, HK2⟩ | ⟨k2, HK2⟩ <;> rcases k3 with k3 | k3 <;> rcases k4 with k4 | k4
          all_goals
            rw [k1, HK2.out, k3, k4] at HFD
            generalize str ty = tys at *
            go_enter Tryz.func52, Tryz.ntmps52
            go_wp2_with (first
              | (go_at_call 15; (with_reducible refine (HCP _).mono ?_); rintro e w1 ⟨rfl, rfl⟩)
              | (go_at_call 16; (with_reducible refine (HNT _ (HG.out.ext HB0.out.ext)).mono ?_); rintro e w2 ⟨rfl, hx2⟩; have HB2 := hid (HB0.out.later hx2); have a2 := HB2.out.cell (i := 2) rfl; clear hx2)
              | (go_at_call 25; (with_reducible refine (HTY _).mono ?_); rintro e w3 ⟨rfl, hx3⟩; have HB3 := hid (HB2.out.later hx3); have b2 := HB3.out.cell (i := 2) rfl; have b3 := HB3.out.cell (i := 3) rfl; clear hx3 a2))
            go_ret
            exact ⟨by rw [HFD.out]; rfl, HB3.out.ext⟩
        · have e3 := lst_no h3
          rw [decide_eq_false h3, Bool.false_and] at HFD
          clear h1 h2 h3
          go_enter Tryz.func52, Tryz.ntmps52
          go_wp2_with (go_at_call 15; (with_reducible refine (HCP _).mono ?_); rintro e w1 ⟨rfl, rfl⟩)
          go_ret
          exact ⟨by rw [HFD.out]; rfl, HB0.out.ext⟩
  · rw [hp] at HCP HFD
    clear hp
    have k0 : (c0 == 0) = true ∨ (c0 == 0) = false := by cases c0 == 0 <;> simp
    rcases k0 with k0 | k0
    · have k0' : (c0 != 0) = false := by rw [bne, k0]; rfl
      rw [if_pos rfl, k0, Bool.true_and] at HFD
      have k1 : (c1 == 0) = true ∨ (c1 == 0) = false := by cases c1 == 0 <;> simp
      have k2 : ((str ty).toList == attr.toList) = true ∧ Hid (decide (ty = bys attr) = true) ∨ ((str ty).toList == attr.toList) = false ∧ Hid (decide (ty = bys attr) = false) := by
        by_cases h : ty = bys attr
        · exact .inl ⟨beq_yes (by rw [bys_str, h]), decide_eq_true h⟩
        · exact .inr ⟨beq_no (by rw [bys_str]; exact h), decide_eq_false h⟩
      have k3 : decide (0 < rights) = true ∨ decide (0 < rights) = false := by cases decide (0 < rights) <;> simp
      have k4 : decide (rights ≤ 63) = true ∨ decide (rights ≤ 63) = false := by cases decide (rights ≤ 63) <;> simp
      rcases k1 with k1 | k1 <;> rcases k2 with ⟨k2, HK2⟩ | ⟨k2, HK2⟩ <;> rcases k3 with k3 | k3 <;> rcases k4 with k4 | k4
      all_goals
        rw [k1, HK2.out, k3, k4] at HFD
        generalize str ty = tys at *
        go_enter Tryz.func52, Tryz.ntmps52
        go_wp2_with (first
          | (go_at_call 15; (with_reducible refine (HCP _).mono ?_); rintro e w1 ⟨rfl, rfl⟩)
          | (go_at_call 16; first
              | ((with_reducible refine (HNW _ (HG.out.ext HB0.out.ext)).mono ?_); rintro e w1 ⟨rfl, hx1⟩; have HB1 := hid (HB0.out.later hx1); have a1 := HB1.out.cell (i := 1) rfl; clear hx1)
              | ((with_reducible refine (HNT _ (HG.out.ext HB1.out.ext)).mono ?_); rintro e w2 ⟨rfl, hx2⟩; have HB2 := hid (HB1.out.later hx2); have a2 := HB2.out.cell (i := 2) rfl; clear hx2 a1))
          | (go_at_call 25; (with_reducible refine (HTY _).mono ?_); rintro e w3 ⟨rfl, hx3⟩; have HB3 := hid (HB2.out.later hx3); have b2 := HB3.out.cell (i := 2) rfl; have b3 := HB3.out.cell (i := 3) rfl; clear hx3 a2))
        go_ret
        exact ⟨by rw [HFD.out]; rfl, HB3.out.ext⟩
    · have k0' : (c0 != 0) = true := by rw [bne, k0]; rfl
      rw [if_pos rfl, k0, Bool.false_and] at HFD
      go_enter Tryz.func52, Tryz.ntmps52
      go_wp2_with (first
        | (go_at_call 15; (with_reducible refine (HCP _).mono ?_); rintro e w1 ⟨rfl, rfl⟩)
        | (go_at_call 16; (with_reducible refine (HNW _ (HG.out.ext (Ext.alloc _ _))).mono ?_); rintro e w2 ⟨rfl, hx2⟩; have HX2 := hid ((Ext.alloc _ _).trans hx2); clear hx2))
      go_ret
      exact ⟨by rw [HFD.out]; rfl, HX2.out⟩
end Go.Proofs.YtkafonmpmgjcpaaGreatDoor
/- The walks of policy's Formed, who, Decide. -/
namespace Go.Proofs.YtkafonmpmgjcpaaGreatDoor
open Go.RowKit
set_option maxRecDepth 100000
set_option linter.unusedSimpArgs false
set_option linter.unusedVariables false

set_option maxHeartbeats 1000000 in
theorem polf1_any (r : Rul) (w : World) (hG : Gl w) (ha : r.attr.size ≤ 4000000) :
    Calls Tryz.prog 51 #[.agg r.cells.toArray] w fun e w' => e = .returned (.bool (!formedR r)) ∧ Ext w w' := by
  have HG := hid hG
  have HF : ∀ w, Gl w → Calls Tryz.prog 52 #[.agg r.cells.toArray] w fun e w' => e = .returned (.bool (formedR r)) ∧ Ext w w' := fun w hG => rulform_any r w hG ha
  clear hG ha
  generalize formedR r = R at *
  obtain ⟨who, target, attr, rights, allow⟩ := r
  unfold Rul.cells at *
  simp only at *
  cases R
  all_goals
    go_enter Tryz.func51, Tryz.ntmps51
    go_wp2_with (go_at_call 52; (with_reducible refine (HF _ (HG.out.ext (Ext.alloc _ _))).mono ?_); rintro e w1 ⟨rfl, hx1⟩)
    go_ret
    exact ⟨rfl, (Ext.alloc _ _).trans hx1⟩
set_option maxHeartbeats 1000000 in
theorem polindex_any {S : Nat → Prop} {A : Option Addr} {n c : Nat} {l : List Rul} {w : World} (h : Row Elem.rul S w A n c l) (hG : Gl w) (ha : ∀ r ∈ l, r.attr.size ≤ 4000000) :
    Calls Tryz.prog 75 #[.slice A n c, .func (.func 51) #[] #[]] w fun e w' => ∃ r : Int, e = .returned (.int .i64 r) ∧ decide (0 ≤ r) = l.any (fun r => !formedR r) ∧ Ext w w' := by
  have HR := hid h
  have hl := hid h.len
  have HA := hid ha
  have HG := hid hG
  have hnl : n ≤ 9223372036854775807 := by have := h.cap; have := h.most; simp only [maxLen] at this; omega
  clear h ha hG
  obtain ⟨P, hP⟩ : ∃ P : Rul → Bool, P = fun r => !formedR r := ⟨_, rfl⟩
  rw [← hP]
  have HC : ∀ (x : Rul) wr, Gl wr → x ∈ l → Calls Tryz.prog 51 #[.agg x.cells.toArray] wr fun e w' => e = .returned (.bool (P x)) ∧ Ext wr w' := fun x wr hg hx => by rw [hP]; exact polf1_any x wr hg (HA.out x hx)
  clear hP
  go_enter Tryz.func75, Tryz.ntmps75
  go_wp2
  go_loopw [8] (fun i wr => ∃ j : Nat, j ≤ n ∧ i = .int .i64 j ∧ Hid ((l.take j).any P = false) ∧ Hid (Ext w wr)) (fun i _ => n - (intOf i).toNat)
  case atStart => exact ⟨0, by omega, rfl, by simp [Hid], Ext.refl w⟩
  case round =>
    obtain ⟨j, hj, rfl, Htk, hx⟩ := hrel
    by_cases hlt : j < n
    · obtain ⟨b1, o1, v1, x1, rfl, g1, -, r1, q1⟩ := (HR.out.ext hx.out).at_ hlt
      have Hg := hid g1
      have HCX : ∀ wr, Gl wr → Calls Tryz.prog 51 #[.agg x1.cells.toArray] wr fun e w' => e = .returned (.bool (P x1)) ∧ Ext wr w' := fun wr hg => HC x1 wr hg (List.mem_of_getElem? g1)
      have HPX : Hid (∃ b, P x1 = b) := ⟨_, rfl⟩
      obtain ⟨b, hb⟩ := HPX.out
      have HB := hid hb
      rw [hb] at HCX
      clear HC HPX hb g1
      obtain ⟨who, target, attr, rights, allow⟩ := x1
      cases r1
      have e10 := q1 0 _ rfl
      have e11 := q1 1 _ rfl
      have e12 := q1 2 _ rfl
      have e13 := q1 3 _ rfl
      have e14 := q1 4 _ rfl
      simp only [Elem.rul, Nat.add_zero] at e10 e11 e12 e13 e14
      unfold Rul.cells at HCX
      simp only at HCX
      clear q1
      cases b
      · go_wp2_with (go_at_call 51; (with_reducible refine (HCX _ (HG.out.ext hx.out)).mono ?_); rintro e w1 ⟨rfl, hx1⟩; have HX1 := hid hx1; clear hx1)
        exact ⟨⟨j + 1, by omega, by go_num, any_take' Htk.out Hg.out HB.out, hx.out.trans HX1.out⟩, by simp [intOf]; omega⟩
      · go_wp2_with (go_at_call 51; (with_reducible refine (HCX _ (HG.out.ext hx.out)).mono ?_); rintro e w1 ⟨rfl, hx1⟩; have HX1 := hid hx1; clear hx1)
        go_ret
        exact ⟨_, rfl, by rw [any_at' Hg.out HB.out]; exact decide_eq_true (by omega), hx.out.trans HX1.out⟩
    · obtain rfl : j = n := by omega
      go_wp2
      go_ret
      have h9 := Htk.out
      rw [List.take_of_length_le (Nat.le_of_eq hl.out.symm)] at h9
      exact ⟨_, rfl, by rw [h9]; rfl, hx.out⟩
theorem polcontains_any {S : Nat → Prop} {A : Option Addr} {n c : Nat} {l : List Rul} {w : World} (h : Row Elem.rul S w A n c l) (hG : Gl w) (ha : ∀ r ∈ l, r.attr.size ≤ 4000000) :
    Calls Tryz.prog 50 #[.slice A n c, .func (.func 51) #[] #[]] w fun e w' => e = .returned (.bool (l.any fun r => !formedR r)) ∧ Ext w w' := by
  have HI := polindex_any h hG ha
  cases hb : l.any (fun r => !formedR r)
  all_goals
    have Hb := hid hb
    clear hb
    go_enter Tryz.func50, Tryz.ntmps50
    go_wp2_with (go_at_call 75; (with_reducible refine HI.mono ?_); rintro e w1 ⟨r, rfl, hr, hx1⟩; rw [Hb.out] at hr; have Hr := hid hr; clear hr)
    go_ret
    refine ⟨?_, hx1⟩
    have h9 := Hr.out
    simpa using h9
/-- Are rules formed? -/
def formedL (l : List Rul) : Bool := decide (l.length ≤ 40) && l.all formedR
theorem formedL_any (l : List Rul) : formedL l = (decide (l.length ≤ 40) && !l.any fun r => !formedR r) := by
  unfold formedL
  congr 1
  rw [← List.all_eq_not_any_not]
set_option maxHeartbeats 1000000 in
theorem polformed_any {S : Nat → Prop} {A : Option Addr} {n c : Nat} {l : List Rul} {w : World} (h : Row Elem.rul S w A n c l) (hG : Gl w) (ha : ∀ r ∈ l, r.attr.size ≤ 4000000) :
    Calls Tryz.prog 27 #[.slice A n c] w fun e w' => e = .returned (.bool (formedL l)) ∧ Ext w w' := by
  have HFD := hid (formedL_any l)
  have HI := polcontains_any h hG ha
  have hl := h.len
  have hn : n ≤ 9223372036854775807 := by have := h.cap; have := h.most; simp only [maxLen] at this; omega
  have hmf : ∀ (fn : Fn) (first cap : Array Value) (w : World), (Instr.makeFunc fn first cap).run Tryz.prog w = .ok (.func fn first cap) w := fun _ _ _ _ => rfl
  rw [← hl] at HFD
  clear h hG ha hl
  generalize formedL l = R at *
  generalize (l.any fun r => !formedR r) = b at *
  by_cases h40 : n ≤ 40
  · have t1 : (n : Int) ≤ 40 := by omega
    rw [decide_eq_true h40, Bool.true_and] at HFD
    clear h40
    cases b
    all_goals
      go_enter Tryz.func27, Tryz.ntmps27
      go_wp2_with (go_at_call 50; (with_reducible refine HI.mono ?_); rintro e w1 ⟨rfl, hx1⟩; have HX1 := hid hx1; clear hx1)
      go_ret
      exact ⟨by rw [HFD.out]; rfl, HX1.out⟩
  · have t1 : ¬ (n : Int) ≤ 40 := by omega
    rw [decide_eq_false h40, Bool.false_and] at HFD
    clear h40 HI
    go_enter Tryz.func27, Tryz.ntmps27
    go_wp2
    go_ret
    exact ⟨by rw [HFD.out]; rfl, Ext.refl _⟩
/-- Is a rule's Who a subject, that asks about a name? -/
def isF (s subject name : List UInt8) : Bool :=
  if s = [42] then true else if s = [45] then decide (subject = []) else if s = [61] then !decide (subject = []) && decide (subject = name) else !decide (subject = []) && underS subject (s.drop 1)
theorem empt (s : ByteArray) : (s.size = 0 ↔ bys s = []) := ⟨fun h => by rw [str_emp h]; rfl, fun h => by rw [← bys_len, h]; rfl⟩
set_option maxHeartbeats 2000000 in
theorem polwho_any (r : Rul) (subject name : ByteArray) (w : World) (hG : Gl w) (hw : 0 < r.who.size) :
    Calls Tryz.prog 28 #[.agg r.cells.toArray, .string subject, .string name] w fun e w' => e = .returned (.bool (isF (bys r.who) (bys subject) (bys name))) ∧ Ext w w' := by
  obtain ⟨who, target, attr, rights, allow⟩ := r
  try unfold Rul.cells
  simp only at hw ⊢
  have HG := hid hG
  obtain ⟨d, hd⟩ : ∃ d, who.extract 1 who.size = d := ⟨_, rfl⟩
  have HU : ∀ w, Gl w → Calls Tryz.prog 29 #[.string subject, .string d] w fun e w' => e = .returned (.bool (underS (bys subject) (bys d))) ∧ Ext w w' := fun w hG => under_any subject d w hG
  have HD : Hid (isF (bys who) (bys subject) (bys name) = if bys who = [42] then true else if bys who = [45] then decide (bys subject = []) else if bys who = [61] then !decide (bys subject = []) && decide (bys subject = bys name) else !decide (bys subject = []) && underS (bys subject) (bys d)) := by
    show _ = _
    rw [← hd, ext_drop]
    rfl
  clear hG
  generalize isF (bys who) (bys subject) (bys name) = R at *
  generalize underS (bys subject) (bys d) = u at *
  by_cases h1 : bys who = [42]
  · have e1 := lst_yes h1
    rw [if_pos h1] at HD
    clear h1
    go_enter Tryz.func28, Tryz.ntmps28
    go_wp2
    go_ret
    exact ⟨by rw [HD.out]; (try rfl), by first | exact Ext.alloc _ _ | exact Ext.refl _⟩
  have e1 := lst_no h1
  rw [if_neg h1] at HD
  have k0 : subject.toList = [] ∧ Hid (decide (bys subject = []) = true) ∨ subject.toList.isEmpty = false ∧ Hid (decide (bys subject = []) = false) := by
    by_cases h : subject.size = 0
    · exact .inl ⟨emp_yes h, decide_eq_true ((empt _).1 h)⟩
    · exact .inr ⟨emp_nb h, decide_eq_false (fun e => h ((empt _).2 e))⟩
  by_cases h2 : bys who = [45]
  · have e2 := lst_yes h2
    rw [if_pos h2] at HD
    clear h1 h2
    rcases k0 with ⟨k0, HK0⟩ | ⟨k0, HK0⟩
    all_goals
      rw [HK0.out] at HD
      go_enter Tryz.func28, Tryz.ntmps28
      go_wp2
      go_ret
      exact ⟨by rw [HD.out]; (try rfl), by first | exact Ext.alloc _ _ | exact Ext.refl _⟩
  have e2 := lst_no h2
  rw [if_neg h2] at HD
  by_cases h3 : bys who = [61]
  · have e3 := lst_yes h3
    rw [if_pos h3] at HD
    clear h1 h2 h3
    have k1 : (subject.toList == name.toList) = true ∧ Hid (decide (bys subject = bys name) = true) ∨ (subject.toList == name.toList) = false ∧ Hid (decide (bys subject = bys name) = false) := by
      by_cases h : bys subject = bys name
      · exact .inl ⟨beq_yes h, decide_eq_true h⟩
      · exact .inr ⟨beq_no h, decide_eq_false h⟩
    rcases k0 with ⟨k0, HK0⟩ | ⟨k0, HK0⟩ <;> rcases k1 with ⟨k1, HK1⟩ | ⟨k1, HK1⟩
    all_goals
      rw [HK0.out, HK1.out] at HD
      go_enter Tryz.func28, Tryz.ntmps28
      go_wp2
      go_ret
      exact ⟨by rw [HD.out]; (try rfl), by first | exact Ext.alloc _ _ | exact Ext.refl _⟩
  have e3 := lst_no h3
  rw [if_neg h3] at HD
  clear h1 h2 h3
  have t1 : (1 : Int) ≤ (who.size : Int) := by omega
  rcases k0 with ⟨k0, HK0⟩ | ⟨k0, HK0⟩ <;> cases u
  all_goals
    rw [HK0.out] at HD
    go_enter Tryz.func28, Tryz.ntmps28
    go_wp2_with (go_at_call 29; (with_reducible refine (HU _ (HG.out.ext (by first | exact Ext.alloc _ _ | exact Ext.refl _))).mono ?_); rintro e w1 ⟨rfl, hx1⟩; have HX1 := hid (Ext.trans (by first | exact Ext.alloc _ _ | exact Ext.refl _) hx1); clear hx1)
    go_ret
    exact ⟨by rw [HD.out]; (try rfl), by first | exact HX1.out | exact Ext.alloc _ _ | exact Ext.refl _⟩
set_option maxHeartbeats 2000000 in
theorem refis_any (r : Rul) (subject name : ByteArray) (w : World) (hG : Gl w) (hw : 0 < r.who.size) :
    Calls Tryz.prog 32 #[.string r.who, .string subject, .string name] w fun e w' => e = .returned (.bool (isF (bys r.who) (bys subject) (bys name))) ∧ Ext w w' := by
  obtain ⟨who, target, attr, rights, allow⟩ := r
  try unfold Rul.cells
  simp only at hw ⊢
  have HG := hid hG
  obtain ⟨d, hd⟩ : ∃ d, who.extract 1 who.size = d := ⟨_, rfl⟩
  have HU : ∀ w, Gl w → Calls Tryz.prog 33 #[.string subject, .string d] w fun e w' => e = .returned (.bool (underS (bys subject) (bys d))) ∧ Ext w w' := fun w hG => runder_any subject d w hG
  have HD : Hid (isF (bys who) (bys subject) (bys name) = if bys who = [42] then true else if bys who = [45] then decide (bys subject = []) else if bys who = [61] then !decide (bys subject = []) && decide (bys subject = bys name) else !decide (bys subject = []) && underS (bys subject) (bys d)) := by
    show _ = _
    rw [← hd, ext_drop]
    rfl
  clear hG
  generalize isF (bys who) (bys subject) (bys name) = R at *
  generalize underS (bys subject) (bys d) = u at *
  by_cases h1 : bys who = [42]
  · have e1 := lst_yes h1
    rw [if_pos h1] at HD
    clear h1
    go_enter Tryz.func32, Tryz.ntmps32
    go_wp2
    go_ret
    exact ⟨by rw [HD.out]; (try rfl), by first | exact Ext.alloc _ _ | exact Ext.refl _⟩
  have e1 := lst_no h1
  rw [if_neg h1] at HD
  have k0 : subject.toList = [] ∧ Hid (decide (bys subject = []) = true) ∨ subject.toList.isEmpty = false ∧ Hid (decide (bys subject = []) = false) := by
    by_cases h : subject.size = 0
    · exact .inl ⟨emp_yes h, decide_eq_true ((empt _).1 h)⟩
    · exact .inr ⟨emp_nb h, decide_eq_false (fun e => h ((empt _).2 e))⟩
  by_cases h2 : bys who = [45]
  · have e2 := lst_yes h2
    rw [if_pos h2] at HD
    clear h1 h2
    rcases k0 with ⟨k0, HK0⟩ | ⟨k0, HK0⟩
    all_goals
      rw [HK0.out] at HD
      go_enter Tryz.func32, Tryz.ntmps32
      go_wp2
      go_ret
      exact ⟨by rw [HD.out]; (try rfl), by first | exact Ext.alloc _ _ | exact Ext.refl _⟩
  have e2 := lst_no h2
  rw [if_neg h2] at HD
  by_cases h3 : bys who = [61]
  · have e3 := lst_yes h3
    rw [if_pos h3] at HD
    clear h1 h2 h3
    have k1 : (subject.toList == name.toList) = true ∧ Hid (decide (bys subject = bys name) = true) ∨ (subject.toList == name.toList) = false ∧ Hid (decide (bys subject = bys name) = false) := by
      by_cases h : bys subject = bys name
      · exact .inl ⟨beq_yes h, decide_eq_true h⟩
      · exact .inr ⟨beq_no h, decide_eq_false h⟩
    rcases k0 with ⟨k0, HK0⟩ | ⟨k0, HK0⟩ <;> rcases k1 with ⟨k1, HK1⟩ | ⟨k1, HK1⟩
    all_goals
      rw [HK0.out, HK1.out] at HD
      go_enter Tryz.func32, Tryz.ntmps32
      go_wp2
      go_ret
      exact ⟨by rw [HD.out]; (try rfl), by first | exact Ext.alloc _ _ | exact Ext.refl _⟩
  have e3 := lst_no h3
  rw [if_neg h3] at HD
  clear h1 h2 h3
  have t1 : (1 : Int) ≤ (who.size : Int) := by omega
  rcases k0 with ⟨k0, HK0⟩ | ⟨k0, HK0⟩ <;> cases u
  all_goals
    rw [HK0.out] at HD
    go_enter Tryz.func32, Tryz.ntmps32
    go_wp2_with (go_at_call 33; (with_reducible refine (HU _ (HG.out.ext (by first | exact Ext.alloc _ _ | exact Ext.refl _))).mono ?_); rintro e w1 ⟨rfl, hx1⟩; have HX1 := hid (Ext.trans (by first | exact Ext.alloc _ _ | exact Ext.refl _) hx1); clear hx1)
    go_ret
    exact ⟨by rw [HD.out]; (try rfl), by first | exact HX1.out | exact Ext.alloc _ _ | exact Ext.refl _⟩
end Go.Proofs.YtkafonmpmgjcpaaGreatDoor
/- The walk of policy's Decide. -/
namespace Go.Proofs.YtkafonmpmgjcpaaGreatDoor
open Go.RowKit
set_option maxRecDepth 100000
set_option linter.unusedSimpArgs false
set_option linter.unusedVariables false

section
variable {P : Program} {w : World} {o : Oper} {a : Act} {Q : Exit → Act → World → Prop} {ops : Array Oper} {rest : List Oper}
/-- A guarded operation that comes up. -/
theorem wpList_wanted (hw : Region.wanted o (yielded ops a.tmps) = true) (h : ∀ K : Act → World → Prop, (∀ a' w', wpList P ops Q rest a' w' → K a' w') → o.wp P a w K Q) : wpList P ops Q (o :: rest) a w := by
  unfold wpList
  rw [if_pos hw]
  exact .inl (h _ fun _ _ h => h)
theorem load_row_wanted (hw : Region.wanted o (yielded ops a.tmps) = true) (ty : TypeId) (x : Operand) (ho : o.op = .load ty x)
    (g : Nat) (hx : a.eval x = .pointer (some ⟨g, 0, none⟩)) (t : TypeId) (cs : Array Value) (d : TypeDesc) (hg : w.heap[g]? = some (.cells cs t (0, 0)))
    (hu : P.underlying ty = some d) (hd : (match d with | .struct _ | .array _ _ => true | _ => false) = true) (hi : (P.info? ty).map (·.size) = some cs.size)
    (h : wpList P ops Q rest (a.put o.dst (.agg cs)) w) : wpList P ops Q (o :: rest) a w :=
  wpList_wanted hw fun _ hK => wp_load_row ty x ho g hx t cs (0, 0) d hg hu hd hi (hK _ _ h)
end
theorem ones_any (k : Int) (hk : k = 1 ∨ k = 2 ∨ k = 4 ∨ k = 8 ∨ k = 16 ∨ k = 32) (w : World) : Calls Tryz.prog 26 #[.int .u64 k] w fun e w' => e = .returned (.int .i64 1) ∧ w' = w := by
  have h64 : Calls Tryz.prog 49 #[.int .u64 k] w fun e w' => e = .returned (.int .i64 1) ∧ w' = w := by
    rcases hk with rfl | rfl | rfl | rfl | rfl | rfl
    all_goals
      go_enter Tryz.func49, Tryz.ntmps49
      go_wp2
      go_ret
      exact ⟨by kernel_rfl, rfl⟩
  clear hk
  go_enter Tryz.func26, Tryz.ntmps26
  go_wp2_with (go_at_call 49; (with_reducible refine h64.mono ?_); rintro e w1 ⟨rfl, rfl⟩)
  go_ret
  exact ⟨rfl, rfl⟩
/-- Both rights of two. -/
abbrev andI (x y : Int) : Int := bits .and .i64 x y
theorem and_run (x y : Int) (t : TypeId) (w : World) : (binOp .and t (.int .i64 x) (.int .i64 y)).run Tryz.prog w = .ok (.int .i64 (andI x y)) w := rfl
def hitF (s n t : List UInt8) (right : Int) (r : Rul) : Bool := !(andI r.rights right == 0) && ((decide (bys r.attr = []) || decide (bys r.attr = t)) && (isF (bys r.who) s n && underS n (bys r.target)))
/-- What Decide answers. -/
def decideF (l : List Rul) (subject : List UInt8) (right : Int) (name attr : List UInt8) : Bool :=
  codeR (partsB subject) == 0 && (codeR (partsB name) == 0 && ((decide (attr = []) || !decide ((typeB attr).1 = [])) && (formedL l && ((l.find? (hitF (normalS subject) (normalS name) (typeB attr).1 right)).map (·.allow)).getD false)))
theorem formed_who {r : Rul} (h : formedR r = true) : 0 < r.who.size := by
  rcases Nat.eq_zero_or_pos r.who.size with h0 | h0
  · unfold formedR at h
    rw [(empt _).1 h0] at h
    simp [whoF, Lib.hasPrefix] at h
  · exact h0
theorem hit_mk {s n t : List UInt8} {right : Int} {r : Rul} {b1 b2 b3 b4 b5 : Bool} (h1 : (andI r.rights right == 0) = b1) (h2 : decide (bys r.attr = []) = b2) (h3 : decide (bys r.attr = t) = b3) (h4 : isF (bys r.who) s n = b4) (h5 : underS n (bys r.target) = b5) :
    hitF s n t right r = (!b1 && ((b2 || b3) && (b4 && b5))) := by unfold hitF; rw [h1, h2, h3, h4, h5]
set_option maxHeartbeats 4000000 in
theorem decide_any {S : Nat → Prop} {A : Option Addr} {n c : Nat} {l : List Rul} {w : World} (h : Row Elem.rul S w A n c l) (hG : Gl w) (ha : ∀ r ∈ l, r.attr.size ≤ 4000000)
    (subject name attr : ByteArray) (right : Int) (hr : right = 1 ∨ right = 2 ∨ right = 4 ∨ right = 8 ∨ right = 16 ∨ right = 32) (hat : attr.size ≤ 4000000) :
    Calls Tryz.prog 17 #[.slice A n c, .string subject, .int .i64 right, .string name, .string attr] w fun e w' => e = .returned (.bool (decideF l (bys subject) right (bys name) (bys attr))) ∧ Ext w w' := by
  have HG := hid hG
  have HR := hid h
  have hn : n ≤ 9223372036854775807 := by have := h.cap; have := h.most; simp only [maxLen] at this; omega
  have HNS : ∀ w, Gl w → Calls Tryz.prog 16 #[.string subject] w (NormalSays w (bys subject)) := fun w hG => dnnormal_any subject w hG
  have HNN : ∀ w, Gl w → Calls Tryz.prog 16 #[.string name] w (NormalSays w (bys name)) := fun w hG => dnnormal_any name w hG
  have HTY : ∀ w, Calls Tryz.prog 25 #[.string attr] w (TypeSays w (bys attr)) := fun w => type_any attr w (by simp only [maxLen]; omega)
  have HON : ∀ w, Calls Tryz.prog 26 #[.int .u64 right] w fun e w' => e = .returned (.int .i64 1) ∧ w' = w := fun w => ones_any right hr w
  have HFO : ∀ w', Ext w w' → Calls Tryz.prog 27 #[.slice A n c] w' fun e w'' => e = .returned (.bool (formedL l)) ∧ Ext w' w'' := fun w' hx => polformed_any (h.ext hx) (hG.ext hx) ha
  have HUS : ∀ (r : Rul) w', Ext w w' → Calls Tryz.prog 29 #[.string (str (normalS (bys name))), .string r.target] w' fun e w'' => e = .returned (.bool (underS (bys (str (normalS (bys name)))) (bys r.target))) ∧ Ext w' w'' := fun r w' hx => under_any _ r.target w' (hG.ext hx)
  have HWS : ∀ (r : Rul) w', 0 < r.who.size → Ext w w' → Calls Tryz.prog 28 #[.agg r.cells.toArray, .string (str (normalS (bys subject))), .string (str (normalS (bys name)))] w' fun e w'' => e = .returned (.bool (isF (bys r.who) (bys (str (normalS (bys subject)))) (bys (str (normalS (bys name)))))) ∧ Ext w' w'' := fun r w' hw hx => polwho_any r _ _ w' (hG.ext hx) hw
  have HDD : Hid (decideF l (bys subject) right (bys name) (bys attr) = (codeR (partsB (bys subject)) == 0 && (codeR (partsB (bys name)) == 0 && ((decide (bys attr = []) || !decide ((typeB (bys attr)).1 = [])) && (formedL l && ((l.find? (hitF (normalS (bys subject)) (normalS (bys name)) (typeB (bys attr)).1 right)).map (·.allow)).getD false))))) := rfl
  have HWO : Hid (formedL l = true → ∀ r ∈ l, 0 < r.who.size) := fun h r hr => by
    unfold formedL at h
    rw [Bool.and_eq_true, List.all_eq_true] at h
    exact formed_who (h.2 r hr)
  have tr0 : ¬ right < 0 := by omega
  have tr1 : ¬ 63 < right := by omega
  have hcv : ∀ w, (convert 3 80 (.int .i64 right)).run Tryz.prog w = .ok (.int .u64 right) w := fun w => by rcases hr with rfl | rfl | rfl | rfl | rfl | rfl <;> kernel_rfl
  have hand := fun x w => and_run x right 3 w
  unfold NormalSays at HNS HNN
  unfold TypeSays at HTY
  rw [bys_str] at HUS HWS
  simp only [bys_str] at HWS
  clear h hG ha hr hat
  generalize decideF l (bys subject) right (bys name) (bys attr) = R at *
  generalize codeR (partsB (bys subject)) = c1 at *
  generalize codeR (partsB (bys name)) = c2 at *
  obtain ⟨s, hs⟩ : ∃ s, s = normalS (bys subject) := ⟨_, rfl⟩
  obtain ⟨nm, hnm⟩ : ∃ s, s = normalS (bys name) := ⟨_, rfl⟩
  rw [← hs] at HNS HWS HDD
  rw [← hnm] at HNN HWS HDD HUS
  clear hs hnm
  generalize typeB (bys attr) = tk at *
  obtain ⟨ty, tn⟩ := tk
  simp only at HTY HDD
  obtain ⟨ts, hts⟩ : ∃ x, x = str ty := ⟨_, rfl⟩
  have HBT : Hid (bys ts = ty) := by show _ = _; rw [hts, bys_str]
  rw [← hts] at HTY
  clear hts
  by_cases h1 : c1 = 0
  case neg =>
    have e1 : (c1 != 0) = true := by rw [bne_iff_ne]; exact h1
    rw [show (c1 == 0) = false from beq_eq_false_iff_ne.2 h1, Bool.false_and] at HDD
    clear h1
    go_enter Tryz.func17, Tryz.ntmps17
    go_wp2_with
      (first
        | (go_at_call 16; first
            | ((with_reducible refine (HNS _ HG.out).mono ?_); rintro e w1 ⟨rfl, hx1⟩; have HX1 := hid hx1; clear hx1)
            | ((with_reducible refine (HNN _ (HG.out.ext HX1.out)).mono ?_); rintro e w2 ⟨rfl, hx2⟩; have HX2 := hid (HX1.out.trans hx2); clear hx2))
        | (go_at_call 25; (with_reducible refine (HTY _).mono ?_); rintro e w3 ⟨rfl, hx3⟩; have HX3 := hid (HX2.out.trans hx3); clear hx3)
        | (go_at_call 26; (with_reducible refine (HON _).mono ?_); rintro e w4 ⟨rfl, rfl⟩)
        | (go_at_call 27; (with_reducible refine (HFO _ HX3.out).mono ?_); rintro e w5 ⟨rfl, hx5⟩; have HX5 := hid (HX3.out.trans hx5); clear hx5))
    go_ret
    exact ⟨by rw [HDD.out]; (try rfl), HX3.out⟩
  subst h1
  rw [show ((0 : Int) == 0) = true from rfl, Bool.true_and] at HDD
  by_cases h2 : c2 = 0
  case neg =>
    have e2 : (c2 != 0) = true := by rw [bne_iff_ne]; exact h2
    rw [show (c2 == 0) = false from beq_eq_false_iff_ne.2 h2, Bool.false_and] at HDD
    clear h2
    go_enter Tryz.func17, Tryz.ntmps17
    go_wp2_with
      (first
        | (go_at_call 16; first
            | ((with_reducible refine (HNS _ HG.out).mono ?_); rintro e w1 ⟨rfl, hx1⟩; have HX1 := hid hx1; clear hx1)
            | ((with_reducible refine (HNN _ (HG.out.ext HX1.out)).mono ?_); rintro e w2 ⟨rfl, hx2⟩; have HX2 := hid (HX1.out.trans hx2); clear hx2))
        | (go_at_call 25; (with_reducible refine (HTY _).mono ?_); rintro e w3 ⟨rfl, hx3⟩; have HX3 := hid (HX2.out.trans hx3); clear hx3)
        | (go_at_call 26; (with_reducible refine (HON _).mono ?_); rintro e w4 ⟨rfl, rfl⟩)
        | (go_at_call 27; (with_reducible refine (HFO _ HX3.out).mono ?_); rintro e w5 ⟨rfl, hx5⟩; have HX5 := hid (HX3.out.trans hx5); clear hx5))
    go_ret
    exact ⟨by rw [HDD.out]; (try rfl), HX3.out⟩
  subst h2
  rw [show ((0 : Int) == 0) = true from rfl, Bool.true_and] at HDD
  have k3 : attr.toList = [] ∧ Hid (decide (bys attr = []) = true) ∨ attr.toList.isEmpty = false ∧ Hid (decide (bys attr = []) = false) := by
    by_cases h : attr.size = 0
    · exact .inl ⟨emp_yes h, decide_eq_true ((empt _).1 h)⟩
    · exact .inr ⟨emp_nb h, decide_eq_false (fun e => h ((empt _).2 e))⟩
  have k4 : ts.toList = [] ∧ Hid (decide (ty = []) = true) ∨ ts.toList.isEmpty = false ∧ Hid (decide (ty = []) = false) := by
    by_cases h : ts.size = 0
    · exact .inl ⟨emp_yes h, decide_eq_true (by rw [← HBT.out]; exact (empt _).1 h)⟩
    · exact .inr ⟨emp_nb h, decide_eq_false (fun e => h ((empt _).2 (by rw [HBT.out]; exact e)))⟩
  rcases k3 with ⟨k3, HK3⟩ | ⟨k3, HK3⟩
  · rw [HK3.out, Bool.true_or, Bool.true_and] at HDD
    clear k4
    cases hf : formedL l
    · rw [hf] at HFO
      rw [hf, Bool.false_and] at HDD
      clear hf HWO
      go_enter Tryz.func17, Tryz.ntmps17
      go_wp2_with
        (first
          | (go_at_call 16; first
              | ((with_reducible refine (HNS _ HG.out).mono ?_); rintro e w1 ⟨rfl, hx1⟩; have HX1 := hid hx1; clear hx1)
              | ((with_reducible refine (HNN _ (HG.out.ext HX1.out)).mono ?_); rintro e w2 ⟨rfl, hx2⟩; have HX2 := hid (HX1.out.trans hx2); clear hx2))
          | (go_at_call 25; (with_reducible refine (HTY _).mono ?_); rintro e w3 ⟨rfl, hx3⟩; have HX3 := hid (HX2.out.trans hx3); clear hx3)
          | (go_at_call 26; (with_reducible refine (HON _).mono ?_); rintro e w4 ⟨rfl, rfl⟩)
          | (go_at_call 27; (with_reducible refine (HFO _ HX3.out).mono ?_); rintro e w5 ⟨rfl, hx5⟩; have HX5 := hid (HX3.out.trans hx5); clear hx5))
      go_ret
      exact ⟨by rw [HDD.out]; (try rfl), HX5.out⟩
    · have HW9 := hid (HWO.out hf)
      rw [hf] at HFO
      rw [hf, Bool.true_and] at HDD
      clear hf HWO
      obtain ⟨P, hP⟩ : ∃ P, P = hitF s nm ty right := ⟨_, rfl⟩
      rw [← hP] at HDD
      have HPH : ∀ r : Rul, Hid (P r = hitF s nm ty right r) := fun r => by rw [hP]; rfl
      clear hP
      go_enter Tryz.func17, Tryz.ntmps17
      go_wp2_with
        (first
          | (go_at_call 16; first
              | ((with_reducible refine (HNS _ HG.out).mono ?_); rintro e w1 ⟨rfl, hx1⟩; have HX1 := hid hx1; clear hx1)
              | ((with_reducible refine (HNN _ (HG.out.ext HX1.out)).mono ?_); rintro e w2 ⟨rfl, hx2⟩; have HX2 := hid (HX1.out.trans hx2); clear hx2))
          | (go_at_call 25; (with_reducible refine (HTY _).mono ?_); rintro e w3 ⟨rfl, hx3⟩; have HX3 := hid (HX2.out.trans hx3); clear hx3)
          | (go_at_call 26; (with_reducible refine (HON _).mono ?_); rintro e w4 ⟨rfl, rfl⟩)
          | (go_at_call 27; (with_reducible refine (HFO _ HX3.out).mono ?_); rintro e w5 ⟨rfl, hx5⟩; have HX5 := hid (HX3.out.trans hx5); clear hx5))
      clear HNS HNN HTY HON HFO hcv
      go_loopw [69] (fun i wr => ∃ j : Nat, j ≤ n ∧ i = .int .i64 j ∧ Hid ((l.take j).find? P = none) ∧ Hid (Ext w wr)) (fun i _ => n - (intOf i).toNat)
      case atStart => exact ⟨0, by omega, rfl, by simp [Hid], HX5.out⟩
      case round =>
        obtain ⟨j, hj, rfl, Htk, hx⟩ := hrel
        by_cases hlt : j < n
        · obtain ⟨b1, o1, v1, x1, rfl, g1, -, r1, q1⟩ := (HR.out.ext hx.out).at_ hlt
          have Hg := hid g1
          have hw9 := HW9.out x1 (List.mem_of_getElem? g1)
          have HWH := fun w' => HWS x1 w' hw9
          have HUN := fun w' => HUS x1 w'
          clear HWS HUS g1 hw9
          obtain ⟨who, target, attr1, rights, allow⟩ := x1
          cases r1
          have e10 := q1 0 _ rfl
          have e11 := q1 1 _ rfl
          have e12 := q1 2 _ rfl
          have e13 := q1 3 _ rfl
          have e14 := q1 4 _ rfl
          simp only [Elem.rul, Nat.add_zero] at e10 e11 e12 e13 e14
          unfold Rul.cells at HWH
          simp only at HWH HUN
          clear q1
          have HB0 := hid (Bx.make (Ext.refl wr) #[.string who, .string target, .string attr1, .int .i64 rights, .bool allow] 71)
          have hz := hand rights
          clear hand
          have HZ : Hid (∀ b, (andI rights right == 0) = b → (andI (Rul.mk who target attr1 rights allow).rights right == 0) = b) := fun b h => h
          by_cases hz0 : andI rights right = 0
          · have HPX : Hid (P ⟨who, target, attr1, rights, allow⟩ = false) := by
              show _ = _
              rw [(HPH _).out]
              unfold hitF
              rw [show (andI (Rul.mk who target attr1 rights allow).rights right == 0) = true from beq_iff_eq.2 hz0]
              rfl
            have ez : (andI rights right != 0) = false := by rw [hz0]; rfl
            clear hz0 HWH HUN HPH
            go_wp2
            exact ⟨⟨j + 1, by omega, by go_num, find_none_take Htk.out Hg.out HPX.out, hx.out.trans (Ext.alloc _ _)⟩, by simp [intOf]; omega⟩
          · have HB1 : Hid ((andI (Rul.mk who target attr1 rights allow).rights right == 0) = false) := beq_eq_false_iff_ne.2 hz0
            have ez : (andI rights right != 0) = true := by rw [bne_iff_ne]; exact hz0
            clear hz0
            by_cases ha0 : attr1.size = 0
            · have ea := emp_yes ha0
              have HA0 : Hid (decide (bys attr1 = []) = true) := decide_eq_true ((empt _).1 ha0)
              clear ha0
              cases hu1 : isF (bys who) s nm
              · have HPX := hid ((HPH ⟨who, target, attr1, rights, allow⟩).out.trans (hit_mk HB1.out HA0.out rfl hu1 rfl))
                rw [hu1] at HWH
                clear hu1
                skip
                go_wp2_with
                  (first
                    | (refine load_row_wanted (by kernel_rfl) 71 (.tmp 18) rfl wr.heap.size rfl _ _ _ (heap_alloc_new wr _) Tryz.underlying71 rfl (by kernel_rfl) ?_)
                    | (go_at_call 28; (with_reducible refine (HWH _ (hx.out.trans (Ext.alloc _ _))).mono ?_); rintro e w6 ⟨rfl, hx6⟩; have HXW := hid ((hx.out.trans (Ext.alloc _ _)).trans hx6); have HBW := hid (HB0.out.later hx6); have a1 := HBW.out.cell (i := 1) rfl; have a4 := HBW.out.cell (i := 4) rfl; clear hx6)
                    | (go_at_call 29; (with_reducible refine (HUN _ HXW.out).mono ?_); rintro e w7 ⟨rfl, hx7⟩; have HXU := hid (HXW.out.trans hx7); have HBU := hid (HBW.out.later hx7); have b4 := HBU.out.cell (i := 4) rfl; clear hx7 a1 a4))
                exact ⟨⟨j + 1, by omega, by go_num, find_none_take Htk.out Hg.out (show P ⟨who, target, attr1, rights, allow⟩ = false by rw [HPX.out]; rfl), by first | exact HXW.out | exact HXU.out | exact hx.out.trans (Ext.alloc _ _)⟩, by simp [intOf]; omega⟩
              · rw [hu1] at HWH
                cases hu2 : underS nm (bys target)
                · have HPX := hid ((HPH ⟨who, target, attr1, rights, allow⟩).out.trans (hit_mk HB1.out HA0.out rfl hu1 hu2))
                  rw [hu2] at HUN
                  clear hu1 hu2
                  skip
                  go_wp2_with
                    (first
                      | (refine load_row_wanted (by kernel_rfl) 71 (.tmp 18) rfl wr.heap.size rfl _ _ _ (heap_alloc_new wr _) Tryz.underlying71 rfl (by kernel_rfl) ?_)
                      | (go_at_call 28; (with_reducible refine (HWH _ (hx.out.trans (Ext.alloc _ _))).mono ?_); rintro e w6 ⟨rfl, hx6⟩; have HXW := hid ((hx.out.trans (Ext.alloc _ _)).trans hx6); have HBW := hid (HB0.out.later hx6); have a1 := HBW.out.cell (i := 1) rfl; have a4 := HBW.out.cell (i := 4) rfl; clear hx6)
                      | (go_at_call 29; (with_reducible refine (HUN _ HXW.out).mono ?_); rintro e w7 ⟨rfl, hx7⟩; have HXU := hid (HXW.out.trans hx7); have HBU := hid (HBW.out.later hx7); have b4 := HBU.out.cell (i := 4) rfl; clear hx7 a1 a4))
                  exact ⟨⟨j + 1, by omega, by go_num, find_none_take Htk.out Hg.out (show P ⟨who, target, attr1, rights, allow⟩ = false by rw [HPX.out]; rfl), by first | exact HXW.out | exact HXU.out | exact hx.out.trans (Ext.alloc _ _)⟩, by simp [intOf]; omega⟩
                · have HPX := hid ((HPH ⟨who, target, attr1, rights, allow⟩).out.trans (hit_mk HB1.out HA0.out rfl hu1 hu2))
                  rw [hu2] at HUN
                  clear hu1 hu2
                  skip
                  have HFN := hid (find_at Htk.out Hg.out (show P ⟨who, target, attr1, rights, allow⟩ = true by rw [HPX.out]; rfl))
                  go_wp2_with
                    (first
                      | (refine load_row_wanted (by kernel_rfl) 71 (.tmp 18) rfl wr.heap.size rfl _ _ _ (heap_alloc_new wr _) Tryz.underlying71 rfl (by kernel_rfl) ?_)
                      | (go_at_call 28; (with_reducible refine (HWH _ (hx.out.trans (Ext.alloc _ _))).mono ?_); rintro e w6 ⟨rfl, hx6⟩; have HXW := hid ((hx.out.trans (Ext.alloc _ _)).trans hx6); have HBW := hid (HB0.out.later hx6); have a1 := HBW.out.cell (i := 1) rfl; have a4 := HBW.out.cell (i := 4) rfl; clear hx6)
                      | (go_at_call 29; (with_reducible refine (HUN _ HXW.out).mono ?_); rintro e w7 ⟨rfl, hx7⟩; have HXU := hid (HXW.out.trans hx7); have HBU := hid (HBW.out.later hx7); have b4 := HBU.out.cell (i := 4) rfl; clear hx7 a1 a4))
                  go_ret
                  exact ⟨by rw [HDD.out, HFN.out]; rfl, HXU.out⟩
            · have ea := emp_nb ha0
              have HA0 : Hid (decide (bys attr1 = []) = false) := decide_eq_false (fun e => ha0 ((empt _).2 e))
              clear ha0
              by_cases hat : bys attr1 = ty
              · have eb : (attr1.toList == ts.toList) = true := beq_yes (by rw [HBT.out]; exact hat)
                have HA1 : Hid (decide (bys attr1 = ty) = true) := decide_eq_true hat
                clear hat
                cases hu1 : isF (bys who) s nm
                · have HPX := hid ((HPH ⟨who, target, attr1, rights, allow⟩).out.trans (hit_mk HB1.out HA0.out HA1.out hu1 rfl))
                  rw [hu1] at HWH
                  clear hu1
                  skip
                  go_wp2_with
                    (first
                      | (refine load_row_wanted (by kernel_rfl) 71 (.tmp 18) rfl wr.heap.size rfl _ _ _ (heap_alloc_new wr _) Tryz.underlying71 rfl (by kernel_rfl) ?_)
                      | (go_at_call 28; (with_reducible refine (HWH _ (hx.out.trans (Ext.alloc _ _))).mono ?_); rintro e w6 ⟨rfl, hx6⟩; have HXW := hid ((hx.out.trans (Ext.alloc _ _)).trans hx6); have HBW := hid (HB0.out.later hx6); have a1 := HBW.out.cell (i := 1) rfl; have a4 := HBW.out.cell (i := 4) rfl; clear hx6)
                      | (go_at_call 29; (with_reducible refine (HUN _ HXW.out).mono ?_); rintro e w7 ⟨rfl, hx7⟩; have HXU := hid (HXW.out.trans hx7); have HBU := hid (HBW.out.later hx7); have b4 := HBU.out.cell (i := 4) rfl; clear hx7 a1 a4))
                  exact ⟨⟨j + 1, by omega, by go_num, find_none_take Htk.out Hg.out (show P ⟨who, target, attr1, rights, allow⟩ = false by rw [HPX.out]; rfl), by first | exact HXW.out | exact HXU.out | exact hx.out.trans (Ext.alloc _ _)⟩, by simp [intOf]; omega⟩
                · rw [hu1] at HWH
                  cases hu2 : underS nm (bys target)
                  · have HPX := hid ((HPH ⟨who, target, attr1, rights, allow⟩).out.trans (hit_mk HB1.out HA0.out HA1.out hu1 hu2))
                    rw [hu2] at HUN
                    clear hu1 hu2
                    skip
                    go_wp2_with
                      (first
                        | (refine load_row_wanted (by kernel_rfl) 71 (.tmp 18) rfl wr.heap.size rfl _ _ _ (heap_alloc_new wr _) Tryz.underlying71 rfl (by kernel_rfl) ?_)
                        | (go_at_call 28; (with_reducible refine (HWH _ (hx.out.trans (Ext.alloc _ _))).mono ?_); rintro e w6 ⟨rfl, hx6⟩; have HXW := hid ((hx.out.trans (Ext.alloc _ _)).trans hx6); have HBW := hid (HB0.out.later hx6); have a1 := HBW.out.cell (i := 1) rfl; have a4 := HBW.out.cell (i := 4) rfl; clear hx6)
                        | (go_at_call 29; (with_reducible refine (HUN _ HXW.out).mono ?_); rintro e w7 ⟨rfl, hx7⟩; have HXU := hid (HXW.out.trans hx7); have HBU := hid (HBW.out.later hx7); have b4 := HBU.out.cell (i := 4) rfl; clear hx7 a1 a4))
                    exact ⟨⟨j + 1, by omega, by go_num, find_none_take Htk.out Hg.out (show P ⟨who, target, attr1, rights, allow⟩ = false by rw [HPX.out]; rfl), by first | exact HXW.out | exact HXU.out | exact hx.out.trans (Ext.alloc _ _)⟩, by simp [intOf]; omega⟩
                  · have HPX := hid ((HPH ⟨who, target, attr1, rights, allow⟩).out.trans (hit_mk HB1.out HA0.out HA1.out hu1 hu2))
                    rw [hu2] at HUN
                    clear hu1 hu2
                    skip
                    have HFN := hid (find_at Htk.out Hg.out (show P ⟨who, target, attr1, rights, allow⟩ = true by rw [HPX.out]; rfl))
                    go_wp2_with
                      (first
                        | (refine load_row_wanted (by kernel_rfl) 71 (.tmp 18) rfl wr.heap.size rfl _ _ _ (heap_alloc_new wr _) Tryz.underlying71 rfl (by kernel_rfl) ?_)
                        | (go_at_call 28; (with_reducible refine (HWH _ (hx.out.trans (Ext.alloc _ _))).mono ?_); rintro e w6 ⟨rfl, hx6⟩; have HXW := hid ((hx.out.trans (Ext.alloc _ _)).trans hx6); have HBW := hid (HB0.out.later hx6); have a1 := HBW.out.cell (i := 1) rfl; have a4 := HBW.out.cell (i := 4) rfl; clear hx6)
                        | (go_at_call 29; (with_reducible refine (HUN _ HXW.out).mono ?_); rintro e w7 ⟨rfl, hx7⟩; have HXU := hid (HXW.out.trans hx7); have HBU := hid (HBW.out.later hx7); have b4 := HBU.out.cell (i := 4) rfl; clear hx7 a1 a4))
                    go_ret
                    exact ⟨by rw [HDD.out, HFN.out]; rfl, HXU.out⟩
              · have eb : (attr1.toList == ts.toList) = false := beq_no (by rw [HBT.out]; exact hat)
                have HPX : Hid (P ⟨who, target, attr1, rights, allow⟩ = false) := by
                  show _ = _
                  rw [(HPH _).out, hit_mk HB1.out HA0.out (decide_eq_false hat) rfl rfl]
                  rfl
                clear hat HWH HUN HPH
                go_wp2
                exact ⟨⟨j + 1, by omega, by go_num, find_none_take Htk.out Hg.out HPX.out, hx.out.trans (Ext.alloc _ _)⟩, by simp [intOf]; omega⟩
        · obtain rfl : j = n := by omega
          have h9 := Htk.out
          rw [List.take_of_length_le (Nat.le_of_eq HR.out.len.symm)] at h9
          have H9 := hid h9
          clear h9
          go_wp2
          go_ret
          exact ⟨by rw [HDD.out, H9.out]; rfl, hx.out⟩
  · rcases k4 with ⟨k4, HK4⟩ | ⟨k4, HK4⟩
    · rw [HK3.out, HK4.out, Bool.not_true, Bool.or_false, Bool.false_and] at HDD
      go_enter Tryz.func17, Tryz.ntmps17
      go_wp2_with
        (first
          | (go_at_call 16; first
              | ((with_reducible refine (HNS _ HG.out).mono ?_); rintro e w1 ⟨rfl, hx1⟩; have HX1 := hid hx1; clear hx1)
              | ((with_reducible refine (HNN _ (HG.out.ext HX1.out)).mono ?_); rintro e w2 ⟨rfl, hx2⟩; have HX2 := hid (HX1.out.trans hx2); clear hx2))
          | (go_at_call 25; (with_reducible refine (HTY _).mono ?_); rintro e w3 ⟨rfl, hx3⟩; have HX3 := hid (HX2.out.trans hx3); clear hx3)
          | (go_at_call 26; (with_reducible refine (HON _).mono ?_); rintro e w4 ⟨rfl, rfl⟩)
          | (go_at_call 27; (with_reducible refine (HFO _ HX3.out).mono ?_); rintro e w5 ⟨rfl, hx5⟩; have HX5 := hid (HX3.out.trans hx5); clear hx5))
      go_ret
      exact ⟨by rw [HDD.out]; (try rfl), HX3.out⟩
    · rw [HK3.out, HK4.out, Bool.not_false, Bool.or_true, Bool.true_and] at HDD
      cases hf : formedL l
      · rw [hf] at HFO
        rw [hf, Bool.false_and] at HDD
        clear hf HWO
        go_enter Tryz.func17, Tryz.ntmps17
        go_wp2_with
          (first
            | (go_at_call 16; first
                | ((with_reducible refine (HNS _ HG.out).mono ?_); rintro e w1 ⟨rfl, hx1⟩; have HX1 := hid hx1; clear hx1)
                | ((with_reducible refine (HNN _ (HG.out.ext HX1.out)).mono ?_); rintro e w2 ⟨rfl, hx2⟩; have HX2 := hid (HX1.out.trans hx2); clear hx2))
            | (go_at_call 25; (with_reducible refine (HTY _).mono ?_); rintro e w3 ⟨rfl, hx3⟩; have HX3 := hid (HX2.out.trans hx3); clear hx3)
            | (go_at_call 26; (with_reducible refine (HON _).mono ?_); rintro e w4 ⟨rfl, rfl⟩)
            | (go_at_call 27; (with_reducible refine (HFO _ HX3.out).mono ?_); rintro e w5 ⟨rfl, hx5⟩; have HX5 := hid (HX3.out.trans hx5); clear hx5))
        go_ret
        exact ⟨by rw [HDD.out]; (try rfl), HX5.out⟩
      · have HW9 := hid (HWO.out hf)
        rw [hf] at HFO
        rw [hf, Bool.true_and] at HDD
        clear hf HWO
        obtain ⟨P, hP⟩ : ∃ P, P = hitF s nm ty right := ⟨_, rfl⟩
        rw [← hP] at HDD
        have HPH : ∀ r : Rul, Hid (P r = hitF s nm ty right r) := fun r => by rw [hP]; rfl
        clear hP
        go_enter Tryz.func17, Tryz.ntmps17
        go_wp2_with
          (first
            | (go_at_call 16; first
                | ((with_reducible refine (HNS _ HG.out).mono ?_); rintro e w1 ⟨rfl, hx1⟩; have HX1 := hid hx1; clear hx1)
                | ((with_reducible refine (HNN _ (HG.out.ext HX1.out)).mono ?_); rintro e w2 ⟨rfl, hx2⟩; have HX2 := hid (HX1.out.trans hx2); clear hx2))
            | (go_at_call 25; (with_reducible refine (HTY _).mono ?_); rintro e w3 ⟨rfl, hx3⟩; have HX3 := hid (HX2.out.trans hx3); clear hx3)
            | (go_at_call 26; (with_reducible refine (HON _).mono ?_); rintro e w4 ⟨rfl, rfl⟩)
            | (go_at_call 27; (with_reducible refine (HFO _ HX3.out).mono ?_); rintro e w5 ⟨rfl, hx5⟩; have HX5 := hid (HX3.out.trans hx5); clear hx5))
        clear HNS HNN HTY HON HFO hcv
        go_loopw [69] (fun i wr => ∃ j : Nat, j ≤ n ∧ i = .int .i64 j ∧ Hid ((l.take j).find? P = none) ∧ Hid (Ext w wr)) (fun i _ => n - (intOf i).toNat)
        case atStart => exact ⟨0, by omega, rfl, by simp [Hid], HX5.out⟩
        case round =>
          obtain ⟨j, hj, rfl, Htk, hx⟩ := hrel
          by_cases hlt : j < n
          · obtain ⟨b1, o1, v1, x1, rfl, g1, -, r1, q1⟩ := (HR.out.ext hx.out).at_ hlt
            have Hg := hid g1
            have hw9 := HW9.out x1 (List.mem_of_getElem? g1)
            have HWH := fun w' => HWS x1 w' hw9
            have HUN := fun w' => HUS x1 w'
            clear HWS HUS g1 hw9
            obtain ⟨who, target, attr1, rights, allow⟩ := x1
            cases r1
            have e10 := q1 0 _ rfl
            have e11 := q1 1 _ rfl
            have e12 := q1 2 _ rfl
            have e13 := q1 3 _ rfl
            have e14 := q1 4 _ rfl
            simp only [Elem.rul, Nat.add_zero] at e10 e11 e12 e13 e14
            unfold Rul.cells at HWH
            simp only at HWH HUN
            clear q1
            have HB0 := hid (Bx.make (Ext.refl wr) #[.string who, .string target, .string attr1, .int .i64 rights, .bool allow] 71)
            have hz := hand rights
            clear hand
            have HZ : Hid (∀ b, (andI rights right == 0) = b → (andI (Rul.mk who target attr1 rights allow).rights right == 0) = b) := fun b h => h
            by_cases hz0 : andI rights right = 0
            · have HPX : Hid (P ⟨who, target, attr1, rights, allow⟩ = false) := by
                show _ = _
                rw [(HPH _).out]
                unfold hitF
                rw [show (andI (Rul.mk who target attr1 rights allow).rights right == 0) = true from beq_iff_eq.2 hz0]
                rfl
              have ez : (andI rights right != 0) = false := by rw [hz0]; rfl
              clear hz0 HWH HUN HPH
              go_wp2
              exact ⟨⟨j + 1, by omega, by go_num, find_none_take Htk.out Hg.out HPX.out, hx.out.trans (Ext.alloc _ _)⟩, by simp [intOf]; omega⟩
            · have HB1 : Hid ((andI (Rul.mk who target attr1 rights allow).rights right == 0) = false) := beq_eq_false_iff_ne.2 hz0
              have ez : (andI rights right != 0) = true := by rw [bne_iff_ne]; exact hz0
              clear hz0
              by_cases ha0 : attr1.size = 0
              · have ea := emp_yes ha0
                have HA0 : Hid (decide (bys attr1 = []) = true) := decide_eq_true ((empt _).1 ha0)
                clear ha0
                cases hu1 : isF (bys who) s nm
                · have HPX := hid ((HPH ⟨who, target, attr1, rights, allow⟩).out.trans (hit_mk HB1.out HA0.out rfl hu1 rfl))
                  rw [hu1] at HWH
                  clear hu1
                  skip
                  go_wp2_with
                    (first
                      | (refine load_row_wanted (by kernel_rfl) 71 (.tmp 18) rfl wr.heap.size rfl _ _ _ (heap_alloc_new wr _) Tryz.underlying71 rfl (by kernel_rfl) ?_)
                      | (go_at_call 28; (with_reducible refine (HWH _ (hx.out.trans (Ext.alloc _ _))).mono ?_); rintro e w6 ⟨rfl, hx6⟩; have HXW := hid ((hx.out.trans (Ext.alloc _ _)).trans hx6); have HBW := hid (HB0.out.later hx6); have a1 := HBW.out.cell (i := 1) rfl; have a4 := HBW.out.cell (i := 4) rfl; clear hx6)
                      | (go_at_call 29; (with_reducible refine (HUN _ HXW.out).mono ?_); rintro e w7 ⟨rfl, hx7⟩; have HXU := hid (HXW.out.trans hx7); have HBU := hid (HBW.out.later hx7); have b4 := HBU.out.cell (i := 4) rfl; clear hx7 a1 a4))
                  exact ⟨⟨j + 1, by omega, by go_num, find_none_take Htk.out Hg.out (show P ⟨who, target, attr1, rights, allow⟩ = false by rw [HPX.out]; rfl), by first | exact HXW.out | exact HXU.out | exact hx.out.trans (Ext.alloc _ _)⟩, by simp [intOf]; omega⟩
                · rw [hu1] at HWH
                  cases hu2 : underS nm (bys target)
                  · have HPX := hid ((HPH ⟨who, target, attr1, rights, allow⟩).out.trans (hit_mk HB1.out HA0.out rfl hu1 hu2))
                    rw [hu2] at HUN
                    clear hu1 hu2
                    skip
                    go_wp2_with
                      (first
                        | (refine load_row_wanted (by kernel_rfl) 71 (.tmp 18) rfl wr.heap.size rfl _ _ _ (heap_alloc_new wr _) Tryz.underlying71 rfl (by kernel_rfl) ?_)
                        | (go_at_call 28; (with_reducible refine (HWH _ (hx.out.trans (Ext.alloc _ _))).mono ?_); rintro e w6 ⟨rfl, hx6⟩; have HXW := hid ((hx.out.trans (Ext.alloc _ _)).trans hx6); have HBW := hid (HB0.out.later hx6); have a1 := HBW.out.cell (i := 1) rfl; have a4 := HBW.out.cell (i := 4) rfl; clear hx6)
                        | (go_at_call 29; (with_reducible refine (HUN _ HXW.out).mono ?_); rintro e w7 ⟨rfl, hx7⟩; have HXU := hid (HXW.out.trans hx7); have HBU := hid (HBW.out.later hx7); have b4 := HBU.out.cell (i := 4) rfl; clear hx7 a1 a4))
                    exact ⟨⟨j + 1, by omega, by go_num, find_none_take Htk.out Hg.out (show P ⟨who, target, attr1, rights, allow⟩ = false by rw [HPX.out]; rfl), by first | exact HXW.out | exact HXU.out | exact hx.out.trans (Ext.alloc _ _)⟩, by simp [intOf]; omega⟩
                  · have HPX := hid ((HPH ⟨who, target, attr1, rights, allow⟩).out.trans (hit_mk HB1.out HA0.out rfl hu1 hu2))
                    rw [hu2] at HUN
                    clear hu1 hu2
                    skip
                    have HFN := hid (find_at Htk.out Hg.out (show P ⟨who, target, attr1, rights, allow⟩ = true by rw [HPX.out]; rfl))
                    go_wp2_with
                      (first
                        | (refine load_row_wanted (by kernel_rfl) 71 (.tmp 18) rfl wr.heap.size rfl _ _ _ (heap_alloc_new wr _) Tryz.underlying71 rfl (by kernel_rfl) ?_)
                        | (go_at_call 28; (with_reducible refine (HWH _ (hx.out.trans (Ext.alloc _ _))).mono ?_); rintro e w6 ⟨rfl, hx6⟩; have HXW := hid ((hx.out.trans (Ext.alloc _ _)).trans hx6); have HBW := hid (HB0.out.later hx6); have a1 := HBW.out.cell (i := 1) rfl; have a4 := HBW.out.cell (i := 4) rfl; clear hx6)
                        | (go_at_call 29; (with_reducible refine (HUN _ HXW.out).mono ?_); rintro e w7 ⟨rfl, hx7⟩; have HXU := hid (HXW.out.trans hx7); have HBU := hid (HBW.out.later hx7); have b4 := HBU.out.cell (i := 4) rfl; clear hx7 a1 a4))
                    go_ret
                    exact ⟨by rw [HDD.out, HFN.out]; rfl, HXU.out⟩
              · have ea := emp_nb ha0
                have HA0 : Hid (decide (bys attr1 = []) = false) := decide_eq_false (fun e => ha0 ((empt _).2 e))
                clear ha0
                by_cases hat : bys attr1 = ty
                · have eb : (attr1.toList == ts.toList) = true := beq_yes (by rw [HBT.out]; exact hat)
                  have HA1 : Hid (decide (bys attr1 = ty) = true) := decide_eq_true hat
                  clear hat
                  cases hu1 : isF (bys who) s nm
                  · have HPX := hid ((HPH ⟨who, target, attr1, rights, allow⟩).out.trans (hit_mk HB1.out HA0.out HA1.out hu1 rfl))
                    rw [hu1] at HWH
                    clear hu1
                    skip
                    go_wp2_with
                      (first
                        | (refine load_row_wanted (by kernel_rfl) 71 (.tmp 18) rfl wr.heap.size rfl _ _ _ (heap_alloc_new wr _) Tryz.underlying71 rfl (by kernel_rfl) ?_)
                        | (go_at_call 28; (with_reducible refine (HWH _ (hx.out.trans (Ext.alloc _ _))).mono ?_); rintro e w6 ⟨rfl, hx6⟩; have HXW := hid ((hx.out.trans (Ext.alloc _ _)).trans hx6); have HBW := hid (HB0.out.later hx6); have a1 := HBW.out.cell (i := 1) rfl; have a4 := HBW.out.cell (i := 4) rfl; clear hx6)
                        | (go_at_call 29; (with_reducible refine (HUN _ HXW.out).mono ?_); rintro e w7 ⟨rfl, hx7⟩; have HXU := hid (HXW.out.trans hx7); have HBU := hid (HBW.out.later hx7); have b4 := HBU.out.cell (i := 4) rfl; clear hx7 a1 a4))
                    exact ⟨⟨j + 1, by omega, by go_num, find_none_take Htk.out Hg.out (show P ⟨who, target, attr1, rights, allow⟩ = false by rw [HPX.out]; rfl), by first | exact HXW.out | exact HXU.out | exact hx.out.trans (Ext.alloc _ _)⟩, by simp [intOf]; omega⟩
                  · rw [hu1] at HWH
                    cases hu2 : underS nm (bys target)
                    · have HPX := hid ((HPH ⟨who, target, attr1, rights, allow⟩).out.trans (hit_mk HB1.out HA0.out HA1.out hu1 hu2))
                      rw [hu2] at HUN
                      clear hu1 hu2
                      skip
                      go_wp2_with
                        (first
                          | (refine load_row_wanted (by kernel_rfl) 71 (.tmp 18) rfl wr.heap.size rfl _ _ _ (heap_alloc_new wr _) Tryz.underlying71 rfl (by kernel_rfl) ?_)
                          | (go_at_call 28; (with_reducible refine (HWH _ (hx.out.trans (Ext.alloc _ _))).mono ?_); rintro e w6 ⟨rfl, hx6⟩; have HXW := hid ((hx.out.trans (Ext.alloc _ _)).trans hx6); have HBW := hid (HB0.out.later hx6); have a1 := HBW.out.cell (i := 1) rfl; have a4 := HBW.out.cell (i := 4) rfl; clear hx6)
                          | (go_at_call 29; (with_reducible refine (HUN _ HXW.out).mono ?_); rintro e w7 ⟨rfl, hx7⟩; have HXU := hid (HXW.out.trans hx7); have HBU := hid (HBW.out.later hx7); have b4 := HBU.out.cell (i := 4) rfl; clear hx7 a1 a4))
                      exact ⟨⟨j + 1, by omega, by go_num, find_none_take Htk.out Hg.out (show P ⟨who, target, attr1, rights, allow⟩ = false by rw [HPX.out]; rfl), by first | exact HXW.out | exact HXU.out | exact hx.out.trans (Ext.alloc _ _)⟩, by simp [intOf]; omega⟩
                    · have HPX := hid ((HPH ⟨who, target, attr1, rights, allow⟩).out.trans (hit_mk HB1.out HA0.out HA1.out hu1 hu2))
                      rw [hu2] at HUN
                      clear hu1 hu2
                      skip
                      have HFN := hid (find_at Htk.out Hg.out (show P ⟨who, target, attr1, rights, allow⟩ = true by rw [HPX.out]; rfl))
                      go_wp2_with
                        (first
                          | (refine load_row_wanted (by kernel_rfl) 71 (.tmp 18) rfl wr.heap.size rfl _ _ _ (heap_alloc_new wr _) Tryz.underlying71 rfl (by kernel_rfl) ?_)
                          | (go_at_call 28; (with_reducible refine (HWH _ (hx.out.trans (Ext.alloc _ _))).mono ?_); rintro e w6 ⟨rfl, hx6⟩; have HXW := hid ((hx.out.trans (Ext.alloc _ _)).trans hx6); have HBW := hid (HB0.out.later hx6); have a1 := HBW.out.cell (i := 1) rfl; have a4 := HBW.out.cell (i := 4) rfl; clear hx6)
                          | (go_at_call 29; (with_reducible refine (HUN _ HXW.out).mono ?_); rintro e w7 ⟨rfl, hx7⟩; have HXU := hid (HXW.out.trans hx7); have HBU := hid (HBW.out.later hx7); have b4 := HBU.out.cell (i := 4) rfl; clear hx7 a1 a4))
                      go_ret
                      exact ⟨by rw [HDD.out, HFN.out]; rfl, HXU.out⟩
                · have eb : (attr1.toList == ts.toList) = false := beq_no (by rw [HBT.out]; exact hat)
                  have HPX : Hid (P ⟨who, target, attr1, rights, allow⟩ = false) := by
                    show _ = _
                    rw [(HPH _).out, hit_mk HB1.out HA0.out (decide_eq_false hat) rfl rfl]
                    rfl
                  clear hat HWH HUN HPH
                  go_wp2
                  exact ⟨⟨j + 1, by omega, by go_num, find_none_take Htk.out Hg.out HPX.out, hx.out.trans (Ext.alloc _ _)⟩, by simp [intOf]; omega⟩
          · obtain rfl : j = n := by omega
            have h9 := Htk.out
            rw [List.take_of_length_le (Nat.le_of_eq HR.out.len.symm)] at h9
            have H9 := hid h9
            clear h9
            go_wp2
            go_ret
            exact ⟨by rw [HDD.out, H9.out]; rfl, hx.out⟩
end Go.Proofs.YtkafonmpmgjcpaaGreatDoor
/- The walks of the reference's who, Formed, Decide, of vergerlaw11's Theirs, Few. -/
namespace Go.Proofs.YtkafonmpmgjcpaaGreatDoor
open Go.RowKit
set_option maxRecDepth 100000
set_option linter.unusedSimpArgs false
set_option linter.unusedVariables false

theorem whoF_cons (y : UInt8) (t : List UInt8) : whoF (y :: t) = if y = 64 then codeR (partsB t) == 0 else decide (y :: t = [42]) || (decide (y :: t = [45]) || decide (y :: t = [61])) := by
  unfold whoF Lib.hasPrefix Lib.trimPrefix Lib.hasPrefix
  by_cases h : y = 64
  · subst h; simp
  · have h2 : ¬ (64 : UInt8) = y := fun e => h e.symm
    simp [h, h2]
set_option maxHeartbeats 2000000 in
theorem refwho_any (s : ByteArray) (w : World) (hG : Gl w) : Calls Tryz.prog 55 #[.string s] w fun e w' => e = .returned (.bool (whoF (bys s))) ∧ Ext w w' := by
  have HG := hid hG
  obtain ⟨d, hd⟩ : ∃ d, s.extract 1 s.size = d := ⟨_, rfl⟩
  have HN : ∀ w, Gl w → Calls Tryz.prog 13 #[.string d] w (NormalSays w (bys d)) := fun w hG => rnormal06_any d w hG
  unfold NormalSays at HN
  clear hG
  by_cases h1 : bys s = [42]
  · have e1 := lst_yes h1
    have HF : Hid (whoF (bys s) = true) := by show _ = _; rw [h1]; rfl
    clear h1
    go_enter Tryz.func55, Tryz.ntmps55
    go_wp2
    go_ret
    exact ⟨by rw [HF.out]; (try rfl), Ext.refl _⟩
  have e1 := lst_no h1
  by_cases h2 : bys s = [45]
  · have e2 := lst_yes h2
    have HF : Hid (whoF (bys s) = true) := by show _ = _; rw [h2]; rfl
    clear h1 h2
    go_enter Tryz.func55, Tryz.ntmps55
    go_wp2
    go_ret
    exact ⟨by rw [HF.out]; (try rfl), Ext.refl _⟩
  have e2 := lst_no h2
  by_cases h3 : bys s = [61]
  · have e3 := lst_yes h3
    have HF : Hid (whoF (bys s) = true) := by show _ = _; rw [h3]; rfl
    clear h1 h2 h3
    go_enter Tryz.func55, Tryz.ntmps55
    go_wp2
    go_ret
    exact ⟨by rw [HF.out]; (try rfl), Ext.refl _⟩
  have e3 := lst_no h3
  by_cases h0 : s.size = 0
  · have HF : Hid (whoF (bys s) = false) := by show _ = _; rw [(empt s).1 h0]; rfl
    clear h1 h2 h3
    go_enter Tryz.func55, Tryz.ntmps55
    go_wp2
    go_ret
    exact ⟨by rw [HF.out]; (try rfl), Ext.refl _⟩
  obtain ⟨y, hy⟩ : ∃ x, (bys s)[0]? = some x := ⟨_, List.getElem?_eq_getElem (by rw [bys_len]; omega)⟩
  have hsz : 0 < s.size := by omega
  have gy := bys_get hy hsz
  have hc : bys s = y :: bys d := by
    rw [← hd, ext_drop]
    cases hb : bys s with
    | nil => rw [hb] at hy; cases hy
    | cons z t => rw [hb] at hy; simp at hy; rw [hy]; rfl
  have HC : Hid (whoF (bys s) = if y = 64 then codeR (partsB (bys d)) == 0 else decide (bys s = [42]) || (decide (bys s = [45]) || decide (bys s = [61]))) := by show _ = _; rw [hc]; exact whoF_cons y (bys d)
  rw [decide_eq_false h1, decide_eq_false h2, decide_eq_false h3] at HC
  have t0 : ((s.size : Int) == 0) = false := by rw [beq_eq_false_iff_ne]; omega
  clear hy hc h1 h2 h3
  generalize codeR (partsB (bys d)) = cd at *
  by_cases h64 : y = 64
  · have ty : ((y.toNat : Int) == 64) = true := byte_is (k := 64) (by decide) h64
    have tyn : ((y.toNat : Int) != 64) = false := by rw [bne, ty]; rfl
    rw [if_pos h64] at HC
    clear h64
    have t1 : (1 : Int) ≤ (s.size : Int) := by omega
    have k : (cd == 0) = true ∨ (cd == 0) = false := by cases cd == 0 <;> simp
    rcases k with k | k
    all_goals
      rw [k] at HC
      go_enter Tryz.func55, Tryz.ntmps55
      go_wp2_with (go_at_call 13; (with_reducible refine (HN _ HG.out).mono ?_); rintro e w1 ⟨rfl, hx1⟩; have HX1 := hid hx1; clear hx1)
      go_ret
      exact ⟨by rw [HC.out]; (try rfl), HX1.out⟩
  · have ty : ((y.toNat : Int) == 64) = false := byte_isnt (k := 64) h64
    have tyn : ((y.toNat : Int) != 64) = true := by rw [bne, ty]; rfl
    rw [if_neg h64] at HC
    clear h64
    go_enter Tryz.func55, Tryz.ntmps55
    go_wp2
    go_ret
    exact ⟨by rw [HC.out]; rfl, Ext.refl _⟩
theorem all_take {α : Type} {p : α → Bool} {l : List α} {j : Nat} {x : α} (h : (l.take j).all p = true) (hx : l[j]? = some x) (hp : p x = true) : (l.take (j + 1)).all p = true := by
  rw [List.take_add_one, hx]
  simp only [Option.toList, List.all_append, h, List.all_cons, hp, List.all_nil, Bool.and_self]
theorem all_at {α : Type} {p : α → Bool} {l : List α} {j : Nat} {x : α} (hx : l[j]? = some x) (hp : p x = false) : l.all p = false := by
  rw [List.all_eq_false]
  exact ⟨x, List.mem_of_getElem? hx, by rw [hp]; decide⟩
theorem formedR_mk {r : Rul} {b1 b2 b3 b4 b5 : Bool} (h1 : whoF (bys r.who) = b1) (h2 : (codeR (partsB (bys r.target)) == 0) = b2) (h3 : decide ((typeB (bys r.attr)).1 = bys r.attr) = b3) (h4 : decide (0 < r.rights) = b4) (h5 : decide (r.rights ≤ 63) = b5) :
    formedR r = (b1 && (b2 && (b3 && (b4 && b5)))) := by unfold formedR; rw [h1, h2, h3, h4, h5]
set_option maxHeartbeats 4000000 in
theorem refformed_any {S : Nat → Prop} {A : Option Addr} {n c : Nat} {l : List Rul} {w : World} (h : Row Elem.rul S w A n c l) (hG : Gl w) (ha : ∀ r ∈ l, r.attr.size ≤ 4000000) :
    Calls Tryz.prog 31 #[.slice A n c] w fun e w' => e = .returned (.bool (formedL l)) ∧ Ext w w' := by
  have HG0 := hid hG
  have HR := hid h
  have hl := h.len
  have HLN := hid hl
  have HA := hid ha
  have hn : n ≤ 9223372036854775807 := by have := h.cap; have := h.most; simp only [maxLen] at this; omega
  clear h hG ha
  by_cases h40 : 40 < n
  · have t1 : (40 : Int) < (n : Int) := by omega
    have HF : Hid (formedL l = false) := by show _ = _; unfold formedL; rw [decide_eq_false (by omega), Bool.false_and]
    clear h40 hl
    go_enter Tryz.func31, Tryz.ntmps31
    go_wp2
    go_ret
    exact ⟨by rw [HF.out]; (try rfl), Ext.refl _⟩
  have t1 : ¬ (40 : Int) < (n : Int) := by omega
  have H40 : Hid (l.length ≤ 40) := by show _ ≤ _; omega
  clear h40 hl
  go_enter Tryz.func31, Tryz.ntmps31
  go_wp2
  go_loopw [14] (fun i wr => ∃ j : Nat, j ≤ n ∧ i = .int .i64 j ∧ Hid ((l.take j).all formedR = true) ∧ Hid (Ext w wr)) (fun i _ => n - (intOf i).toNat)
  case atStart => exact ⟨0, by omega, rfl, by simp [Hid], Ext.refl _⟩
  case round =>
    obtain ⟨j, hj, rfl, Htk, hx⟩ := hrel
    by_cases hlt : j < n
    · obtain ⟨b1, o1, v1, x1, rfl, g1, -, r1, q1⟩ := (HR.out.ext hx.out).at_ hlt
      have Hg := hid g1
      have has := HA.out x1 (List.mem_of_getElem? g1)
      have HNT : ∀ w, Gl w → Calls Tryz.prog 13 #[.string x1.target] w (NormalSays w (bys x1.target)) := fun w hG => rnormal06_any x1.target w hG
      have HTY : ∀ w, Calls Tryz.prog 30 #[.string x1.attr] w (TypeSays w (bys x1.attr)) := fun w => rtype_any x1.attr w (by simp only [maxLen]; omega)
      have HWH : ∀ w, Gl w → Calls Tryz.prog 55 #[.string x1.who] w fun e w' => e = .returned (.bool (whoF (bys x1.who))) ∧ Ext w w' := fun w hG => refwho_any x1.who w hG
      unfold NormalSays at HNT
      unfold TypeSays at HTY
      clear g1 has
      obtain ⟨who, target, attr, rights, allow⟩ := x1
      cases r1
      have e10 := q1 0 _ rfl
      have e11 := q1 1 _ rfl
      have e12 := q1 2 _ rfl
      have e13 := q1 3 _ rfl
      have e14 := q1 4 _ rfl
      simp only [Elem.rul, Nat.add_zero] at e10 e11 e12 e13 e14
      simp only at HNT HTY HWH
      clear q1
      have HB0 := hid (Bx.make hx.out #[.string who, .string target, .string attr, .int .i64 rights, .bool allow] 45)
      have HG := HG0
      obtain ⟨ts, hts⟩ : ∃ x, x = str (typeB (bys attr)).1 := ⟨_, rfl⟩
      have hbt : bys ts = (typeB (bys attr)).1 := by rw [hts, bys_str]
      rw [← hts] at HTY
      clear hts
      cases hb1 : whoF (bys who)
      · rw [hb1] at HWH
        have HFF := hid (all_at Hg.out (p := formedR) (show formedR ⟨who, target, attr, rights, allow⟩ = false by (rw [formedR_mk hb1 rfl rfl rfl rfl]; rfl)))
        clear hb1 hbt
        go_wp2_with
          (first
            | (go_at_call 13; (with_reducible refine (HNT _ (HG.out.ext HB0.out.ext)).mono ?_); rintro e w2 ⟨rfl, hx2⟩; have HB2 := hid (HB0.out.later hx2); have a2 := HB2.out.cell (i := 2) rfl; clear hx2)
            | (go_at_call 30; (with_reducible refine (HTY _).mono ?_); rintro e w3 ⟨rfl, hx3⟩; have HB3 := hid (HB2.out.later hx3); have b0 := HB3.out.cell (i := 0) rfl; clear hx3 a2)
            | (go_at_call 55; (with_reducible refine (HWH _ (HG.out.ext HB3.out.ext)).mono ?_); rintro e w4 ⟨rfl, hx4⟩; have HB4 := hid (HB3.out.later hx4); have d2 := HB4.out.cell (i := 2) rfl; have d3 := HB4.out.cell (i := 3) rfl; clear hx4 b0))
        go_ret
        exact ⟨by (show _ = Ending.returned (.bool (formedL l))); unfold formedL; rw [HFF.out, Bool.and_false]; (try rfl), HB4.out.ext⟩
      rw [hb1] at HWH
      cases hb2 : (codeR (partsB (bys target)) == 0)
      · have e2 : (codeR (partsB (bys target)) != 0) = true := by rw [bne, hb2]; rfl
        have HFF := hid (all_at Hg.out (p := formedR) (show formedR ⟨who, target, attr, rights, allow⟩ = false by (rw [formedR_mk hb1 hb2 rfl rfl rfl]; rfl)))
        clear hb1 hb2 hbt
        go_wp2_with
          (first
            | (go_at_call 13; (with_reducible refine (HNT _ (HG.out.ext HB0.out.ext)).mono ?_); rintro e w2 ⟨rfl, hx2⟩; have HB2 := hid (HB0.out.later hx2); have a2 := HB2.out.cell (i := 2) rfl; clear hx2)
            | (go_at_call 30; (with_reducible refine (HTY _).mono ?_); rintro e w3 ⟨rfl, hx3⟩; have HB3 := hid (HB2.out.later hx3); have b0 := HB3.out.cell (i := 0) rfl; clear hx3 a2)
            | (go_at_call 55; (with_reducible refine (HWH _ (HG.out.ext HB3.out.ext)).mono ?_); rintro e w4 ⟨rfl, hx4⟩; have HB4 := hid (HB3.out.later hx4); have d2 := HB4.out.cell (i := 2) rfl; have d3 := HB4.out.cell (i := 3) rfl; clear hx4 b0))
        go_ret
        exact ⟨by (show _ = Ending.returned (.bool (formedL l))); unfold formedL; rw [HFF.out, Bool.and_false]; (try rfl), HB4.out.ext⟩
      have e2 : (codeR (partsB (bys target)) != 0) = false := by rw [bne, hb2]; rfl
      cases hb3 : decide ((typeB (bys attr)).1 = bys attr)
      · have e3 : (attr.toList == ts.toList) = false := beq_no (by rw [hbt]; exact fun e => of_decide_eq_false hb3 e.symm)
        have HFF := hid (all_at Hg.out (p := formedR) (show formedR ⟨who, target, attr, rights, allow⟩ = false by (rw [formedR_mk hb1 hb2 hb3 rfl rfl]; rfl)))
        clear hb1 hb2 hb3 hbt
        go_wp2_with
          (first
            | (go_at_call 13; (with_reducible refine (HNT _ (HG.out.ext HB0.out.ext)).mono ?_); rintro e w2 ⟨rfl, hx2⟩; have HB2 := hid (HB0.out.later hx2); have a2 := HB2.out.cell (i := 2) rfl; clear hx2)
            | (go_at_call 30; (with_reducible refine (HTY _).mono ?_); rintro e w3 ⟨rfl, hx3⟩; have HB3 := hid (HB2.out.later hx3); have b0 := HB3.out.cell (i := 0) rfl; clear hx3 a2)
            | (go_at_call 55; (with_reducible refine (HWH _ (HG.out.ext HB3.out.ext)).mono ?_); rintro e w4 ⟨rfl, hx4⟩; have HB4 := hid (HB3.out.later hx4); have d2 := HB4.out.cell (i := 2) rfl; have d3 := HB4.out.cell (i := 3) rfl; clear hx4 b0))
        go_ret
        exact ⟨by (show _ = Ending.returned (.bool (formedL l))); unfold formedL; rw [HFF.out, Bool.and_false]; (try rfl), HB4.out.ext⟩
      have e3 : (attr.toList == ts.toList) = true := beq_yes (by rw [hbt]; exact (of_decide_eq_true hb3).symm)
      cases hb4 : decide (0 < rights)
      · have e4 : rights < 1 := by have := of_decide_eq_false hb4; omega
        have HFF := hid (all_at Hg.out (p := formedR) (show formedR ⟨who, target, attr, rights, allow⟩ = false by (rw [formedR_mk hb1 hb2 hb3 hb4 rfl]; rfl)))
        clear hb1 hb2 hb3 hb4 hbt
        go_wp2_with
          (first
            | (go_at_call 13; (with_reducible refine (HNT _ (HG.out.ext HB0.out.ext)).mono ?_); rintro e w2 ⟨rfl, hx2⟩; have HB2 := hid (HB0.out.later hx2); have a2 := HB2.out.cell (i := 2) rfl; clear hx2)
            | (go_at_call 30; (with_reducible refine (HTY _).mono ?_); rintro e w3 ⟨rfl, hx3⟩; have HB3 := hid (HB2.out.later hx3); have b0 := HB3.out.cell (i := 0) rfl; clear hx3 a2)
            | (go_at_call 55; (with_reducible refine (HWH _ (HG.out.ext HB3.out.ext)).mono ?_); rintro e w4 ⟨rfl, hx4⟩; have HB4 := hid (HB3.out.later hx4); have d2 := HB4.out.cell (i := 2) rfl; have d3 := HB4.out.cell (i := 3) rfl; clear hx4 b0))
        go_ret
        exact ⟨by (show _ = Ending.returned (.bool (formedL l))); unfold formedL; rw [HFF.out, Bool.and_false]; (try rfl), HB4.out.ext⟩
      have e4 : ¬ rights < 1 := by have := of_decide_eq_true hb4; omega
      cases hb5 : decide (rights ≤ 63)
      · have e5 : 63 < rights := by have := of_decide_eq_false hb5; omega
        have HFF := hid (all_at Hg.out (p := formedR) (show formedR ⟨who, target, attr, rights, allow⟩ = false by (rw [formedR_mk hb1 hb2 hb3 hb4 hb5]; rfl)))
        clear hb1 hb2 hb3 hb4 hb5 hbt
        go_wp2_with
          (first
            | (go_at_call 13; (with_reducible refine (HNT _ (HG.out.ext HB0.out.ext)).mono ?_); rintro e w2 ⟨rfl, hx2⟩; have HB2 := hid (HB0.out.later hx2); have a2 := HB2.out.cell (i := 2) rfl; clear hx2)
            | (go_at_call 30; (with_reducible refine (HTY _).mono ?_); rintro e w3 ⟨rfl, hx3⟩; have HB3 := hid (HB2.out.later hx3); have b0 := HB3.out.cell (i := 0) rfl; clear hx3 a2)
            | (go_at_call 55; (with_reducible refine (HWH _ (HG.out.ext HB3.out.ext)).mono ?_); rintro e w4 ⟨rfl, hx4⟩; have HB4 := hid (HB3.out.later hx4); have d2 := HB4.out.cell (i := 2) rfl; have d3 := HB4.out.cell (i := 3) rfl; clear hx4 b0))
        go_ret
        exact ⟨by (show _ = Ending.returned (.bool (formedL l))); unfold formedL; rw [HFF.out, Bool.and_false]; (try rfl), HB4.out.ext⟩
      have e5 : ¬ 63 < rights := by have := of_decide_eq_true hb5; omega
      have HFY := hid (all_take Htk.out Hg.out (p := formedR) (show formedR ⟨who, target, attr, rights, allow⟩ = true by (rw [formedR_mk hb1 hb2 hb3 hb4 hb5]; rfl)))
      clear hb1 hb2 hb3 hb4 hb5 hbt
      go_wp2_with
        (first
          | (go_at_call 13; (with_reducible refine (HNT _ (HG.out.ext HB0.out.ext)).mono ?_); rintro e w2 ⟨rfl, hx2⟩; have HB2 := hid (HB0.out.later hx2); have a2 := HB2.out.cell (i := 2) rfl; clear hx2)
          | (go_at_call 30; (with_reducible refine (HTY _).mono ?_); rintro e w3 ⟨rfl, hx3⟩; have HB3 := hid (HB2.out.later hx3); have b0 := HB3.out.cell (i := 0) rfl; clear hx3 a2)
          | (go_at_call 55; (with_reducible refine (HWH _ (HG.out.ext HB3.out.ext)).mono ?_); rintro e w4 ⟨rfl, hx4⟩; have HB4 := hid (HB3.out.later hx4); have d2 := HB4.out.cell (i := 2) rfl; have d3 := HB4.out.cell (i := 3) rfl; clear hx4 b0))
      exact ⟨⟨j + 1, by omega, by go_num, HFY, HB4.out.ext⟩, by simp [intOf]; omega⟩
    · obtain rfl : j = n := by omega
      have h9 := Htk.out
      rw [List.take_of_length_le (Nat.le_of_eq HLN.out.symm)] at h9
      have HF : Hid (formedL l = true) := by show _ = _; unfold formedL; rw [decide_eq_true H40.out, h9]; rfl
      clear h9
      go_wp2
      go_ret
      exact ⟨by rw [HF.out]; (try rfl), hx.out⟩
end Go.Proofs.YtkafonmpmgjcpaaGreatDoor
/- The walks of the reference's Decide, of vergerlaw11's Theirs and Few. -/
namespace Go.Proofs.YtkafonmpmgjcpaaGreatDoor
open Go.RowKit
set_option maxRecDepth 100000
set_option linter.unusedSimpArgs false
set_option linter.unusedVariables false

set_option maxHeartbeats 4000000 in
theorem refdecide_any {S : Nat → Prop} {A : Option Addr} {n c : Nat} {l : List Rul} {w : World} (h : Row Elem.rul S w A n c l) (hG : Gl w) (ha : ∀ r ∈ l, r.attr.size ≤ 4000000)
    (subject name attr : ByteArray) (right : Int) (hr : right = 1 ∨ right = 2 ∨ right = 4 ∨ right = 8 ∨ right = 16 ∨ right = 32) (hat : attr.size ≤ 4000000) :
    Calls Tryz.prog 18 #[.slice A n c, .string subject, .int .i64 right, .string name, .string attr] w fun e w' => e = .returned (.bool (decideF l (bys subject) right (bys name) (bys attr))) ∧ Ext w w' := by
  have HG := hid hG
  have HR := hid h
  have HRT := hid hr
  have hn : n ≤ 9223372036854775807 := by have := h.cap; have := h.most; simp only [maxLen] at this; omega
  have HNS : ∀ w, Gl w → Calls Tryz.prog 13 #[.string subject] w (NormalSays w (bys subject)) := fun w hG => rnormal06_any subject w hG
  have HNN : ∀ w, Gl w → Calls Tryz.prog 13 #[.string name] w (NormalSays w (bys name)) := fun w hG => rnormal06_any name w hG
  have HTY : ∀ w, Calls Tryz.prog 30 #[.string attr] w (TypeSays w (bys attr)) := fun w => rtype_any attr w (by simp only [maxLen]; omega)
  have HFO : ∀ w', Ext w w' → Calls Tryz.prog 31 #[.slice A n c] w' fun e w'' => e = .returned (.bool (formedL l)) ∧ Ext w' w'' := fun w' hx => refformed_any (h.ext hx) (hG.ext hx) ha
  have HUS : ∀ (r : Rul) w', Ext w w' → Calls Tryz.prog 33 #[.string (str (normalS (bys name))), .string r.target] w' fun e w'' => e = .returned (.bool (underS (bys (str (normalS (bys name)))) (bys r.target))) ∧ Ext w' w'' := fun r w' hx => runder_any _ r.target w' (hG.ext hx)
  have HWS : ∀ (r : Rul) w', 0 < r.who.size → Ext w w' → Calls Tryz.prog 32 #[.string r.who, .string (str (normalS (bys subject))), .string (str (normalS (bys name)))] w' fun e w'' => e = .returned (.bool (isF (bys r.who) (bys (str (normalS (bys subject)))) (bys (str (normalS (bys name)))))) ∧ Ext w' w'' := fun r w' hw hx => refis_any r _ _ w' (hG.ext hx) hw
  have HDD : Hid (decideF l (bys subject) right (bys name) (bys attr) = (codeR (partsB (bys subject)) == 0 && (codeR (partsB (bys name)) == 0 && ((decide (bys attr = []) || !decide ((typeB (bys attr)).1 = [])) && (formedL l && ((l.find? (hitF (normalS (bys subject)) (normalS (bys name)) (typeB (bys attr)).1 right)).map (·.allow)).getD false))))) := rfl
  have HWO : Hid (formedL l = true → ∀ r ∈ l, 0 < r.who.size) := fun h r hr => by
    unfold formedL at h
    rw [Bool.and_eq_true, List.all_eq_true] at h
    exact formed_who (h.2 r hr)
  have hand := fun x w => and_run x right 3 w
  unfold NormalSays at HNS HNN
  unfold TypeSays at HTY
  rw [bys_str] at HUS
  simp only [bys_str] at HWS
  clear h hG ha hr hat
  generalize decideF l (bys subject) right (bys name) (bys attr) = R at *
  generalize codeR (partsB (bys subject)) = c1 at *
  generalize codeR (partsB (bys name)) = c2 at *
  obtain ⟨s, hs⟩ : ∃ s, s = normalS (bys subject) := ⟨_, rfl⟩
  obtain ⟨nm, hnm⟩ : ∃ s, s = normalS (bys name) := ⟨_, rfl⟩
  rw [← hs] at HNS HWS HDD
  rw [← hnm] at HNN HWS HDD HUS
  clear hs hnm
  generalize typeB (bys attr) = tk at *
  obtain ⟨ty, tn⟩ := tk
  simp only at HTY HDD
  obtain ⟨ts, hts⟩ : ∃ x, x = str ty := ⟨_, rfl⟩
  have HBT : Hid (bys ts = ty) := by show _ = _; rw [hts, bys_str]
  rw [← hts] at HTY
  clear hts
  go_enter Tryz.func18, Tryz.ntmps18
  go_upto_region 4 with
    (first
      | (go_at_call 13; first
          | ((with_reducible refine (HNS _ HG.out).mono ?_); rintro e w1 ⟨rfl, hx1⟩; have HX1 := hid hx1; clear hx1)
          | ((with_reducible refine (HNN _ (HG.out.ext HX1.out)).mono ?_); rintro e w2 ⟨rfl, hx2⟩; have HX2 := hid (HX1.out.trans hx2); clear hx2))
      | (go_at_call 30; (with_reducible refine (HTY _).mono ?_); rintro e w3 ⟨rfl, hx3⟩; have HX3 := hid (HX2.out.trans hx3); clear hx3))
  clear HNS HNN HTY
  go_cut [17] (fun c wx => c = .bool true ∧ wx = w3)
  case first =>
    as_aux_lemma =>
      clear HWS HUS HFO HDD hand HR
      rcases HRT.out with rfl | rfl | rfl | rfl | rfl | rfl
      all_goals
        go_wp2
        go_meet
        exact ⟨rfl, rfl⟩
  case rest =>
    obtain ⟨rfl, rfl⟩ := hcut
    cases hf : formedL l
    · rw [hf] at HFO
      rw [hf, Bool.false_and, Bool.and_false, Bool.and_false, Bool.and_false] at HDD
      clear hf HWO
      go_wp2_with
        (first
          | (go_at_call 31; (with_reducible refine (HFO _ HX3.out).mono ?_); rintro e w5 ⟨rfl, hx5⟩; have HX5 := hid (HX3.out.trans hx5); clear hx5))
      go_ret
      exact ⟨by rw [HDD.out]; (try rfl), HX5.out⟩
    have HW9 := hid (HWO.out hf)
    rw [hf] at HFO
    rw [hf, Bool.true_and] at HDD
    clear hf HWO
    by_cases h1 : c1 = 0
    case neg =>
      have e1 : (c1 != 0) = true := by rw [bne_iff_ne]; exact h1
      rw [show (c1 == 0) = false from beq_eq_false_iff_ne.2 h1, Bool.false_and] at HDD
      clear h1
      go_wp2_with
        (first
          | (go_at_call 31; (with_reducible refine (HFO _ HX3.out).mono ?_); rintro e w5 ⟨rfl, hx5⟩; have HX5 := hid (HX3.out.trans hx5); clear hx5))
      go_ret
      exact ⟨by rw [HDD.out]; (try rfl), HX5.out⟩
    subst h1
    rw [show ((0 : Int) == 0) = true from rfl, Bool.true_and] at HDD
    by_cases h2 : c2 = 0
    case neg =>
      have e2 : (c2 != 0) = true := by rw [bne_iff_ne]; exact h2
      rw [show (c2 == 0) = false from beq_eq_false_iff_ne.2 h2, Bool.false_and] at HDD
      clear h2
      go_wp2_with
        (first
          | (go_at_call 31; (with_reducible refine (HFO _ HX3.out).mono ?_); rintro e w5 ⟨rfl, hx5⟩; have HX5 := hid (HX3.out.trans hx5); clear hx5))
      go_ret
      exact ⟨by rw [HDD.out]; (try rfl), HX5.out⟩
    subst h2
    rw [show ((0 : Int) == 0) = true from rfl, Bool.true_and] at HDD
    have k3 : attr.toList = [] ∧ Hid (decide (bys attr = []) = true) ∨ attr.toList.isEmpty = false ∧ Hid (decide (bys attr = []) = false) := by
      by_cases h : attr.size = 0
      · exact .inl ⟨emp_yes h, decide_eq_true ((empt _).1 h)⟩
      · exact .inr ⟨emp_nb h, decide_eq_false (fun e => h ((empt _).2 e))⟩
    have k4 : ts.toList = [] ∧ Hid (decide (ty = []) = true) ∨ ts.toList.isEmpty = false ∧ Hid (decide (ty = []) = false) := by
      by_cases h : ts.size = 0
      · exact .inl ⟨emp_yes h, decide_eq_true (by rw [← HBT.out]; exact (empt _).1 h)⟩
      · exact .inr ⟨emp_nb h, decide_eq_false (fun e => h ((empt _).2 (by rw [HBT.out]; exact e)))⟩
    rcases k3 with ⟨k3, HK3⟩ | ⟨k3, HK3⟩
    · rw [HK3.out, Bool.true_or, Bool.true_and] at HDD
      clear k4
      obtain ⟨P, hP⟩ : ∃ P, P = hitF s nm ty right := ⟨_, rfl⟩
      rw [← hP] at HDD
      have HPH : ∀ r : Rul, Hid (P r = hitF s nm ty right r) := fun r => by rw [hP]; rfl
      clear hP
      go_wp2_with
        (first
          | (go_at_call 31; (with_reducible refine (HFO _ HX3.out).mono ?_); rintro e w5 ⟨rfl, hx5⟩; have HX5 := hid (HX3.out.trans hx5); clear hx5))
      clear HFO
      go_loopw [82] (fun i wr => ∃ j : Nat, j ≤ n ∧ i = .int .i64 j ∧ Hid ((l.take j).find? P = none) ∧ Hid (Ext w wr)) (fun i _ => n - (intOf i).toNat)
      case atStart => exact ⟨0, by omega, rfl, by simp [Hid], HX5.out⟩
      case round =>
        obtain ⟨j, hj, rfl, Htk, hx⟩ := hrel
        by_cases hlt : j < n
        · obtain ⟨b1, o1, v1, x1, rfl, g1, -, r1, q1⟩ := (HR.out.ext hx.out).at_ hlt
          have Hg := hid g1
          have hw9 := HW9.out x1 (List.mem_of_getElem? g1)
          have HWH := fun w' => HWS x1 w' hw9
          have HUN := fun w' => HUS x1 w'
          clear HWS HUS g1 hw9
          obtain ⟨who, target, attr1, rights, allow⟩ := x1
          cases r1
          have e10 := q1 0 _ rfl
          have e11 := q1 1 _ rfl
          have e12 := q1 2 _ rfl
          have e13 := q1 3 _ rfl
          have e14 := q1 4 _ rfl
          simp only [Elem.rul, Nat.add_zero] at e10 e11 e12 e13 e14
          simp only at HWH HUN
          clear q1
          have HB0 := hid (Bx.make (Ext.refl wr) #[.string who, .string target, .string attr1, .int .i64 rights, .bool allow] 45)
          have hz := hand rights
          clear hand
          cases hu1 : isF (bys who) s nm
          · rw [hu1] at HWH
            have HPX := hid ((HPH ⟨who, target, attr1, rights, allow⟩).out.trans (hit_mk rfl rfl rfl hu1 rfl))
            clear hu1
            go_wp2_with
              (first
                | (go_at_call 32; (with_reducible refine (HWH _ (hx.out.trans (Ext.alloc _ _))).mono ?_); rintro e w6 ⟨rfl, hx6⟩; have HXW := hid ((hx.out.trans (Ext.alloc _ _)).trans hx6); have HBW := hid (HB0.out.later hx6); have a1 := HBW.out.cell (i := 1) rfl; have a3 := HBW.out.cell (i := 3) rfl; clear hx6)
                | (go_at_call 33; (with_reducible refine (HUN _ HXW.out).mono ?_); rintro e w7 ⟨rfl, hx7⟩; have HXU := hid (HXW.out.trans hx7); have HBU := hid (HBW.out.later hx7); have b2 := HBU.out.cell (i := 2) rfl; have b4 := HBU.out.cell (i := 4) rfl; clear hx7 a1 a3))
            exact ⟨⟨j + 1, by omega, by go_num, find_none_take Htk.out Hg.out (show P ⟨who, target, attr1, rights, allow⟩ = false by rw [HPX.out]; (try simp)), by first | exact HXU.out | exact HXW.out⟩, by simp [intOf]; omega⟩
          rw [hu1] at HWH
          by_cases hz0 : andI rights right = 0
          · have hzz : (andI (Rul.mk who target attr1 rights allow).rights right == 0) = true := beq_iff_eq.2 hz0
            have ez : (andI rights right != 0) = false := by rw [hz0]; rfl
            have HPX := hid ((HPH ⟨who, target, attr1, rights, allow⟩).out.trans (hit_mk hzz rfl rfl hu1 rfl))
            clear hu1 hz0 hzz
            go_wp2_with
              (first
                | (go_at_call 32; (with_reducible refine (HWH _ (hx.out.trans (Ext.alloc _ _))).mono ?_); rintro e w6 ⟨rfl, hx6⟩; have HXW := hid ((hx.out.trans (Ext.alloc _ _)).trans hx6); have HBW := hid (HB0.out.later hx6); have a1 := HBW.out.cell (i := 1) rfl; have a3 := HBW.out.cell (i := 3) rfl; clear hx6)
                | (go_at_call 33; (with_reducible refine (HUN _ HXW.out).mono ?_); rintro e w7 ⟨rfl, hx7⟩; have HXU := hid (HXW.out.trans hx7); have HBU := hid (HBW.out.later hx7); have b2 := HBU.out.cell (i := 2) rfl; have b4 := HBU.out.cell (i := 4) rfl; clear hx7 a1 a3))
            exact ⟨⟨j + 1, by omega, by go_num, find_none_take Htk.out Hg.out (show P ⟨who, target, attr1, rights, allow⟩ = false by rw [HPX.out]; (try simp)), by first | exact HXU.out | exact HXW.out⟩, by simp [intOf]; omega⟩
          have hzz : (andI (Rul.mk who target attr1 rights allow).rights right == 0) = false := beq_eq_false_iff_ne.2 hz0
          have ez : (andI rights right != 0) = true := by rw [bne_iff_ne]; exact hz0
          cases hu2 : underS nm (bys target)
          · rw [hu2] at HUN
            have HPX := hid ((HPH ⟨who, target, attr1, rights, allow⟩).out.trans (hit_mk hzz rfl rfl hu1 hu2))
            clear hu1 hu2 hz0 hzz
            go_wp2_with
              (first
                | (go_at_call 32; (with_reducible refine (HWH _ (hx.out.trans (Ext.alloc _ _))).mono ?_); rintro e w6 ⟨rfl, hx6⟩; have HXW := hid ((hx.out.trans (Ext.alloc _ _)).trans hx6); have HBW := hid (HB0.out.later hx6); have a1 := HBW.out.cell (i := 1) rfl; have a3 := HBW.out.cell (i := 3) rfl; clear hx6)
                | (go_at_call 33; (with_reducible refine (HUN _ HXW.out).mono ?_); rintro e w7 ⟨rfl, hx7⟩; have HXU := hid (HXW.out.trans hx7); have HBU := hid (HBW.out.later hx7); have b2 := HBU.out.cell (i := 2) rfl; have b4 := HBU.out.cell (i := 4) rfl; clear hx7 a1 a3))
            exact ⟨⟨j + 1, by omega, by go_num, find_none_take Htk.out Hg.out (show P ⟨who, target, attr1, rights, allow⟩ = false by rw [HPX.out]; (try simp)), by first | exact HXU.out | exact HXW.out⟩, by simp [intOf]; omega⟩
          rw [hu2] at HUN
          by_cases ha0 : attr1.size = 0
          · have ea := emp_yes ha0
            have ha1 : decide (bys attr1 = []) = true := decide_eq_true ((empt _).1 ha0)
            have HPX := hid ((HPH ⟨who, target, attr1, rights, allow⟩).out.trans (hit_mk hzz ha1 rfl hu1 hu2))
            have HFN := hid (find_at Htk.out Hg.out (show P ⟨who, target, attr1, rights, allow⟩ = true by rw [HPX.out]; rfl))
            clear ha0 ha1 hu1 hu2 hz0 hzz
            go_wp2_with
              (first
                | (go_at_call 32; (with_reducible refine (HWH _ (hx.out.trans (Ext.alloc _ _))).mono ?_); rintro e w6 ⟨rfl, hx6⟩; have HXW := hid ((hx.out.trans (Ext.alloc _ _)).trans hx6); have HBW := hid (HB0.out.later hx6); have a1 := HBW.out.cell (i := 1) rfl; have a3 := HBW.out.cell (i := 3) rfl; clear hx6)
                | (go_at_call 33; (with_reducible refine (HUN _ HXW.out).mono ?_); rintro e w7 ⟨rfl, hx7⟩; have HXU := hid (HXW.out.trans hx7); have HBU := hid (HBW.out.later hx7); have b2 := HBU.out.cell (i := 2) rfl; have b4 := HBU.out.cell (i := 4) rfl; clear hx7 a1 a3))
            go_ret
            exact ⟨by rw [HDD.out, HFN.out]; rfl, HXU.out⟩
          have ea := emp_nb ha0
          have ha1 : decide (bys attr1 = []) = false := decide_eq_false (fun e => ha0 ((empt _).2 e))
          by_cases hat : bys attr1 = ty
          · have eb : (attr1.toList == ts.toList) = true := beq_yes (by rw [HBT.out]; exact hat)
            have HPX := hid ((HPH ⟨who, target, attr1, rights, allow⟩).out.trans (hit_mk hzz ha1 (decide_eq_true hat) hu1 hu2))
            have HFN := hid (find_at Htk.out Hg.out (show P ⟨who, target, attr1, rights, allow⟩ = true by rw [HPX.out]; rfl))
            clear ha0 ha1 hat hu1 hu2 hz0 hzz
            go_wp2_with
              (first
                | (go_at_call 32; (with_reducible refine (HWH _ (hx.out.trans (Ext.alloc _ _))).mono ?_); rintro e w6 ⟨rfl, hx6⟩; have HXW := hid ((hx.out.trans (Ext.alloc _ _)).trans hx6); have HBW := hid (HB0.out.later hx6); have a1 := HBW.out.cell (i := 1) rfl; have a3 := HBW.out.cell (i := 3) rfl; clear hx6)
                | (go_at_call 33; (with_reducible refine (HUN _ HXW.out).mono ?_); rintro e w7 ⟨rfl, hx7⟩; have HXU := hid (HXW.out.trans hx7); have HBU := hid (HBW.out.later hx7); have b2 := HBU.out.cell (i := 2) rfl; have b4 := HBU.out.cell (i := 4) rfl; clear hx7 a1 a3))
            go_ret
            exact ⟨by rw [HDD.out, HFN.out]; rfl, HXU.out⟩
          · have eb : (attr1.toList == ts.toList) = false := beq_no (by rw [HBT.out]; exact hat)
            have HPX := hid ((HPH ⟨who, target, attr1, rights, allow⟩).out.trans (hit_mk hzz ha1 (decide_eq_false hat) hu1 hu2))
            clear ha0 ha1 hat hu1 hu2 hz0 hzz
            go_wp2_with
              (first
                | (go_at_call 32; (with_reducible refine (HWH _ (hx.out.trans (Ext.alloc _ _))).mono ?_); rintro e w6 ⟨rfl, hx6⟩; have HXW := hid ((hx.out.trans (Ext.alloc _ _)).trans hx6); have HBW := hid (HB0.out.later hx6); have a1 := HBW.out.cell (i := 1) rfl; have a3 := HBW.out.cell (i := 3) rfl; clear hx6)
                | (go_at_call 33; (with_reducible refine (HUN _ HXW.out).mono ?_); rintro e w7 ⟨rfl, hx7⟩; have HXU := hid (HXW.out.trans hx7); have HBU := hid (HBW.out.later hx7); have b2 := HBU.out.cell (i := 2) rfl; have b4 := HBU.out.cell (i := 4) rfl; clear hx7 a1 a3))
            exact ⟨⟨j + 1, by omega, by go_num, find_none_take Htk.out Hg.out (show P ⟨who, target, attr1, rights, allow⟩ = false by rw [HPX.out]; (try simp)), by first | exact HXU.out | exact HXW.out⟩, by simp [intOf]; omega⟩
        · obtain rfl : j = n := by omega
          have h9 := Htk.out
          rw [List.take_of_length_le (Nat.le_of_eq HR.out.len.symm)] at h9
          have H9 := hid h9
          clear h9
          go_wp2
          go_ret
          exact ⟨by rw [HDD.out, H9.out]; rfl, hx.out⟩
    · rcases k4 with ⟨k4, HK4⟩ | ⟨k4, HK4⟩
      · rw [HK3.out, HK4.out, Bool.not_true, Bool.or_false, Bool.false_and] at HDD
        go_wp2_with
          (first
            | (go_at_call 31; (with_reducible refine (HFO _ HX3.out).mono ?_); rintro e w5 ⟨rfl, hx5⟩; have HX5 := hid (HX3.out.trans hx5); clear hx5))
        go_ret
        exact ⟨by rw [HDD.out]; (try rfl), HX5.out⟩
      · rw [HK3.out, HK4.out, Bool.not_false, Bool.or_true, Bool.true_and] at HDD
        obtain ⟨P, hP⟩ : ∃ P, P = hitF s nm ty right := ⟨_, rfl⟩
        rw [← hP] at HDD
        have HPH : ∀ r : Rul, Hid (P r = hitF s nm ty right r) := fun r => by rw [hP]; rfl
        clear hP
        go_wp2_with
          (first
            | (go_at_call 31; (with_reducible refine (HFO _ HX3.out).mono ?_); rintro e w5 ⟨rfl, hx5⟩; have HX5 := hid (HX3.out.trans hx5); clear hx5))
        clear HFO
        go_loopw [82] (fun i wr => ∃ j : Nat, j ≤ n ∧ i = .int .i64 j ∧ Hid ((l.take j).find? P = none) ∧ Hid (Ext w wr)) (fun i _ => n - (intOf i).toNat)
        case atStart => exact ⟨0, by omega, rfl, by simp [Hid], HX5.out⟩
        case round =>
          obtain ⟨j, hj, rfl, Htk, hx⟩ := hrel
          by_cases hlt : j < n
          · obtain ⟨b1, o1, v1, x1, rfl, g1, -, r1, q1⟩ := (HR.out.ext hx.out).at_ hlt
            have Hg := hid g1
            have hw9 := HW9.out x1 (List.mem_of_getElem? g1)
            have HWH := fun w' => HWS x1 w' hw9
            have HUN := fun w' => HUS x1 w'
            clear HWS HUS g1 hw9
            obtain ⟨who, target, attr1, rights, allow⟩ := x1
            cases r1
            have e10 := q1 0 _ rfl
            have e11 := q1 1 _ rfl
            have e12 := q1 2 _ rfl
            have e13 := q1 3 _ rfl
            have e14 := q1 4 _ rfl
            simp only [Elem.rul, Nat.add_zero] at e10 e11 e12 e13 e14
            simp only at HWH HUN
            clear q1
            have HB0 := hid (Bx.make (Ext.refl wr) #[.string who, .string target, .string attr1, .int .i64 rights, .bool allow] 45)
            have hz := hand rights
            clear hand
            cases hu1 : isF (bys who) s nm
            · rw [hu1] at HWH
              have HPX := hid ((HPH ⟨who, target, attr1, rights, allow⟩).out.trans (hit_mk rfl rfl rfl hu1 rfl))
              clear hu1
              go_wp2_with
                (first
                  | (go_at_call 32; (with_reducible refine (HWH _ (hx.out.trans (Ext.alloc _ _))).mono ?_); rintro e w6 ⟨rfl, hx6⟩; have HXW := hid ((hx.out.trans (Ext.alloc _ _)).trans hx6); have HBW := hid (HB0.out.later hx6); have a1 := HBW.out.cell (i := 1) rfl; have a3 := HBW.out.cell (i := 3) rfl; clear hx6)
                  | (go_at_call 33; (with_reducible refine (HUN _ HXW.out).mono ?_); rintro e w7 ⟨rfl, hx7⟩; have HXU := hid (HXW.out.trans hx7); have HBU := hid (HBW.out.later hx7); have b2 := HBU.out.cell (i := 2) rfl; have b4 := HBU.out.cell (i := 4) rfl; clear hx7 a1 a3))
              exact ⟨⟨j + 1, by omega, by go_num, find_none_take Htk.out Hg.out (show P ⟨who, target, attr1, rights, allow⟩ = false by rw [HPX.out]; (try simp)), by first | exact HXU.out | exact HXW.out⟩, by simp [intOf]; omega⟩
            rw [hu1] at HWH
            by_cases hz0 : andI rights right = 0
            · have hzz : (andI (Rul.mk who target attr1 rights allow).rights right == 0) = true := beq_iff_eq.2 hz0
              have ez : (andI rights right != 0) = false := by rw [hz0]; rfl
              have HPX := hid ((HPH ⟨who, target, attr1, rights, allow⟩).out.trans (hit_mk hzz rfl rfl hu1 rfl))
              clear hu1 hz0 hzz
              go_wp2_with
                (first
                  | (go_at_call 32; (with_reducible refine (HWH _ (hx.out.trans (Ext.alloc _ _))).mono ?_); rintro e w6 ⟨rfl, hx6⟩; have HXW := hid ((hx.out.trans (Ext.alloc _ _)).trans hx6); have HBW := hid (HB0.out.later hx6); have a1 := HBW.out.cell (i := 1) rfl; have a3 := HBW.out.cell (i := 3) rfl; clear hx6)
                  | (go_at_call 33; (with_reducible refine (HUN _ HXW.out).mono ?_); rintro e w7 ⟨rfl, hx7⟩; have HXU := hid (HXW.out.trans hx7); have HBU := hid (HBW.out.later hx7); have b2 := HBU.out.cell (i := 2) rfl; have b4 := HBU.out.cell (i := 4) rfl; clear hx7 a1 a3))
              exact ⟨⟨j + 1, by omega, by go_num, find_none_take Htk.out Hg.out (show P ⟨who, target, attr1, rights, allow⟩ = false by rw [HPX.out]; (try simp)), by first | exact HXU.out | exact HXW.out⟩, by simp [intOf]; omega⟩
            have hzz : (andI (Rul.mk who target attr1 rights allow).rights right == 0) = false := beq_eq_false_iff_ne.2 hz0
            have ez : (andI rights right != 0) = true := by rw [bne_iff_ne]; exact hz0
            cases hu2 : underS nm (bys target)
            · rw [hu2] at HUN
              have HPX := hid ((HPH ⟨who, target, attr1, rights, allow⟩).out.trans (hit_mk hzz rfl rfl hu1 hu2))
              clear hu1 hu2 hz0 hzz
              go_wp2_with
                (first
                  | (go_at_call 32; (with_reducible refine (HWH _ (hx.out.trans (Ext.alloc _ _))).mono ?_); rintro e w6 ⟨rfl, hx6⟩; have HXW := hid ((hx.out.trans (Ext.alloc _ _)).trans hx6); have HBW := hid (HB0.out.later hx6); have a1 := HBW.out.cell (i := 1) rfl; have a3 := HBW.out.cell (i := 3) rfl; clear hx6)
                  | (go_at_call 33; (with_reducible refine (HUN _ HXW.out).mono ?_); rintro e w7 ⟨rfl, hx7⟩; have HXU := hid (HXW.out.trans hx7); have HBU := hid (HBW.out.later hx7); have b2 := HBU.out.cell (i := 2) rfl; have b4 := HBU.out.cell (i := 4) rfl; clear hx7 a1 a3))
              exact ⟨⟨j + 1, by omega, by go_num, find_none_take Htk.out Hg.out (show P ⟨who, target, attr1, rights, allow⟩ = false by rw [HPX.out]; (try simp)), by first | exact HXU.out | exact HXW.out⟩, by simp [intOf]; omega⟩
            rw [hu2] at HUN
            by_cases ha0 : attr1.size = 0
            · have ea := emp_yes ha0
              have ha1 : decide (bys attr1 = []) = true := decide_eq_true ((empt _).1 ha0)
              have HPX := hid ((HPH ⟨who, target, attr1, rights, allow⟩).out.trans (hit_mk hzz ha1 rfl hu1 hu2))
              have HFN := hid (find_at Htk.out Hg.out (show P ⟨who, target, attr1, rights, allow⟩ = true by rw [HPX.out]; rfl))
              clear ha0 ha1 hu1 hu2 hz0 hzz
              go_wp2_with
                (first
                  | (go_at_call 32; (with_reducible refine (HWH _ (hx.out.trans (Ext.alloc _ _))).mono ?_); rintro e w6 ⟨rfl, hx6⟩; have HXW := hid ((hx.out.trans (Ext.alloc _ _)).trans hx6); have HBW := hid (HB0.out.later hx6); have a1 := HBW.out.cell (i := 1) rfl; have a3 := HBW.out.cell (i := 3) rfl; clear hx6)
                  | (go_at_call 33; (with_reducible refine (HUN _ HXW.out).mono ?_); rintro e w7 ⟨rfl, hx7⟩; have HXU := hid (HXW.out.trans hx7); have HBU := hid (HBW.out.later hx7); have b2 := HBU.out.cell (i := 2) rfl; have b4 := HBU.out.cell (i := 4) rfl; clear hx7 a1 a3))
              go_ret
              exact ⟨by rw [HDD.out, HFN.out]; rfl, HXU.out⟩
            have ea := emp_nb ha0
            have ha1 : decide (bys attr1 = []) = false := decide_eq_false (fun e => ha0 ((empt _).2 e))
            by_cases hat : bys attr1 = ty
            · have eb : (attr1.toList == ts.toList) = true := beq_yes (by rw [HBT.out]; exact hat)
              have HPX := hid ((HPH ⟨who, target, attr1, rights, allow⟩).out.trans (hit_mk hzz ha1 (decide_eq_true hat) hu1 hu2))
              have HFN := hid (find_at Htk.out Hg.out (show P ⟨who, target, attr1, rights, allow⟩ = true by rw [HPX.out]; rfl))
              clear ha0 ha1 hat hu1 hu2 hz0 hzz
              go_wp2_with
                (first
                  | (go_at_call 32; (with_reducible refine (HWH _ (hx.out.trans (Ext.alloc _ _))).mono ?_); rintro e w6 ⟨rfl, hx6⟩; have HXW := hid ((hx.out.trans (Ext.alloc _ _)).trans hx6); have HBW := hid (HB0.out.later hx6); have a1 := HBW.out.cell (i := 1) rfl; have a3 := HBW.out.cell (i := 3) rfl; clear hx6)
                  | (go_at_call 33; (with_reducible refine (HUN _ HXW.out).mono ?_); rintro e w7 ⟨rfl, hx7⟩; have HXU := hid (HXW.out.trans hx7); have HBU := hid (HBW.out.later hx7); have b2 := HBU.out.cell (i := 2) rfl; have b4 := HBU.out.cell (i := 4) rfl; clear hx7 a1 a3))
              go_ret
              exact ⟨by rw [HDD.out, HFN.out]; rfl, HXU.out⟩
            · have eb : (attr1.toList == ts.toList) = false := beq_no (by rw [HBT.out]; exact hat)
              have HPX := hid ((HPH ⟨who, target, attr1, rights, allow⟩).out.trans (hit_mk hzz ha1 (decide_eq_false hat) hu1 hu2))
              clear ha0 ha1 hat hu1 hu2 hz0 hzz
              go_wp2_with
                (first
                  | (go_at_call 32; (with_reducible refine (HWH _ (hx.out.trans (Ext.alloc _ _))).mono ?_); rintro e w6 ⟨rfl, hx6⟩; have HXW := hid ((hx.out.trans (Ext.alloc _ _)).trans hx6); have HBW := hid (HB0.out.later hx6); have a1 := HBW.out.cell (i := 1) rfl; have a3 := HBW.out.cell (i := 3) rfl; clear hx6)
                  | (go_at_call 33; (with_reducible refine (HUN _ HXW.out).mono ?_); rintro e w7 ⟨rfl, hx7⟩; have HXU := hid (HXW.out.trans hx7); have HBU := hid (HBW.out.later hx7); have b2 := HBU.out.cell (i := 2) rfl; have b4 := HBU.out.cell (i := 4) rfl; clear hx7 a1 a3))
              exact ⟨⟨j + 1, by omega, by go_num, find_none_take Htk.out Hg.out (show P ⟨who, target, attr1, rights, allow⟩ = false by rw [HPX.out]; (try simp)), by first | exact HXU.out | exact HXW.out⟩, by simp [intOf]; omega⟩
          · obtain rfl : j = n := by omega
            have h9 := Htk.out
            rw [List.take_of_length_le (Nat.le_of_eq HR.out.len.symm)] at h9
            have H9 := hid h9
            clear h9
            go_wp2
            go_ret
            exact ⟨by rw [HDD.out, H9.out]; rfl, hx.out⟩
end Go.Proofs.YtkafonmpmgjcpaaGreatDoor
/- The walks of vergerlaw11's Theirs and Few, of auth.Proxy and of the reference's. -/
namespace Go.Proofs.YtkafonmpmgjcpaaGreatDoor
open Go.RowKit
set_option maxRecDepth 100000
set_option linter.unusedSimpArgs false
set_option linter.unusedVariables false

/-- A row of rules of the call's own, as the package has them. -/
structure GrowU (w wr : World) (v : Value) (l : List Rul) : Prop where
  own : wr.ownsRow w.heap.size 71 5 v l.length (l.map Rul.cells).flatten
  ext : Ext w wr
theorem GrowU.row {w wr : World} {v : Value} {l : List Rul} (h : GrowU w wr v l) : ∃ A c, v = .slice A l.length c ∧ Row Elem.rul (fun b => w.heap.size ≤ b) wr A l.length c l := by
  have ho := h.own
  obtain ⟨A, c, rfl⟩ : ∃ A c, v = .slice A l.length c := by
    rcases ho.2 with ⟨rfl, h0⟩ | ⟨g, cap, cur, rfl, _⟩
    · exact ⟨none, 0, by rw [h0]⟩
    · exact ⟨_, _, rfl⟩
  refine ⟨A, c, rfl, own_rows (E := Elem.rul) ho rfl (by simp) (fun g hg => (ho.lt g hg).1) fun i u x hi hl => ?_⟩
  rw [List.getElem?_map, hl] at hi
  injection hi with hi
  exact hi.symm
theorem GrowU.later {w wr w' : World} {v : Value} {l : List Rul} (h : GrowU w wr v l) (hx : Ext wr w') : GrowU w w' v l := ⟨own_ext h.own hx, h.ext.trans hx⟩
theorem infoRul : (Tryz.prog.info? 71).map (fun i => (i.zero, i.size, i.bytes)) = some (some (.agg #[.string ByteArray.empty, .string ByteArray.empty, .string ByteArray.empty, .int .i64 0, .bool false]), 5, 64) := by kernel_rfl
theorem append_rul {w w0 : World} {ops : Array Oper} {rest : List Oper} {o : Oper} {a : Act} {Q : Exit → Act → World → Prop} (hgd : o.guard = none) (s x : Operand)
    (ho : o.op = .call { callee := .builtin .append, args := #[s, x], argTypes := #[40, 40] }) (v : Value) (l : List Rul) (hs : a.eval s = v) (hg : GrowU w0 w v l)
    {t : TypeId} (y : Rul) (hx : a.eval x = .slice (some ⟨w.heap.size, 0, none⟩) 1 1) (hb : l.length ≤ 4000000)
    (h : ∀ v' w', GrowU w0 w' v' (l ++ [y]) → wpList Tryz.prog ops Q rest (a.put o.dst v') w') :
    wpList Tryz.prog ops Q (o :: rest) a (w.alloc (.cells #[.string y.who, .string y.target, .string y.attr, .int .i64 y.rights, .bool y.allow] t)) := by
  have hg' := hg.later (Ext.alloc w (.cells #[.string y.who, .string y.target, .string y.attr, .int .i64 y.rights, .bool y.allow] t))
  refine wpList_plain hgd fun _ hK => ?_
  refine wp_append_sz s x 40 ho w0.heap.size 71 _ 5 64 Tryz.underlying40 infoRul rfl (by decide) v l.length (l.map Rul.cells).flatten hs hg'.own _ 1 1 y.cells hx rfl (.inr ⟨_, 0, rfl, fun j u hj => by rw [Nat.zero_add, box_a]; unfold Rul.cells at hj; simpa using hj⟩)
    (fun u hu => by simp [Rul.cells] at hu; rcases hu with rfl | rfl | rfl | rfl | rfl <;> rfl) (by simp [maxLen]; omega) (by omega) (ext_sz hg'.ext) ?_
  intro v' w' q1 q2 q3
  refine hK _ _ (h v' w' ⟨?_, Below.trans hg'.ext (below_grown hg'.own q2 (ext_sz hg'.ext) (Nat.le_refl _))⟩)
  rw [List.length_append, List.map_append, List.flatten_append]
  simpa using q1
set_option maxHeartbeats 1000000 in
theorem theirs11_any {S : Nat → Prop} {A : Option Addr} {n c : Nat} {l : List Rul} {w : World} (h : Row Elem.rul S w A n c l) (hm : l.length ≤ 1000000) :
    Calls Tryz.prog 11 #[.slice A n c] w fun e w' => ∃ A' c', e = .returned (.slice A' l.length c') ∧ Row Elem.rul (fun b => w.heap.size ≤ b) w' A' l.length c' l ∧ Ext w w' := by
  have HR := hid h
  have HLN := hid h.len
  have HM := hid hm
  have hn : n ≤ 9223372036854775807 := by have := h.cap; have := h.most; simp only [maxLen] at this; omega
  clear h hm
  go_enter Tryz.func11, Tryz.ntmps11
  go_wp2
  go_loopw [3, 7] (fun v i wr => ∃ j : Nat, j ≤ n ∧ i = .int .i64 j ∧ Hid (GrowU w wr v (l.take j))) (fun _ i _ => n - (intOf i).toNat)
  case atStart => exact ⟨0, by omega, rfl, ⟨World.ownsRow_nil _ _ _ _, Ext.refl _⟩⟩
  case round =>
    obtain ⟨j, hj, rfl, HGR⟩ := hrel
    by_cases hlt : j < n
    · obtain ⟨b1, o1, v1, x1, rfl, g1, -, r1, q1⟩ := (HR.out.ext HGR.out.ext).at_ hlt
      obtain ⟨who, target, attr, rights, allow⟩ := x1
      cases r1
      have e10 := q1 0 _ rfl
      have e11 := q1 1 _ rfl
      have e12 := q1 2 _ rfl
      have e13 := q1 3 _ rfl
      have e14 := q1 4 _ rfl
      simp only [Elem.rul, Nat.add_zero] at e10 e11 e12 e13 e14
      clear q1
      have Hg := hid g1
      clear g1
      have HLT : Hid ((l.take j).length ≤ 4000000) := by show _ ≤ _; rw [List.length_take]; have := HLN.out; have := HM.out; omega
      go_wp2_with (at_builtin; refine append_rul rfl _ _ rfl _ (l.take j) rfl HGR.out ⟨who, target, attr, rights, allow⟩ rfl HLT.out ?_; intro v' w3 hg3; have HG3 := hid hg3; clear hg3)
      exact ⟨⟨j + 1, by omega, by go_num, by (have e : l.take (j + 1) = l.take j ++ [⟨who, target, attr, rights, allow⟩] := by (rw [List.take_add_one, Hg.out]; rfl)); rw [e]; exact HG3⟩, by simp [intOf]; omega⟩
    · obtain rfl : j = n := by omega
      have hgr := HGR.out
      rw [List.take_of_length_le (Nat.le_of_eq HLN.out.symm)] at hgr
      obtain ⟨A2, c2, rfl, hr2⟩ := hgr.row
      have HR2 := hid hr2
      have HX := hid hgr.ext
      clear hgr hr2 HGR
      go_wp2
      go_ret
      exact ⟨A2, c2, rfl, HR2.out, HX.out⟩
/-- Are rules few enough? -/
def fewR (r : Rul) : Bool := decide (r.who.size + r.target.size + r.attr.size ≤ 3000)
def fewL (l : List Rul) : Bool := decide (l.length ≤ 100) && l.all fewR
set_option maxHeartbeats 1000000 in
theorem few11_any {S : Nat → Prop} {A : Option Addr} {n c : Nat} {l : List Rul} {w : World} (h : Row Elem.rul S w A n c l) (hs : ∀ r ∈ l, r.who.size ≤ 4000000 ∧ r.target.size ≤ 4000000 ∧ r.attr.size ≤ 4000000) :
    Calls Tryz.prog 9 #[.slice A n c] w fun e w' => e = .returned (.bool (fewL l)) ∧ Ext w w' := by
  have HR := hid h
  have HLN := hid h.len
  have HS := hid hs
  have hn : n ≤ 9223372036854775807 := by have := h.cap; have := h.most; simp only [maxLen] at this; omega
  clear h hs
  go_enter Tryz.func9, Tryz.ntmps9
  go_wp2
  go_loopw [6] (fun i wr => ∃ j : Nat, j ≤ n ∧ j ≤ 100 ∧ i = .int .i64 j ∧ Hid ((l.take j).all fewR = true) ∧ Hid (Ext w wr)) (fun i _ => n - (intOf i).toNat)
  case atStart => exact ⟨0, by omega, by omega, rfl, by simp [Hid], Ext.refl _⟩
  case round =>
    obtain ⟨j, hj, hj1, rfl, Htk, hx⟩ := hrel
    by_cases hlt : j < n
    · by_cases h100 : 100 ≤ j
      · have t1 : decide ((100 : Int) ≤ (j : Int)) = true := decide_eq_true (by omega)
        have HF : Hid (fewL l = false) := by show _ = _; unfold fewL; rw [decide_eq_false (by have := HLN.out; omega), Bool.false_and]
        clear h100
        go_wp2
        refine wp_region_plan (.read 0 (.read 1 (.read 2 (.read 3 (.read 4 (.read 5 (.read 6 (.read 7 (.read 8 (.read 9 (.read 10 (.read 11 (.read 12 (.read 13 (.read 14 (.read 15 (.read 16 (.read 17 (.read 18 (.read 19 (.read 20 (.read 21 (.read 22 (.read 23 (.read 24 .done))))))))))))))))))))))))) (by kernel_rfl) (by kernel_rfl) ?_
        intro wD hxD
        repeat' (first
          | (refine walks_move rfl rfl ?_; simp only [Act.put, Act.eval, List.setIfInBounds_toArray, List.set_cons_zero, List.set_cons_succ, Array.getD_eq_getD_getElem?, List.getElem?_toArray, List.getElem?_cons_zero, List.getElem?_cons_succ, Option.getD_some])
          | (refine walks_assign rfl rfl ?_; simp only [Act.put, Act.eval, List.setIfInBounds_toArray, List.set_cons_zero, List.set_cons_succ, Array.getD_eq_getD_getElem?, List.getElem?_toArray, List.getElem?_cons_zero, List.getElem?_cons_succ, Option.getD_some])
          | (refine walks_skip rfl rfl ?_; simp only [Act.put, List.setIfInBounds_toArray, List.set_cons_zero, List.set_cons_succ])
          | (refine walks_unwanted rfl rfl ?_; simp only [Act.put, List.setIfInBounds_toArray, List.set_cons_zero, List.set_cons_succ])
          | (refine walks_read (v := ?_) rfl rfl (fun w' hE => ?_) ?_; rotate_left 1; (· ((try (have hEx := Ext.trans (Hid.out XE) hE)); go_simp; (try go_bits); with_reducible rfl)); simp only [Act.put, List.setIfInBounds_toArray, List.set_cons_zero, List.set_cons_succ])
          | (refine walks_alt ?_ ?_)
          | (refine walks_main rfl rfl (fun K hK => ?_); go_wp2_with (fail); refine hK _ _ (by first | assumption | exact Ext.alloc _ _ | exact Ext.refl _) ?_; clear hK K; try simp only [Act.put, List.setIfInBounds_toArray, List.set_cons_zero, List.set_cons_succ]))
        refine walks_done ?_
        go_wp2
        go_ret
        exact ⟨by rw [HF.out]; (try rfl), hx.out.trans hxD⟩
      have t1 : decide ((100 : Int) ≤ (j : Int)) = false := decide_eq_false (by omega)
      obtain ⟨b1, o1, v1, x1, rfl, g1, -, r1, q1⟩ := (HR.out.ext hx.out).at_ hlt
      have Hg := hid g1
      have hsz := HS.out x1 (List.mem_of_getElem? g1)
      clear g1
      obtain ⟨who, target, attr, rights, allow⟩ := x1
      cases r1
      have e10 := q1 0 _ rfl
      have e11 := q1 1 _ rfl
      have e12 := q1 2 _ rfl
      simp only [Elem.rul, Nat.add_zero] at e10 e11 e12
      clear q1
      obtain ⟨z0, z1, z2⟩ := hsz
      simp only at z0 z1 z2
      by_cases hbig : 3000 < who.size + target.size + attr.size
      · have hb : decide ((3000 : Int) < (who.size : Int) + (target.size : Int) + (attr.size : Int)) = true := decide_eq_true (by omega)
        have HF : Hid (fewL l = false) := by
          show _ = _
          unfold fewL
          rw [all_at Hg.out (p := fewR) (by unfold fewR; exact decide_eq_false (by simp only; omega)), Bool.and_false]
        clear hbig
        go_wp2
        refine wp_region_plan (.read 0 (.read 1 (.read 2 (.read 3 (.read 4 (.read 5 (.read 6 (.read 7 (.read 8 (.read 9 (.read 10 (.read 11 (.read 12 (.read 13 (.read 14 (.read 15 (.read 16 (.read 17 (.read 18 (.read 19 (.read 20 (.read 21 (.read 22 (.read 23 (.read 24 .done))))))))))))))))))))))))) (by kernel_rfl) (by kernel_rfl) ?_
        intro wD hxD
        have XE : Hid (Ext wD wD) := Ext.refl _
        have c0 := cell_later (cell_later e10 _ hxD)
        have c1 := cell_later (cell_later e11 _ hxD)
        have c2 := cell_later (cell_later e12 _ hxD)
        repeat' (first
          | (refine walks_move rfl rfl ?_; simp only [Act.put, Act.eval, List.setIfInBounds_toArray, List.set_cons_zero, List.set_cons_succ, Array.getD_eq_getD_getElem?, List.getElem?_toArray, List.getElem?_cons_zero, List.getElem?_cons_succ, Option.getD_some])
          | (refine walks_assign rfl rfl ?_; simp only [Act.put, Act.eval, List.setIfInBounds_toArray, List.set_cons_zero, List.set_cons_succ, Array.getD_eq_getD_getElem?, List.getElem?_toArray, List.getElem?_cons_zero, List.getElem?_cons_succ, Option.getD_some])
          | (refine walks_skip rfl rfl ?_; simp only [Act.put, List.setIfInBounds_toArray, List.set_cons_zero, List.set_cons_succ])
          | (refine walks_unwanted rfl rfl ?_; simp only [Act.put, List.setIfInBounds_toArray, List.set_cons_zero, List.set_cons_succ])
          | (refine walks_read (v := ?_) rfl rfl (fun w' hE => ?_) ?_; rotate_left 1; (· ((try (have hEx := Ext.trans (Hid.out XE) hE)); go_simp; (try go_bits); with_reducible rfl)); simp only [Act.put, List.setIfInBounds_toArray, List.set_cons_zero, List.set_cons_succ])
          | (refine walks_alt ?_ ?_)
          | (refine walks_main rfl rfl (fun K hK => ?_); go_wp2_with (fail); refine hK _ _ (by first | assumption | exact Ext.alloc _ _ | exact Ext.refl _) ?_; clear hK K; try simp only [Act.put, List.setIfInBounds_toArray, List.set_cons_zero, List.set_cons_succ]))
        refine walks_done ?_
        go_wp2
        go_ret
        exact ⟨by rw [HF.out]; (try rfl), hx.out.trans hxD⟩
      · have hb : decide ((3000 : Int) < (who.size : Int) + (target.size : Int) + (attr.size : Int)) = false := decide_eq_false (by omega)
        have HY := hid (all_take Htk.out Hg.out (p := fewR) (by unfold fewR; exact decide_eq_true (by simp only; omega)))
        clear hbig
        go_wp2
        refine wp_region_plan (.read 0 (.read 1 (.read 2 (.read 3 (.read 4 (.read 5 (.read 6 (.read 7 (.read 8 (.read 9 (.read 10 (.read 11 (.read 12 (.read 13 (.read 14 (.read 15 (.read 16 (.read 17 (.read 18 (.read 19 (.read 20 (.read 21 (.read 22 (.read 23 (.read 24 .done))))))))))))))))))))))))) (by kernel_rfl) (by kernel_rfl) ?_
        intro wD hxD
        have XE : Hid (Ext wD wD) := Ext.refl _
        have c0 := cell_later (cell_later e10 _ hxD)
        have c1 := cell_later (cell_later e11 _ hxD)
        have c2 := cell_later (cell_later e12 _ hxD)
        repeat' (first
          | (refine walks_move rfl rfl ?_; simp only [Act.put, Act.eval, List.setIfInBounds_toArray, List.set_cons_zero, List.set_cons_succ, Array.getD_eq_getD_getElem?, List.getElem?_toArray, List.getElem?_cons_zero, List.getElem?_cons_succ, Option.getD_some])
          | (refine walks_assign rfl rfl ?_; simp only [Act.put, Act.eval, List.setIfInBounds_toArray, List.set_cons_zero, List.set_cons_succ, Array.getD_eq_getD_getElem?, List.getElem?_toArray, List.getElem?_cons_zero, List.getElem?_cons_succ, Option.getD_some])
          | (refine walks_skip rfl rfl ?_; simp only [Act.put, List.setIfInBounds_toArray, List.set_cons_zero, List.set_cons_succ])
          | (refine walks_unwanted rfl rfl ?_; simp only [Act.put, List.setIfInBounds_toArray, List.set_cons_zero, List.set_cons_succ])
          | (refine walks_read (v := ?_) rfl rfl (fun w' hE => ?_) ?_; rotate_left 1; (· ((try (have hEx := Ext.trans (Hid.out XE) hE)); go_simp; (try go_bits); with_reducible rfl)); simp only [Act.put, List.setIfInBounds_toArray, List.set_cons_zero, List.set_cons_succ])
          | (refine walks_alt ?_ ?_)
          | (refine walks_main rfl rfl (fun K hK => ?_); go_wp2_with (fail); refine hK _ _ (by first | assumption | exact Ext.alloc _ _ | exact Ext.refl _) ?_; clear hK K; try simp only [Act.put, List.setIfInBounds_toArray, List.set_cons_zero, List.set_cons_succ]))
        refine walks_done ?_
        go_wp2
        exact ⟨⟨j + 1, by omega, by omega, by go_num, HY, hx.out.trans hxD⟩, by simp [intOf]; omega⟩
    · obtain rfl : j = n := by omega
      have h9 := Htk.out
      rw [List.take_of_length_le (Nat.le_of_eq HLN.out.symm)] at h9
      have HF : Hid (fewL l = true) := by show _ = _; unfold fewL; rw [decide_eq_true (by have := HLN.out; omega), h9]; rfl
      clear h9
      go_wp2
      go_ret
      exact ⟨by rw [HF.out]; (try rfl), hx.out⟩
end Go.Proofs.YtkafonmpmgjcpaaGreatDoor
/- The walks of auth.Proxy and of the reference's Proxy. -/
namespace Go.Proofs.YtkafonmpmgjcpaaGreatDoor
open Go.RowKit
set_option maxRecDepth 100000
set_option linter.unusedSimpArgs false
set_option linter.unusedVariables false

/-- For whom a subject speaks, and the code. -/
def proxyF (l : List Rul) (subject wish : List UInt8) : List UInt8 × Int :=
  if (Lib.hasPrefix wish [100, 110, 58] || decide (wish = [])) && (codeR (partsB (Lib.trimPrefix wish [100, 110, 58])) == 0 && decideF l subject 32 (normalS (Lib.trimPrefix wish [100, 110, 58])) []) then (normalS (Lib.trimPrefix wish [100, 110, 58]), 0) else ([], 123)
def ProxySays (w : World) (r : List UInt8 × Int) (e : Ending) (w' : World) : Prop := e = .returned (.tuple #[.string (str r.1), .int .i64 r.2]) ∧ Ext w w'
set_option maxHeartbeats 2000000 in
theorem proxy_any {S : Nat → Prop} {A : Option Addr} {n c : Nat} {l : List Rul} {w : World} (h : Row Elem.rul S w A n c l) (hG : Gl w) (ha : ∀ r ∈ l, r.attr.size ≤ 4000000) (subject wish : ByteArray) :
    Calls Tryz.prog 10 #[.slice A n c, .string subject, .string wish] w (ProxySays w (proxyF l (bys subject) (bys wish))) := by
  have HG := hid hG
  have HCP : ∀ w, Calls Tryz.prog 15 #[.string wish, .string ⟨#[100, 110, 58]⟩] w fun e w' => e = .returned (.tuple #[.string (str (Lib.trimPrefix (bys wish) [100, 110, 58])), .bool (Lib.hasPrefix (bys wish) [100, 110, 58])]) ∧ w' = w := fun w => cutpre_any wish ⟨#[100, 110, 58]⟩ w
  have HN : ∀ w, Gl w → Calls Tryz.prog 16 #[.string (str (Lib.trimPrefix (bys wish) [100, 110, 58]))] w (NormalSays w (bys (str (Lib.trimPrefix (bys wish) [100, 110, 58])))) := fun w hG => dnnormal_any _ w hG
  have HD : ∀ w', Ext w w' → Calls Tryz.prog 17 #[.slice A n c, .string subject, .int .i64 32, .string (str (normalS (Lib.trimPrefix (bys wish) [100, 110, 58]))), .string ⟨#[]⟩] w' fun e w'' => e = .returned (.bool (decideF l (bys subject) 32 (bys (str (normalS (Lib.trimPrefix (bys wish) [100, 110, 58])))) (bys ⟨#[]⟩))) ∧ Ext w' w'' :=
    fun w' hx => decide_any (h.ext hx) (hG.ext hx) ha subject _ ⟨#[]⟩ 32 (by decide) (by decide)
  rw [bys_str (normalS (Lib.trimPrefix (bys wish) [100, 110, 58])), show bys ⟨#[]⟩ = [] from rfl] at HD
  rw [bys_str (Lib.trimPrefix (bys wish) [100, 110, 58])] at HN
  unfold NormalSays at HN
  have HDF : Hid (proxyF l (bys subject) (bys wish) = if (Lib.hasPrefix (bys wish) [100, 110, 58] || decide (bys wish = [])) && (codeR (partsB (Lib.trimPrefix (bys wish) [100, 110, 58])) == 0 && decideF l (bys subject) 32 (normalS (Lib.trimPrefix (bys wish) [100, 110, 58])) []) then (normalS (Lib.trimPrefix (bys wish) [100, 110, 58]), 0) else ([], 123)) := rfl
  clear hG h ha
  unfold ProxySays
  generalize proxyF l (bys subject) (bys wish) = R at *
  generalize codeR (partsB (Lib.trimPrefix (bys wish) [100, 110, 58])) = c0 at *
  generalize normalS (Lib.trimPrefix (bys wish) [100, 110, 58]) = nm at *
  generalize str (Lib.trimPrefix (bys wish) [100, 110, 58]) = tw at *
  generalize decideF l (bys subject) 32 nm [] = dd at *
  cases hp : Lib.hasPrefix (bys wish) [100, 110, 58]
  · rw [hp] at HCP
    rw [hp, Bool.false_or] at HDF
    clear hp
    by_cases h0 : wish.size = 0
    · have e0 := emp_yes h0
      rw [decide_eq_true ((empt _).1 h0), Bool.true_and] at HDF
      clear h0
      have kc : (c0 == 0) = true ∨ (c0 == 0) = false := by cases c0 == 0 <;> simp
      rcases kc with kc | kc
      · rw [kc, Bool.true_and] at HDF
        have kc' : (c0 != 0) = false := by rw [bne, kc]; rfl
        cases dd
        · rw [if_neg (by decide)] at HDF
          go_enter Tryz.func10, Tryz.ntmps10
          go_wp2_with
            (first
              | (go_at_call 15; (with_reducible refine (HCP _).mono ?_); rintro e w1 ⟨rfl, rfl⟩)
              | (go_at_call 16; (with_reducible refine (HN _ HG.out).mono ?_); rintro e w2 ⟨rfl, hx2⟩; have HX2 := hid hx2; clear hx2)
              | (go_at_call 17; (with_reducible refine (HD _ HX2.out).mono ?_); rintro e w3 ⟨rfl, hx3⟩; have HX3 := hid (HX2.out.trans hx3); clear hx3))
          go_ret2
          exact ⟨by rw [HDF.out]; rfl, HX3.out⟩
        · rw [if_pos rfl] at HDF
          go_enter Tryz.func10, Tryz.ntmps10
          go_wp2_with
            (first
              | (go_at_call 15; (with_reducible refine (HCP _).mono ?_); rintro e w1 ⟨rfl, rfl⟩)
              | (go_at_call 16; (with_reducible refine (HN _ HG.out).mono ?_); rintro e w2 ⟨rfl, hx2⟩; have HX2 := hid hx2; clear hx2)
              | (go_at_call 17; (with_reducible refine (HD _ HX2.out).mono ?_); rintro e w3 ⟨rfl, hx3⟩; have HX3 := hid (HX2.out.trans hx3); clear hx3))
          go_ret2
          exact ⟨by rw [HDF.out]; (try rfl), HX3.out⟩
      · rw [kc, Bool.false_and, if_neg (by decide)] at HDF
        have kc' : (c0 != 0) = true := by rw [bne, kc]; rfl
        go_enter Tryz.func10, Tryz.ntmps10
        go_wp2_with
          (first
            | (go_at_call 15; (with_reducible refine (HCP _).mono ?_); rintro e w1 ⟨rfl, rfl⟩)
            | (go_at_call 16; (with_reducible refine (HN _ HG.out).mono ?_); rintro e w2 ⟨rfl, hx2⟩; have HX2 := hid hx2; clear hx2)
            | (go_at_call 17; (with_reducible refine (HD _ HX2.out).mono ?_); rintro e w3 ⟨rfl, hx3⟩; have HX3 := hid (HX2.out.trans hx3); clear hx3))
        go_ret2
        exact ⟨by rw [HDF.out]; rfl, HX2.out⟩
    · have e0 := emp_nb h0
      rw [decide_eq_false (fun e => h0 ((empt _).2 e)), Bool.false_and, if_neg (by decide)] at HDF
      clear h0
      go_enter Tryz.func10, Tryz.ntmps10
      go_wp2_with
        (first
          | (go_at_call 15; (with_reducible refine (HCP _).mono ?_); rintro e w1 ⟨rfl, rfl⟩)
          | (go_at_call 16; (with_reducible refine (HN _ HG.out).mono ?_); rintro e w2 ⟨rfl, hx2⟩; have HX2 := hid hx2; clear hx2)
          | (go_at_call 17; (with_reducible refine (HD _ HX2.out).mono ?_); rintro e w3 ⟨rfl, hx3⟩; have HX3 := hid (HX2.out.trans hx3); clear hx3))
      go_ret2
      exact ⟨by rw [HDF.out]; rfl, HX2.out⟩
  · rw [hp] at HCP
    rw [hp, Bool.true_or, Bool.true_and] at HDF
    clear hp
    have kc : (c0 == 0) = true ∨ (c0 == 0) = false := by cases c0 == 0 <;> simp
    rcases kc with kc | kc
    · rw [kc, Bool.true_and] at HDF
      have kc' : (c0 != 0) = false := by rw [bne, kc]; rfl
      cases dd
      · rw [if_neg (by decide)] at HDF
        go_enter Tryz.func10, Tryz.ntmps10
        go_wp2_with
          (first
            | (go_at_call 15; (with_reducible refine (HCP _).mono ?_); rintro e w1 ⟨rfl, rfl⟩)
            | (go_at_call 16; (with_reducible refine (HN _ HG.out).mono ?_); rintro e w2 ⟨rfl, hx2⟩; have HX2 := hid hx2; clear hx2)
            | (go_at_call 17; (with_reducible refine (HD _ HX2.out).mono ?_); rintro e w3 ⟨rfl, hx3⟩; have HX3 := hid (HX2.out.trans hx3); clear hx3))
        go_ret2
        exact ⟨by rw [HDF.out]; rfl, HX3.out⟩
      · rw [if_pos rfl] at HDF
        go_enter Tryz.func10, Tryz.ntmps10
        go_wp2_with
          (first
            | (go_at_call 15; (with_reducible refine (HCP _).mono ?_); rintro e w1 ⟨rfl, rfl⟩)
            | (go_at_call 16; (with_reducible refine (HN _ HG.out).mono ?_); rintro e w2 ⟨rfl, hx2⟩; have HX2 := hid hx2; clear hx2)
            | (go_at_call 17; (with_reducible refine (HD _ HX2.out).mono ?_); rintro e w3 ⟨rfl, hx3⟩; have HX3 := hid (HX2.out.trans hx3); clear hx3))
        go_ret2
        exact ⟨by rw [HDF.out]; (try rfl), HX3.out⟩
    · rw [kc, Bool.false_and, if_neg (by decide)] at HDF
      have kc' : (c0 != 0) = true := by rw [bne, kc]; rfl
      go_enter Tryz.func10, Tryz.ntmps10
      go_wp2_with
        (first
          | (go_at_call 15; (with_reducible refine (HCP _).mono ?_); rintro e w1 ⟨rfl, rfl⟩)
          | (go_at_call 16; (with_reducible refine (HN _ HG.out).mono ?_); rintro e w2 ⟨rfl, hx2⟩; have HX2 := hid hx2; clear hx2)
          | (go_at_call 17; (with_reducible refine (HD _ HX2.out).mono ?_); rintro e w3 ⟨rfl, hx3⟩; have HX3 := hid (HX2.out.trans hx3); clear hx3))
      go_ret2
      exact ⟨by rw [HDF.out]; rfl, HX2.out⟩
theorem pre_len {s p : List UInt8} (h : s.length < p.length) : Lib.hasPrefix s p = false := by
  cases hb : Lib.hasPrefix s p with
  | false => rfl
  | true =>
    unfold Lib.hasPrefix at hb
    have := (List.isPrefixOf_iff_prefix.1 hb).length_le
    omega
theorem pre_take (s p : List UInt8) : Lib.hasPrefix s p = decide (s.take p.length = p) := by
  rw [Bool.eq_iff_iff, decide_eq_true_eq]
  unfold Lib.hasPrefix
  rw [List.isPrefixOf_iff_prefix, List.prefix_iff_eq_take]
  exact ⟨fun h => h.symm, fun h => h.symm⟩
set_option maxHeartbeats 2000000 in
theorem rproxy_any {S : Nat → Prop} {A : Option Addr} {n c : Nat} {l : List Rul} {w : World} (h : Row Elem.rul S w A n c l) (hG : Gl w) (ha : ∀ r ∈ l, r.attr.size ≤ 4000000) (subject wish : ByteArray) :
    Calls Tryz.prog 12 #[.slice A n c, .string subject, .string wish] w (ProxySays w (proxyF l (bys subject) (bys wish))) := by
  have HG := hid hG
  have HNA : ∀ (s : ByteArray) w, Gl w → Calls Tryz.prog 13 #[.string s] w (NormalSays w (bys s)) := fun s w hG => rnormal06_any s w hG
  have HD : ∀ w', Ext w w' → Calls Tryz.prog 18 #[.slice A n c, .string subject, .int .i64 32, .string (str (normalS (Lib.trimPrefix (bys wish) [100, 110, 58]))), .string ⟨#[]⟩] w' fun e w'' => e = .returned (.bool (decideF l (bys subject) 32 (bys (str (normalS (Lib.trimPrefix (bys wish) [100, 110, 58])))) (bys ⟨#[]⟩))) ∧ Ext w' w'' :=
    fun w' hx => refdecide_any (h.ext hx) (hG.ext hx) ha subject _ ⟨#[]⟩ 32 (by decide) (by decide)
  rw [bys_str (normalS (Lib.trimPrefix (bys wish) [100, 110, 58])), show bys ⟨#[]⟩ = [] from rfl] at HD
  unfold NormalSays at HNA
  have HDF : Hid (proxyF l (bys subject) (bys wish) = if (Lib.hasPrefix (bys wish) [100, 110, 58] || decide (bys wish = [])) && (codeR (partsB (Lib.trimPrefix (bys wish) [100, 110, 58])) == 0 && decideF l (bys subject) 32 (normalS (Lib.trimPrefix (bys wish) [100, 110, 58])) []) then (normalS (Lib.trimPrefix (bys wish) [100, 110, 58]), 0) else ([], 123)) := rfl
  clear hG h ha
  unfold ProxySays
  by_cases h0 : wish.size = 0
  · have e0 := emp_yes h0
    have hw0 := (empt _).1 h0
    have HN := HNA ⟨#[]⟩
    rw [show bys ⟨#[]⟩ = Lib.trimPrefix (bys wish) [100, 110, 58] by rw [hw0]; rfl] at HN
    rw [decide_eq_true hw0, Bool.or_true, Bool.true_and] at HDF
    clear h0 HNA
    generalize proxyF l (bys subject) (bys wish) = R at *
    generalize codeR (partsB (Lib.trimPrefix (bys wish) [100, 110, 58])) = c0 at *
    generalize normalS (Lib.trimPrefix (bys wish) [100, 110, 58]) = nm at *
    generalize decideF l (bys subject) 32 nm [] = dd at *
    clear hw0
    have kc : (c0 == 0) = true ∨ (c0 == 0) = false := by cases c0 == 0 <;> simp
    rcases kc with kc | kc
    · rw [kc, Bool.true_and] at HDF
      have kc' : (c0 != 0) = false := by rw [bne, kc]; rfl
      cases dd
      · rw [if_neg (by decide)] at HDF
        go_enter Tryz.func12, Tryz.ntmps12
        go_wp2_with
          (first
            | (go_at_call 13; (with_reducible refine (HN _ HG.out).mono ?_); rintro e w2 ⟨rfl, hx2⟩; have HX2 := hid hx2; clear hx2)
            | (go_at_call 18; (with_reducible refine (HD _ HX2.out).mono ?_); rintro e w3 ⟨rfl, hx3⟩; have HX3 := hid (HX2.out.trans hx3); clear hx3))
        go_ret2
        exact ⟨by rw [HDF.out]; rfl, HX3.out⟩
      · rw [if_pos rfl] at HDF
        go_enter Tryz.func12, Tryz.ntmps12
        go_wp2_with
          (first
            | (go_at_call 13; (with_reducible refine (HN _ HG.out).mono ?_); rintro e w2 ⟨rfl, hx2⟩; have HX2 := hid hx2; clear hx2)
            | (go_at_call 18; (with_reducible refine (HD _ HX2.out).mono ?_); rintro e w3 ⟨rfl, hx3⟩; have HX3 := hid (HX2.out.trans hx3); clear hx3))
        go_ret2
        exact ⟨by rw [HDF.out]; (try rfl), HX3.out⟩
    · rw [kc, Bool.false_and, if_neg (by decide)] at HDF
      have kc' : (c0 != 0) = true := by rw [bne, kc]; rfl
      go_enter Tryz.func12, Tryz.ntmps12
      go_wp2_with
        (first
          | (go_at_call 13; (with_reducible refine (HN _ HG.out).mono ?_); rintro e w2 ⟨rfl, hx2⟩; have HX2 := hid hx2; clear hx2)
          | (go_at_call 18; (with_reducible refine (HD _ HX2.out).mono ?_); rintro e w3 ⟨rfl, hx3⟩; have HX3 := hid (HX2.out.trans hx3); clear hx3))
      go_ret2
      exact ⟨by rw [HDF.out]; rfl, HX2.out⟩
  have e0 := emp_nb h0
  rw [decide_eq_false (fun e => h0 ((empt _).2 e)), Bool.or_false] at HDF
  by_cases h3 : wish.size < 3
  · have t3 : (wish.size : Int) < 3 := by omega
    rw [pre_len (by rw [bys_len]; exact h3), Bool.false_and, if_neg (by decide)] at HDF
    clear h0 h3 HNA HD
    go_enter Tryz.func12, Tryz.ntmps12
    go_wp2
    go_ret2
    exact ⟨by rw [HDF.out]; rfl, Ext.refl _⟩
  have t3 : ¬ (wish.size : Int) < 3 := by omega
  have t3' : (3 : Int) ≤ (wish.size : Int) := by omega
  obtain ⟨p3, hp3⟩ : ∃ p, wish.extract 0 3 = p := ⟨_, rfl⟩
  obtain ⟨d3, hd3⟩ : ∃ p, wish.extract 3 wish.size = p := ⟨_, rfl⟩
  have hb3 : bys p3 = (bys wish).take 3 := by rw [← hp3, bys_ext]; rfl
  by_cases he : bys p3 = [100, 110, 58]
  · have e3 := lst_yes he
    have hpre : Lib.hasPrefix (bys wish) [100, 110, 58] = true := by rw [pre_take]; exact decide_eq_true (hb3.symm.trans he)
    have HN := HNA d3
    rw [show bys d3 = Lib.trimPrefix (bys wish) [100, 110, 58] by unfold Lib.trimPrefix; rw [hpre, if_pos rfl, ← hd3, ext_drop]; rfl] at HN
    rw [hpre, Bool.true_and] at HDF
    clear h0 h3 HNA he hb3 hpre
    generalize proxyF l (bys subject) (bys wish) = R at *
    generalize codeR (partsB (Lib.trimPrefix (bys wish) [100, 110, 58])) = c0 at *
    generalize normalS (Lib.trimPrefix (bys wish) [100, 110, 58]) = nm at *
    generalize decideF l (bys subject) 32 nm [] = dd at *
    have kc : (c0 == 0) = true ∨ (c0 == 0) = false := by cases c0 == 0 <;> simp
    rcases kc with kc | kc
    · rw [kc, Bool.true_and] at HDF
      have kc' : (c0 != 0) = false := by rw [bne, kc]; rfl
      cases dd
      · rw [if_neg (by decide)] at HDF
        go_enter Tryz.func12, Tryz.ntmps12
        go_wp2_with
          (first
            | (go_at_call 13; (with_reducible refine (HN _ HG.out).mono ?_); rintro e w2 ⟨rfl, hx2⟩; have HX2 := hid hx2; clear hx2)
            | (go_at_call 18; (with_reducible refine (HD _ HX2.out).mono ?_); rintro e w3 ⟨rfl, hx3⟩; have HX3 := hid (HX2.out.trans hx3); clear hx3))
        go_ret2
        exact ⟨by rw [HDF.out]; rfl, HX3.out⟩
      · rw [if_pos rfl] at HDF
        go_enter Tryz.func12, Tryz.ntmps12
        go_wp2_with
          (first
            | (go_at_call 13; (with_reducible refine (HN _ HG.out).mono ?_); rintro e w2 ⟨rfl, hx2⟩; have HX2 := hid hx2; clear hx2)
            | (go_at_call 18; (with_reducible refine (HD _ HX2.out).mono ?_); rintro e w3 ⟨rfl, hx3⟩; have HX3 := hid (HX2.out.trans hx3); clear hx3))
        go_ret2
        exact ⟨by rw [HDF.out]; (try rfl), HX3.out⟩
    · rw [kc, Bool.false_and, if_neg (by decide)] at HDF
      have kc' : (c0 != 0) = true := by rw [bne, kc]; rfl
      go_enter Tryz.func12, Tryz.ntmps12
      go_wp2_with
        (first
          | (go_at_call 13; (with_reducible refine (HN _ HG.out).mono ?_); rintro e w2 ⟨rfl, hx2⟩; have HX2 := hid hx2; clear hx2)
          | (go_at_call 18; (with_reducible refine (HD _ HX2.out).mono ?_); rintro e w3 ⟨rfl, hx3⟩; have HX3 := hid (HX2.out.trans hx3); clear hx3))
      go_ret2
      exact ⟨by rw [HDF.out]; rfl, HX2.out⟩
  · have e3 := lst_no he
    have hpre : Lib.hasPrefix (bys wish) [100, 110, 58] = false := by rw [pre_take]; exact decide_eq_false (fun e => he (by rw [hb3]; exact e))
    rw [hpre, Bool.false_and, if_neg (by decide)] at HDF
    clear h0 h3 HNA he hb3 hpre HD
    go_enter Tryz.func12, Tryz.ntmps12
    go_wp2
    go_ret2
    exact ⟨by rw [HDF.out]; rfl, Ext.refl _⟩
end Go.Proofs.YtkafonmpmgjcpaaGreatDoor
