import Derived.Test.YtencmdpjiafnaaaGreatDoorZ33
import Derived.Test.YtencmdpjiafnaaaGreatDoorZ19
import Derived.Test.YtencmdpjiafnaaaGreatDoorZ05
import Derived.Test.YtencmdpjiafnaaaGreatDoorZ31
import Derived.Test.YtencmdpjiafnaaaGreatDoorZ09
/- The walks of dn.Value (a type that isn't a name or a plane), entry's find, and of slices.IndexFunc at its closure. -/
namespace Go.Proofs.YtencmdpjiafnaaaGreatDoor
open Go.RowKit
set_option maxRecDepth 100000
set_option linter.unusedSimpArgs false
set_option linter.unusedVariables false

set_option maxHeartbeats 1000000 in
theorem dnvalue_any (n s : ByteArray) (w : World) (hG : Gl w) (hn : n.size ≤ 4000000) (h4 : (typeB (bys n)).2 ≠ 4) (h5 : (typeB (bys n)).2 ≠ 5) :
    Calls Tryz.prog 93 #[.string n, .string s] w (NormSays w (bys n) (bys s)) := by
  have HG := hid hG
  have HT : ∀ w, Calls Tryz.prog 53 #[.string n] w (TypeSays w (bys n)) := fun w => type_any n w (by simp only [maxLen]; omega)
  have HN : ∀ w, Gl w → Calls Tryz.prog 153 #[.string n, .string s] w (NormSays w (bys n) (bys s)) := fun w hG => normal_any n s w hG hn h4
  unfold TypeSays at HT
  unfold NormSays at HN
  have HND : Hid (NormSays w (bys n) (bys s) = fun e w' => e = .returned (.tuple #[.string (str (normE (bys n) (bys s)).1), .int .i64 (normE (bys n) (bys s)).2]) ∧ Ext w w') := rfl
  have t5 : (((typeB (bys n)).2 : Int) != 5) = true := by rw [bne_iff_ne]; omega
  clear hG h4 h5
  generalize typeB (bys n) = p at *
  obtain ⟨t, k⟩ := p
  generalize normE (bys n) (bys s) = q at *
  obtain ⟨q1, q2⟩ := q
  simp only at HT t5 HN
  go_enter Tryz.func93, Tryz.ntmps93
  go_wp2_with (first
    | (go_at_call 53; (with_reducible refine (HT _).mono ?_); rintro e w1 ⟨rfl, hx1⟩; have HX1 := hid hx1; clear hx1)
    | (go_at_call 153; (with_reducible refine (HN _ (HG.out.ext HX1.out)).mono ?_); rintro e w2 ⟨rfl, hx2⟩; have HX2 := hid hx2; clear hx2))
  go_ret2
  rw [HND.out]
  exact ⟨rfl, HX1.out.trans HX2.out⟩
/-- Is a value alike another one, whose normal form is m? -/
def likeB (n m x : List UInt8) : Bool := (normE n x).2 == 0 && decide ((normE n x).1 = m)
/-- Does a list hold a value that is alike v? -/
def hasE (n v : List UInt8) (l : List ByteArray) : Bool := (normE n v).2 == 0 && l.any fun x => likeB n (normE n v).1 (bys x)
theorem any_take' {α : Type} {p : α → Bool} {l : List α} {j : Nat} {x : α} (h : (l.take j).any p = false) (hx : l[j]? = some x) (hp : p x = false) : (l.take (j + 1)).any p = false := by
  rw [List.take_add_one, hx]
  simp only [Option.toList, List.any_append, h, List.any_cons, hp, List.any_nil, Bool.or_self]
theorem any_at' {α : Type} {p : α → Bool} {l : List α} {j : Nat} {x : α} (hx : l[j]? = some x) (hp : p x = true) : l.any p = true := List.any_eq_true.2 ⟨x, List.mem_of_getElem? hx, hp⟩
theorem str_bys1 (a : ByteArray) : str (bys a) = a := rfl
set_option maxHeartbeats 1000000 in
theorem find1_any (n m x : ByteArray) (g1 g2 : Nat) (w : World) (hG : Gl w) (hn : n.size ≤ 4000000) (h4 : (typeB (bys n)).2 ≠ 4) (h5 : (typeB (bys n)).2 ≠ 5)
    (hc1 : w.cell? ⟨g1, 0, none⟩ = some (.string n)) (hc2 : w.cell? ⟨g2, 0, none⟩ = some (.string m)) :
    Calls Tryz.prog 155 #[.string x, .pointer (some ⟨g1, 0, none⟩), .pointer (some ⟨g2, 0, none⟩)] w fun e w' => e = .returned (.bool (likeB (bys n) (bys m) (bys x))) ∧ Ext w w' := by
  have HG := hid hG
  have HV : ∀ w, Gl w → Calls Tryz.prog 93 #[.string n, .string x] w (NormSays w (bys n) (bys x)) := fun w hG => dnvalue_any n x w hG hn h4 h5
  unfold NormSays at HV
  have HLD : Hid (likeB (bys n) (bys m) (bys x) = ((normE (bys n) (bys x)).2 == 0 && decide ((normE (bys n) (bys x)).1 = bys m))) := rfl
  have HC2 := hid hc2
  clear hG h4 h5 hn hc2
  generalize likeB (bys n) (bys m) (bys x) = r at *
  generalize normE (bys n) (bys x) = q at *
  obtain ⟨q1, q2⟩ := q
  simp only at HV HLD
  have k1 : (q2 == 0) = true ∨ (q2 == 0) = false := by cases q2 == 0 <;> simp
  have k2 : ((str q1).toList == m.toList) = true ∧ Hid (decide (q1 = bys m) = true) ∨ ((str q1).toList == m.toList) = false ∧ Hid (decide (q1 = bys m) = false) := by
    by_cases h : str q1 = m
    · exact .inl ⟨str_eq h, decide_eq_true (by rw [← h, bys_str])⟩
    · exact .inr ⟨str_ne h, decide_eq_false (fun e => h (by rw [e, str_bys1]))⟩
  rcases k1 with k1 | k1 <;> rcases k2 with ⟨k2, HK2⟩ | ⟨k2, HK2⟩
  all_goals
    rw [k1, HK2.out] at HLD
    generalize str q1 = qs at *
    go_enter Tryz.func155, Tryz.ntmps155
    go_wp2_with (go_at_call 93; (with_reducible refine (HV _ HG.out).mono ?_); rintro e w1 ⟨rfl, hx1⟩; have HX1 := hid hx1; have hc3 := cell_later HC2.out _ hx1; clear hx1)
    go_ret
    exact ⟨by rw [HLD.out]; rfl, HX1.out⟩
set_option maxHeartbeats 1000000 in
theorem indexfind_any {S : Nat → Prop} {A : Option Addr} {n c : Nat} {l : List ByteArray} {w : World} (h : Row Elem.str S w A n c l) (nm m : ByteArray) (g1 g2 : Nat) (hG : Gl w) (hn : nm.size ≤ 4000000) (h4 : (typeB (bys nm)).2 ≠ 4) (h5 : (typeB (bys nm)).2 ≠ 5)
    (hc1 : w.cell? ⟨g1, 0, none⟩ = some (.string nm)) (hc2 : w.cell? ⟨g2, 0, none⟩ = some (.string m)) :
    Calls Tryz.prog 154 #[.slice A n c, .func (.func 155) #[] #[.pointer (some ⟨g1, 0, none⟩), .pointer (some ⟨g2, 0, none⟩)]] w fun e w' =>
      ∃ r : Int, e = .returned (.int .i64 r) ∧ decide (0 ≤ r) = l.any (fun x => likeB (bys nm) (bys m) (bys x)) ∧ Ext w w' := by
  have hl := hid h.len
  have hnl : n ≤ 9223372036854775807 := by have := h.cap; have := h.most; simp only [maxLen] at this; omega
  have HC : ∀ x wr, Ext w wr → Calls Tryz.prog 155 #[.string x, .pointer (some ⟨g1, 0, none⟩), .pointer (some ⟨g2, 0, none⟩)] wr fun e w' => e = .returned (.bool (likeB (bys nm) (bys m) (bys x))) ∧ Ext wr w' :=
    fun x wr hx => find1_any nm m x g1 g2 wr (hG.ext hx) hn h4 h5 (cell_later hc1 _ hx) (cell_later hc2 _ hx)
  clear hG h4 h5 hn hc1 hc2
  generalize hP : (fun x : ByteArray => likeB (bys nm) (bys m) (bys x)) = P at *
  have HC2 : ∀ x wr, Ext w wr → Calls Tryz.prog 155 #[.string x, .pointer (some ⟨g1, 0, none⟩), .pointer (some ⟨g2, 0, none⟩)] wr fun e w' => e = .returned (.bool (P x)) ∧ Ext wr w' := fun x wr hx => by rw [← hP]; exact HC x wr hx
  clear hP HC
  go_enter Tryz.func154, Tryz.ntmps154
  go_wp2
  go_loopw [8] (fun i wr => ∃ j : Nat, j ≤ n ∧ i = .int .i64 j ∧ Hid ((l.take j).any P = false) ∧ Hid (Ext w wr)) (fun i _ => n - (intOf i).toNat)
  case atStart => exact ⟨0, by omega, rfl, by simp [Hid], Ext.refl w⟩
  case round =>
    obtain ⟨j, hj, rfl, Htk, hx⟩ := hrel
    by_cases hlt : j < n
    · obtain ⟨b1, o1, rfl, c1⟩ := (h.ext hx.out).str_cell (by omega)
      have e1 := c1 j hlt
      clear c1
      have g1 : l[j]? = some (l[j]?.getD ByteArray.empty) := by have := hl.out; rw [List.getElem?_eq_getElem (by omega)]; simp
      have Hg := hid g1
      clear g1
      generalize l[j]?.getD ByteArray.empty = x1 at *
      cases hp : P x1
      · have Hp := hid hp
        clear hp
        go_wp2_with (go_at_call 155; (with_reducible refine (HC2 _ _ hx.out).mono ?_); rintro e w1 ⟨he, hx1⟩; rw [Hp.out] at he; subst he; have HX1 := hid hx1; clear hx1)
        exact ⟨⟨j + 1, by omega, by go_num, any_take' Htk.out Hg.out Hp.out, hx.out.trans HX1.out⟩, by simp [intOf]; omega⟩
      · have Hp := hid hp
        clear hp
        go_wp2_with (go_at_call 155; (with_reducible refine (HC2 _ _ hx.out).mono ?_); rintro e w1 ⟨he, hx1⟩; rw [Hp.out] at he; subst he; have HX1 := hid hx1; clear hx1)
        go_ret
        exact ⟨_, rfl, by rw [any_at' Hg.out Hp.out]; exact decide_eq_true (by omega), hx.out.trans HX1.out⟩
    · obtain rfl : j = n := by omega
      go_wp2
      go_ret
      have h9 := Htk.out
      rw [List.take_of_length_le (Nat.le_of_eq hl.out.symm)] at h9
      exact ⟨_, rfl, by rw [h9]; rfl, hx.out⟩
end Go.Proofs.YtencmdpjiafnaaaGreatDoor
/- The walks of entry's find, Values, Has. -/
namespace Go.Proofs.YtencmdpjiafnaaaGreatDoor
open Go.RowKit
set_option maxRecDepth 100000
set_option linter.unusedSimpArgs false
set_option linter.unusedVariables false

set_option maxHeartbeats 1000000 in
theorem find_any {S : Nat → Prop} {A : Option Addr} {n c : Nat} {l : List ByteArray} {w : World} (h : Row Elem.str S w A n c l) (nm v : ByteArray) (hG : Gl w) (hn : nm.size ≤ 4000000) (h4 : (typeB (bys nm)).2 ≠ 4) (h5 : (typeB (bys nm)).2 ≠ 5) :
    Calls Tryz.prog 94 #[.string nm, .slice A n c, .string v] w fun e w' => ∃ r : Int, e = .returned (.int .i64 r) ∧ decide (0 ≤ r) = hasE (bys nm) (bys v) l ∧ Ext w w' := by
  have HG := hid hG
  have HR := hid h
  have HV : ∀ w, Gl w → Calls Tryz.prog 93 #[.string nm, .string v] w (NormSays w (bys nm) (bys v)) := fun w hG => dnvalue_any nm v w hG hn h4 h5
  unfold NormSays at HV
  have HI : ∀ (m : ByteArray) g1 g2 w1, Ext w w1 → w1.cell? ⟨g1, 0, none⟩ = some (.string nm) → w1.cell? ⟨g2, 0, none⟩ = some (.string m) →
      Calls Tryz.prog 154 #[.slice A n c, .func (.func 155) #[] #[.pointer (some ⟨g1, 0, none⟩), .pointer (some ⟨g2, 0, none⟩)]] w1 fun e w' =>
      ∃ r : Int, e = .returned (.int .i64 r) ∧ decide (0 ≤ r) = l.any (fun x => likeB (bys nm) (bys m) (bys x)) ∧ Ext w1 w' := fun m g1 g2 w1 hx a b => indexfind_any (h.ext hx) nm m g1 g2 (hG.ext hx) hn h4 h5 a b
  have HHD : Hid (hasE (bys nm) (bys v) l = ((normE (bys nm) (bys v)).2 == 0 && l.any fun x => likeB (bys nm) (normE (bys nm) (bys v)).1 (bys x))) := rfl
  have hmf : ∀ (fn : Fn) (first cap : Array Value) (w : World), (Instr.makeFunc fn first cap).run Tryz.prog w = .ok (.func fn first cap) w := fun _ _ _ _ => rfl
  clear hG h hn h4 h5
  generalize hasE (bys nm) (bys v) l = r at *
  generalize normE (bys nm) (bys v) = q at *
  obtain ⟨q1, q2⟩ := q
  simp only at HV HHD
  have HQ : Hid ((l.any fun x => likeB (bys nm) q1 (bys x)) = l.any fun x => likeB (bys nm) (bys (str q1)) (bys x)) := by show _ = _; rw [bys_str]
  rw [HQ.out] at HHD
  clear HQ
  generalize str q1 = qs at *
  by_cases k1 : q2 = 0
  · subst k1
    have HF : Hid (r = l.any fun x => likeB (bys nm) (bys qs) (bys x)) := by show _ = _; rw [HHD.out]; rfl
    clear HHD
    go_enter Tryz.func94, Tryz.ntmps94
    go_wp2_with (first
      | (go_at_call 93; (with_reducible refine (HV _ (HG.out.ext (Ext.alloc _ _))).mono ?_); rintro e w1 ⟨rfl, hx1⟩; have HX1 := hid hx1; clear hx1; have HXA := hid ((Ext.trans (Ext.alloc _ _) HX1.out).trans (Ext.alloc w1 (.cells #[.string qs] 9))); have HCA := hid ((((Bx.make (Ext.refl w) #[.string nm] 9).later HX1.out).later (Ext.alloc w1 (.cells #[.string qs] 9))).cell (i := 0) rfl); have HCB := hid ((Bx.make (Ext.refl w1) #[.string qs] 9).cell (i := 0) rfl))
      | (go_at_call 154; (with_reducible refine (HI qs _ _ _ HXA.out HCA.out HCB.out).mono ?_); rintro e w2 ⟨r1, rfl, hr, hx2⟩; have HX2 := hid hx2; have HRR := hid hr; clear hx2 hr))
    go_ret
    exact ⟨_, rfl, by rw [HF.out]; exact HRR.out, ((Ext.trans (Ext.alloc _ _) HX1.out).trans (Ext.alloc _ _)).trans HX2.out⟩
  · have k2 : (q2 != 0) = true := by rw [bne_iff_ne]; exact k1
    have HF : Hid (r = false) := by show _ = _; rw [HHD.out, show (q2 == 0) = false from beq_eq_false_iff_ne.2 k1]; rfl
    clear HHD k1
    go_enter Tryz.func94, Tryz.ntmps94
    go_wp2_with (first
      | (go_at_call 93; (with_reducible refine (HV _ (HG.out.ext (Ext.alloc _ _))).mono ?_); rintro e w1 ⟨rfl, hx1⟩; have HX1 := hid hx1; clear hx1))
    go_ret
    exact ⟨-1, rfl, by rw [HF.out]; rfl, (Ext.trans (Ext.alloc _ _) HX1.out).trans (Ext.alloc _ _)⟩
/-- slices.Clone at texts. -/
theorem strclone_any {S : Nat → Prop} {A : Option Addr} {n c : Nat} {l : List ByteArray} {w : World} (h : Row Elem.str S w A n c l) (hn : l.length ≤ 8796093022208) :
    Calls Tryz.prog 59 #[.slice A n c] w fun e w' => ∃ A' n' c', e = .returned (.slice A' n' c') ∧ Row Elem.str (fun b => w.heap.size ≤ b) w' A' n' c' l ∧ Ext w w' := by
  have hl := h.len
  rcases A with _ | a
  · have hx : l = [] := by
      rcases Nat.eq_zero_or_pos n with h0 | h0
      · exact h.nil_iff.1 h0
      · obtain ⟨b, o, e, _⟩ := h.str_cell h0; cases e
    subst hx
    have hz := fun W => Lib.run_eql_slice_nil (P := Tryz.prog) W 43 9 none n c 0 0 Tryz.underlying43
    clear hl h
    go_enter Tryz.func59, Tryz.ntmps59
    go_wp2
    go_ret
    exact ⟨_, _, _, rfl, Row.nil _ _ _, Ext.refl w⟩
  · have hz := fun W => Lib.run_eql_slice_nil (P := Tryz.prog) W 43 9 (some a) n c 0 0 Tryz.underlying43
    have HC := hid ((h.ext (Ext.alloc w (.cells #[] 9))).str_cells)
    have HG : Hid (GrowS w (w.alloc (.cells #[] 9)) (.slice (some ⟨w.heap.size, 0, none⟩) 0 0) []) := ⟨own_empty w _ (Nat.le_refl _) _ _, Ext.alloc _ _⟩
    have HL := hid hl
    have HN : Hid (n ≤ 8796093022208) := by show _ ≤ _; omega
    clear hl h hn
    go_enter Tryz.func59, Tryz.ntmps59
    go_wp2_with (at_builtin; refine append_strs rfl _ _ rfl _ [] rfl HG.out _ _ _ l rfl HL.out HC.out (by have := HN.out; simp only [List.length_nil]; omega) ?_; intro v' w1 hg1; have HG1 := hid hg1; clear hg1)
    go_ret
    obtain ⟨A', c', rfl, hr⟩ := HG1.out.row
    exact ⟨A', _, c', rfl, by simpa using hr, HG1.out.ext⟩
/-- An entry's values by a type. -/
def valsE (n : List UInt8) (l : List Att) : List ByteArray := ((l.find? fun a => decide (bys a.type = (typeB n).1 ∧ (typeB n).1 ≠ [])).map (·.vals)).getD []
def ValsSays (w : World) (n : List UInt8) (l : List Att) (e : Ending) (w' : World) : Prop := ∃ A m c, e = .returned (.slice A m c) ∧ Row Elem.str (fun b => w.heap.size ≤ b) w' A m c (valsE n l) ∧ Ext w w'
theorem find_none_take {α : Type} {p : α → Bool} {l : List α} {j : Nat} {x : α} (h : (l.take j).find? p = none) (hx : l[j]? = some x) (hp : p x = false) : (l.take (j + 1)).find? p = none := by
  rw [List.take_add_one, hx, List.find?_append, h]
  simp [hp]
theorem find_at {α : Type} {p : α → Bool} {l : List α} {j : Nat} {x : α} (h : (l.take j).find? p = none) (hx : l[j]? = some x) (hp : p x = true) : l.find? p = some x := by
  obtain ⟨hj, he⟩ := List.getElem?_eq_some_iff.1 hx
  rw [← List.take_append_drop j l, List.find?_append, h, List.drop_eq_getElem_cons hj, he]
  simp [hp]
set_option maxHeartbeats 2000000 in
theorem values_any {S : Nat → Prop} {A : Option Addr} {n c : Nat} {l : List Att} {w : World} (h : Row Elem.att S w A n c l) (nm dn : ByteArray) (hn : nm.size ≤ 4000000) (hv : ∀ a ∈ l, a.vals.length ≤ 8796093022208) :
    Calls Tryz.prog 56 #[.agg #[.string dn, .slice A n c], .string nm] w (ValsSays w (bys nm) l) := by
  have HT : ∀ w, Calls Tryz.prog 53 #[.string nm] w (TypeSays w (bys nm)) := fun w => type_any nm w (by simp only [maxLen]; omega)
  unfold TypeSays at HT
  have hl := hid h.len
  have hnl : n ≤ 9223372036854775807 := by have := h.cap; have := h.most; simp only [maxLen] at this; omega
  have HV := hid hv
  have HR := hid h
  have HD : Hid (valsE (bys nm) l = ((l.find? fun a => decide (bys a.type = (typeB (bys nm)).1 ∧ (typeB (bys nm)).1 ≠ [])).map (·.vals)).getD []) := rfl
  clear h hv hn
  generalize hP : (fun a : Att => decide (bys a.type = (typeB (bys nm)).1 ∧ (typeB (bys nm)).1 ≠ [])) = P at *
  have HP : ∀ a : Att, Hid (decide (bys a.type = (typeB (bys nm)).1 ∧ (typeB (bys nm)).1 ≠ []) = P a) := fun a => by rw [← hP]; rfl
  clear hP
  generalize typeB (bys nm) = tk at *
  obtain ⟨t, k⟩ := tk
  simp only at HT HP
  have HP2 : ∀ a : Att, Hid (decide (a.type = str t ∧ str t ≠ ⟨#[]⟩) = P a) := fun a => by
    rw [← (HP a).out]
    show _ = _
    rw [Bool.eq_iff_iff, decide_eq_true_eq, decide_eq_true_eq]
    constructor
    · rintro ⟨h1, h2⟩; exact ⟨by rw [h1, bys_str], fun e => h2 (by (rw [e]; try rfl))⟩
    · rintro ⟨h1, h2⟩; exact ⟨by (rw [← h1]; try rfl), fun e => h2 (by have := congrArg bys e; rw [bys_str] at this; exact this)⟩
  clear HP
  generalize str t = ts at *
  go_enter Tryz.func56, Tryz.ntmps56
  go_wp2_with (go_at_call 53; (with_reducible refine (HT _).mono ?_); rintro e w1 ⟨rfl, hx1⟩; have HX1 := hid (Ext.trans (Ext.alloc _ _) hx1); have cB := ((Bx.make (Ext.refl w) #[.string dn, .slice A n c] 38).later hx1).cell (i := 1) rfl; clear hx1)
  go_loopw [17] (fun i wr => ∃ j : Nat, j ≤ n ∧ i = .int .i64 j ∧ Hid ((l.take j).find? P = none) ∧ Hid (Ext w wr)) (fun i _ => n - (intOf i).toNat)
  case atStart => exact ⟨0, by omega, rfl, by simp [Hid], HX1.out⟩
  case round =>
    obtain ⟨j, hj, rfl, Htk, hx⟩ := hrel
    by_cases hlt : j < n
    · obtain ⟨b1, o1, v1, x1, rfl, g1, -, ⟨A1, n1, c1, rfl, r1⟩, q1⟩ := (HR.out.ext hx.out).at_ hlt
      have e10 := q1 0 _ rfl
      have e11 := q1 1 _ rfl
      simp only [Elem.att, Nat.add_zero] at e10 e11
      have R1 := hid r1
      clear q1 r1
      have Hg := hid g1
      have HL1 := hid (HV.out x1 (List.mem_of_getElem? g1))
      have HCL : ∀ w', Ext wr w' → Calls Tryz.prog 59 #[.slice A1 n1 c1] w' fun e w'' => ∃ A' n' c', e = .returned (.slice A' n' c') ∧ Row Elem.str (fun b => w'.heap.size ≤ b) w'' A' n' c' x1.vals ∧ Ext w' w'' := fun w' hx' => strclone_any (R1.out.ext hx') HL1.out
      clear g1
      by_cases he : x1.type = ts ∧ ts ≠ ⟨#[]⟩
      · have HPT : Hid (P x1 = true) := by show _ = _; rw [← (HP2 x1).out]; exact decide_eq_true he
        have s1 := str_eq he.1
        have s2 := emp_nb (s := ts) (fun h => he.2 (by rw [str_emp h]; rfl))
        have HF : Hid (valsE (bys nm) l = x1.vals) := by show _ = _; rw [HD.out, find_at Htk.out Hg.out HPT.out]; rfl
        clear he
        go_wp2_with (go_at_call 59; (with_reducible refine (HCL _ (Ext.alloc _ _)).mono ?_); rintro e w2 ⟨A2, n2, c2, rfl, hr2, hx2⟩; have HX2 := hid ((hx.out.trans (Ext.alloc _ _)).trans hx2); have HR2 := hid (hr2.mono (T := fun b => w.heap.size ≤ b) (fun b _ hb => by have := (hx.out.trans (Ext.alloc wr (.cells #[.string x1.type, .slice A1 n1 c1] 60))).size; omega)); clear hr2 hx2)
        go_ret
        exact ⟨_, _, _, rfl, by rw [HF.out]; exact HR2.out, HX2.out⟩
      · have HPT : Hid (P x1 = false) := by show _ = _; rw [← (HP2 x1).out]; exact decide_eq_false he
        by_cases h1 : x1.type = ts
        · have h2 : ts.size = 0 := Decidable.byContradiction fun h => he ⟨h1, fun e => h (by rw [e]; rfl)⟩
          have s1 : x1.type.toList = [] := by rw [h1]; exact emp_yes h2
          have s2 := emp_yes h2
          clear he h1 h2
          go_wp2
          exact ⟨⟨j + 1, by omega, by go_num, find_none_take Htk.out Hg.out HPT.out, hx.out.trans (Ext.alloc _ _)⟩, by simp [intOf]; omega⟩
        · have s1 := str_ne h1
          clear he h1
          go_wp2
          exact ⟨⟨j + 1, by omega, by go_num, find_none_take Htk.out Hg.out HPT.out, hx.out.trans (Ext.alloc _ _)⟩, by simp [intOf]; omega⟩
    · obtain rfl : j = n := by omega
      have h9 := Htk.out
      rw [List.take_of_length_le (Nat.le_of_eq hl.out.symm)] at h9
      have HF : Hid (valsE (bys nm) l = []) := by show _ = _; rw [HD.out, h9]; rfl
      clear h9
      go_wp2
      go_ret
      exact ⟨none, 0, 0, rfl, by rw [HF.out]; exact Row.nil _ _ _, hx.out⟩
set_option maxHeartbeats 1000000 in
theorem has_any {S : Nat → Prop} {A : Option Addr} {n c : Nat} {l : List Att} {w : World} (h : Row Elem.att S w A n c l) (nm dn v : ByteArray) (hG : Gl w) (hn : nm.size ≤ 4000000) (h4 : (typeB (bys nm)).2 ≠ 4) (h5 : (typeB (bys nm)).2 ≠ 5) (hv : ∀ a ∈ l, a.vals.length ≤ 8796093022208) :
    Calls Tryz.prog 103 #[.agg #[.string dn, .slice A n c], .string nm, .string v] w fun e w' => e = .returned (.bool (hasE (bys nm) (bys v) (valsE (bys nm) l))) ∧ Ext w w' := by
  have HV : ∀ w', Ext w w' → Calls Tryz.prog 56 #[.agg #[.string dn, .slice A n c], .string nm] w' (ValsSays w' (bys nm) l) := fun w' hx => values_any (h.ext hx) nm dn hn hv
  unfold ValsSays at HV
  have HF : ∀ (T : Nat → Prop) B m d w', Ext w w' → Row Elem.str T w' B m d (valsE (bys nm) l) → Calls Tryz.prog 94 #[.string nm, .slice B m d, .string v] w' fun e w'' => ∃ r : Int, e = .returned (.int .i64 r) ∧ decide (0 ≤ r) = hasE (bys nm) (bys v) (valsE (bys nm) l) ∧ Ext w' w'' :=
    fun T B m d w' hx hr => find_any hr nm v (hG.ext hx) hn h4 h5
  clear hG hn h4 h5 hv h
  generalize hasE (bys nm) (bys v) (valsE (bys nm) l) = r at *
  generalize valsE (bys nm) l = q at *
  go_enter Tryz.func103, Tryz.ntmps103
  go_wp2_with (first
    | (go_at_call 56; (with_reducible refine (HV _ (Ext.alloc _ _)).mono ?_); rintro e w1 ⟨A1, n1, c1, rfl, hr1, hx1⟩; have HR1 := hid hr1; have HX1 := hid (Ext.trans (Ext.alloc _ _) hx1); clear hr1 hx1)
    | (go_at_call 94; (with_reducible refine (HF _ _ _ _ _ HX1.out HR1.out).mono ?_); rintro e w2 ⟨r1, rfl, hr, hx2⟩; have HRR := hid hr; have HX2 := hid hx2; clear hr hx2))
  go_ret
  exact ⟨by rw [← HRR.out]; rfl, HX1.out.trans HX2.out⟩
end Go.Proofs.YtencmdpjiafnaaaGreatDoor
/- An entry, as it lies in memory. -/
namespace Go.Proofs.YtencmdpjiafnaaaGreatDoor
open Go.RowKit

/-- An entry. -/
structure Ent where
  name : ByteArray
  atts : List Att
def Elem.ent : Elem Ent :=
  ⟨2, by decide, fun S w v a => ∃ A n c, v = [.string a.name, .slice A n c] ∧ Row Elem.att S w A n c a.atts, fun ⟨_, _, _, h, _⟩ => by rw [h]; rfl, fun ⟨A, n, c, h, hr⟩ hk => ⟨A, n, c, h, hr.same hk⟩, fun ⟨A, n, c, h, hr⟩ hs => ⟨A, n, c, h, hr.mono hs⟩⟩
end Go.Proofs.YtencmdpjiafnaaaGreatDoor
/- A row of the call's own, of whatever elements: an element is appended. Nothing of the program's functions is named. -/
namespace Go.Proofs.YtencmdpjiafnaaaGreatDoor
open Go.RowKit
set_option maxRecDepth 100000
set_option linter.unusedSimpArgs false
set_option linter.unusedVariables false

/-- An owned row's cells are one list. -/
theorem own_cells_one {w : World} {base : Nat} {e : TypeId} {size n : Nat} {v : Value} {xs ys : List Value} (h : w.ownsRow base e size v n xs) (k : w.ownsRow base e size v n ys) : ys = xs := by
  rcases k.2 with ⟨_, z1⟩ | ⟨g, cap, cur, e3, e4, e5, e6, e7, e8, e9⟩
  · have z2 := k.1
    have z3 := h.1
    rw [z1, Nat.zero_mul] at z2 z3
    rw [List.eq_nil_of_length_eq_zero z2, List.eq_nil_of_length_eq_zero z3]
  · rcases h.2 with ⟨z0, z1⟩ | ⟨g', cap', cur', f3, f4, f5, f6, f7, f8, f9⟩
    · rw [e3] at z0; cases z0
    · rw [e3] at f3
      injection f3 with f3 _ f3'
      injection f3 with f3
      injection f3 with f3
      subst f3
      rw [e5] at f5
      injection f5 with f5
      injection f5 with f5
      subst f5
      rw [← e9, ← f9]
section
variable {α : Type} {E : Elem α} {w w0 : World} {o : Oper} {a : Act} {K : Act → World → Prop} {Q : Exit → Act → World → Prop} {ops : Array Oper} {rest : List Oper}
theorem append_el_wp {T ST : TypeId} {z : Value} {bytes : Nat} (hu : Tryz.prog.underlying ST = some (.slice T)) (hinf : (Tryz.prog.info? T).map (fun i => (i.zero, i.size, i.bytes)) = some (some z, E.k, bytes)) (hzs : z.cells.size = E.k) (hby : bytes ≤ 1000)
    (s x : Operand) (ho : o.op = .call { callee := .builtin .append, args := #[s, x], argTypes := #[ST, ST] }) {L : Option Nat} (v : Value) (l : List α) (hs : a.eval s = v) (hg : GrowR E T L w0 w v l)
    {t : TypeId} {u : List Value} (y : α) (hE : E.R (inner w0 v L) w u y) (h1 : ∀ c ∈ u, c.oneCell' = true) {g : Nat} (hx : a.eval x = .slice (some ⟨g, 0, none⟩) 1 1) (hgs : g = w.heap.size) (hb : l.length ≤ 4000000)
    (h : ∀ v' w', GrowR E T L w0 w' v' (l ++ [y]) → (w.alloc (.cells u.toArray t)).grownBy w' v.ownBlock → Below w0.heap.size (w.alloc (.cells u.toArray t)) w' → K (a.put o.dst v') w') :
    o.wp Tryz.prog a (w.alloc (.cells u.toArray t)) K Q := by
  subst hgs
  have hg2 := hg.later (Ext.alloc w (.cells u.toArray t))
  have hk : u.length = E.k := E.len hE
  obtain ⟨⟨vss, q1, q2, q3⟩, q4, q5⟩ := hg2
  refine wp_append_sz s x ST ho w0.heap.size T z E.k bytes hu hinf hzs E.pos v l.length vss.flatten hs q2 _ 1 1 u hx (by rw [hk, Nat.one_mul]) (.inr ⟨_, 0, rfl, fun j c hj => by rw [Nat.zero_add, box_a]; simpa using hj⟩)
    h1 (by simp [maxLen]; omega) (Nat.le_trans (Nat.mul_le_mul (Nat.add_le_add_right hb 1) hby) (by decide)) (ext_sz q4) ?_
  intro v' w' p1 p2 p3
  have hE' : E.R (inner w0 v L) (w.alloc (.cells u.toArray t)) u y := elem_keep hE (fun b _ hlt => (Ext.alloc w (.cells u.toArray t)).block b hlt) (fun b hS _ => hS)
  obtain ⟨k1, k2⟩ := (hg.later (Ext.alloc w (.cells u.toArray t))).snoc (v' := v') (w' := w') hE' (fun vs' hvs' => by rw [own_cells_one q2 hvs']; exact p1) p2 p3
  exact h v' w' k1 p2 k2
theorem append_el {T ST : TypeId} {z : Value} {bytes : Nat} (hu : Tryz.prog.underlying ST = some (.slice T)) (hinf : (Tryz.prog.info? T).map (fun i => (i.zero, i.size, i.bytes)) = some (some z, E.k, bytes)) (hzs : z.cells.size = E.k) (hby : bytes ≤ 1000)
    (hgd : o.guard = none) (s x : Operand) (ho : o.op = .call { callee := .builtin .append, args := #[s, x], argTypes := #[ST, ST] }) {L : Option Nat} (v : Value) (l : List α) (hs : a.eval s = v) (hg : GrowR E T L w0 w v l)
    {t : TypeId} {u : List Value} (y : α) (hE : E.R (inner w0 v L) w u y) (h1 : ∀ c ∈ u, c.oneCell' = true) {g : Nat} (hx : a.eval x = .slice (some ⟨g, 0, none⟩) 1 1) (hgs : g = w.heap.size) (hb : l.length ≤ 4000000)
    (h : ∀ v' w', GrowR E T L w0 w' v' (l ++ [y]) → (w.alloc (.cells u.toArray t)).grownBy w' v.ownBlock → Below w0.heap.size (w.alloc (.cells u.toArray t)) w' → wpList Tryz.prog ops Q rest (a.put o.dst v') w') :
    wpList Tryz.prog ops Q (o :: rest) a (w.alloc (.cells u.toArray t)) :=
  wpList_plain hgd fun _ hK => append_el_wp hu hinf hzs hby s x ho v l hs hg y hE h1 hx hgs hb fun v' w' k1 k2 k3 => hK _ _ (h v' w' k1 k2 k3)
end
end Go.Proofs.YtencmdpjiafnaaaGreatDoor
