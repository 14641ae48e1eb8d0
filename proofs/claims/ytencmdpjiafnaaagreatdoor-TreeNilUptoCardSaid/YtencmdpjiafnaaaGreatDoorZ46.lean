import Derived.Test.YtencmdpjiafnaaaGreatDoorZ45
/- The walks of entry's judge and done, where all is well. -/
namespace Go.Proofs.YtencmdpjiafnaaaGreatDoor
open Go.RowKit
set_option maxRecDepth 100000
set_option linter.unusedSimpArgs false
set_option linter.unusedVariables false

set_option maxHeartbeats 1000000 in
theorem judge1_any (ty : ByteArray) (A : Option Addr) (n c : Nat) (w : World) (hn : n ≤ 20) : Calls Tryz.prog 190 #[.agg #[.string ty, .slice A n c]] w fun e w' => e = .returned (.bool false) ∧ Ext w w' := by
  have tn : decide ((20 : Int) < (n : Int)) = false := by rw [decide_eq_false_iff_not]; omega
  clear hn
  go_enter Tryz.func190, Tryz.ntmps190
  go_wp2
  go_ret
  exact ⟨rfl, Ext.alloc _ _⟩
set_option maxHeartbeats 1000000 in
theorem indexatt_any {S : Nat → Prop} {A : Option Addr} {n c : Nat} {l : List Att} {w : World} (h : Row Elem.att S w A n c l) (h20 : ∀ a ∈ l, a.vals.length ≤ 20) :
    Calls Tryz.prog 214 #[.slice A n c, .func (.func 190) #[] #[]] w fun e w' => e = .returned (.int .i64 (-1)) ∧ Ext w w' := by
  have HR := hid h
  have H20 := hid h20
  have hn : n ≤ 9223372036854775807 := by have := h.cap; have := h.most; simp only [maxLen] at this; omega
  clear h h20
  go_enter Tryz.func214, Tryz.ntmps214
  go_wp2
  go_loopw [8] (fun i wr => ∃ j : Nat, j ≤ n ∧ i = .int .i64 j ∧ Hid (Ext w wr)) (fun i _ => n - (intOf i).toNat)
  case atStart => exact ⟨0, by omega, rfl, Ext.refl _⟩
  case round =>
    obtain ⟨j, hj, rfl, hx⟩ := hrel
    by_cases hlt : j < n
    · obtain ⟨b1, o1, v1, x1, rfl, g1, -, ⟨A1, n1, c1, rfl, r1⟩, q1⟩ := (HR.out.ext hx.out).at_ hlt
      have e10 := q1 0 _ rfl
      have e11 := q1 1 _ rfl
      simp only [Elem.att, Nat.add_zero] at e10 e11
      have HJ := fun w' => judge1_any x1.type A1 n1 c1 w' (by rw [r1.len]; exact H20.out x1 (List.mem_of_getElem? g1))
      clear q1 g1 r1
      go_wp2_with (go_at_call 190; (with_reducible refine (HJ _).mono ?_); rintro e w2 ⟨rfl, hx2⟩; have HX2 := hid (hx.out.trans hx2); clear hx2)
      exact ⟨⟨j + 1, by omega, by go_num, HX2.out⟩, by simp [intOf]; omega⟩
    · obtain rfl : j = n := by omega
      go_wp2
      go_ret
      exact ⟨rfl, hx.out⟩
set_option maxHeartbeats 1000000 in
theorem judge_ok {S : Nat → Prop} {A : Option Addr} {n c : Nat} {l : List Att} {w : World} (h : Row Elem.att S w A n c l) (nm : ByteArray) (k : Int) (hG : Gl w) (h20 : ∀ a ∈ l, a.vals.length ≤ 20)
    (hc : valsE (bys ⟨#[111, 98, 106, 101, 99, 116, 67, 108, 97, 115, 115]⟩) l ≠ []) (hn : namedE (bys nm) l = true) :
    Calls Tryz.prog 158 #[.agg #[.string nm, .slice A n c], .int .i64 k] w fun e w' => e = .returned (.int .i64 0) ∧ Ext w w' := by
  have hv : ∀ a ∈ l, a.vals.length ≤ 8796093022208 := fun a ha => by have := h20 a ha; omega
  have HI : ∀ w', Ext w w' → Calls Tryz.prog 214 #[.slice A n c, .func (.func 190) #[] #[]] w' fun e w'' => e = .returned (.int .i64 (-1)) ∧ Ext w' w'' := fun w' hx => indexatt_any (h.ext hx) h20
  have HC : ∀ w', Ext w w' → Calls Tryz.prog 189 #[.slice A n c, .func (.func 190) #[] #[]] w' fun e w'' => e = .returned (.bool false) ∧ Ext w' w'' := fun w' hx => by
    have H := HI w' hx
    clear HI
    go_enter Tryz.func189, Tryz.ntmps189
    go_wp2_with (go_at_call 214; (with_reducible refine H.mono ?_); rintro e w1 ⟨rfl, hx1⟩; have HX1 := hid hx1; clear hx1)
    go_ret
    exact ⟨rfl, HX1.out⟩
  have HV : ∀ w', Ext w w' → Calls Tryz.prog 56 #[.agg #[.string nm, .slice A n c], .string ⟨#[111, 98, 106, 101, 99, 116, 67, 108, 97, 115, 115]⟩] w' (ValsSays w' (bys ⟨#[111, 98, 106, 101, 99, 116, 67, 108, 97, 115, 115]⟩) l) := fun w' hx => values_any (h.ext hx) _ nm (by decide) hv
  unfold ValsSays at HV
  have HN : ∀ w', Ext w w' → Calls Tryz.prog 57 #[.agg #[.string nm, .slice A n c]] w' fun e w'' => e = .returned (.bool true) ∧ Ext w' w'' := fun w' hx => by have := named_any (h.ext hx) nm (hG.ext hx) hv; rwa [hn] at this
  have HCL := hid (List.length_pos_iff.2 hc)
  have HB0 := hid (Bx.make (Ext.refl w) #[.string nm, .slice A n c] 38)
  clear h hG h20 hc hn hv HI
  generalize valsE (bys ⟨#[111, 98, 106, 101, 99, 116, 67, 108, 97, 115, 115]⟩) l = vs at *
  go_enter Tryz.func158, Tryz.ntmps158
  go_wp2_with (first
    | (go_at_call 189; (with_reducible refine (HC _ HB0.out.ext).mono ?_); rintro e w1 ⟨rfl, hx1⟩; have HB1 := hid (HB0.out.later hx1); have p0 := HB1.out.cell (i := 0) rfl; have p1 := HB1.out.cell (i := 1) rfl; clear hx1)
    | (go_at_call 56; (with_reducible refine (HV _ HB1.out.ext).mono ?_); rintro e w2 ⟨A2, n2, c2, rfl, hr2, hx2⟩; have tn : ((n2 : Int) == 0) = false := (by rw [beq_eq_false_iff_ne]; have h1 := hr2.len; have h2 := HCL.out; omega); have HB2 := hid (HB1.out.later hx2); have p0 := HB2.out.cell (i := 0) rfl; have p1 := HB2.out.cell (i := 1) rfl; clear hx2 hr2)
    | (go_at_call 57; (with_reducible refine (HN _ HB2.out.ext).mono ?_); rintro e w3 ⟨rfl, hx3⟩; have HB3 := hid (HB2.out.later hx3); clear hx3))
  go_ret
  exact ⟨rfl, HB3.out.ext⟩
set_option maxHeartbeats 1000000 in
theorem done_ok {S : Nat → Prop} {A : Option Addr} {n c : Nat} {l : List Att} {w : World} (h : Row Elem.att S w A n c l) (nm : ByteArray) (k : Int) (hG : Gl w) (h20 : ∀ a ∈ l, a.vals.length ≤ 20) (hl : l.length ≤ 4000000)
    (hc : valsE (bys ⟨#[111, 98, 106, 101, 99, 116, 67, 108, 97, 115, 115]⟩) l ≠ []) (hn : namedE (bys nm) l = true) :
    Calls Tryz.prog 96 #[.agg #[.string nm, .slice A n c], .int .i64 k] w fun e w' => ∃ A' n' c', e = .returned (.tuple #[.agg #[.string nm, .slice A' n' c'], .int .i64 0]) ∧ Ext w w' := by
  have HJ : ∀ w', Ext w w' → Calls Tryz.prog 158 #[.agg #[.string nm, .slice A n c], .int .i64 k] w' fun e w'' => e = .returned (.int .i64 0) ∧ Ext w' w'' := fun w' hx => judge_ok (h.ext hx) nm k (hG.ext hx) h20 hc hn
  have HCP : ∀ w', Ext w w' → Calls Tryz.prog 26 #[.agg #[.string nm, .slice A n c]] w' (CopyESays S w' nm l) := fun w' hx => copy_any (h.ext hx) nm hl (fun a ha => by have := h20 a ha; omega)
  unfold CopyESays at HCP
  have HB0 := hid (((Bx.make (Ext.refl w) #[.string nm, .slice A n c] 38).later (Ext.alloc _ (.cells #[.string ⟨#[]⟩, .slice none 0 0] 38))))
  have HB1 := hid (Bx.make (Ext.alloc w (.cells #[.string nm, .slice A n c] 38)) #[.string ⟨#[]⟩, .slice none 0 0] 38)
  rw [show (w.alloc (.cells #[.string nm, .slice A n c] 38)).heap.size = w.heap.size + 1 by simp] at HB1
  clear h hG h20 hc hn hl
  go_enter Tryz.func96, Tryz.ntmps96
  go_wp2_with (first
    | (go_at_call 158; (with_reducible refine (HJ _ HB0.out.ext).mono ?_); rintro e w1 ⟨rfl, hx1⟩; have HB2 := hid (HB0.out.later hx1); have HB3 := hid (HB1.out.later hx1); have p0 := HB2.out.cell (i := 0) rfl; have p1 := HB2.out.cell (i := 1) rfl; clear hx1)
    | (go_at_call 26; (with_reducible refine (HCP _ HB2.out.ext).mono ?_); rintro e w2 ⟨A2, n2, c2, rfl, -, hx2⟩; have HB4 := hid (HB3.out.later hx2); have r0 := HB4.out.cell (i := 0) rfl; have r1 := HB4.out.cell (i := 1) rfl; have f0 := HB4.out.frozen 0; have f1 := HB4.out.frozen 1; clear hx2))
  (try simp only [Exit.inBlock, Exit.then])
  refine ret_cell_tmp _ rfl rfl ((HB4.out.set0 (.string nm)).set1 (.slice A2 n2 c2)) Tryz.underlying38 rfl (by kernel_rfl) rfl ?_
  exact ⟨A2, n2, c2, rfl, ((HB4.out.set0 (.string nm)).set1 (.slice A2 n2 c2)).ext⟩
end Go.Proofs.YtencmdpjiafnaaaGreatDoor
/- The walk of entry.Make at two attributes (what awake makes). -/
namespace Go.Proofs.YtencmdpjiafnaaaGreatDoor
open Go.RowKit
set_option maxRecDepth 100000
set_option linter.unusedSimpArgs false
set_option linter.unusedVariables false

set_option maxHeartbeats 1000000 in
theorem values_none {S : Nat → Prop} {A : Option Addr} {n c : Nat} {l : List Att} {w : World} (h : Row Elem.att S w A n c l) (nm dn : ByteArray) (hn : nm.size ≤ 4000000) (hne : ∀ a ∈ l, bys a.type ≠ (typeB (bys nm)).1) :
    Calls Tryz.prog 56 #[.agg #[.string dn, .slice A n c], .string nm] w fun e w' => e = .returned (.slice none 0 0) ∧ Ext w w' := by
  have HT : ∀ w, Calls Tryz.prog 53 #[.string nm] w (TypeSays w (bys nm)) := fun w => type_any nm w (by simp only [maxLen]; omega)
  unfold TypeSays at HT
  have hnl : n ≤ 9223372036854775807 := by have := h.cap; have := h.most; simp only [maxLen] at this; omega
  have HR := hid h
  have HNE : Hid (∀ a ∈ l, a.type ≠ str (typeB (bys nm)).1) := fun a ha e => hne a ha (by rw [e, bys_str])
  clear h hn hne
  generalize (typeB (bys nm)).1 = t at *
  generalize (typeB (bys nm)).2 = k at *
  generalize str t = ts at *
  go_enter Tryz.func56, Tryz.ntmps56
  go_wp2_with (go_at_call 53; (with_reducible refine (HT _).mono ?_); rintro e w1 ⟨rfl, hx1⟩; have HX1 := hid (Ext.trans (Ext.alloc _ _) hx1); have cB := ((Bx.make (Ext.refl w) #[.string dn, .slice A n c] 38).later hx1).cell (i := 1) rfl; clear hx1)
  go_loopw [17] (fun i wr => ∃ j : Nat, j ≤ n ∧ i = .int .i64 j ∧ Hid (Ext w wr)) (fun i _ => n - (intOf i).toNat)
  case atStart => exact ⟨0, by omega, rfl, HX1.out⟩
  case round =>
    obtain ⟨j, hj, rfl, hx⟩ := hrel
    by_cases hlt : j < n
    · obtain ⟨b1, o1, v1, x1, rfl, g1, -, ⟨A1, n1, c1, rfl, r1⟩, q1⟩ := (HR.out.ext hx.out).at_ hlt
      have e10 := q1 0 _ rfl
      have e11 := q1 1 _ rfl
      simp only [Elem.att, Nat.add_zero] at e10 e11
      have s1 := str_ne (HNE.out x1 (List.mem_of_getElem? g1))
      clear q1 r1 g1
      go_wp2
      exact ⟨⟨j + 1, by omega, by go_num, hx.out.trans (Ext.alloc _ _)⟩, by simp [intOf]; omega⟩
    · obtain rfl : j = n := by omega
      go_wp2
      go_ret
      exact ⟨rfl, hx.out⟩
/-- An attribute of one value that is set anew. -/
structure StepOk (x : Att) (v : ByteArray) (l l' : List Att) : Prop where
  vals : x.vals = [v]
  ty : ∃ k, typeB (bys x.type) = (bys x.type, k) ∧ k ≠ 4 ∧ k ≠ 5
  size : x.type.size ≤ 17 ∧ ¬ x.type.size = 0
  norm : (normE (bys x.type) (bys v)).2 = 0
  apart : ∀ a ∈ l, bys a.type ≠ bys x.type
  low : ∀ (i j : Nat) a b, i ≤ j → l[i]? = some a → l[j]? = some b → cmpT x.type b < 0 → cmpT x.type a < 0
  put : ∀ i b, PlaceOf x.type l i b → setA l x.type x.vals i b = l'
  few : l.length ≤ 2
def wakeOC : Att := ⟨⟨#[111, 98, 106, 101, 99, 116, 67, 108, 97, 115, 115]⟩, [⟨#[111]⟩]⟩
def wakeDC : Att := ⟨⟨#[100, 99]⟩, [⟨#[120]⟩]⟩
theorem place_nil {t : ByteArray} {i : Nat} {b : Bool} (h : PlaceOf t [] i b) : i = 0 ∧ b = false := by
  have h1 := h.le
  simp at h1
  subst h1
  exact ⟨rfl, h.none rfl⟩
theorem step_oc : StepOk wakeOC ⟨#[111]⟩ [] [wakeOC] where
  vals := rfl
  ty := ⟨(typeB (bys wakeOC.type)).2, by decide +kernel, by decide +kernel, by decide +kernel⟩
  size := by decide
  norm := by decide +kernel
  apart := by simp
  low := by intro i j a b _ h; simp at h
  put := by intro i b h; obtain ⟨rfl, rfl⟩ := place_nil h; rfl
  few := by simp
theorem step_dc : StepOk wakeDC ⟨#[120]⟩ [wakeOC] [wakeDC, wakeOC] where
  vals := rfl
  ty := ⟨(typeB (bys wakeDC.type)).2, by decide +kernel, by decide +kernel, by decide +kernel⟩
  size := by decide
  norm := by decide +kernel
  apart := by decide
  low := by
    intro i j a b hij hi hj
    rcases i with _ | i
    · rcases j with _ | j
      · simp at hi hj; subst hi hj; exact id
      · simp at hj
    · simp at hi
  put := by
    intro i b h
    have hc : cmpT wakeDC.type wakeOC = 1 := by decide +kernel
    have h0 : i = 0 := by
      rcases i with _ | i
      · rfl
      · have := h.low 0 wakeOC (by omega) rfl
        rw [hc] at this
        omega
    subst h0
    have h1 := (h.here wakeOC rfl).2
    rw [hc] at h1
    have h2 : b = false := by rw [h1]; decide
    subst h2
    rfl
  few := by simp
/-- What is made so far. -/
def wakeAcc : Nat → List Att
  | 0 => []
  | 1 => [wakeOC]
  | _ => [wakeDC, wakeOC]
theorem wake_named : namedE [100, 99, 61, 120] [wakeDC, wakeOC] = true := by decide +kernel
theorem wake_cls : valsE (bys ⟨#[111, 98, 106, 101, 99, 116, 67, 108, 97, 115, 115]⟩) [wakeDC, wakeOC] ≠ [] := by decide +kernel
theorem wake_name : codeR (partsB [100, 99, 61, 120]) = 0 ∧ normalS [100, 99, 61, 120] = [100, 99, 61, 120] := by decide +kernel
theorem wake_step : ∀ j, j < 2 → ∃ x v, [wakeOC, wakeDC][j]? = some x ∧ StepOk x v (wakeAcc j) (wakeAcc (j + 1))
  | 0, _ => ⟨_, _, rfl, step_oc⟩
  | 1, _ => ⟨_, _, rfl, step_dc⟩
  | j + 2, h => by omega
set_option maxHeartbeats 16000000 in
theorem make_wake {S : Nat → Prop} {A : Option Addr} {c : Nat} {w : World} (h : Row Elem.att S w A 2 c [wakeOC, wakeDC]) (hG : Gl w) :
    Calls Tryz.prog 51 #[.string ⟨#[100, 99, 61, 120]⟩, .slice A 2 c] w fun e w' => ∃ A' n' c', e = .returned (.tuple #[.agg #[.string ⟨#[100, 99, 61, 120]⟩, .slice A' n' c'], .int .i64 0]) ∧ Ext w w' := by
  have HG := hid hG
  have HR := hid h
  have HN : ∀ w, Gl w → Calls Tryz.prog 37 #[.string ⟨#[100, 99, 61, 120]⟩] w fun e w' => e = .returned (.tuple #[.string ⟨#[100, 99, 61, 120]⟩, .int .i64 0]) ∧ Ext w w' := fun w hG => by
    have := dnnormal_any ⟨#[100, 99, 61, 120]⟩ w hG
    unfold NormalSays at this
    rw [show bys ⟨#[100, 99, 61, 120]⟩ = [100, 99, 61, 120] from rfl, wake_name.1, wake_name.2] at this
    exact this
  have HB0 := hid (Bx.make (Ext.refl w) #[.string ⟨#[]⟩, .slice none 0 0] 38)
  clear h hG
  go_enter Tryz.func51, Tryz.ntmps51
  go_wp2_with (go_at_call 37; (with_reducible refine (HN _ (HG.out.ext HB0.out.ext)).mono ?_); rintro e w1 ⟨rfl, hx1⟩; have HB1 := hid (HB0.out.later hx1); clear hx1)
  obtain ⟨g8, hg8⟩ : ∃ x, x = w1.heap.size := ⟨_, rfl⟩
  have HE1 := hid (Bx.make HB1.out.ext #[.string ⟨#[100, 99, 61, 120]⟩, .slice none 0 0] 38)
  have HR1 := hid (HB1.out.later (Ext.alloc w1 (.cells #[.string ⟨#[100, 99, 61, 120]⟩, .slice none 0 0] 38)))
  rw [← hg8] at HE1 ⊢
  have hgl : w.heap.size < g8 := by have := HB1.out.lt; omega
  have HGL := hid hgl
  obtain ⟨wb, hwb⟩ : ∃ x, x = w1.alloc (.cells #[.string ⟨#[100, 99, 61, 120]⟩, .slice none 0 0] 38) := ⟨_, rfl⟩
  rw [← hwb] at HE1 HR1 ⊢
  clear hg8 hgl hwb HN
  go_loopw [34] (fun i wr => ∃ (j : Nat) (A2 : Option Addr) (n2 c2 : Nat), j ≤ 2 ∧ i = .int .i64 j ∧ Hid (Bx w wr g8 38 #[.string ⟨#[100, 99, 61, 120]⟩, .slice A2 n2 c2]) ∧ Hid (Bx w wr w.heap.size 38 #[.string ⟨#[]⟩, .slice none 0 0]) ∧ Hid (Row Elem.att (fun b => b ≠ w.heap.size ∧ b ≠ g8) wr A2 n2 c2 (wakeAcc j))) (fun i _ => 2 - (intOf i).toNat)
  case atStart => exact ⟨0, none, 0, 0, by omega, rfl, HE1.out, HR1.out, Row.nil _ _ _⟩
  case round =>
    obtain ⟨j, A2, n2, c2, hj, rfl, HE, HB, HA2⟩ := hrel
    have e80 := HE.out.cell (i := 0) rfl
    have e81 := HE.out.cell (i := 1) rfl
    by_cases hlt : j < 2
    · obtain ⟨x, v, hxj, hst⟩ := wake_step j hlt
      obtain ⟨b1, o1, v1, x1, rfl, g1, -, ⟨A1, n1, c1, rfl, r1⟩, q1⟩ := HR.out.at_ hlt
      obtain rfl : x1 = x := by rw [g1] at hxj; injection hxj
      have e10 := cell_later (q1 0 _ rfl) _ HE.out.ext
      have e11 := cell_later (q1 1 _ rfl) _ HE.out.ext
      simp only [Elem.att, Nat.add_zero] at e10 e11
      have R1 := hid r1
      have hn1 : n1 = 1 := by rw [r1.len, hst.vals]; rfl
      subst hn1
      have HST := hid hst
      obtain ⟨kk, hty, hk4, hk5⟩ := hst.ty
      have HT : ∀ w', Calls Tryz.prog 53 #[.string x1.type] w' fun e w'' => e = .returned (.tuple #[.string x1.type, .int .i64 (kk : Int)]) ∧ Ext w' w'' := fun w' => by
        have := type_any x1.type w' (by have := hst.size.1; simp only [maxLen]; omega)
        unfold TypeSays at this
        rw [hty] at this
        exact this
      have s2 := emp_nb hst.size.2
      have HVA : ∀ w', Ext wr w' → Calls Tryz.prog 56 #[.agg #[.string ⟨#[100, 99, 61, 120]⟩, .slice A2 n2 c2], .string x1.type] w' fun e w'' => e = .returned (.slice none 0 0) ∧ Ext w' w'' := fun w' hx => values_none (HA2.out.ext hx) x1.type _ (by have := hst.size.1; omega) (fun a ha => by rw [hty]; exact hst.apart a ha)
      have HDV : ∀ w', Gl w' → Calls Tryz.prog 93 #[.string x1.type, .string v] w' fun e w'' => (∃ q : ByteArray, e = .returned (.tuple #[.string q, .int .i64 0])) ∧ Ext w' w'' := fun w' hG => by
        refine (dnvalue_any x1.type v w' hG (by have := hst.size.1; omega) (by rw [hty]; exact hk4) (by rw [hty]; exact hk5)).mono fun e w'' hh => ?_
        unfold NormSays at hh
        rw [hst.norm] at hh
        exact ⟨⟨_, hh.1⟩, hh.2⟩
      have HFD : ∀ w', Gl w' → Calls Tryz.prog 94 #[.string x1.type, .slice none 0 0, .string v] w' fun e w'' => (∃ r : Int, e = .returned (.int .i64 r) ∧ decide (0 ≤ r) = false) ∧ Ext w' w'' := fun w' hG => by
        refine (find_any (Row.nil Elem.str (fun _ => True) w') x1.type v hG (by have := hst.size.1; omega) (by rw [hty]; exact hk4) (by rw [hty]; exact hk5)).mono fun e w'' hh => ?_
        obtain ⟨r, h1, h2, h3⟩ := hh
        refine ⟨⟨r, h1, ?_⟩, h3⟩
        rw [h2]
        unfold hasE
        simp
      have HE5 : Hid (x1.vals = [v]) := hst.vals
      clear q1 g1 r1 hxj hty hst
      go_wp2_with (first
        | (go_at_call 53; (with_reducible refine (HT _).mono ?_); rintro e w2 ⟨rfl, hx2⟩; have HX2 := hid ((Ext.alloc wr (.cells #[.string x1.type, .slice A1 1 c1] 60)).trans hx2); have HE2 := hid (HE.out.later HX2.out); have HB2 := hid (HB.out.later HX2.out); have HK2 := hid ((Bx.make HE.out.ext #[.string x1.type, .slice A1 1 c1] 60).later hx2); have p1 := HK2.out.cell (i := 1) rfl; have e80 := HE2.out.cell (i := 0) rfl; have e81 := HE2.out.cell (i := 1) rfl; clear hx2)
        | (go_at_call 56; (with_reducible refine (HVA _ HX2.out).mono ?_); rintro e w3 ⟨rfl, hx3⟩; have HX3 := hid (HX2.out.trans hx3); have HE3 := hid (HE2.out.later hx3); have HB3 := hid (HB2.out.later hx3); have HK3 := hid (HK2.out.later hx3); have p1 := HK3.out.cell (i := 1) rfl; clear hx3))
      go_loopw [13, 60] (fun u i wr' => ∃ (k : Nat), k ≤ 1 ∧ i = .int .i64 k ∧ Hid (GrowS w3 wr' u (x1.vals.take k)) ∧ (k = 0 → u = .slice none 0 0)) (fun _ i _ => 1 - (intOf i).toNat)
      case atStart => exact ⟨0, by omega, rfl, GrowS.nil (Ext.refl _), fun _ => rfl⟩
      case round =>
        obtain ⟨k, hk, rfl, HGK, hz⟩ := hrel
        have HEK := hid (HE3.out.later HGK.out.ext)
        have HBK := hid (HB3.out.later HGK.out.ext)
        by_cases hlt2 : k < 1
        · obtain rfl : k = 0 := by omega
          obtain rfl := hz rfl
          clear hz
          obtain ⟨b5, o5, rfl, c5⟩ := (R1.out.ext HEK.out.ext).str_cell (by omega)
          have e5 := c5 0 (by omega)
          rw [HE5.out] at e5
          simp only [List.getElem?_cons_zero, Option.getD_some, Nat.add_zero] at e5
          have HTK : Hid (x1.vals.take 1 = [] ++ [v]) := by show _ = _; rw [HE5.out]; rfl
          have HGN : Hid (GrowS w3 wr (.slice none 0 0) []) := by have := HGK.out; rwa [List.take_zero] at this
          clear c5
          go_wp2_with (first
            | (go_at_call 93; (with_reducible refine (HDV _ (HG.out.ext HEK.out.ext)).mono ?_); rintro e w5 ⟨⟨q, rfl⟩, hx5⟩; have HX5 := hid hx5; clear hx5)
            | (go_at_call 94; (with_reducible refine (HFD _ (HG.out.ext (HEK.out.ext.trans HX5.out))).mono ?_); rintro e w6 ⟨⟨r, rfl, hr⟩, hx6⟩; have HG6 := hid ((HGN.out.later HX5.out).later hx6); clear hx6)
            | (at_builtin; refine append_str1 rfl _ _ rfl _ _ rfl HG6.out rfl (by simp) ?_; intro v7 w7 hg7; have HG7 := hid hg7; clear hg7))
          exact ⟨⟨1, by omega, by go_num, by rw [HTK.out]; exact HG7.out, fun h => by omega⟩, by simp [intOf]⟩
        · obtain rfl : k = 1 := by omega
          have HTK : Hid (x1.vals.take 1 = x1.vals) := by show _ = _; rw [HE5.out]; rfl
          obtain ⟨A4, c4, hv4, hr4⟩ := HGK.out.row
          rw [HTK.out] at hv4 hr4
          subst hv4
          have HSE : Calls Tryz.prog 95 #[.agg #[.string ⟨#[100, 99, 61, 120]⟩, .slice A2 n2 c2], .string x1.type, .slice A4 x1.vals.length c4] wr (SetSays (fun b => b ≠ w.heap.size ∧ b ≠ g8) wr ⟨#[100, 99, 61, 120]⟩ (wakeAcc j) x1.type x1.vals) :=
            set_any (HA2.out.ext (HX3.out.trans HGK.out.ext)) hr4 _ x1.type HST.out.low (by have := HST.out.few; omega) (by rw [HE5.out]; simp)
          unfold SetSays at HSE
          have e80 := HEK.out.cell (i := 0) rfl
          have e81 := HEK.out.cell (i := 1) rfl
          clear hr4 hz
          go_wp2_with (go_at_call 95; (with_reducible refine HSE.mono ?_); rintro e w6 ⟨i6, b6, A6, n6, c6, rfl, hp6, hr6, hx6⟩; rw [HST.out.put _ _ hp6] at hr6; have HR6 := hid hr6; have HE6 := hid (HEK.out.later hx6); have HB6 := hid (HBK.out.later hx6); have q0 := HE6.out.cell (i := 0) rfl; have q1 := HE6.out.cell (i := 1) rfl; have f0 := HE6.out.frozen 0; have f1 := HE6.out.frozen 1; clear hp6 hr6 hx6 e80 e81)
          have hne : w.heap.size ≠ g8 := by have := HGL.out; omega
          have hle : w.heap.size ≤ g8 := by have := HGL.out; omega
          have hlk := HEK.out.lt
          have hlb := HBK.out.lt
          refine ⟨⟨j + 1, A6, n6, c6, by omega, by go_num, (HE6.out.set0 (.string ⟨#[100, 99, 61, 120]⟩)).set1 (.slice A6 n6 c6), (HB6.out.aside hle hne 0 _).aside hle hne 1 _, ?_⟩, by simp [intOf]; omega⟩
          refine (HR6.out.same (w' := _) fun b hb => ?_).mono fun b _ hb => ?_
          · have hn2 : b ≠ g8 := by rcases hb with hb | hb; (exact hb.2); (have h3 : wr.heap.size ≤ b := hb; omega)
            rw [heap_setCell_other _ _ _ _ hn2, heap_setCell_other _ _ _ _ hn2]
          · rcases hb with hb | hb
            · exact hb
            · have h3 : wr.heap.size ≤ b := hb
              exact ⟨by omega, by omega⟩
    · obtain rfl : j = 2 := by omega
      have HDN : ∀ w', Ext wr w' → Calls Tryz.prog 96 #[.agg #[.string ⟨#[100, 99, 61, 120]⟩, .slice A2 n2 c2], .int .i64 64] w' fun e w'' => ∃ A' n' c', e = .returned (.tuple #[.agg #[.string ⟨#[100, 99, 61, 120]⟩, .slice A' n' c'], .int .i64 0]) ∧ Ext w' w'' := fun w' hx =>
        done_ok (HA2.out.ext hx) ⟨#[100, 99, 61, 120]⟩ 64 (HG.out.ext (HB.out.ext.trans hx)) (by decide) (by decide) wake_cls wake_named
      go_wp2_with (go_at_call 96; (with_reducible refine (HDN _ (Ext.refl _)).mono ?_); rintro e w5 ⟨A5, n5, c5, rfl, hx5⟩; have HB5 := hid (HB.out.later hx5); have r0 := HB5.out.cell (i := 0) rfl; have r1 := HB5.out.cell (i := 1) rfl; have f0 := HB5.out.frozen 0; have f1 := HB5.out.frozen 1; clear hx5)
      (try simp only [Exit.inBlock, Exit.then])
      refine ret_cell_tmp _ rfl rfl ((HB5.out.set0 (.string ⟨#[100, 99, 61, 120]⟩)).set1 (.slice A5 n5 c5)) Tryz.underlying38 rfl (by kernel_rfl) rfl ?_
      exact ⟨A5, n5, c5, rfl, ((HB5.out.set0 (.string ⟨#[100, 99, 61, 120]⟩)).set1 (.slice A5 n5 c5)).ext⟩
end Go.Proofs.YtencmdpjiafnaaaGreatDoor
