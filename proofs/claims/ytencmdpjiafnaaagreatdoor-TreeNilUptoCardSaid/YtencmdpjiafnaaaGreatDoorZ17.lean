import Derived.Test.YtencmdpjiafnaaaGreatDoorZ16
import Derived.Test.YtencmdpjiafnaaaGreatDoorZ12
/- The walks of rule's normal and Normal. -/
namespace Go.Proofs.YtencmdpjiafnaaaGreatDoor
open Go.RowKit
set_option maxRecDepth 100000
set_option linter.unusedSimpArgs false
set_option linter.unusedVariables false

theorem parse_bound {v : List UInt8} {n : Int} (h : Lib.parseIntB 64 v = .ok n) : -9223372036854775808 ≤ n ∧ n ≤ 9223372036854775807 := by
  cases v with
  | nil => cases h
  | cons c t =>
    simp only [Lib.parseIntB] at h
    generalize Lib.parseUintB 64 _ = r at h
    rcases r with u | _ | _
    · simp only at h
      by_cases hc : c.toNat = 45
      · simp only [hc, not_true_eq_false, false_and, if_false, true_and, if_true] at h
        by_cases h2 : 2 ^ (64 - 1) < u
        · rw [if_pos h2] at h; cases h
        · rw [if_neg h2] at h; injection h with h; omega
      · simp only [hc, not_false_eq_true, true_and, false_and, if_false] at h
        by_cases h2 : 2 ^ (64 - 1) ≤ u
        · rw [if_pos h2] at h; cases h
        · rw [if_neg h2] at h; injection h with h; omega
    · cases h
    · cases h
/-- What normal answers, by the syntax. -/
def normP (k : Int) (v : List UInt8) : List UInt8 × Bool :=
  if k = 1 then (joinSp (wordsB (lowerB v)), decide (joinSp (wordsB (lowerB v)) ≠ [] ∧ (0 : UInt8) ∉ joinSp (wordsB (lowerB v))))
  else if k = 3 then (v, intB v) else (v, true)
def NormPSays (w : World) (k : Int) (v : List UInt8) (e : Ending) (w' : World) : Prop := e = .returned (.tuple #[.string (str (normP k v).1), .bool (normP k v).2]) ∧ Ext w w'
set_option maxHeartbeats 1000000 in
theorem normal1_any (s : ByteArray) (w : World) (hG : Gl w) (hs : s.size ≤ 1000000) :
    Calls Tryz.prog 188 #[.int .i64 1, .string s] w (NormPSays w 1 (bys s)) := by
  have Hs := hid hs
  have HG := hid hG
  have hlo : (lowerB (bys s)).length ≤ 1000000 := by unfold lowerB; rw [List.length_map, bys_len]; exact hs
  have HN : Hid (normP 1 (bys s) = (joinSp (wordsB (lowerB (bys s))), decide (joinSp (wordsB (lowerB (bys s))) ≠ [] ∧ (0 : UInt8) ∉ joinSp (wordsB (lowerB (bys s)))))) := rfl
  have HL : ∀ w : World, Calls Tryz.prog 97 #[.string s] w fun e w' => e = .returned (.string (str (lowerB (bys s)))) ∧ Ext w w' := fun w => lower_any s w (by have := Hs.out; simp only [maxLen]; omega)
  have HJ := hid (words_le (lowerB (bys s)))
  have HW := hid (wordsB_len (lowerB (bys s)))
  generalize lowerB (bys s) = m at *
  obtain ⟨t, ht⟩ : ∃ t, t = joinSp (wordsB m) := ⟨_, rfl⟩
  have HT := hid ht
  rw [← ht] at HN
  have Hm := hid hlo
  clear hs hG ht hlo
  by_cases h0 : t = []
  · have t0 : (t == []) = true := by rw [h0]; rfl
    have HF : Hid (normP 1 (bys s) = (t, false)) := by show _ = _; rw [HN.out, decide_eq_false (fun h => h.1 h0)]
    clear h0
    go_enter Tryz.func188, Tryz.ntmps188
    go_wp2_with (first
      | (go_at_call 97; (with_reducible refine (HL _).mono ?_); rintro e w1 ⟨rfl, hx1⟩; have HX1 := hid hx1; clear hx1)
      | (go_at_call 212; (with_reducible refine (words_row (str m) _ (HG.out.ext HX1.out) (by rw [str_size]; have := Hm.out; omega)).mono ?_); rintro e w2 ⟨A2, n2, c2, rfl, hr2, hx2⟩; rw [bys_str] at hr2; have HX2 := hid hx2; have HR2 := hid hr2; clear hx2 hr2)
      | (go_at_call 61; (with_reducible refine (join_any _ ⟨#[32]⟩ HR2.out (by have h1 := HW.out; have h2 := Hm.out; rw [List.length_map]; omega) (by rw [strs_data]; have h3 := join_sp (wordsB m); have h1 := HJ.out; have h2 := Hm.out; show (Lib.join (wordsB m) [32]).length ≤ _; rw [h3]; omega)).mono ?_); rintro e w3 ⟨he3, hx3⟩; have HX3 := hid hx3; rw [strs_bys, join_sp, ← HT.out] at he3; subst he3; clear hx3)
      )
    go_ret2
    exact ⟨by rw [HF.out]; rfl, HX1.out.trans (HX2.out.trans HX3.out)⟩
  · have t0 : (t == []) = false := by rw [beq_eq_false_iff_ne]; exact h0
    by_cases hz : (0 : UInt8) ∈ t
    · have HF : Hid (normP 1 (bys s) = (t, false)) := by show _ = _; rw [HN.out, decide_eq_false (fun h => h.2 hz)]
      have HZ := hid hz
      clear h0 hz
      go_enter Tryz.func188, Tryz.ntmps188
      go_wp2_with (first
        | (go_at_call 179; (with_reducible refine (indexbyte_yes (str t) 0 0 rfl _ (by rw [bys_str]; exact HZ.out)).mono ?_); rintro e w4 ⟨⟨i, rfl⟩, rfl⟩)
        | (go_at_call 97; (with_reducible refine (HL _).mono ?_); rintro e w1 ⟨rfl, hx1⟩; have HX1 := hid hx1; clear hx1)
        | (go_at_call 212; (with_reducible refine (words_row (str m) _ (HG.out.ext HX1.out) (by rw [str_size]; have := Hm.out; omega)).mono ?_); rintro e w2 ⟨A2, n2, c2, rfl, hr2, hx2⟩; rw [bys_str] at hr2; have HX2 := hid hx2; have HR2 := hid hr2; clear hx2 hr2)
        | (go_at_call 61; (with_reducible refine (join_any _ ⟨#[32]⟩ HR2.out (by have h1 := HW.out; have h2 := Hm.out; rw [List.length_map]; omega) (by rw [strs_data]; have h3 := join_sp (wordsB m); have h1 := HJ.out; have h2 := Hm.out; show (Lib.join (wordsB m) [32]).length ≤ _; rw [h3]; omega)).mono ?_); rintro e w3 ⟨he3, hx3⟩; have HX3 := hid hx3; rw [strs_bys, join_sp, ← HT.out] at he3; subst he3; clear hx3)
      )
      go_ret2
      exact ⟨by rw [HF.out]; rfl, HX1.out.trans (HX2.out.trans HX3.out)⟩
    · have HF : Hid (normP 1 (bys s) = (t, true)) := by show _ = _; rw [HN.out, decide_eq_true ⟨h0, hz⟩]
      have HZ := hid hz
      clear h0 hz
      go_enter Tryz.func188, Tryz.ntmps188
      go_wp2_with (first
        | (go_at_call 179; (with_reducible refine (indexbyte_no (str t) 0 0 rfl _ (by rw [bys_str]; exact HZ.out)).mono ?_); rintro e w4 ⟨rfl, rfl⟩)
        | (go_at_call 97; (with_reducible refine (HL _).mono ?_); rintro e w1 ⟨rfl, hx1⟩; have HX1 := hid hx1; clear hx1)
        | (go_at_call 212; (with_reducible refine (words_row (str m) _ (HG.out.ext HX1.out) (by rw [str_size]; have := Hm.out; omega)).mono ?_); rintro e w2 ⟨A2, n2, c2, rfl, hr2, hx2⟩; rw [bys_str] at hr2; have HX2 := hid hx2; have HR2 := hid hr2; clear hx2 hr2)
        | (go_at_call 61; (with_reducible refine (join_any _ ⟨#[32]⟩ HR2.out (by have h1 := HW.out; have h2 := Hm.out; rw [List.length_map]; omega) (by rw [strs_data]; have h3 := join_sp (wordsB m); have h1 := HJ.out; have h2 := Hm.out; show (Lib.join (wordsB m) [32]).length ≤ _; rw [h3]; omega)).mono ?_); rintro e w3 ⟨he3, hx3⟩; have HX3 := hid hx3; rw [strs_bys, join_sp, ← HT.out] at he3; subst he3; clear hx3)
      )
      go_ret2
      exact ⟨by rw [HF.out]; rfl, HX1.out.trans (HX2.out.trans HX3.out)⟩
set_option maxHeartbeats 1000000 in
theorem normal3_any (s : ByteArray) (w : World) (hG : Gl w) (hs : s.size ≤ 1000000) :
    Calls Tryz.prog 188 #[.int .i64 3, .string s] w (NormPSays w 3 (bys s)) := by
  have Hs := hid hs
  have HG := hid hG
  have HN : Hid (normP 3 (bys s) = (bys s, intB (bys s))) := rfl
  clear hs hG
  cases hb : intB (bys s) with
  | true =>
    have HB := hid hb
    have HP := hid (parse_int hb)
    have HI := hid (itoa_int hb)
    have hsm := intV_small hb
    have HV : Hid (-9223372036854775808 ≤ intV (bys s) ∧ intV (bys s) ≤ 9223372036854775807) := by
      show _ ∧ _
      unfold intV
      split <;> omega
    have hl : ((digsB (bys s)).length : Int) ≤ 18 := by have := ((intB_iff _).1 hb).2.1; omega
    have te : (bys s == s.toList) = true := by rw [ByteArray.toList_eq, beq_iff_eq]
    clear hb hsm
    go_enter Tryz.func188, Tryz.ntmps188
    go_wp2_with (first
      | (go_at_call 199; (with_reducible refine (parseint_ok s _ _ (by have := Hs.out; omega) HP.out).mono ?_); rintro e w1 ⟨rfl, hx1⟩; have HX1 := hid hx1; clear hx1)
      | (go_at_call 200; (with_reducible refine (formatint_any _ _ (HG.out.ext HX1.out) HV.out.1 HV.out.2).mono ?_); rintro e w2 ⟨he2, hx2⟩; rw [HI.out] at he2; subst he2; have HX2 := hid hx2; clear hx2)
      | (go_at_call 213; (with_reducible refine (trimdash_any s _).mono ?_); rintro e w3 ⟨rfl, rfl⟩))
    go_ret2
    refine ⟨?_, HX1.out.trans HX2.out⟩
    rw [HN.out, HB.out, str_bys]
    rfl
  | false =>
    have HB := hid hb
    by_cases hp : ∃ n, Lib.parseIntB 64 (bys s) = .ok n
    · obtain ⟨n, hn⟩ := hp
      have HP := hid hn
      have HV := hid (parse_bound hn)
      by_cases he : Lib.itoa n = bys s
      · have HI := hid he
        have hl : decide (((digsB (bys s)).length : Int) ≤ 18) = false := by
          rw [decide_eq_false_iff_not]
          intro h
          have := int_prog (bys s) n he (by rw [trim_dash]; omega)
          rw [hb] at this
          cases this
        have te : (bys s == s.toList) = true := by rw [ByteArray.toList_eq, beq_iff_eq]
        clear hb hn he
        go_enter Tryz.func188, Tryz.ntmps188
        go_wp2_with (first
          | (go_at_call 199; (with_reducible refine (parseint_ok s _ _ (by have := Hs.out; omega) HP.out).mono ?_); rintro e w1 ⟨rfl, hx1⟩; have HX1 := hid hx1; clear hx1)
          | (go_at_call 200; (with_reducible refine (formatint_any _ _ (HG.out.ext HX1.out) HV.out.1 HV.out.2).mono ?_); rintro e w2 ⟨he2, hx2⟩; rw [HI.out] at he2; subst he2; have HX2 := hid hx2; clear hx2)
          | (go_at_call 213; (with_reducible refine (trimdash_any s _).mono ?_); rintro e w3 ⟨rfl, rfl⟩))
        go_ret2
        refine ⟨?_, HX1.out.trans HX2.out⟩
        rw [HN.out, HB.out, str_bys]
        rfl
      · have te : (Lib.itoa n == s.toList) = false := by rw [ByteArray.toList_eq, beq_eq_false_iff_ne]; exact he
        clear hb hn he
        go_enter Tryz.func188, Tryz.ntmps188
        go_wp2_with (first
          | (go_at_call 199; (with_reducible refine (parseint_ok s _ _ (by have := Hs.out; omega) HP.out).mono ?_); rintro e w1 ⟨rfl, hx1⟩; have HX1 := hid hx1; clear hx1)
          | (go_at_call 200; (with_reducible refine (formatint_any _ _ (HG.out.ext HX1.out) HV.out.1 HV.out.2).mono ?_); rintro e w2 ⟨rfl, hx2⟩; have HX2 := hid hx2; clear hx2))
        go_ret2
        refine ⟨?_, HX1.out.trans HX2.out⟩
        rw [HN.out, HB.out, str_bys]
        rfl
    · have HP : Hid (∀ n, Lib.parseIntB 64 (bys s) ≠ .ok n) := fun n h => hp ⟨n, h⟩
      clear hp hb
      go_enter Tryz.func188, Tryz.ntmps188
      go_wp2_with (first
        | (go_at_call 199; (with_reducible refine (parseint_bad s _ HG.out (by have := Hs.out; omega) HP.out).mono ?_); rintro e w1 ⟨⟨n1, t1, a1, rfl⟩, hx1⟩; have HX1 := hid hx1; clear hx1))
      go_ret2
      refine ⟨?_, HX1.out⟩
      rw [HN.out, HB.out, str_bys]
      rfl
theorem normalx_any (k : Int) (s : ByteArray) (w : World) (h1 : k ≠ 1) (h3 : k ≠ 3) (h4 : k ≠ 4) :
    Calls Tryz.prog 188 #[.int .i64 k, .string s] w (NormPSays w k (bys s)) := by
  have HN : Hid (normP k (bys s) = (bys s, true)) := by show _ = _; unfold normP; rw [if_neg h1, if_neg h3]
  have t1 : (k == 1) = false := by rw [beq_eq_false_iff_ne]; exact h1
  have t3 : (k == 3) = false := by rw [beq_eq_false_iff_ne]; exact h3
  have t4 : (k == 4) = false := by rw [beq_eq_false_iff_ne]; exact h4
  clear h1 h3 h4
  go_enter Tryz.func188, Tryz.ntmps188
  go_wp2
  go_ret2
  refine ⟨?_, Ext.refl _⟩
  rw [HN.out, str_bys]
  rfl
/-- A value's normal form by a type's name, and the error's number. -/
def normE (n v : List UInt8) : List UInt8 × Int :=
  if (typeB n).2 = 0 then ([], 5) else if (typeB n).2 = 5 then ([], 1) else if v = [] ∨ 200 < v.length then ([], 2)
  else if (normP (typeB n).2 v).2 then ((normP (typeB n).2 v).1, 0) else ([], 2)
def NormSays (w : World) (n v : List UInt8) (e : Ending) (w' : World) : Prop := e = .returned (.tuple #[.string (str (normE n v).1), .int .i64 (normE n v).2]) ∧ Ext w w'
theorem normal_at (k : Nat) (s : ByteArray) (w : World) (hG : Gl w) (hs : s.size ≤ 1000000) (h4 : k ≠ 4) :
    Calls Tryz.prog 188 #[.int .i64 k, .string s] w (NormPSays w k (bys s)) := by
  by_cases h1 : k = 1
  · subst h1; exact normal1_any s w hG hs
  · by_cases h3 : k = 3
    · subst h3; exact normal3_any s w hG hs
    · exact normalx_any k s w (by omega) (by omega) (by omega)
set_option maxHeartbeats 1000000 in
theorem normal_any (n s : ByteArray) (w : World) (hG : Gl w) (hn : n.size ≤ 4000000) (h4 : (typeB (bys n)).2 ≠ 4) :
    Calls Tryz.prog 153 #[.string n, .string s] w (NormSays w (bys n) (bys s)) := by
  have HG := hid hG
  have HT : ∀ w, Calls Tryz.prog 53 #[.string n] w (TypeSays w (bys n)) := fun w => type_any n w (by simp only [maxLen]; omega)
  have HN : Hid (normE (bys n) (bys s) = if (typeB (bys n)).2 = 0 then ([], 5) else if (typeB (bys n)).2 = 5 then ([], 1) else if bys s = [] ∨ 200 < (bys s).length then ([], 2)
    else if (normP (typeB (bys n)).2 (bys s)).2 then ((normP (typeB (bys n)).2 (bys s)).1, 0) else ([], 2)) := rfl
  unfold TypeSays at HT
  obtain ⟨p, hp⟩ : ∃ p, p = typeB (bys n) := ⟨_, rfl⟩
  rw [← hp] at HN HT h4
  clear hp hG
  obtain ⟨t, k⟩ := p
  have H4 : Hid (k ≠ 4) := h4
  clear h4
  simp only at HN HT
  by_cases k0 : k = 0
  · have HE : Hid (normE (bys n) (bys s) = ([], 5)) := by show _ = _; rw [HN.out, if_pos k0]
    have t0 : ((k : Int) == 0) = true := by rw [k0]; rfl
    clear k0 HN
    go_enter Tryz.func153, Tryz.ntmps153
    go_wp2_with (go_at_call 53; (with_reducible refine (HT _).mono ?_); rintro e w1 ⟨rfl, hx1⟩; have HX1 := hid hx1; clear hx1)
    go_ret2
    exact ⟨by rw [HE.out]; rfl, HX1.out⟩
  · have t0 : ((k : Int) == 0) = false := by rw [beq_eq_false_iff_ne]; omega
    by_cases k5 : k = 5
    · have HE : Hid (normE (bys n) (bys s) = ([], 1)) := by show _ = _; rw [HN.out, if_neg k0, if_pos k5]
      have t5 : ((k : Int) == 5) = true := by rw [k5]; rfl
      clear k0 k5 HN
      go_enter Tryz.func153, Tryz.ntmps153
      go_wp2_with (go_at_call 53; (with_reducible refine (HT _).mono ?_); rintro e w1 ⟨rfl, hx1⟩; have HX1 := hid hx1; clear hx1)
      go_ret2
      exact ⟨by rw [HE.out]; rfl, HX1.out⟩
    · have t5 : ((k : Int) == 5) = false := by rw [beq_eq_false_iff_ne]; omega
      by_cases hz : s.size = 0
      · have HE : Hid (normE (bys n) (bys s) = ([], 2)) := by show _ = _; rw [HN.out, if_neg k0, if_neg k5, if_pos (.inl (by rw [str_emp hz]; rfl))]
        have e1 := emp_yes hz
        clear k0 k5 HN hz
        go_enter Tryz.func153, Tryz.ntmps153
        go_wp2_with (go_at_call 53; (with_reducible refine (HT _).mono ?_); rintro e w1 ⟨rfl, hx1⟩; have HX1 := hid hx1; clear hx1)
        go_ret2
        exact ⟨by rw [HE.out]; rfl, HX1.out⟩
      · have e1 := emp_nb hz
        by_cases hl : 200 < s.size
        · have HE : Hid (normE (bys n) (bys s) = ([], 2)) := by show _ = _; rw [HN.out, if_neg k0, if_neg k5, if_pos (.inr (by rw [bys_len]; exact hl))]
          have e2 : 200 < (s.size : Int) := by omega
          clear k0 k5 HN hz hl
          go_enter Tryz.func153, Tryz.ntmps153
          go_wp2_with (go_at_call 53; (with_reducible refine (HT _).mono ?_); rintro e w1 ⟨rfl, hx1⟩; have HX1 := hid hx1; clear hx1)
          go_ret2
          exact ⟨by rw [HE.out]; rfl, HX1.out⟩
        · have e2 : decide (200 < (s.size : Int)) = false := by rw [decide_eq_false_iff_not]; omega
          have hbs : ¬ (bys s = [] ∨ 200 < (bys s).length) := by
            rw [bys_len]
            rintro (h | h)
            · exact hz (by rw [← bys_len, h]; rfl)
            · exact hl h
          rw [if_neg k0, if_neg k5, if_neg hbs] at HN
          have HP : ∀ w, Gl w → Calls Tryz.prog 188 #[.int .i64 k, .string s] w (NormPSays w k (bys s)) := fun w hG => normal_at k s w hG (by omega) H4.out
          unfold NormPSays at HP
          generalize normP (k : Int) (bys s) = q at *
          obtain ⟨r, b⟩ := q
          simp only at HN HP
          have HE : Hid (normE (bys n) (bys s) = if b = true then (r, 0) else ([], 2)) := HN.out
          clear k0 k5 hz hl hbs HN
          cases b
          all_goals
            go_enter Tryz.func153, Tryz.ntmps153
            go_wp2_with (first
              | (go_at_call 53; (with_reducible refine (HT _).mono ?_); rintro e w1 ⟨rfl, hx1⟩; have HX1 := hid hx1; clear hx1)
              | (go_at_call 188; (with_reducible refine (HP _ (HG.out.ext HX1.out)).mono ?_); rintro e w2 ⟨rfl, hx2⟩; have HX2 := hid hx2; clear hx2))
            go_ret2
            exact ⟨by rw [HE.out]; rfl, HX1.out.trans HX2.out⟩
end Go.Proofs.YtencmdpjiafnaaaGreatDoor
