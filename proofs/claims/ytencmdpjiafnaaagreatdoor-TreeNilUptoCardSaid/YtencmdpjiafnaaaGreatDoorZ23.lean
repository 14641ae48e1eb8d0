import Derived.Test.YtencmdpjiafnaaaGreatDoorZ21
import Derived.Test.YtencmdpjiafnaaaGreatDoorZ22
/- The walk of the reference's Normal of a value. -/
namespace Go.Proofs.YtencmdpjiafnaaaGreatDoor
open Go.RowKit
set_option maxRecDepth 100000
set_option linter.unusedSimpArgs false
set_option linter.unusedVariables false

/-- A value's normal form, numbers that are pairs among them. -/
def normZ (n v : List UInt8) : List UInt8 × Int :=
  if (typeB n).2 = 4 then (if v = [] ∨ 200 < v.length then ([], 2) else if (planeR v).isSome then (v, 0) else ([], 2)) else normE n v
def NormZSays (w : World) (n v : List UInt8) (e : Ending) (w' : World) : Prop := e = .returned (.tuple #[.string (str (normZ n v).1), .int .i64 (normZ n v).2]) ∧ Ext w w'
/-- .. by the syntax alone. -/
def normK (k : Nat) (v : List UInt8) : List UInt8 × Int :=
  if k = 0 then ([], 5) else if k = 5 then ([], 1) else if v = [] ∨ 200 < v.length then ([], 2)
  else if k = 1 then (if textR v = [] then ([], 2) else (textR v, 0)) else if k = 3 then (if intB v then (v, 0) else ([], 2)) else if k = 4 then (if (planeR v).isSome then (v, 0) else ([], 2)) else (v, 0)
theorem normZ_k (n v : List UInt8) : normZ n v = normK (typeB n).2 v := by
  unfold normZ normE normK
  generalize (typeB n).2 = k
  by_cases h4 : k = 4
  · subst h4; simp
  · rw [if_neg h4]
    by_cases h0 : k = 0
    · simp [h0]
    · rw [if_neg h0, if_neg h0]
      by_cases h5 : k = 5
      · simp [h5]
      · rw [if_neg h5, if_neg h5]
        by_cases hv : v = [] ∨ 200 < v.length
        · rw [if_pos hv, if_pos hv]
        · rw [if_neg hv, if_neg hv]
          by_cases h1 : k = 1
          · subst h1
            have h := textR_some v
            simp only [normP, textN] at h ⊢
            by_cases ht : joinSp (wordsB (lowerB v)) = [] ∨ (0 : UInt8) ∈ joinSp (wordsB (lowerB v))
            · rw [if_pos ht] at h
              have h2 : ¬ (joinSp (wordsB (lowerB v)) ≠ [] ∧ (0 : UInt8) ∉ joinSp (wordsB (lowerB v))) := by
                rintro ⟨h3, h4⟩
                rcases ht with ht | ht
                · exact h3 ht
                · exact h4 ht
              have h3 : textR v = [] := by
                by_cases h4 : textR v = []
                · exact h4
                · rw [if_neg h4] at h; cases h
              simp [h2, h3]
            · rw [if_neg ht] at h
              have h2 : joinSp (wordsB (lowerB v)) ≠ [] ∧ (0 : UInt8) ∉ joinSp (wordsB (lowerB v)) := ⟨fun e => ht (.inl e), fun e => ht (.inr e)⟩
              by_cases h3 : textR v = []
              · rw [if_pos h3] at h; cases h
              · rw [if_neg h3] at h
                injection h with h
                simp [h2, ← h]
          · by_cases h3 : k = 3
            · subst h3
              simp [normP]
            · have i1 : ¬ (k : Int) = 1 := by omega
              have i3 : ¬ (k : Int) = 3 := by omega
              simp [normP, i1, i3]; simp [h1, h3, h4]
set_option maxHeartbeats 2000000 in
theorem rnormal_any (n s : ByteArray) (w : World) (hG : Gl w) (hn : n.size ≤ 4000000) :
    Calls Tryz.prog 117 #[.string n, .string s] w (NormZSays w (bys n) (bys s)) := by
  have HG := hid hG
  have HT : ∀ w, Calls Tryz.prog 111 #[.string n] w (TypeSays w (bys n)) := fun w => rtype_any n w (by simp only [maxLen]; omega)
  have HN := hid (normZ_k (bys n) (bys s))
  unfold TypeSays at HT
  obtain ⟨p, hp⟩ : ∃ p, p = typeB (bys n) := ⟨_, rfl⟩
  rw [← hp] at HN HT
  clear hp hG
  obtain ⟨t, k⟩ := p
  simp only at HN HT
  have HK : Hid (normK k (bys s) = if k = 0 then ([], 5) else if k = 5 then ([], 1) else if bys s = [] ∨ 200 < (bys s).length then ([], 2)
    else if k = 1 then (if textR (bys s) = [] then ([], 2) else (textR (bys s), 0)) else if k = 3 then (if intB (bys s) then (bys s, 0) else ([], 2)) else if k = 4 then (if (planeR (bys s)).isSome then (bys s, 0) else ([], 2)) else (bys s, 0)) := rfl
  by_cases k0 : k = 0
  · have HE : Hid (normZ (bys n) (bys s) = ([], 5)) := by show _ = _; rw [HN.out, HK.out, if_pos k0]
    have t0 : ((k : Int) == 0) = true := by rw [k0]; rfl
    clear k0 HN HK
    go_enter Tryz.func117, Tryz.ntmps117
    go_wp2_with (first
      | (go_at_call 111; (with_reducible refine (HT _).mono ?_); rintro e w1 ⟨rfl, hx1⟩; have HX1 := hid hx1; clear hx1)
      | (go_at_call 167; (with_reducible refine (rtext_any s _ Hs.out).mono ?_); rintro e w2 ⟨rfl, hx2⟩; have HX1' := hid (HX1.out.trans hx2); clear HX1 hx2; have HX1 := HX1'; clear HX1')
      | (go_at_call 168; (with_reducible refine (HI _ Hs.out).mono ?_); rintro e w2 ⟨rfl, hx2⟩; have HX1' := hid (HX1.out.trans hx2); clear HX1 hx2; have HX1 := HX1'; clear HX1')
      | (go_at_call 169; (with_reducible refine (HPS _ (HG.out.ext HX1.out) Hs.out).mono ?_); rintro e w2 ⟨rfl, hx2⟩; have HX1' := hid (HX1.out.trans hx2); clear HX1 hx2; have HX1 := HX1'; clear HX1'))
    go_ret2
    exact ⟨by rw [HE.out]; first | rfl | (rw [str_bys]; rfl), by first | exact HX1.out | exact HX1.out.trans (Ext.alloc _ _)⟩
  · have t0 : ((k : Int) == 0) = false := by rw [beq_eq_false_iff_ne]; omega
    by_cases k5 : k = 5
    · have HE : Hid (normZ (bys n) (bys s) = ([], 1)) := by show _ = _; rw [HN.out, HK.out, if_neg k0, if_pos k5]
      have t5 : ((k : Int) == 5) = true := by rw [k5]; rfl
      clear k0 k5 HN HK
      go_enter Tryz.func117, Tryz.ntmps117
      go_wp2_with (first
        | (go_at_call 111; (with_reducible refine (HT _).mono ?_); rintro e w1 ⟨rfl, hx1⟩; have HX1 := hid hx1; clear hx1)
        | (go_at_call 167; (with_reducible refine (rtext_any s _ Hs.out).mono ?_); rintro e w2 ⟨rfl, hx2⟩; have HX1' := hid (HX1.out.trans hx2); clear HX1 hx2; have HX1 := HX1'; clear HX1')
        | (go_at_call 168; (with_reducible refine (HI _ Hs.out).mono ?_); rintro e w2 ⟨rfl, hx2⟩; have HX1' := hid (HX1.out.trans hx2); clear HX1 hx2; have HX1 := HX1'; clear HX1')
        | (go_at_call 169; (with_reducible refine (HPS _ (HG.out.ext HX1.out) Hs.out).mono ?_); rintro e w2 ⟨rfl, hx2⟩; have HX1' := hid (HX1.out.trans hx2); clear HX1 hx2; have HX1 := HX1'; clear HX1'))
      go_ret2
      exact ⟨by rw [HE.out]; first | rfl | (rw [str_bys]; rfl), by first | exact HX1.out | exact HX1.out.trans (Ext.alloc _ _)⟩
    · have t5 : ((k : Int) == 5) = false := by rw [beq_eq_false_iff_ne]; omega
      by_cases hz : s.size = 0
      · have HE : Hid (normZ (bys n) (bys s) = ([], 2)) := by show _ = _; rw [HN.out, HK.out, if_neg k0, if_neg k5, if_pos (.inl (by rw [str_emp hz]; rfl))]
        have e1 : (s.size : Int) < 1 := by omega
        clear k0 k5 HN HK hz
        go_enter Tryz.func117, Tryz.ntmps117
        go_wp2_with (first
          | (go_at_call 111; (with_reducible refine (HT _).mono ?_); rintro e w1 ⟨rfl, hx1⟩; have HX1 := hid hx1; clear hx1)
          | (go_at_call 167; (with_reducible refine (rtext_any s _ Hs.out).mono ?_); rintro e w2 ⟨rfl, hx2⟩; have HX1' := hid (HX1.out.trans hx2); clear HX1 hx2; have HX1 := HX1'; clear HX1')
          | (go_at_call 168; (with_reducible refine (HI _ Hs.out).mono ?_); rintro e w2 ⟨rfl, hx2⟩; have HX1' := hid (HX1.out.trans hx2); clear HX1 hx2; have HX1 := HX1'; clear HX1')
          | (go_at_call 169; (with_reducible refine (HPS _ (HG.out.ext HX1.out) Hs.out).mono ?_); rintro e w2 ⟨rfl, hx2⟩; have HX1' := hid (HX1.out.trans hx2); clear HX1 hx2; have HX1 := HX1'; clear HX1'))
        go_ret2
        exact ⟨by rw [HE.out]; first | rfl | (rw [str_bys]; rfl), by first | exact HX1.out | exact HX1.out.trans (Ext.alloc _ _)⟩
      · have e1 : decide ((s.size : Int) < 1) = false := by rw [decide_eq_false_iff_not]; omega
        by_cases hl : 200 < s.size
        · have HE : Hid (normZ (bys n) (bys s) = ([], 2)) := by show _ = _; rw [HN.out, HK.out, if_neg k0, if_neg k5, if_pos (.inr (by rw [bys_len]; exact hl))]
          have e2 : 200 < (s.size : Int) := by omega
          clear k0 k5 HN HK hz hl
          go_enter Tryz.func117, Tryz.ntmps117
          go_wp2_with (first
            | (go_at_call 111; (with_reducible refine (HT _).mono ?_); rintro e w1 ⟨rfl, hx1⟩; have HX1 := hid hx1; clear hx1)
            | (go_at_call 167; (with_reducible refine (rtext_any s _ Hs.out).mono ?_); rintro e w2 ⟨rfl, hx2⟩; have HX1' := hid (HX1.out.trans hx2); clear HX1 hx2; have HX1 := HX1'; clear HX1')
            | (go_at_call 168; (with_reducible refine (HI _ Hs.out).mono ?_); rintro e w2 ⟨rfl, hx2⟩; have HX1' := hid (HX1.out.trans hx2); clear HX1 hx2; have HX1 := HX1'; clear HX1')
            | (go_at_call 169; (with_reducible refine (HPS _ (HG.out.ext HX1.out) Hs.out).mono ?_); rintro e w2 ⟨rfl, hx2⟩; have HX1' := hid (HX1.out.trans hx2); clear HX1 hx2; have HX1 := HX1'; clear HX1'))
          go_ret2
          exact ⟨by rw [HE.out]; first | rfl | (rw [str_bys]; rfl), by first | exact HX1.out | exact HX1.out.trans (Ext.alloc _ _)⟩
        · have e2 : decide (200 < (s.size : Int)) = false := by rw [decide_eq_false_iff_not]; omega
          have Hs : Hid (s.size ≤ 4000000) := by show _ ≤ _; omega
          have hbs : ¬ (bys s = [] ∨ 200 < (bys s).length) := by
            rw [bys_len]
            rintro (h | h)
            · exact hz (by rw [← bys_len, h]; rfl)
            · exact hl h
          rw [if_neg k0, if_neg k5, if_neg hbs] at HK
          clear hbs hz hl k0 k5
          by_cases k1 : k = 1
          · have t1 : ((k : Int) == 1) = true := by rw [k1]; rfl
            rw [if_pos k1] at HK
            by_cases hr : textR (bys s) = []
            · have r0 : (textR (bys s) == []) = true := by rw [hr]; rfl
              have HE : Hid (normZ (bys n) (bys s) = ([], 2)) := by show _ = _; rw [HN.out, HK.out, if_pos hr]
              clear k1 hr HN HK
              go_enter Tryz.func117, Tryz.ntmps117
              go_wp2_with (first
                | (go_at_call 111; (with_reducible refine (HT _).mono ?_); rintro e w1 ⟨rfl, hx1⟩; have HX1 := hid hx1; clear hx1)
                | (go_at_call 167; (with_reducible refine (rtext_any s _ Hs.out).mono ?_); rintro e w2 ⟨rfl, hx2⟩; have HX1' := hid (HX1.out.trans hx2); clear HX1 hx2; have HX1 := HX1'; clear HX1')
                | (go_at_call 168; (with_reducible refine (HI _ Hs.out).mono ?_); rintro e w2 ⟨rfl, hx2⟩; have HX1' := hid (HX1.out.trans hx2); clear HX1 hx2; have HX1 := HX1'; clear HX1')
                | (go_at_call 169; (with_reducible refine (HPS _ (HG.out.ext HX1.out) Hs.out).mono ?_); rintro e w2 ⟨rfl, hx2⟩; have HX1' := hid (HX1.out.trans hx2); clear HX1 hx2; have HX1 := HX1'; clear HX1'))
              go_ret2
              exact ⟨by rw [HE.out]; first | rfl | (rw [str_bys]; rfl), by first | exact HX1.out | exact HX1.out.trans (Ext.alloc _ _)⟩
            · have r0 : (textR (bys s) == []) = false := by rw [beq_eq_false_iff_ne]; exact hr
              have HE : Hid (normZ (bys n) (bys s) = (textR (bys s), 0)) := by show _ = _; rw [HN.out, HK.out, if_neg hr]
              clear k1 hr HN HK
              go_enter Tryz.func117, Tryz.ntmps117
              go_wp2_with (first
                | (go_at_call 111; (with_reducible refine (HT _).mono ?_); rintro e w1 ⟨rfl, hx1⟩; have HX1 := hid hx1; clear hx1)
                | (go_at_call 167; (with_reducible refine (rtext_any s _ Hs.out).mono ?_); rintro e w2 ⟨rfl, hx2⟩; have HX1' := hid (HX1.out.trans hx2); clear HX1 hx2; have HX1 := HX1'; clear HX1')
                | (go_at_call 168; (with_reducible refine (HI _ Hs.out).mono ?_); rintro e w2 ⟨rfl, hx2⟩; have HX1' := hid (HX1.out.trans hx2); clear HX1 hx2; have HX1 := HX1'; clear HX1')
                | (go_at_call 169; (with_reducible refine (HPS _ (HG.out.ext HX1.out) Hs.out).mono ?_); rintro e w2 ⟨rfl, hx2⟩; have HX1' := hid (HX1.out.trans hx2); clear HX1 hx2; have HX1 := HX1'; clear HX1'))
              go_ret2
              exact ⟨by rw [HE.out]; first | rfl | (rw [str_bys]; rfl), by first | exact HX1.out | exact HX1.out.trans (Ext.alloc _ _)⟩
          · have t1 : ((k : Int) == 1) = false := by rw [beq_eq_false_iff_ne]; omega
            rw [if_neg k1] at HK
            by_cases k3 : k = 3
            · have t3 : ((k : Int) == 3) = true := by rw [k3]; rfl
              rw [if_pos k3] at HK
              have HI := rinteger_any s
              unfold IntSays at HI
              cases hi : intB (bys s) with
              | true =>
                have HE : Hid (normZ (bys n) (bys s) = (bys s, 0)) := by show _ = _; rw [HN.out, HK.out, hi]; rfl
                rw [hi] at HI
                clear k1 k3 hi HN HK
                go_enter Tryz.func117, Tryz.ntmps117
                go_wp2_with (first
                  | (go_at_call 111; (with_reducible refine (HT _).mono ?_); rintro e w1 ⟨rfl, hx1⟩; have HX1 := hid hx1; clear hx1)
                  | (go_at_call 167; (with_reducible refine (rtext_any s _ Hs.out).mono ?_); rintro e w2 ⟨rfl, hx2⟩; have HX1' := hid (HX1.out.trans hx2); clear HX1 hx2; have HX1 := HX1'; clear HX1')
                  | (go_at_call 168; (with_reducible refine (HI _ Hs.out).mono ?_); rintro e w2 ⟨rfl, hx2⟩; have HX1' := hid (HX1.out.trans hx2); clear HX1 hx2; have HX1 := HX1'; clear HX1')
                  | (go_at_call 169; (with_reducible refine (HPS _ (HG.out.ext HX1.out) Hs.out).mono ?_); rintro e w2 ⟨rfl, hx2⟩; have HX1' := hid (HX1.out.trans hx2); clear HX1 hx2; have HX1 := HX1'; clear HX1'))
                go_ret2
                exact ⟨by rw [HE.out]; first | rfl | (rw [str_bys]; rfl), by first | exact HX1.out | exact HX1.out.trans (Ext.alloc _ _)⟩
              | false =>
                have HE : Hid (normZ (bys n) (bys s) = ([], 2)) := by show _ = _; rw [HN.out, HK.out, hi]; rfl
                rw [hi] at HI
                clear k1 k3 hi HN HK
                go_enter Tryz.func117, Tryz.ntmps117
                go_wp2_with (first
                  | (go_at_call 111; (with_reducible refine (HT _).mono ?_); rintro e w1 ⟨rfl, hx1⟩; have HX1 := hid hx1; clear hx1)
                  | (go_at_call 167; (with_reducible refine (rtext_any s _ Hs.out).mono ?_); rintro e w2 ⟨rfl, hx2⟩; have HX1' := hid (HX1.out.trans hx2); clear HX1 hx2; have HX1 := HX1'; clear HX1')
                  | (go_at_call 168; (with_reducible refine (HI _ Hs.out).mono ?_); rintro e w2 ⟨rfl, hx2⟩; have HX1' := hid (HX1.out.trans hx2); clear HX1 hx2; have HX1 := HX1'; clear HX1')
                  | (go_at_call 169; (with_reducible refine (HPS _ (HG.out.ext HX1.out) Hs.out).mono ?_); rintro e w2 ⟨rfl, hx2⟩; have HX1' := hid (HX1.out.trans hx2); clear HX1 hx2; have HX1 := HX1'; clear HX1'))
                go_ret2
                exact ⟨by rw [HE.out]; first | rfl | (rw [str_bys]; rfl), by first | exact HX1.out | exact HX1.out.trans (Ext.alloc _ _)⟩
            · have t3 : ((k : Int) == 3) = false := by rw [beq_eq_false_iff_ne]; omega
              rw [if_neg k3] at HK
              by_cases k4 : k = 4
              · have t4 : ((k : Int) == 4) = true := by rw [k4]; rfl
                rw [if_pos k4] at HK
                have HPS := rplane_any s
                unfold PlaneSays at HPS
                generalize planeR (bys s) = q at *
                cases q with
                | none =>
                  have HE : Hid (normZ (bys n) (bys s) = ([], 2)) := by show _ = _; rw [HN.out, HK.out]; rfl
                  clear k1 k3 k4 HN HK
                  go_enter Tryz.func117, Tryz.ntmps117
                  go_wp2_with (first
                    | (go_at_call 111; (with_reducible refine (HT _).mono ?_); rintro e w1 ⟨rfl, hx1⟩; have HX1 := hid hx1; clear hx1)
                    | (go_at_call 167; (with_reducible refine (rtext_any s _ Hs.out).mono ?_); rintro e w2 ⟨rfl, hx2⟩; have HX1' := hid (HX1.out.trans hx2); clear HX1 hx2; have HX1 := HX1'; clear HX1')
                    | (go_at_call 168; (with_reducible refine (HI _ Hs.out).mono ?_); rintro e w2 ⟨rfl, hx2⟩; have HX1' := hid (HX1.out.trans hx2); clear HX1 hx2; have HX1 := HX1'; clear HX1')
                    | (go_at_call 169; (with_reducible refine (HPS _ (HG.out.ext HX1.out) Hs.out).mono ?_); rintro e w2 ⟨rfl, hx2⟩; have HX1' := hid (HX1.out.trans hx2); clear HX1 hx2; have HX1 := HX1'; clear HX1'))
                  go_ret2
                  exact ⟨by rw [HE.out]; first | rfl | (rw [str_bys]; rfl), by first | exact HX1.out | exact HX1.out.trans (Ext.alloc _ _)⟩
                | some q =>
                  have HE : Hid (normZ (bys n) (bys s) = (bys s, 0)) := by show _ = _; rw [HN.out, HK.out]; rfl
                  clear k1 k3 k4 HN HK
                  go_enter Tryz.func117, Tryz.ntmps117
                  go_wp2_with (first
                    | (go_at_call 111; (with_reducible refine (HT _).mono ?_); rintro e w1 ⟨rfl, hx1⟩; have HX1 := hid hx1; clear hx1)
                    | (go_at_call 167; (with_reducible refine (rtext_any s _ Hs.out).mono ?_); rintro e w2 ⟨rfl, hx2⟩; have HX1' := hid (HX1.out.trans hx2); clear HX1 hx2; have HX1 := HX1'; clear HX1')
                    | (go_at_call 168; (with_reducible refine (HI _ Hs.out).mono ?_); rintro e w2 ⟨rfl, hx2⟩; have HX1' := hid (HX1.out.trans hx2); clear HX1 hx2; have HX1 := HX1'; clear HX1')
                    | (go_at_call 169; (with_reducible refine (HPS _ (HG.out.ext HX1.out) Hs.out).mono ?_); rintro e w2 ⟨rfl, hx2⟩; have HX1' := hid (HX1.out.trans hx2); clear HX1 hx2; have HX1 := HX1'; clear HX1'))
                  go_ret2
                  exact ⟨by rw [HE.out]; first | rfl | (rw [str_bys]; rfl), by first | exact HX1.out | exact HX1.out.trans (Ext.alloc _ _)⟩
              · have t4 : ((k : Int) == 4) = false := by rw [beq_eq_false_iff_ne]; omega
                have HE : Hid (normZ (bys n) (bys s) = (bys s, 0)) := by show _ = _; rw [HN.out, HK.out, if_neg k4]
                clear k1 k3 k4 HN HK
                go_enter Tryz.func117, Tryz.ntmps117
                go_wp2_with (first
                  | (go_at_call 111; (with_reducible refine (HT _).mono ?_); rintro e w1 ⟨rfl, hx1⟩; have HX1 := hid hx1; clear hx1)
                  | (go_at_call 167; (with_reducible refine (rtext_any s _ Hs.out).mono ?_); rintro e w2 ⟨rfl, hx2⟩; have HX1' := hid (HX1.out.trans hx2); clear HX1 hx2; have HX1 := HX1'; clear HX1')
                  | (go_at_call 168; (with_reducible refine (HI _ Hs.out).mono ?_); rintro e w2 ⟨rfl, hx2⟩; have HX1' := hid (HX1.out.trans hx2); clear HX1 hx2; have HX1 := HX1'; clear HX1')
                  | (go_at_call 169; (with_reducible refine (HPS _ (HG.out.ext HX1.out) Hs.out).mono ?_); rintro e w2 ⟨rfl, hx2⟩; have HX1' := hid (HX1.out.trans hx2); clear HX1 hx2; have HX1 := HX1'; clear HX1'))
                go_ret2
                exact ⟨by rw [HE.out]; first | rfl | (rw [str_bys]; rfl), by first | exact HX1.out | exact HX1.out.trans (Ext.alloc _ _)⟩
end Go.Proofs.YtencmdpjiafnaaaGreatDoor
