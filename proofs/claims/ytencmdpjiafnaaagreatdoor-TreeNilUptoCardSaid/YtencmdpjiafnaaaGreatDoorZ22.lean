import Derived.Test.YtencmdpjiafnaaaGreatDoorZ09
import Derived.Test.YtencmdpjiafnaaaGreatDoorZ17
import Derived.Laws.Cover1
/- The walk of rdn's Formed. -/
namespace Go.Proofs.YtencmdpjiafnaaaGreatDoor
open Go.RowKit
set_option maxRecDepth 100000
set_option linter.unusedSimpArgs false
set_option linter.unusedVariables false

/-- In order, each above the last. -/
def okFrom (last : List UInt8) : List Ava → Bool
  | [] => true
  | a :: t => avaOk a && ltB last a.type && okFrom a.type t
theorem ok_ne {a : Ava} (h : avaOk a = true) : a.type ≠ [] := by
  unfold avaOk at h
  simp only [Bool.and_eq_true, Bool.or_eq_true, decide_eq_true_eq] at h
  intro e
  have h1 := (type_none a.type).1 (by rw [h.1.1, e])
  rcases h.1.2 with h2 | h2 <;> omega
theorem lt_nil {t : List UInt8} (h : t ≠ []) : ltB [] t = true := by
  cases t with
  | nil => exact absurd rfl h
  | cons a t => rfl
theorem okFrom_all : ∀ (l : List Ava) (last : List UInt8), okFrom last l = (l.all avaOk && risingB l && (match l with | [] => true | a :: _ => ltB last a.type))
  | [], last => rfl
  | [a], last => by simp [okFrom, risingB]
  | a :: b :: t, last => by
    have h := okFrom_all (b :: t) a.type
    unfold okFrom
    rw [h]
    simp only [List.all_cons, risingB]
    cases avaOk a <;> cases avaOk b <;> cases t.all avaOk <;> cases ltB a.type b.type <;> cases risingB (b :: t) <;> cases ltB last a.type <;> rfl
theorem formedA_ok (l : List Ava) : formedA l = (decide (1 ≤ l.length) && decide (l.length ≤ 3) && okFrom [] l) := by
  rw [okFrom_all]
  unfold formedA
  cases l with
  | nil => rfl
  | cons a t =>
    simp only [List.all_cons]
    cases h : avaOk a with
    | false => simp
    | true =>
      rw [lt_nil (ok_ne h)]
      simp [Bool.and_assoc]
/-- The error of a value's normal form is told by normB. -/
theorem normE_zero {n v : List UInt8} (h : (typeB n).2 = 1 ∨ (typeB n).2 = 3) : (normE n v).2 = if (normB (typeB n).2 v).isSome then 0 else 2 := by
  unfold normE normB
  rw [if_neg (by omega), if_neg (by omega)]
  by_cases hv : v = [] ∨ 200 < v.length
  · rw [if_pos hv, if_pos hv]; rfl
  · rw [if_neg hv, if_neg hv]
    rcases h with h | h
    · rw [h]
      simp only [normP, textN]
      by_cases ht : joinSp (wordsB (lowerB v)) = [] ∨ (0 : UInt8) ∈ joinSp (wordsB (lowerB v))
      · have h2 : ¬ (joinSp (wordsB (lowerB v)) ≠ [] ∧ (0 : UInt8) ∉ joinSp (wordsB (lowerB v))) := by
          rintro ⟨h3, h4⟩
          rcases ht with ht | ht
          · exact h3 ht
          · exact h4 ht
        simp [h2, ht]
      · have h2 : joinSp (wordsB (lowerB v)) ≠ [] ∧ (0 : UInt8) ∉ joinSp (wordsB (lowerB v)) := ⟨fun e => ht (.inl e), fun e => ht (.inr e)⟩
        simp [h2]
    · rw [h]
      cases hb : intB v <;> simp [normP, hb]
theorem less_lt : ∀ a b : List UInt8, Op.bytesLess a b = ltB a b
  | [], [] => rfl
  | [], _ :: _ => rfl
  | _ :: _, [] => rfl
  | a :: s, b :: t => by
    rw [Op.bytesLess, ltB, less_lt s t]
    by_cases h1 : a.toNat < b.toNat
    · have : a < b := h1
      simp [h1, this]
    · have h2 : ¬ a < b := h1
      by_cases h3 : b.toNat < a.toNat
      · have h4 : ¬ a = b := fun e => by rw [e] at h3; omega
        simp [h1, h2, h3, h4]
      · have h4 : a = b := UInt8.toNat_inj.1 (by omega)
        simp [h4]
/-- 't <= last', at the walk. -/
theorem leq_no {a b : List UInt8} (h : ltB b a = true) : Op.bytesLess a b = false ∧ (a == b) = false := by
  refine ⟨by rw [less_lt]; exact ltB_asymm _ _ h, ?_⟩
  rw [beq_eq_false_iff_ne]
  intro e
  rw [e, ltB_irrefl] at h
  cases h
theorem leq_yes {a b : List UInt8} (h : ltB b a = false) : Op.bytesLess a b = true ∨ (Op.bytesLess a b = false ∧ (a == b) = true) := by
  rw [less_lt]
  cases h2 : ltB a b with
  | true => exact .inl rfl
  | false => exact .inr ⟨rfl, by rw [ltB_tri _ _ h2 h]; exact beq_self_eq_true _⟩
set_option maxHeartbeats 2000000 in
theorem formed_any {S : Nat → Prop} {A : Option Addr} {n c : Nat} {l : List Ava} {w : World} (hG : Gl w) (h : Row Elem.ava S w A n c l) (hb : ∀ a ∈ l, a.type.length ≤ 4000000) :
    Calls Tryz.prog 140 #[.slice A n c] w fun e w' => e = .returned (.bool (formedA l)) ∧ Ext w w' := by
  have HG := hid hG
  have HR := hid h
  have HB := hid hb
  have hl := h.len
  have HF := hid (formedA_ok l)
  clear hG h hb
  by_cases h0 : n = 0
  · have HE : Hid (formedA l = false) := by show _ = _; rw [HF.out, ← hl, h0]; rfl
    have t0 : ((n : Int) == 0) = true := by rw [h0]; rfl
    clear h0 hl
    go_enter Tryz.func140, Tryz.ntmps140
    go_wp2
    go_ret
    exact ⟨by rw [HE.out]; rfl, Ext.refl _⟩
  · have t0 : ((n : Int) == 0) = false := by rw [beq_eq_false_iff_ne]; omega
    by_cases h3 : 3 < n
    · have HE : Hid (formedA l = false) := by show _ = _; rw [HF.out, ← hl, decide_eq_false (show ¬ n ≤ 3 by omega)]; simp
      have t3 : 3 < (n : Int) := by omega
      clear h0 hl h3
      go_enter Tryz.func140, Tryz.ntmps140
      go_wp2
      go_ret
      exact ⟨by rw [HE.out]; rfl, Ext.refl _⟩
    · have t3 : decide (3 < (n : Int)) = false := by rw [decide_eq_false_iff_not]; omega
      have HE : Hid (formedA l = okFrom [] l) := by show _ = _; rw [HF.out, ← hl, decide_eq_true (show 1 ≤ n by omega), decide_eq_true (show n ≤ 3 by omega)]; rfl
      have hn : n ≤ 3 := by omega
      clear h3 HF hl
      go_enter Tryz.func140, Tryz.ntmps140
      go_wp2
      go_loopw [3, 20] (fun v i wr => ∃ (j : Nat) (last : List UInt8), j ≤ n ∧ i = .int .i64 j ∧ v = .string (str last) ∧ Hid (okFrom last (l.drop j) = okFrom [] l) ∧ Hid (Ext w wr)) (fun _ i _ => n - (intOf i).toNat)
      case atStart => exact ⟨0, [], by omega, rfl, rfl, rfl, Ext.refl _⟩
      case round =>
        obtain ⟨j, last, hj, rfl, rfl, HO, HX⟩ := hrel
        by_cases hlt : j < n
        · obtain ⟨b, o, x, rfl, hx, e1, e2⟩ := ava_at (HR.out.ext HX.out) hlt
          have hd : Hid (l.drop j = x :: l.drop (j + 1)) := by
            show _ = _
            obtain ⟨h1, h2⟩ := List.getElem?_eq_some_iff.1 hx
            rw [List.drop_eq_getElem_cons h1, h2]
          have hxs := hid (HB.out x (List.mem_of_getElem? hx))
          clear hx
          have HT : ∀ w, Calls Tryz.prog 53 #[.string (str x.type)] w (TypeSays w x.type) := fun w => by
            have := type_any (str x.type) w (by have := hxs.out; rw [str_size]; simp only [maxLen]; omega)
            rwa [bys_str] at this
          have HAV : Hid (avaOk x = (decide ((typeB x.type).1 = x.type) && (decide ((typeB x.type).2 = 1) || decide ((typeB x.type).2 = 3)) && (normB (typeB x.type).2 x.val).isSome)) := rfl
          have HNE : Hid ((typeB x.type).2 = 1 ∨ (typeB x.type).2 = 3 → (normE x.type x.val).2 = if (normB (typeB x.type).2 x.val).isSome then 0 else 2) := normE_zero
          have HNA : Hid ((typeB x.type).2 = 1 ∨ (typeB x.type).2 = 3 → ∀ w, Gl w → Calls Tryz.prog 153 #[.string (str x.type), .string (str x.val)] w (NormSays w x.type x.val)) := fun h w hG => by
            have := normal_any (str x.type) (str x.val) w hG (by have := hxs.out; rw [str_size]; exact this) (by rw [bys_str]; omega)
            rwa [bys_str, bys_str] at this
          have HST : Hid (okFrom last (x :: l.drop (j + 1)) = (avaOk x && ltB last x.type && okFrom x.type (l.drop (j + 1)))) := rfl
          rw [← hd.out] at HST
          unfold TypeSays at HT
          obtain ⟨p, hp⟩ : ∃ p, p = typeB x.type := ⟨_, rfl⟩
          rw [← hp] at HT HAV HNE HNA
          clear hp
          obtain ⟨t, k⟩ := p
          simp only at HT HAV HNE HNA
          by_cases ht : t = x.type
          · subst ht
            by_cases hk : k = 1 ∨ k = 3
            · have HNC := HNA.out hk
              unfold NormSays at HNC
              have HE1 : Hid ((normE x.type x.val).2 = if (normB k x.val).isSome then 0 else 2) := HNE.out hk
              generalize normE x.type x.val = q at *
              obtain ⟨nv, ne⟩ := q
              simp only at HNC HE1
              have hk2 : ((k : Int) != 1) = false ∨ (((k : Int) != 1) = true ∧ ((k : Int) != 3) = false) := by
                rcases hk with h | h
                · left; rw [h]; rfl
                · right; rw [h]; exact ⟨rfl, rfl⟩
              clear HNA HNE
              cases hlt2 : ltB last x.type with
              | false =>
                have HF : Hid (okFrom last (l.drop j) = false) := by show _ = _; rw [HST.out, hlt2, Bool.and_false, Bool.false_and]
                rw [HO.out] at HF
                rcases leq_yes hlt2 with q1 | ⟨q1, q2⟩
                all_goals
                  clear hlt2
                  rcases hk2 with k1 | ⟨k1, k2⟩
                  all_goals
                    go_wp2_with (first
                      | (go_at_call 53; (with_reducible refine (HT _).mono ?_); rintro e w1 ⟨rfl, hx1⟩; have HX1 := hid hx1; have p0 := cell_later (box_a wr #[.string (str x.type), .string (str x.val)] 129 0) _ hx1; have p1 := cell_later (box_a wr #[.string (str x.type), .string (str x.val)] 129 1) _ hx1; clear hx1)
                      )
                    go_ret
                    exact ⟨by rw [HE.out, HF.out]; rfl, HX.out.trans ((Ext.alloc _ _).trans HX1.out)⟩
              | true =>
                obtain ⟨q1, q2⟩ := leq_no hlt2
                cases hnb : (normB k x.val).isSome with
                | false =>
                  have HN2 : Hid (ne = 2) := by show _ = _; rw [HE1.out, hnb]; rfl
                  have HF : Hid (okFrom last (l.drop j) = false) := by show _ = _; rw [HST.out, HAV.out, hnb, Bool.and_false, Bool.false_and, Bool.false_and]
                  rw [HO.out] at HF
                  have e3 : (ne != 0) = true := by rw [HN2.out]; rfl
                  clear hlt2 hnb HAV HST
                  rcases hk2 with k1 | ⟨k1, k2⟩
                  all_goals
                    go_wp2_with (first
                      | (go_at_call 53; (with_reducible refine (HT _).mono ?_); rintro e w1 ⟨rfl, hx1⟩; have HX1 := hid hx1; have p0 := cell_later (box_a wr #[.string (str x.type), .string (str x.val)] 129 0) _ hx1; have p1 := cell_later (box_a wr #[.string (str x.type), .string (str x.val)] 129 1) _ hx1; clear hx1)
                      | (go_at_call 153; (with_reducible refine (HNC _ (HG.out.ext (HX.out.trans ((Ext.alloc _ _).trans HX1.out)))).mono ?_); rintro e w2 ⟨rfl, hx2⟩; have HX2 := hid hx2; clear hx2)
                      )
                    go_ret
                    exact ⟨by rw [HE.out, HF.out]; rfl, HX.out.trans ((Ext.alloc _ _).trans (HX1.out.trans HX2.out))⟩
                | true =>
                  have e3 : (ne != 0) = false := by rw [HE1.out, hnb]; rfl
                  have HF : Hid (okFrom x.type (l.drop (j + 1)) = okFrom [] l) := by
                    show _ = _
                    rw [← HO.out, HST.out, HAV.out, hnb, hlt2, decide_eq_true rfl]
                    rcases hk with h | h <;> simp [h]
                  clear hlt2 hnb HAV HST hk
                  rcases hk2 with k1 | ⟨k1, k2⟩
                  all_goals
                    go_wp2_with (first
                      | (go_at_call 53; (with_reducible refine (HT _).mono ?_); rintro e w1 ⟨rfl, hx1⟩; have HX1 := hid hx1; have p0 := cell_later (box_a wr #[.string (str x.type), .string (str x.val)] 129 0) _ hx1; have p1 := cell_later (box_a wr #[.string (str x.type), .string (str x.val)] 129 1) _ hx1; clear hx1)
                      | (go_at_call 153; (with_reducible refine (HNC _ (HG.out.ext (HX.out.trans ((Ext.alloc _ _).trans HX1.out)))).mono ?_); rintro e w2 ⟨rfl, hx2⟩; have HX2 := hid hx2; clear hx2)
                      )
                    exact ⟨⟨j + 1, x.type, by omega, by go_num, rfl, HF, HX.out.trans ((Ext.alloc _ _).trans (HX1.out.trans HX2.out))⟩, by simp [intOf]; omega⟩
            · have hk1 : ((k : Int) != 1) = true := by rw [bne_iff_ne]; omega
              have hk2 : ((k : Int) != 3) = true := by rw [bne_iff_ne]; omega
              have HF : Hid (okFrom last (l.drop j) = false) := by
                show _ = _
                rw [HST.out, HAV.out, decide_eq_false (show ¬ k = 1 by omega), decide_eq_false (show ¬ k = 3 by omega)]
                simp
              rw [HO.out] at HF
              clear hk HNA HNE HAV HST
              go_wp2_with (first
                | (go_at_call 53; (with_reducible refine (HT _).mono ?_); rintro e w1 ⟨rfl, hx1⟩; have HX1 := hid hx1; have p0 := cell_later (box_a wr #[.string (str x.type), .string (str x.val)] 129 0) _ hx1; have p1 := cell_later (box_a wr #[.string (str x.type), .string (str x.val)] 129 1) _ hx1; clear hx1)
                )
              go_ret
              exact ⟨by rw [HE.out, HF.out]; rfl, HX.out.trans ((Ext.alloc _ _).trans HX1.out)⟩
          · have te : (t == x.type) = false := by rw [beq_eq_false_iff_ne]; exact ht
            have HF : Hid (okFrom last (l.drop j) = false) := by show _ = _; rw [HST.out, HAV.out, decide_eq_false ht]; simp
            rw [HO.out] at HF
            clear ht HNA HNE HAV HST
            go_wp2_with (first
              | (go_at_call 53; (with_reducible refine (HT _).mono ?_); rintro e w1 ⟨rfl, hx1⟩; have HX1 := hid hx1; have p0 := cell_later (box_a wr #[.string (str x.type), .string (str x.val)] 129 0) _ hx1; have p1 := cell_later (box_a wr #[.string (str x.type), .string (str x.val)] 129 1) _ hx1; clear hx1)
              )
            go_ret
            exact ⟨by rw [HE.out, HF.out]; rfl, HX.out.trans ((Ext.alloc _ _).trans HX1.out)⟩
        · obtain rfl : j = n := by omega
          have HF : Hid (okFrom [] l = true) := by show _ = _; rw [← HO.out, List.drop_of_length_le (Nat.le_of_eq HR.out.len.symm)]; rfl
          go_wp2
          go_ret
          exact ⟨by rw [HE.out, HF.out]; rfl, HX.out⟩
end Go.Proofs.YtencmdpjiafnaaaGreatDoor
