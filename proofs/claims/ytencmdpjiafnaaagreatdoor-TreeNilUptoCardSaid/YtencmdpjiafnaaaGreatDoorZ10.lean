import Derived.Test.YtencmdpjiafnaaaGreatDoorZ04
/- Plain: whole numbers as texts: what the library's ParseInt and FormatInt make of them, and the reference's reading, agree. No program in sight. -/
namespace Go.Proofs.YtencmdpjiafnaaaGreatDoor
set_option linter.unusedSimpArgs false

def digC (c : UInt8) : Bool := decide (48 ≤ c.toNat) && decide (c.toNat ≤ 57)
def valFrom (acc : Nat) : List UInt8 → Nat
  | [] => acc
  | c :: t => valFrom (acc * 10 + (c.toNat - 48)) t
theorem digC_iff (c : UInt8) : digC c = true ↔ 48 ≤ c.toNat ∧ c.toNat ≤ 57 := by simp [digC]
theorem valFrom_ge (l : List UInt8) : ∀ acc : Nat, acc ≤ valFrom acc l := by
  induction l with
  | nil => intro acc; exact Nat.le_refl _
  | cons c t ih =>
    intro acc
    have h := ih (acc * 10 + (c.toNat - 48))
    have e : valFrom acc (c :: t) = valFrom (acc * 10 + (c.toNat - 48)) t := rfl
    rw [e]
    exact Nat.le_trans (by omega) h
theorem valFrom_lt (l : List UInt8) : ∀ acc : Nat, l.all digC = true → valFrom acc l < (acc + 1) * 10 ^ l.length := by
  induction l with
  | nil => intro acc _; show acc < (acc + 1) * 1; omega
  | cons c t ih =>
    intro acc h
    simp only [List.all_cons, Bool.and_eq_true] at h
    have h1 := (digC_iff c).1 h.1
    have h2 := ih (acc * 10 + (c.toNat - 48)) h.2
    have e : valFrom acc (c :: t) = valFrom (acc * 10 + (c.toNat - 48)) t := rfl
    rw [e, List.length_cons, Nat.pow_succ, Nat.mul_comm (10 ^ t.length) 10, ← Nat.mul_assoc]
    exact Nat.lt_of_lt_of_le h2 (Nat.mul_le_mul_right _ (by omega))
theorem valFrom_snoc : ∀ (l : List UInt8) (acc : Nat) (c : UInt8), valFrom acc (l ++ [c]) = valFrom acc l * 10 + (c.toNat - 48)
  | [], _, _ => rfl
  | _ :: t, _, c => valFrom_snoc t _ c
theorem dec_small {u : Nat} (h : u < 10) : Lib.decDigits u = [UInt8.ofNat (48 + u)] := by unfold Lib.decDigits; rw [dif_pos h]
theorem dec_big {u : Nat} (h : ¬ u < 10) : Lib.decDigits u = Lib.decDigits (u / 10) ++ [UInt8.ofNat (48 + u % 10)] := by rw [Lib.decDigits, dif_neg h]
theorem parse_okM {M : Nat} (hM : 1000000000000000000 ≤ M) (l : List UInt8) : ∀ acc : Nat, l.all digC = true → valFrom acc l < 1000000000000000000 → Lib.parseUintM M acc l = .ok (valFrom acc l) := by
  induction l with
  | nil => intro acc _ _; rfl
  | cons c t ih =>
    intro acc h hv
    simp only [List.all_cons, Bool.and_eq_true] at h
    have h1 := (digC_iff c).1 h.1
    have e : valFrom acc (c :: t) = valFrom (acc * 10 + (c.toNat - 48)) t := rfl
    rw [e] at hv ⊢
    have h2 := valFrom_ge t (acc * 10 + (c.toNat - 48))
    have h3 : acc * 10 + (c.toNat - 48) < 1000000000000000000 := Nat.lt_of_le_of_lt h2 hv
    unfold Lib.parseUintM
    rw [if_pos h1, if_neg (by omega), if_neg (by omega)]
    exact ih _ h.2 hv
theorem parse_ok (l : List UInt8) (acc : Nat) (h : l.all digC = true) (hv : valFrom acc l < 10 ^ 18) : Lib.parseUintM (2 ^ 64 - 1) acc l = .ok (valFrom acc l) := parse_okM (by decide) l acc h hv
/-- A numeral without a needless nought. -/
def plainD (d : List UInt8) : Prop := d ≠ [] ∧ d.all digC = true ∧ (d.head? ≠ some 48 ∨ d = [48])
theorem val_pos : ∀ (d : List UInt8), d ≠ [] → d.all digC = true → d.head? ≠ some 48 → 1 ≤ valFrom 0 d
  | [], h, _, _ => absurd rfl h
  | c :: t, _, h, hh => by
    simp only [List.all_cons, Bool.and_eq_true] at h
    have h1 := (digC_iff c).1 h.1
    have h2 := valFrom_ge t (0 * 10 + (c.toNat - 48))
    have h3 : c.toNat ≠ 48 := fun e => hh (congrArg some (UInt8.toNat_inj.1 e))
    have e : valFrom 0 (c :: t) = valFrom (0 * 10 + (c.toNat - 48)) t := rfl
    rw [e]
    exact Nat.le_trans (by omega) h2
theorem digits_val : ∀ (n : Nat) (d : List UInt8), d.length ≤ n → plainD d → Lib.decDigits (valFrom 0 d) = d
  | n, d, hn, ⟨h1, h2, h3⟩ => by
    rcases List.eq_nil_or_concat d with e | ⟨e, c, hd⟩
    · exact absurd e h1
    · rw [List.concat_eq_append] at hd
      subst hd
      rw [List.all_append, Bool.and_eq_true] at h2
      simp only [List.all_cons, List.all_nil, Bool.and_true] at h2
      have hc := (digC_iff c).1 h2.2
      rw [valFrom_snoc]
      by_cases he : e = []
      · subst he
        have e0 : valFrom 0 [] = 0 := rfl
        rw [e0, dec_small (by omega)]
        have : 48 + (0 * 10 + (c.toNat - 48)) = c.toNat := by omega
        rw [this]
        simp
      · have hh : e.head? ≠ some 48 := by
          rcases h3 with h3 | h3
          · cases e with
            | nil => exact absurd rfl he
            | cons x t => simpa using h3
          · cases e with
            | nil => exact absurd rfl he
            | cons x t => have := congrArg List.length h3; simp at this
        have hp := val_pos e he h2.1 hh
        cases n with
        | zero => simp at hn
        | succ n =>
          have ih := digits_val n e (by simp at hn; omega) ⟨he, h2.1, .inl hh⟩
          rw [dec_big (by omega)]
          have e1 : (valFrom 0 e * 10 + (c.toNat - 48)) / 10 = valFrom 0 e := by omega
          have e2 : 48 + (valFrom 0 e * 10 + (c.toNat - 48)) % 10 = c.toNat := by omega
          rw [e1, e2, ih]
          simp
theorem dec_plain : ∀ (n u : Nat), u ≤ n → plainD (Lib.decDigits u) ∧ (0 < u → (Lib.decDigits u).head? ≠ some 48)
  | n, u, hn => by
    by_cases h : u < 10
    · rw [dec_small h]
      have ht : (UInt8.ofNat (48 + u)).toNat = 48 + u := by rw [UInt8.toNat_ofNat']; omega
      refine ⟨⟨by simp, by simp [digC, ht]; omega, ?_⟩, fun h0 => ?_⟩
      · by_cases h0 : u = 0
        · right; subst h0; rfl
        · left
          intro e
          injection e with e
          have := congrArg UInt8.toNat e
          rw [ht] at this
          have e48 : (48 : UInt8).toNat = 48 := rfl
          omega
      · intro e
        injection e with e
        have := congrArg UInt8.toNat e
        rw [ht] at this
        have e48 : (48 : UInt8).toNat = 48 := rfl
        omega
    · rw [dec_big h]
      cases n with
      | zero => omega
      | succ n =>
        obtain ⟨⟨h1, h2, _⟩, h4⟩ := dec_plain n (u / 10) (by omega)
        have h5 := h4 (by omega)
        have hh : (Lib.decDigits (u / 10) ++ [UInt8.ofNat (48 + u % 10)]).head? ≠ some 48 := by
          cases hd : Lib.decDigits (u / 10) with
          | nil => exact absurd hd h1
          | cons x t => rw [hd] at h5; simpa using h5
        have ht : (UInt8.ofNat (48 + u % 10)).toNat = 48 + u % 10 := by rw [UInt8.toNat_ofNat']; omega
        refine ⟨⟨by simp, ?_, .inl hh⟩, fun _ => hh⟩
        rw [List.all_append, h2]
        simp [digC, ht]
        omega
def negB (v : List UInt8) : Bool := decide (v.head? = some 45)
def digsB (v : List UInt8) : List UInt8 := if negB v then v.drop 1 else v
/-- The number that a text spells. -/
def intV (v : List UInt8) : Int := if negB v then -(valFrom 0 (digsB v) : Int) else (valFrom 0 (digsB v) : Int)
theorem intB_iff (v : List UInt8) : intB v = true ↔ 1 ≤ (digsB v).length ∧ (digsB v).length ≤ 18 ∧ ¬ ((digsB v).head? = some 48 ∧ (1 < (digsB v).length ∨ negB v = true)) ∧ (digsB v).all digC = true := by
  have e : intB v = (decide (1 ≤ (digsB v).length) && decide ((digsB v).length ≤ 18) && !(decide ((digsB v).head? = some 48) && (decide (1 < (digsB v).length) || negB v)) && (digsB v).all digC) := rfl
  rw [e]
  simp only [Bool.and_eq_true, decide_eq_true_eq, Bool.not_eq_true', Bool.and_eq_false_iff, decide_eq_false_iff_not, Bool.or_eq_false_iff, and_assoc]
  constructor
  · rintro ⟨h1, h2, h3, h4⟩
    refine ⟨h1, h2, fun ⟨h5, h6⟩ => ?_, h4⟩
    rcases h3 with h3 | ⟨h3, h7⟩
    · exact h3 h5
    · rcases h6 with h6 | h6
      · exact h3 h6
      · rw [h7] at h6; cases h6
  · rintro ⟨h1, h2, h3, h4⟩
    refine ⟨h1, h2, ?_, h4⟩
    by_cases h5 : (digsB v).head? = some 48
    · right
      refine ⟨fun h6 => h3 ⟨h5, .inl h6⟩, ?_⟩
      cases h7 : negB v with
      | false => rfl
      | true => exact absurd ⟨h5, .inr h7⟩ h3
    · exact .inl h5
theorem intB_plain {v : List UInt8} (h : intB v = true) : plainD (digsB v) ∧ (negB v = true → (digsB v).head? ≠ some 48) := by
  obtain ⟨h1, h2, h3, h4⟩ := (intB_iff v).1 h
  refine ⟨⟨fun e => by rw [e] at h1; simp at h1, h4, ?_⟩, fun hn he => h3 ⟨he, .inr hn⟩⟩
  by_cases hh : (digsB v).head? = some 48
  · right
    have hl : ¬ 1 < (digsB v).length := fun hl => h3 ⟨hh, .inl hl⟩
    cases hd : digsB v with
    | nil => rw [hd] at h1; simp at h1
    | cons c t =>
      rw [hd] at hh hl
      cases t with
      | nil => simp at hh; rw [hh]
      | cons x t => simp at hl
  · exact .inl hh
theorem intV_small {v : List UInt8} (h : intB v = true) : valFrom 0 (digsB v) < 10 ^ 18 := by
  obtain ⟨h1, h2, h3, h4⟩ := (intB_iff v).1 h
  have := valFrom_lt (digsB v) 0 h4
  have h5 : 10 ^ (digsB v).length ≤ 10 ^ 18 := Nat.pow_le_pow_right (by decide) h2
  omega
theorem neg_form {v : List UInt8} (h : negB v = true) : v = 45 :: digsB v := by
  unfold digsB
  rw [if_pos h]
  unfold negB at h
  rw [decide_eq_true_eq] at h
  cases v with
  | nil => cases h
  | cons c t => simp at h; rw [h]; rfl
theorem pos_form {v : List UInt8} (h : negB v = false) : digsB v = v := by unfold digsB; rw [if_neg (by simp [h])]
/-- A number of eighteen digits at most is read by ParseInt as what it spells. -/
theorem parse_int {v : List UInt8} (h : intB v = true) : Lib.parseIntB 64 v = .ok (intV v) := by
  obtain ⟨⟨h1, h2, h3⟩, h4⟩ := intB_plain h
  have hs := intV_small h
  have hp : Lib.parseUintB 64 (digsB v) = .ok (valFrom 0 (digsB v)) := by
    unfold Lib.parseUintB
    rw [if_neg h1]
    exact parse_ok _ 0 h2 hs
  cases hn : negB v with
  | true =>
    have e := neg_form hn
    have hV : intV v = -(valFrom 0 (digsB v) : Int) := by unfold intV; rw [if_pos hn]
    generalize digsB v = d at *
    subst e
    have c1 : ((45 : UInt8).toNat = 43 ∨ (45 : UInt8).toNat = 45) := by decide
    have c2 : (45 : UInt8).toNat = 45 := by decide
    have c3 : ¬ 2 ^ (64 - 1) < valFrom 0 d := by omega
    simp only [Lib.parseIntB, if_pos c1]
    simp only [hp, c2, not_true_eq_false, false_and, if_false, true_and, if_true, c3, hV]
  | false =>
    have e := pos_form hn
    have hV : intV v = (valFrom 0 (digsB v) : Int) := by unfold intV; rw [if_neg (by simp [hn])]
    rw [e] at h1 h2 h3 hs hp hV
    cases v with
    | nil => exact absurd rfl h1
    | cons c t =>
      simp only [List.all_cons, Bool.and_eq_true] at h2
      have h5 := (digC_iff c).1 h2.1
      have c1 : ¬ (c.toNat = 43 ∨ c.toNat = 45) := by omega
      have c2 : ¬ c.toNat = 45 := by omega
      have c3 : ¬ 2 ^ (64 - 1) ≤ valFrom 0 (c :: t) := by omega
      simp only [Lib.parseIntB, if_neg c1]
      simp only [hp, c2, not_false_eq_true, true_and, false_and, if_false, c3, hV]
theorem itoa_int {v : List UInt8} (h : intB v = true) : Lib.itoa (intV v) = v := by
  obtain ⟨hp, h4⟩ := intB_plain h
  have hd := digits_val _ (digsB v) (Nat.le_refl _) hp
  cases hn : negB v with
  | true =>
    have hpos := val_pos _ hp.1 hp.2.1 (h4 hn)
    have hV : intV v = -(valFrom 0 (digsB v) : Int) := by unfold intV; rw [if_pos hn]
    have hlt : -(valFrom 0 (digsB v) : Int) < 0 := by omega
    unfold Lib.itoa
    rw [hV, if_pos hlt]
    have : (-(valFrom 0 (digsB v) : Int)).natAbs = valFrom 0 (digsB v) := by omega
    rw [this, hd]
    exact (neg_form hn).symm
  | false =>
    have hV : intV v = (valFrom 0 (digsB v) : Int) := by unfold intV; rw [if_neg (by simp [hn])]
    have hlt : ¬ (valFrom 0 (digsB v) : Int) < 0 := by omega
    unfold Lib.itoa
    rw [hV, if_neg hlt, Int.toNat_natCast, hd]
    exact pos_form hn
theorem trim_dash (v : List UInt8) : Lib.trimPrefix v [45] = digsB v := by
  unfold Lib.trimPrefix Lib.hasPrefix digsB negB
  cases v with
  | nil => rfl
  | cons c t =>
    by_cases hc : c = 45
    · subst hc; rfl
    · have : ¬ (45 : UInt8) = c := fun e => hc e.symm
      simp [List.isPrefixOf, hc, this]
/-- What the program asks of a number: it is read, written as it stood, and short. -/
theorem int_prog (v : List UInt8) (n : Int) (h1 : Lib.itoa n = v) (h2 : (Lib.trimPrefix v [45]).length ≤ 18) : intB v = true := by
  rw [trim_dash] at h2
  rw [intB_iff]
  unfold Lib.itoa at h1
  by_cases hn : n < 0
  · rw [if_pos hn] at h1
    obtain ⟨⟨p1, p2, p3⟩, p4⟩ := dec_plain _ n.natAbs (Nat.le_refl _)
    have hneg : negB v = true := by rw [← h1]; rfl
    have hd : digsB v = Lib.decDigits n.natAbs := by have h9 := h1.trans (neg_form hneg); injection h9 with _ e; exact e.symm
    rw [hd] at h2 ⊢
    exact ⟨by have := List.length_pos_iff.2 p1; omega, h2, fun ⟨e, _⟩ => p4 (by omega) e, p2⟩
  · rw [if_neg hn] at h1
    obtain ⟨⟨p1, p2, p3⟩, p4⟩ := dec_plain _ n.toNat (Nat.le_refl _)
    rw [h1] at p1 p2 p3 p4
    have hneg : negB v = false := by
      cases hb : negB v with
      | false => rfl
      | true =>
        have := neg_form hb
        rw [this] at p2
        simp [digC] at p2
    have hd := pos_form hneg
    rw [hd] at h2 ⊢
    refine ⟨by have := List.length_pos_iff.2 p1; omega, h2, ?_, p2⟩
    rintro ⟨e, e2 | e2⟩
    · rcases p3 with p3 | p3
      · exact p3 e
      · rw [p3] at e2; simp at e2
    · rw [hneg] at e2; cases e2
end Go.Proofs.YtencmdpjiafnaaaGreatDoor
