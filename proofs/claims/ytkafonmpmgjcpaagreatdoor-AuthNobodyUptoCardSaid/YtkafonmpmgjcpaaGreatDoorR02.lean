import Derived.Test.YtkafonmpmgjcpaaGreatDoorZ13
import Derived.Test.YtkafonmpmgjcpaaGreatDoorR01
/- Plain: a name's normal text is its own normal text. No program in sight. -/
namespace Go.Proofs.YtkafonmpmgjcpaaGreatDoor
set_option linter.unusedSimpArgs false
set_option linter.unusedVariables false

theorem loB_again (c : UInt8) : loB (loB c) = loB c := by
  unfold loB
  by_cases h : 65 ≤ c.toNat ∧ c.toNat ≤ 90
  · rw [if_pos h]
    have e : (UInt8.ofNat (c.toNat + 32)).toNat = c.toNat + 32 := by rw [UInt8.toNat_ofNat']; omega
    rw [if_neg (by rw [e]; omega)]
  · rw [if_neg h, if_neg h]
theorem splitSp_noblank : ∀ (l cur : List UInt8), (32 : UInt8) ∉ cur → ∀ x ∈ splitSp cur l, (32 : UInt8) ∉ x
  | [], cur, h, x, hx => by simp [splitSp] at hx; rw [hx]; exact h
  | c :: t, cur, h, x, hx => by
    unfold splitSp at hx
    by_cases hc : c = 32
    · rw [if_pos hc] at hx
      rcases List.mem_cons.1 hx with e | e
      · rw [e]; exact h
      · exact splitSp_noblank t [] (by simp) x e
    · rw [if_neg hc] at hx
      exact splitSp_noblank t _ (by simp [h, Ne.symm hc]) x hx
theorem splitSp_from : ∀ (l cur : List UInt8), ∀ x ∈ splitSp cur l, ∀ b ∈ x, b ∈ cur ∨ b ∈ l
  | [], cur, x, hx, b, hb => by simp [splitSp] at hx; rw [hx] at hb; exact .inl hb
  | c :: t, cur, x, hx, b, hb => by
    unfold splitSp at hx
    by_cases hc : c = 32
    · rw [if_pos hc] at hx
      rcases List.mem_cons.1 hx with e | e
      · rw [e] at hb; exact .inl hb
      · rcases splitSp_from t [] x e b hb with h | h
        · cases h
        · exact .inr (by simp [h])
    · rw [if_neg hc] at hx
      rcases splitSp_from t _ x hx b hb with h | h
      · rcases List.mem_append.1 h with h | h
        · exact .inl h
        · simp at h; exact .inr (by simp [h])
      · exact .inr (by simp [h])
theorem split_join : ∀ ws : List (List UInt8), ws ≠ [] → (∀ x ∈ ws, (32 : UInt8) ∉ x) → splitSp [] (joinSp ws) = ws
  | [], h, _ => absurd rfl h
  | [x], _, h => by simp only [joinSp]; rw [splitSp_none x [] (h x (by simp))]; rfl
  | x :: y :: t, _, h => by
    simp only [joinSp]
    rw [splitSp_hit x [] _ (h x (by simp)), split_join (y :: t) (by simp) (fun z hz => h z (by simp [hz]))]
    rfl
theorem joinSp_cons_le (x : List UInt8) : ∀ ws : List (List UInt8), (joinSp (x :: ws)).length ≤ x.length + 1 + (joinSp ws).length
  | [] => by simp [joinSp]
  | y :: t => by simp [joinSp]; omega
theorem words_short : ∀ (l cur : List UInt8), (joinSp ((splitSp cur l).filter fun x => decide (x ≠ []))).length ≤ cur.length + l.length
  | [], cur => by
    simp only [splitSp]
    by_cases h : cur = []
    · simp [h, joinSp]
    · simp [h, joinSp]
  | c :: t, cur => by
    unfold splitSp
    by_cases hc : c = 32
    · rw [if_pos hc]
      have ih := words_short t []
      simp only [List.length_nil] at ih
      by_cases h : cur = []
      · rw [List.filter_cons, if_neg (by simp [h])]
        simp only [List.length_cons]; omega
      · rw [List.filter_cons, if_pos (by simp [h])]
        have := joinSp_cons_le cur ((splitSp [] t).filter fun x => decide (x ≠ []))
        simp only [List.length_cons]; omega
    · rw [if_neg hc]
      have ih := words_short t (cur ++ [c])
      simp only [List.length_append, List.length_cons, List.length_nil] at ih ⊢
      omega
theorem textN_again {v u : List UInt8} (h : textN v = some u) : textN u = some u ∧ u ≠ [] ∧ u.length ≤ v.length := by
  unfold textN at h
  simp only at h
  split at h
  · cases h
  · rename_i hn
    injection h with h
    obtain ⟨ws, hws⟩ : ∃ ws, ws = wordsB (lowerB v) := ⟨_, rfl⟩
    rw [← hws] at h hn
    have hlen : u.length ≤ v.length := by
      have := words_short (lowerB v) []
      rw [← h, hws]
      simp only [List.length_nil, Nat.zero_add] at this
      have e : (lowerB v).length = v.length := by simp [lowerB]
      rw [e] at this
      exact this
    have hne : ws ≠ [] := fun e => hn (.inl (by rw [e]; rfl))
    have h1 : ∀ x ∈ ws, x ≠ [] ∧ (32 : UInt8) ∉ x ∧ ∀ b ∈ x, loB b = b := by
      intro x hx
      rw [hws] at hx
      obtain ⟨hm, hx0⟩ := List.mem_filter.1 hx
      refine ⟨by simpa using hx0, splitSp_noblank _ _ (by simp) x hm, fun b hb => ?_⟩
      rcases splitSp_from _ _ x hm b hb with e | e
      · cases e
      · obtain ⟨c, _, rfl⟩ := List.mem_map.1 e
        exact loB_again c
    have hlo : lowerB u = u := by
      unfold lowerB
      conv => rhs; rw [← List.map_id u]
      refine List.map_congr_left fun b hb => ?_
      show loB b = b
      by_cases hb32 : b = 32
      · rw [hb32]; rfl
      · rw [← h] at hb
        obtain ⟨x, hx, hbx⟩ := (mem_joinSp b hb32 ws).1 hb
        exact (h1 x hx).2.2 b hbx
    have hw : wordsB u = ws := by
      unfold wordsB
      rw [← h, split_join ws hne (fun x hx => (h1 x hx).2.1), List.filter_eq_self]
      intro x hx
      exact decide_eq_true (h1 x hx).1
    refine ⟨?_, fun e => hn (.inl (by rw [h, e])), hlen⟩
    unfold textN
    simp only [hlo, hw]
    rw [if_neg hn, h]
theorem normB_again {k : Nat} {v u : List UInt8} (h : normB k v = some u) : normB k u = some u := by
  unfold normB at h
  split at h
  · cases h
  rename_i h0
  by_cases h1 : k = 1
  · rw [if_pos h1] at h
    obtain ⟨a, b, c⟩ := textN_again h
    unfold normB
    rw [if_neg (by rintro (e | e); exact b e; exact h0 (.inr (by omega))), if_pos h1, a]
  · rw [if_neg h1] at h
    by_cases h3 : k = 3
    · rw [if_pos h3] at h
      split at h
      · rename_i hi
        injection h with h
        subst h
        unfold normB
        rw [if_neg h0, if_neg h1, if_pos h3, if_pos hi]
      · cases h
    · rw [if_neg h3] at h; cases h
/-! ## What is written is read as it was -/
theorem digit_ok : ∀ n < 16, hexB (digitB n) = some n ∧ specB (digitB n) = false ∧ digitB n ≠ 35 ∧ digitB n ≠ 61 ∧ digitB n ≠ 32 ∧ digitB n ≠ 92 ∧ digitB n ≠ 44 ∧ digitB n ≠ 43 := by decide
theorem writeF_nil {b : Bool} {t : List UInt8} : (writeF b t).isEmpty = t.isEmpty := by
  cases t with
  | nil => rfl
  | cons c t =>
    simp only [writeF]
    split
    · rfl
    · split <;> rfl
theorem read_write : ∀ (v : List UInt8) (b : Bool) (acc : List UInt8), readF acc (writeF b v) = some (acc ++ v)
  | [], b, acc => by simp [writeF, readF]
  | c :: t, b, acc => by
    have ih := fun a => read_write t false a
    by_cases h1 : ((c == 32 && (b || t.isEmpty)) || (c == 35 && b) || specB c) = true
    · rw [writeF, if_pos h1]
      have h2 : (specB c || c == 35 || c == 61 || c == 32) = true := by
        simp only [Bool.or_eq_true, Bool.and_eq_true] at h1 ⊢
        rcases h1 with (h1 | h1) | h1
        · exact .inr h1.1
        · exact .inl (.inl (.inr h1.1))
        · exact .inl (.inl (.inl h1))
      show readF acc (92 :: c :: writeF false t) = _
      rw [readF.eq_def]
      simp only [if_true, h2, ih]
      simp
    · rw [writeF, if_neg h1]
      by_cases h3 : c.toNat < 32 ∨ 126 < c.toNat
      · rw [if_pos h3]
        have hc := c.toNat_lt
        obtain ⟨d1, d2, d3, d4, d5, -, -, -⟩ := digit_ok (c.toNat / 16) (by omega)
        obtain ⟨e1, -⟩ := digit_ok (c.toNat % 16) (by omega)
        show readF acc (92 :: digitB (c.toNat / 16) :: digitB (c.toNat % 16) :: writeF false t) = _
        rw [readF.eq_def]
        have h4 : (specB (digitB (c.toNat / 16)) || digitB (c.toNat / 16) == 35 || digitB (c.toNat / 16) == 61 || digitB (c.toNat / 16) == 32) = false := by simp [d2, d3, d4, d5]
        simp only [if_true, h4, d1, e1, ih, Bool.false_eq_true, if_false]
        have h5 : UInt8.ofNat (16 * (c.toNat / 16) + c.toNat % 16) = c := by
          rw [show 16 * (c.toNat / 16) + c.toNat % 16 = c.toNat by omega]
          exact UInt8.ofNat_toNat
        rw [h5]
        simp
      · rw [if_neg h3]
        show readF acc (c :: writeF false t) = _
        have hc92 : c ≠ 92 := by
          intro e
          subst e
          exact h1 (by simp [specB])
        have hc0 : c ≠ 0 := by
          intro e
          subst e
          exact h3 (.inl (by decide))
        have hs : specB c = false := by
          cases hs : specB c with
          | false => rfl
          | true => exact absurd (by rw [hs]; simp) h1
        have hb : (c == 32 && (writeF false t).isEmpty) = false := by
          rw [writeF_nil]
          cases hq : (c == 32 && t.isEmpty) with
          | false => rfl
          | true =>
            rw [Bool.and_eq_true] at hq
            exact absurd (by rw [hq.1, hq.2]; simp) h1
        rw [readF.eq_def]
        simp only [if_neg hc92]
        rw [if_neg (by rw [hs, hb]; simp [hc0]), ih]
        simp
theorem value_write {v : List UInt8} : valueB (writeF true v) = some v := by
  unfold valueB
  have hh : ¬ ((writeF true v).head? = some 32 ∨ (writeF true v).head? = some 35) := by
    cases v with
    | nil => simp [writeF]
    | cons c t =>
      by_cases h1 : ((c == 32 && (true || t.isEmpty)) || (c == 35 && true) || specB c) = true
      · rw [writeF, if_pos h1]; simp
      · rw [writeF, if_neg h1]
        have h32 : c ≠ 32 := by rintro rfl; exact h1 (by simp)
        have h35 : c ≠ 35 := by rintro rfl; exact h1 (by simp)
        split
        · simp
        · simp [h32, h35]
  rw [if_neg hh, read_write]
  rfl
/-! ## Pieces that a split leaves whole -/
def clos (sep : UInt8) : List UInt8 → Bool
  | [] => true
  | c :: t =>
    if c = sep then false
    else if c = 92 then
      match t with
      | [] => false
      | _ :: t => clos sep t
    else clos sep t
theorem split_clos (sep : UInt8) : ∀ (n : Nat) (x : List UInt8), x.length ≤ n → clos sep x = true → ∀ cur r, splitF sep cur (x ++ r) = splitF sep (cur ++ x) r
  | _, [], _, _, cur, r => by simp
  | 0, c :: t, hn, _, _, _ => by simp at hn
  | n + 1, c :: t, hn, h, cur, r => by
    simp only [List.length_cons] at hn
    rw [clos.eq_def] at h
    simp only at h
    by_cases h1 : c = sep
    · rw [if_pos h1] at h; cases h
    rw [if_neg h1] at h
    by_cases h2 : c = 92
    · rw [if_pos h2] at h
      cases t with
      | nil => cases h
      | cons d t =>
        simp only [List.length_cons] at hn
        show splitF sep cur (c :: d :: (t ++ r)) = _
        rw [splitF.eq_def]
        simp only [if_neg h1, if_pos h2]
        rw [split_clos sep n t (by omega) h, h2]
        simp
    · rw [if_neg h2] at h
      show splitF sep cur (c :: (t ++ r)) = _
      rw [splitF.eq_def]
      simp only [if_neg h1, if_neg h2]
      rw [split_clos sep n t (by omega) h]
      simp
theorem clos_append (sep : UInt8) : ∀ (n : Nat) (x y : List UInt8), x.length ≤ n → clos sep x = true → clos sep y = true → clos sep (x ++ y) = true
  | _, [], y, _, _, h => h
  | 0, c :: t, y, hn, _, _ => by simp at hn
  | n + 1, c :: t, y, hn, h, k => by
    simp only [List.length_cons] at hn
    rw [clos.eq_def] at h
    simp only at h
    by_cases h1 : c = sep
    · rw [if_pos h1] at h; cases h
    rw [if_neg h1] at h
    by_cases h2 : c = 92
    · rw [if_pos h2] at h
      cases t with
      | nil => cases h
      | cons d t =>
        simp only [List.length_cons] at hn
        show clos sep (c :: d :: (t ++ y)) = true
        rw [clos.eq_def]
        simp only [if_neg h1, if_pos h2]
        exact clos_append sep n t y (by omega) h k
    · rw [if_neg h2] at h
      show clos sep (c :: (t ++ y)) = true
      rw [clos.eq_def]
      simp only [if_neg h1, if_neg h2]
      exact clos_append sep n t y (by omega) h k
theorem clos_app {sep : UInt8} {x y : List UInt8} (h : clos sep x = true) (k : clos sep y = true) : clos sep (x ++ y) = true := clos_append sep _ x y (Nat.le_refl _) h k
theorem clos_one {sep c : UInt8} {y : List UInt8} (h1 : c ≠ sep) (h2 : c ≠ 92) (k : clos sep y = true) : clos sep (c :: y) = true := by
  rw [clos.eq_def]
  simp only [if_neg h1, if_neg h2]
  exact k
theorem clos_esc {sep c : UInt8} {y : List UInt8} (h1 : (92 : UInt8) ≠ sep) (k : clos sep y = true) : clos sep (92 :: c :: y) = true := by
  rw [clos.eq_def]
  simp only [if_neg h1, if_true]
  exact k
theorem clos_write {sep : UInt8} (hs : sep = 44 ∨ sep = 43) : ∀ (v : List UInt8) (b : Bool), clos sep (writeF b v) = true
  | [], b => rfl
  | c :: t, b => by
    have ih := clos_write hs t false
    have h92 : (92 : UInt8) ≠ sep := by rcases hs with rfl | rfl <;> decide
    by_cases h1 : ((c == 32 && (b || t.isEmpty)) || (c == 35 && b) || specB c) = true
    · rw [writeF, if_pos h1]
      exact clos_esc h92 ih
    · rw [writeF, if_neg h1]
      by_cases h3 : c.toNat < 32 ∨ 126 < c.toNat
      · rw [if_pos h3]
        have hc := c.toNat_lt
        obtain ⟨-, -, -, -, -, e1, e2, e3⟩ := digit_ok (c.toNat % 16) (by omega)
        exact clos_esc h92 (clos_one (by rcases hs with rfl | rfl <;> assumption) e1 ih)
      · rw [if_neg h3]
        have hs' : specB c = false := by
          cases hq : specB c with
          | false => rfl
          | true => exact absurd (by rw [hq]; simp) h1
        refine clos_one ?_ ?_ ih
        · rintro rfl
          rcases hs with rfl | rfl <;> exact absurd hs' (by decide)
        · rintro rfl
          exact absurd hs' (by decide)
theorem typ_clos : ∀ p ∈ typTab, clos 44 p.1 = true ∧ clos 43 p.1 = true ∧ (61 : UInt8) ∉ p.1 ∧ p.1 ≠ [] := by decide
theorem typeB_mem (n : List UInt8) : typeB n ∈ typTab ∨ typeB n = ([], 0) := by
  unfold typeB
  cases h : typTab.find? (fun p => lowerB p.1 == lowerB n) with
  | none => exact .inr rfl
  | some p => exact .inl (List.mem_of_find?_eq_some h)
/-- What a pair is written as. -/
def avaT (a : Ava) : List UInt8 := a.type ++ 61 :: writeF true a.val
theorem ok_type {a : Ava} (h : avaOk a = true) : typeB a.type ∈ typTab ∧ (typeB a.type).1 = a.type ∧ (typeB a.type).2 ≠ 0 ∧ (normB (typeB a.type).2 a.val).isSome = true := by
  unfold avaOk at h
  rw [Bool.and_eq_true, Bool.and_eq_true, Bool.or_eq_true, decide_eq_true_eq, decide_eq_true_eq, decide_eq_true_eq] at h
  obtain ⟨⟨h1, h2⟩, h3⟩ := h
  refine ⟨?_, h1, by omega, h3⟩
  rcases typeB_mem a.type with h | h
  · exact h
  · rw [h] at h2; omega
theorem avaT_clos {a : Ava} (h : avaOk a = true) {sep : UInt8} (hs : sep = 44 ∨ sep = 43) : clos sep (avaT a) = true := by
  obtain ⟨h1, h2, -, -⟩ := ok_type h
  have h3 := typ_clos _ h1
  rw [h2] at h3
  refine clos_app ?_ (clos_one ?_ (by decide) (clos_write hs _ _))
  · rcases hs with rfl | rfl
    · exact h3.1
    · exact h3.2.1
  · rcases hs with rfl | rfl <;> decide
theorem avaB_avaT {a : Ava} (h : avaOk a = true) : avaB (avaT a) = some a := by
  obtain ⟨h1, h2, h3, -⟩ := ok_type h
  have h4 := typ_clos _ h1
  rw [h2] at h4
  unfold avaB avaT
  rw [cutEq_hit _ _ h4.2.2.1]
  simp only
  rw [if_neg h3, value_write, h2]
  rfl
/-- Texts joined by a byte, as a list is. -/
theorem printF_split : ∀ l : List Ava, l ≠ [] → (∀ a ∈ l, avaOk a = true) → splitF 43 [] (printF l) = l.map avaT
  | [], h, _ => absurd rfl h
  | [a], _, h => by
    have hc := split_clos 43 _ (avaT a) (Nat.le_refl _) (avaT_clos (h a (by simp)) (.inr rfl)) [] []
    rw [List.append_nil, List.nil_append] at hc
    show splitF 43 [] (avaT a) = _
    rw [hc]
    rfl
  | a :: b :: t, _, h => by
    have hc := split_clos 43 _ (avaT a) (Nat.le_refl _) (avaT_clos (h a (by simp)) (.inr rfl)) [] (43 :: printF (b :: t))
    have ih := printF_split (b :: t) (by simp) (fun x hx => h x (by simp [hx]))
    have e : printF (a :: b :: t) = avaT a ++ 43 :: printF (b :: t) := by simp [printF, avaT]
    rw [e, hc, List.nil_append, splitF.eq_def]
    simp only [if_true]
    rw [ih]
    rfl
theorem printF_clos : ∀ l : List Ava, (∀ a ∈ l, avaOk a = true) → clos 44 (printF l) = true
  | [], _ => rfl
  | [a], h => avaT_clos (h a (by simp)) (.inl rfl)
  | a :: b :: t, h => by
    have e : printF (a :: b :: t) = avaT a ++ 43 :: printF (b :: t) := by simp [printF, avaT]
    rw [e]
    exact clos_app (avaT_clos (h a (by simp)) (.inl rfl)) (clos_one (by decide) (by decide) (printF_clos (b :: t) (fun x hx => h x (by simp [hx]))))
theorem joinC_split : ∀ l : List (List UInt8), l ≠ [] → (∀ x ∈ l, clos 44 x = true) → splitF 44 [] (joinC l) = l
  | [], h, _ => absurd rfl h
  | [x], _, h => by
    have hc := split_clos 44 _ x (Nat.le_refl _) (h x (by simp)) [] []
    rw [List.append_nil, List.nil_append] at hc
    show splitF 44 [] x = _
    rw [hc]
    rfl
  | x :: y :: t, _, h => by
    have hc := split_clos 44 _ x (Nat.le_refl _) (h x (by simp)) [] (44 :: joinC (y :: t))
    have ih := joinC_split (y :: t) (by simp) (fun z hz => h z (by simp [hz]))
    show splitF 44 [] (x ++ 44 :: joinC (y :: t)) = _
    rw [hc, List.nil_append, splitF.eq_def]
    simp only [if_true]
    rw [ih]
theorem normA_again {l : List Ava} (h : l.all avaOk = true) : normA (normA l) = normA l ∧ (normA l).all avaOk = true := by
  rw [List.all_eq_true] at h
  constructor
  · unfold normA
    rw [List.map_map]
    refine List.map_congr_left fun a ha => ?_
    obtain ⟨-, -, -, h4⟩ := ok_type (h a ha)
    obtain ⟨u, hu⟩ := Option.isSome_iff_exists.1 h4
    simp only [Function.comp, hu, Option.getD_some, normB_again hu]
  · rw [List.all_eq_true]
    intro b hb
    obtain ⟨a, ha, rfl⟩ := List.mem_map.1 hb
    have hk := h a ha
    obtain ⟨-, -, -, h4⟩ := ok_type hk
    obtain ⟨u, hu⟩ := Option.isSome_iff_exists.1 h4
    unfold avaOk at hk ⊢
    simp only [hu, Option.getD_some, normB_again hu] at hk ⊢
    exact hk
theorem normA_rising : ∀ l : List Ava, risingB (normA l) = risingB l
  | [] => rfl
  | [a] => rfl
  | a :: b :: t => by
    have ih := normA_rising (b :: t)
    unfold normA at ih ⊢
    simp only [List.map_cons, risingB] at ih ⊢
    rw [ih]
theorem normA_formed {l : List Ava} (h : formedA l = true) : formedA (normA l) = true := by
  unfold formedA at h ⊢
  rw [Bool.and_eq_true, Bool.and_eq_true] at h
  rw [normA_rising, h.2, (normA_again h.1.2).2, show (normA l).length = l.length by simp [normA], h.1.1]
  rfl
theorem sortA_rising {l : List Ava} (h : formedA l = true) : sortA l = l := by
  unfold formedA at h
  rw [Bool.and_eq_true, Bool.and_eq_true, Bool.and_eq_true, decide_eq_true_eq, decide_eq_true_eq] at h
  obtain ⟨⟨⟨h1, h2⟩, -⟩, h4⟩ := h
  match l, h2 with
  | [], _ => rfl
  | [a], _ => rfl
  | [a, b], _ =>
    simp only [risingB, Bool.and_true] at h4
    simp [sortA, insA, h4]
  | [a, b, c], _ =>
    simp only [risingB, Bool.and_true, Bool.and_eq_true] at h4
    have h5 := ltB_trans _ _ _ h4.1 h4.2
    simp [sortA, insA, h4.1, h4.2, h5]
theorem mapM_some {α β : Type} {f : α → Option β} {g : β → α} : ∀ {l : List β}, (∀ x ∈ l, f (g x) = some x) → (l.map g).mapM f = some l
  | [], _ => rfl
  | x :: t, h => by
    rw [List.map_cons, List.mapM_cons, h x (by simp), mapM_some (fun y hy => h y (by simp [hy]))]
    rfl
theorem partB_print {l : List Ava} (h : formedA l = true) : partB (printF l) = some l := by
  have hall : ∀ a ∈ l, avaOk a = true := by
    unfold formedA at h
    rw [Bool.and_eq_true, Bool.and_eq_true] at h
    exact List.all_eq_true.1 h.1.2
  have hne : l ≠ [] := by
    rintro rfl
    cases h
  unfold partB
  rw [printF_split l hne hall, mapM_some (fun a ha => avaB_avaT (hall a ha))]
  simp only
  rw [sortA_rising h, if_pos h]
theorem partB_formedN {s : List UInt8} {l : List Ava} (h : partB s = some l) : formedA l = true := by
  unfold partB at h
  cases hm : (splitF 43 [] s).mapM avaB with
  | none => rw [hm] at h; cases h
  | some k =>
    rw [hm] at h
    simp only at h
    split at h
    · rename_i hf
      injection h with h
      rw [← h]; exact hf
    · cases h
theorem mapM_src {α β : Type} {f : α → Option β} : ∀ {x : List α} {l : List β}, x.mapM f = some l → (∀ y ∈ l, ∃ a ∈ x, f a = some y) ∧ l.length = x.length
  | [], l, h => by simp at h; subst h; simp
  | a :: t, l, h => by
    rw [List.mapM_cons] at h
    cases ha : f a with
    | none => rw [ha] at h; cases h
    | some v =>
      rw [ha] at h
      cases hb : t.mapM f with
      | none => rw [hb] at h; cases h
      | some w =>
        rw [hb] at h
        cases h
        obtain ⟨h1, h2⟩ := mapM_src hb
        refine ⟨fun y hy => ?_, by simp [h2]⟩
        rcases List.mem_cons.1 hy with e | e
        · exact ⟨a, by simp, by rw [e]; exact ha⟩
        · obtain ⟨c, hc, hf⟩ := h1 y e
          exact ⟨c, by simp [hc], hf⟩
theorem joinC_ne {x : List UInt8} {t : List (List UInt8)} (h : x ≠ []) : joinC (x :: t) ≠ [] := by
  cases t with
  | nil => exact h
  | cons y t => simp [joinC]
theorem printF_ne {l : List Ava} (h : l ≠ []) : printF l ≠ [] := by
  match l, h with
  | [a], _ => simp [printF]
  | a :: b :: t, _ => simp [printF]
/-- A name's normal text is its own. -/
theorem parts_again {s : List UInt8} {l : List (List UInt8)} (h : partsB s = .ok l) : partsB (joinC l) = .ok l := by
  unfold partsB at h
  by_cases h1 : 1000 < s.length
  · rw [if_pos h1] at h; cases h
  rw [if_neg h1] at h
  by_cases h2 : s = []
  · rw [if_pos h2] at h
    injection h with h
    subst h
    rfl
  rw [if_neg h2] at h
  by_cases h3 : 12 < (splitF 44 [] s).length
  · rw [if_pos h3] at h; cases h
  rw [if_neg h3] at h
  cases hm : (splitF 44 [] s).mapM partB with
  | none => rw [hm] at h; cases h
  | some k =>
    rw [hm] at h
    simp only at h
    by_cases h4 : 1000 < (joinC (k.map fun p => printB (normA p))).length
    · rw [if_pos h4] at h; cases h
    rw [if_neg h4] at h
    injection h with h
    obtain ⟨hk1, hk2⟩ := mapM_src hm
    have hlen := (splitF_length 44 s.length [] s (Nat.le_refl _)).2.1
    have hf : ∀ p ∈ k, formedA p = true := fun p hp => by obtain ⟨a, -, ha⟩ := hk1 p hp; exact partB_formedN ha
    have hl : l = k.map fun p => printF (normA p) := by
      rw [← h]
      refine List.map_congr_left fun p hp => ?_
      unfold printB
      rw [if_pos (normA_formed (hf p hp))]
    have hn : ∀ q ∈ k.map normA, formedA q = true := by
      intro q hq
      obtain ⟨p, hp, rfl⟩ := List.mem_map.1 hq
      exact normA_formed (hf p hp)
    have hl2 : l = (k.map normA).map printF := by rw [hl, List.map_map]; rfl
    have hkne : k ≠ [] := by rintro rfl; simp at hk2; omega
    have hlne : l ≠ [] := by rw [hl]; simp [hkne]
    have hcl : ∀ x ∈ l, clos 44 x = true := by
      intro x hx
      rw [hl2] at hx
      obtain ⟨q, hq, rfl⟩ := List.mem_map.1 hx
      have := hn q hq
      unfold formedA at this
      rw [Bool.and_eq_true, Bool.and_eq_true] at this
      exact printF_clos q (List.all_eq_true.1 this.1.2)
    have hsp := joinC_split l hlne hcl
    have hjn : joinC l ≠ [] := by
      cases hk : l with
      | nil => exact absurd hk hlne
      | cons x t =>
        refine joinC_ne ?_
        have hx : x ∈ (k.map normA).map printF := by rw [← hl2, hk]; simp
        obtain ⟨q, hq, rfl⟩ := List.mem_map.1 hx
        exact printF_ne (by rintro rfl; have := hn _ hq; cases this)
    unfold partsB
    rw [if_neg (by rw [← h]; exact h4), if_neg hjn, hsp, if_neg (by rw [hl, List.length_map, hk2]; exact h3)]
    have hmm : l.mapM partB = some (k.map normA) := by
      rw [hl2]
      exact mapM_some fun q hq => partB_print (hn q hq)
    rw [hmm]
    have e2 : (k.map normA).map (fun p => printB (normA p)) = l := by
      rw [hl2]
      refine List.map_congr_left fun q hq => ?_
      obtain ⟨p, hp, rfl⟩ := List.mem_map.1 hq
      have hfp := hf p hp
      have ha : p.all avaOk = true := by
        unfold formedA at hfp
        rw [Bool.and_eq_true, Bool.and_eq_true] at hfp
        exact hfp.1.2
      rw [(normA_again ha).1]
      unfold printB
      rw [if_pos (normA_formed hfp)]
    simp only [e2]
    rw [if_neg (by rw [← h]; exact h4)]
end Go.Proofs.YtkafonmpmgjcpaaGreatDoor
/- The walk of AuthNobody. -/
namespace Go.Proofs.YtkafonmpmgjcpaaGreatDoor
open Go.RowKit
set_option maxRecDepth 100000
set_option linter.unusedSimpArgs false
set_option linter.unusedVariables false

theorem codeR_ok {s : List UInt8} (h : codeR (partsB s) = 0) : partsB s = .ok (okL (partsB s)) := by
  cases hp : partsB s with
  | ok l => rfl
  | error e => rw [hp] at h; cases e <;> cases h
/-- A name's normal text is a name, and its own normal text. -/
theorem normalS_again {s : List UInt8} (h : codeR (partsB s) = 0) : partsB (normalS s) = partsB s := by
  have h1 := codeR_ok h
  have h2 := parts_again h1
  unfold normalS
  rw [h2, ← h1]
def allR : Rul := ⟨⟨#[42]⟩, ByteArray.empty, ByteArray.empty, 32, true⟩
theorem dn_trim (n : List UInt8) : Lib.trimPrefix ([100, 110, 58] ++ n) [100, 110, 58] = n ∧ Lib.hasPrefix ([100, 110, 58] ++ n) [100, 110, 58] = true := by
  have h : Lib.hasPrefix ([100, 110, 58] ++ n) [100, 110, 58] = true := by
    unfold Lib.hasPrefix
    rw [List.isPrefixOf_iff_prefix]
    exact List.prefix_append _ _
  refine ⟨?_, h⟩
  unfold Lib.trimPrefix
  rw [if_pos h]
  simp
theorem proxy_none (s n : List UInt8) : proxyF [] s ([100, 110, 58] ++ n) = ([], 123) := by
  unfold proxyF
  have : ∀ r x, decideF [] s 32 r x = false := fun r x => by
    unfold decideF
    simp
  rw [this, if_neg (by simp)]
theorem formed_all : formedL [allR] = true := by decide +kernel
theorem parts_nil : partsB [] = .ok [] := rfl
theorem under_all {n : List UInt8} (h : codeR (partsB n) = 0) : underS n [] = true := by
  unfold underS
  rw [h, parts_nil]
  simp [codeR, okL, restB]
theorem decide_all {s n : List UInt8} (hn : codeR (partsB n) = 0) : decideF [allR] s 32 (normalS n) [] = (codeR (partsB s) == 0) := by
  have h1 := normalS_again hn
  have h2 : normalS (normalS n) = normalS n := by
    show joinC (okL (partsB (normalS n))) = _
    rw [h1]
    rfl
  unfold decideF
  rw [h1, h2, hn, formed_all]
  have hh : hitF (normalS s) (normalS n) (typeB []).1 32 allR = true := by
    unfold hitF
    have h3 : underS (normalS n) (bys allR.target) = true := under_all (by rw [h1]; exact hn)
    rw [h3]
    have h4 : isF (bys allR.who) (normalS s) (normalS n) = true := by
      unfold isF
      rw [if_pos (show bys allR.who = [42] from rfl)]
    rw [h4]
    decide
  rw [List.find?_cons, hh]
  simp [allR]
theorem proxy_all (s n : List UInt8) : proxyF [allR] s ([100, 110, 58] ++ n) = if codeR (partsB n) = 0 ∧ codeR (partsB s) = 0 then (normalS n, 0) else ([], 123) := by
  unfold proxyF
  rw [(dn_trim n).1, (dn_trim n).2, Bool.true_or, Bool.true_and]
  by_cases h : codeR (partsB n) = 0
  · rw [decide_all h]
    by_cases h2 : codeR (partsB s) = 0
    · rw [if_pos (by rw [h, h2]; rfl), if_pos ⟨h, h2⟩]
    · rw [if_neg (by rw [Bool.and_eq_true, beq_iff_eq, beq_iff_eq]; exact fun e => h2 e.2), if_neg (fun e => h2 e.2)]
  · rw [if_neg (by rw [Bool.and_eq_true, beq_iff_eq]; exact fun e => h e.1), if_neg (fun e => h e.1)]
set_option maxHeartbeats 2000000 in
theorem nobodylaw_any (subject name : ByteArray) {w : World} (hG : Gl w) (hz : subject.size ≤ 4000000) (hy : name.size ≤ 4000000) :
    Calls Tryz.prog 5 #[.string subject, .string name] w fun e w' => e = .returned (.bool true) ∧ Ext w w' := by
  have HG := hid hG
  have HAW : ∀ w, Gl w → Calls Tryz.prog 6 #[] w fun e w' => e = .returned (.bool true) ∧ Ext w w' := fun w hG => awake_any w hG
  by_cases hbig : 3000 < subject.size + name.size
  · have hb : (3000 : Int) < (subject.size : Int) + (name.size : Int) := by omega
    clear hG hbig
    go_enter Tryz.func5, Tryz.ntmps5
    go_wp2_with
      (first
        | (go_at_call 6; first
            | ((with_reducible refine (HAW _ HG.out).mono ?_); rintro e w1 ⟨rfl, hx1⟩; have HX1 := hid hx1; have HGN := hid (HG.out.ext hx1); clear hx1 HG)
            | ((with_reducible refine (HAW _ HGN.out).mono ?_); rintro e w8 ⟨rfl, hx8⟩; have HX8 := hid (HX1.out.trans hx8); clear hx8))
        | (go_at_call 11; (with_reducible refine (HTH _ HX2.out _ (HR2.out _)).mono ?_); rintro e w3 ⟨A3, c3, rfl, hr3, hx3⟩; have HR3 := hid hr3; have HX3 := hid (HX2.out.trans ((Ext.alloc _ _).trans hx3)); clear hx3 hr3)
        | (go_at_call 10; first
            | ((with_reducible refine (HP0 _ HX1.out).mono ?_); rintro e w2 ⟨rfl, hx2⟩; have HX2 := hid (HX1.out.trans hx2); clear hx2)
            | ((with_reducible refine (HP1 _ _ _ _ _ HX3.out HR3.out).mono ?_); rintro e w4 ⟨rfl, hx4⟩; have HX4 := hid (HX3.out.trans hx4); clear hx4))
        | (go_at_call 13; first
            | ((with_reducible refine (HN1 _ HX4.out).mono ?_); rintro e w5 ⟨rfl, hx5⟩; have HX5 := hid (HX4.out.trans hx5); clear hx5)
            | ((with_reducible refine (HN2 _ HX5.out).mono ?_); rintro e w6 ⟨rfl, hx6⟩; have HX6 := hid (HX5.out.trans hx6); clear hx6)))
    go_ret
    exact ⟨rfl, HX8.out⟩
  have hb : ¬ (3000 : Int) < (subject.size : Int) + (name.size : Int) := by omega
  obtain ⟨dm, hdm⟩ : ∃ d, (ByteArray.mk #[100, 110, 58] ++ name : ByteArray) = d := ⟨_, rfl⟩
  have hbd : bys dm = [100, 110, 58] ++ bys name := by
    rw [← hdm, show (ByteArray.mk #[100, 110, 58] : ByteArray) = str [100, 110, 58] from rfl, ← str_bys name, str_app, bys_str, bys_str]
  have z0 : ¬ 9223372036854775807 < 3 + name.size := by omega
  have hr0 : ∀ w, Row Elem.rul (fun _ => True) w none 0 0 [] := fun w => (Row.nil Elem.rul (fun _ => True) w)
  have HP0 : ∀ w', Ext w w' → Calls Tryz.prog 10 #[.slice none 0 0, .string subject, .string dm] w' (ProxySays w' ([], 123)) := fun w' hx => by
    have := proxy_any (hr0 w') (hG.ext hx) (by simp) subject dm
    rw [hbd, proxy_none] at this
    exact this
  have HP1 : ∀ (T : Nat → Prop) B m d w', Ext w w' → Row Elem.rul T w' B m d [allR] → Calls Tryz.prog 10 #[.slice B m d, .string subject, .string dm] w' (ProxySays w' (if codeR (partsB (bys name)) = 0 ∧ codeR (partsB (bys subject)) = 0 then (normalS (bys name), 0) else ([], 123))) := fun T B m d w' hx hr => by
    have := proxy_any hr (hG.ext hx) (by intro r hr; simp at hr; subst hr; decide) subject dm
    rw [hbd, proxy_all] at this
    exact this
  have HTH : ∀ w', Ext w w' → ∀ w2, Row Elem.rul (fun _ => True) w2 (some ⟨w'.heap.size, 0, none⟩) 1 1 [allR] → Calls Tryz.prog 11 #[.slice (some ⟨w'.heap.size, 0, none⟩) 1 1] w2 fun e w'' => ∃ A' c', e = .returned (.slice A' 1 c') ∧ Row Elem.rul (fun b => w2.heap.size ≤ b) w'' A' 1 c' [allR] ∧ Ext w2 w'' :=
    fun w' hx w2 hr => theirs11_any hr (by decide)
  have HR2 : Hid (∀ w' : World, Row Elem.rul (fun _ => True) (w'.alloc (.cells #[.string ⟨#[42]⟩, .string ⟨#[]⟩, .string ⟨#[]⟩, .int .i64 32, .bool true] 45)) (some ⟨w'.heap.size, 0, none⟩) 1 1 [allR]) := fun w' =>
    Row.one (E := Elem.rul) (S := fun _ => True) (v := allR.cells) rfl _
  have HN1 : ∀ w', Ext w w' → Calls Tryz.prog 13 #[.string subject] w' (NormalSays w' (bys subject)) := fun w' hx => rnormal06_any subject w' (hG.ext hx)
  have HN2 : ∀ w', Ext w w' → Calls Tryz.prog 13 #[.string name] w' (NormalSays w' (bys name)) := fun w' hx => rnormal06_any name w' (hG.ext hx)
  unfold ProxySays at HP0 HP1
  unfold NormalSays at HN1 HN2
  simp only at HP0
  clear hG hbig hbd hr0
  generalize codeR (partsB (bys name)) = c1 at *
  generalize codeR (partsB (bys subject)) = c2 at *
  generalize normalS (bys subject) = s1 at *
  generalize normalS (bys name) = s2 at *
  have hq := str_eq (rfl : str s2 = str s2)
  by_cases h2 : c2 = 0
  · subst h2
    by_cases h1 : c1 = 0
    · subst h1
      rw [if_pos ⟨rfl, rfl⟩] at HP1
      simp only at HP1
      go_enter Tryz.func5, Tryz.ntmps5
      go_wp2_with
        (first
          | (go_at_call 6; first
              | ((with_reducible refine (HAW _ HG.out).mono ?_); rintro e w1 ⟨rfl, hx1⟩; have HX1 := hid hx1; have HGN := hid (HG.out.ext hx1); clear hx1 HG)
              | ((with_reducible refine (HAW _ HGN.out).mono ?_); rintro e w8 ⟨rfl, hx8⟩; have HX8 := hid (HX1.out.trans hx8); clear hx8))
          | (go_at_call 11; (with_reducible refine (HTH _ HX2.out _ (HR2.out _)).mono ?_); rintro e w3 ⟨A3, c3, rfl, hr3, hx3⟩; have HR3 := hid hr3; have HX3 := hid (HX2.out.trans ((Ext.alloc _ _).trans hx3)); clear hx3 hr3)
          | (go_at_call 10; first
              | ((with_reducible refine (HP0 _ HX1.out).mono ?_); rintro e w2 ⟨rfl, hx2⟩; have HX2 := hid (HX1.out.trans hx2); clear hx2)
              | ((with_reducible refine (HP1 _ _ _ _ _ HX3.out HR3.out).mono ?_); rintro e w4 ⟨rfl, hx4⟩; have HX4 := hid (HX3.out.trans hx4); clear hx4))
          | (go_at_call 13; first
              | ((with_reducible refine (HN1 _ HX4.out).mono ?_); rintro e w5 ⟨rfl, hx5⟩; have HX5 := hid (HX4.out.trans hx5); clear hx5)
              | ((with_reducible refine (HN2 _ HX5.out).mono ?_); rintro e w6 ⟨rfl, hx6⟩; have HX6 := hid (HX5.out.trans hx6); clear hx6)))
      go_ret
      exact ⟨rfl, HX6.out⟩
    · have e1 : (c1 != 0) = true := by rw [bne_iff_ne]; exact h1
      rw [if_neg (fun e => h1 e.1)] at HP1
      simp only at HP1
      clear h1
      go_enter Tryz.func5, Tryz.ntmps5
      go_wp2_with
        (first
          | (go_at_call 6; first
              | ((with_reducible refine (HAW _ HG.out).mono ?_); rintro e w1 ⟨rfl, hx1⟩; have HX1 := hid hx1; have HGN := hid (HG.out.ext hx1); clear hx1 HG)
              | ((with_reducible refine (HAW _ HGN.out).mono ?_); rintro e w8 ⟨rfl, hx8⟩; have HX8 := hid (HX1.out.trans hx8); clear hx8))
          | (go_at_call 11; (with_reducible refine (HTH _ HX2.out _ (HR2.out _)).mono ?_); rintro e w3 ⟨A3, c3, rfl, hr3, hx3⟩; have HR3 := hid hr3; have HX3 := hid (HX2.out.trans ((Ext.alloc _ _).trans hx3)); clear hx3 hr3)
          | (go_at_call 10; first
              | ((with_reducible refine (HP0 _ HX1.out).mono ?_); rintro e w2 ⟨rfl, hx2⟩; have HX2 := hid (HX1.out.trans hx2); clear hx2)
              | ((with_reducible refine (HP1 _ _ _ _ _ HX3.out HR3.out).mono ?_); rintro e w4 ⟨rfl, hx4⟩; have HX4 := hid (HX3.out.trans hx4); clear hx4))
          | (go_at_call 13; first
              | ((with_reducible refine (HN1 _ HX4.out).mono ?_); rintro e w5 ⟨rfl, hx5⟩; have HX5 := hid (HX4.out.trans hx5); clear hx5)
              | ((with_reducible refine (HN2 _ HX5.out).mono ?_); rintro e w6 ⟨rfl, hx6⟩; have HX6 := hid (HX5.out.trans hx6); clear hx6)))
      go_ret
      exact ⟨rfl, HX6.out⟩
  · have e1 : (c2 != 0) = true := by rw [bne_iff_ne]; exact h2
    rw [if_neg (fun e => h2 e.2)] at HP1
    simp only at HP1
    clear h2
    go_enter Tryz.func5, Tryz.ntmps5
    go_wp2_with
      (first
        | (go_at_call 6; first
            | ((with_reducible refine (HAW _ HG.out).mono ?_); rintro e w1 ⟨rfl, hx1⟩; have HX1 := hid hx1; have HGN := hid (HG.out.ext hx1); clear hx1 HG)
            | ((with_reducible refine (HAW _ HGN.out).mono ?_); rintro e w8 ⟨rfl, hx8⟩; have HX8 := hid (HX1.out.trans hx8); clear hx8))
        | (go_at_call 11; (with_reducible refine (HTH _ HX2.out _ (HR2.out _)).mono ?_); rintro e w3 ⟨A3, c3, rfl, hr3, hx3⟩; have HR3 := hid hr3; have HX3 := hid (HX2.out.trans ((Ext.alloc _ _).trans hx3)); clear hx3 hr3)
        | (go_at_call 10; first
            | ((with_reducible refine (HP0 _ HX1.out).mono ?_); rintro e w2 ⟨rfl, hx2⟩; have HX2 := hid (HX1.out.trans hx2); clear hx2)
            | ((with_reducible refine (HP1 _ _ _ _ _ HX3.out HR3.out).mono ?_); rintro e w4 ⟨rfl, hx4⟩; have HX4 := hid (HX3.out.trans hx4); clear hx4))
        | (go_at_call 13; first
            | ((with_reducible refine (HN1 _ HX4.out).mono ?_); rintro e w5 ⟨rfl, hx5⟩; have HX5 := hid (HX4.out.trans hx5); clear hx5)
            | ((with_reducible refine (HN2 _ HX5.out).mono ?_); rintro e w6 ⟨rfl, hx6⟩; have HX6 := hid (HX5.out.trans hx6); clear hx6)))
    go_ret
    exact ⟨rfl, HX6.out⟩
end Go.Proofs.YtkafonmpmgjcpaaGreatDoor
