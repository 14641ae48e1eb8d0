import Derived.Test.YtkafonmpmgjcpaaGreatDoorZ10
/- Plain: names, whole: types, attributes with values, parts, and a name's normal form. No program in sight. -/
namespace Go.Proofs.YtkafonmpmgjcpaaGreatDoor
set_option linter.unusedSimpArgs false

/-- The types that are known, each with its syntax. -/
def typTab : List (List UInt8 × Nat) :=
  [([111, 98, 106, 101, 99, 116, 67, 108, 97, 115, 115], 1), ([99, 110], 1), ([111, 117], 1), ([111], 1), ([100, 99], 1), ([117, 105, 100], 1),
   ([100, 101, 115, 99, 114, 105, 112, 116, 105, 111, 110], 1), ([109, 97, 105, 108], 1), ([117, 115, 101, 114, 80, 97, 115, 115, 119, 111, 114, 100], 2), ([114, 101, 102], 2),
   ([115, 101, 114, 105, 97, 108, 78, 117, 109, 98, 101, 114], 3), ([112, 111, 115, 105, 116, 105, 111, 110], 4),
   ([97, 108, 105, 97, 115, 101, 100, 79, 98, 106, 101, 99, 116, 78, 97, 109, 101], 5), ([109, 101, 109, 98, 101, 114], 5)]
def typeB (n : List UInt8) : List UInt8 × Nat := (typTab.find? fun p => lowerB p.1 == lowerB n).getD ([], 0)
/-- Syntax nought and the empty type are one. -/
theorem type_none (n : List UInt8) : (typeB n).1 = [] ↔ (typeB n).2 = 0 := by
  unfold typeB
  cases h : typTab.find? (fun p => lowerB p.1 == lowerB n) with
  | none => simp
  | some p =>
    have hm := List.mem_of_find?_eq_some h
    have hall : ∀ p ∈ typTab, (p.1 = [] ↔ p.2 = 0) := by decide
    simpa using hall p hm
/-- Each type is small in its own letters as itself: what is found is found again. -/
theorem type_again (n : List UInt8) (h : (typeB n).2 ≠ 0) : typeB (typeB n).1 = typeB n := by
  have hall : ∀ p ∈ typTab, typeB p.1 = p := by decide
  unfold typeB at h ⊢
  cases hf : typTab.find? (fun p => lowerB p.1 == lowerB n) with
  | none => rw [hf] at h; exact absurd rfl h
  | some p => exact hall p (List.mem_of_find?_eq_some hf)
structure Ava where
  type : List UInt8
  val : List UInt8
/-- What stands ahead of the first '=', and behind it. -/
def cutEq : List UInt8 → Option (List UInt8 × List UInt8)
  | [] => none
  | c :: t => if c = 61 then some ([], t) else (cutEq t).map fun p => (c :: p.1, p.2)
def avaB (p : List UInt8) : Option Ava :=
  match cutEq p with
  | none => none
  | some (a, b) => if (typeB a).2 = 0 then none else (valueB b).map fun v => ⟨(typeB a).1, v⟩
/-- Less, byte by byte. -/
def ltB : List UInt8 → List UInt8 → Bool
  | [], [] => false
  | [], _ :: _ => true
  | _ :: _, [] => false
  | a :: s, b :: t => if a.toNat < b.toNat then true else if b.toNat < a.toNat then false else ltB s t
def avaOk (a : Ava) : Bool := decide ((typeB a.type).1 = a.type) && (decide ((typeB a.type).2 = 1) || decide ((typeB a.type).2 = 3)) && (normB (typeB a.type).2 a.val).isSome
def risingB : List Ava → Bool
  | a :: b :: t => ltB a.type b.type && risingB (b :: t)
  | _ => true
def formedA (l : List Ava) : Bool := decide (1 ≤ l.length) && decide (l.length ≤ 3) && l.all avaOk && risingB l
def insA (a : Ava) : List Ava → List Ava
  | [] => [a]
  | b :: t => if ltB b.type a.type then b :: insA a t else a :: b :: t
def sortA (l : List Ava) : List Ava := l.foldl (fun o a => insA a o) []
def partB (s : List UInt8) : Option (List Ava) :=
  match (splitF 43 [] s).mapM avaB with
  | none => none
  | some l => if formedA (sortA l) then some (sortA l) else none
def normA (l : List Ava) : List Ava := l.map fun a => ⟨a.type, (normB (typeB a.type).2 a.val).getD []⟩
def printF : List Ava → List UInt8
  | [] => []
  | [a] => a.type ++ 61 :: writeF true a.val
  | a :: b :: t => a.type ++ 61 :: writeF true a.val ++ 43 :: printF (b :: t)
def printB (l : List Ava) : List UInt8 := if formedA l then printF l else []
def joinC : List (List UInt8) → List UInt8
  | [] => []
  | [x] => x
  | x :: y :: t => x ++ 44 :: joinC (y :: t)
inductive NameErr where
  | long
  | form
def partsB (s : List UInt8) : Except NameErr (List (List UInt8)) :=
  if 1000 < s.length then .error .long
  else if s = [] then .ok []
  else if 12 < (splitF 44 [] s).length then .error .long
  else
    match (splitF 44 [] s).mapM partB with
    | none => .error .form
    | some l =>
      let texts := l.map fun p => printB (normA p)
      if 1000 < (joinC texts).length then .error .long else .ok texts
theorem insA_length (a : Ava) : ∀ l : List Ava, (insA a l).length = l.length + 1
  | [] => rfl
  | b :: t => by
    unfold insA
    split
    · simp [insA_length a t]
    · simp
theorem sortA_length (l : List Ava) : (sortA l).length = l.length := by
  have h : ∀ (l o : List Ava), (l.foldl (fun o a => insA a o) o).length = o.length + l.length := by
    intro l
    induction l with
    | nil => intro o; simp
    | cons a t ih => intro o; simp only [List.foldl_cons, ih, insA_length, List.length_cons]; omega
  exact (h l []).trans (by simp)
/-- More than three are never a part. -/
theorem part_few (s : List UInt8) (h : 3 < (splitF 43 [] s).length) : partB s = none := by
  unfold partB
  cases hm : (splitF 43 [] s).mapM avaB with
  | none => rfl
  | some l =>
    have hl : l.length = (splitF 43 [] s).length := by
      have h9 : ∀ (x : List (List UInt8)) (l : List Ava), x.mapM avaB = some l → l.length = x.length := by
        intro x
        induction x with
        | nil => intro l h; simp at h; rw [h]; rfl
        | cons y t ih =>
          intro l h
          rw [List.mapM_cons] at h
          cases ha : avaB y with
          | none => rw [ha] at h; cases h
          | some v =>
            rw [ha] at h
            cases hb : t.mapM avaB with
            | none => rw [hb] at h; cases h
            | some w =>
              rw [hb] at h
              cases h
              simp [ih w hb]
      exact h9 _ l hm
    have hf : formedA (sortA l) = false := by
      unfold formedA
      rw [decide_eq_false (show ¬ (sortA l).length ≤ 3 by rw [sortA_length]; omega)]
      simp
    simp [hf]
end Go.Proofs.YtkafonmpmgjcpaaGreatDoor
/- Plain: the order of texts; a stable sort of three at most answers, behind Formed, as the reference's insertion. No program in sight. -/
namespace Go.Proofs.YtkafonmpmgjcpaaGreatDoor
set_option linter.unusedSimpArgs false

theorem ltB_irrefl : ∀ s : List UInt8, ltB s s = false
  | [] => rfl
  | a :: s => by simp [ltB, ltB_irrefl s]
theorem ltB_asymm : ∀ s t : List UInt8, ltB s t = true → ltB t s = false
  | [], [], h => by cases h
  | [], _ :: _, _ => rfl
  | _ :: _, [], h => by cases h
  | a :: s, b :: t, h => by
    unfold ltB at h ⊢
    by_cases h1 : a.toNat < b.toNat
    · rw [if_neg (by omega), if_pos h1]
    · rw [if_neg h1] at h
      by_cases h2 : b.toNat < a.toNat
      · rw [if_pos h2] at h; cases h
      · rw [if_neg h2] at h
        rw [if_neg h2, if_neg h1]
        exact ltB_asymm s t h
theorem ltB_tri : ∀ s t : List UInt8, ltB s t = false → ltB t s = false → s = t
  | [], [], _, _ => rfl
  | [], _ :: _, h, _ => by cases h
  | _ :: _, [], _, h => by cases h
  | a :: s, b :: t, h, k => by
    unfold ltB at h k
    by_cases h1 : a.toNat < b.toNat
    · rw [if_pos h1] at h; cases h
    · by_cases h2 : b.toNat < a.toNat
      · rw [if_pos h2] at k; cases k
      · rw [if_neg h1, if_neg h2] at h
        rw [if_neg h2, if_neg h1] at k
        have e : a = b := UInt8.toNat_inj.1 (by omega)
        rw [e, ltB_tri s t h k]
theorem ltB_trans : ∀ s t u : List UInt8, ltB s t = true → ltB t u = true → ltB s u = true
  | [], [], _, h, _ => by cases h
  | [], _ :: _, [], _, k => by cases k
  | [], _ :: _, _ :: _, _, _ => rfl
  | _ :: _, [], _, h, _ => by cases h
  | _ :: _, _ :: _, [], _, k => by cases k
  | a :: s, b :: t, c :: u, h, k => by
    unfold ltB at h k ⊢
    by_cases h1 : a.toNat < b.toNat
    · by_cases k1 : b.toNat < c.toNat
      · rw [if_pos (by omega)]
      · rw [if_neg k1] at k
        by_cases k2 : c.toNat < b.toNat
        · rw [if_pos k2] at k; cases k
        · rw [if_pos (by omega)]
    · rw [if_neg h1] at h
      by_cases h2 : b.toNat < a.toNat
      · rw [if_pos h2] at h; cases h
      · rw [if_neg h2] at h
        by_cases k1 : b.toNat < c.toNat
        · rw [if_pos (by omega)]
        · rw [if_neg k1] at k
          by_cases k2 : c.toNat < b.toNat
          · rw [if_pos k2] at k; cases k
          · rw [if_neg k2] at k
            rw [if_neg (by omega), if_neg (by omega)]
            exact ltB_trans s t u h k
/-- What a stable insertion from behind makes of three at most. -/
def sortP : List Ava → List Ava
  | [a, b] => if ltB b.type a.type then [b, a] else [a, b]
  | [a, b, c] =>
    if ltB b.type a.type then (if ltB c.type a.type then (if ltB c.type b.type then [c, b, a] else [b, c, a]) else [b, a, c])
    else (if ltB c.type b.type then (if ltB c.type a.type then [c, a, b] else [a, c, b]) else [a, b, c])
  | l => l
theorem formedA_no {l : List Ava} (h : risingB l = false) : formedA l = false := by simp [formedA, h]
def behindF (l : List Ava) : Option (List Ava) := if formedA l then some l else none
theorem behind_no {l k : List Ava} (h : risingB l = false) (g : risingB k = false) : behindF l = behindF k := by simp [behindF, formedA_no h, formedA_no g]
theorem ways (a b : Ava) : (ltB a.type b.type = true ∧ ltB b.type a.type = false) ∨ (ltB a.type b.type = false ∧ ltB b.type a.type = true) ∨ a.type = b.type := by
  cases h : ltB a.type b.type
  · cases g : ltB b.type a.type
    · exact .inr (.inr (ltB_tri _ _ h g))
    · exact .inr (.inl ⟨rfl, rfl⟩)
  · exact .inl ⟨rfl, ltB_asymm _ _ h⟩
set_option maxHeartbeats 2000000 in
theorem sortP_same (l : List Ava) (h : l.length ≤ 3) : behindF (sortP l) = behindF (sortA l) := by
  match l, h with
  | [], _ => rfl
  | [a], _ => rfl
  | [a, b], _ =>
    rcases ways a b with ⟨h1, h2⟩ | ⟨h1, h2⟩ | h1
    · simp [sortP, sortA, insA, h1, h2]
    · simp [sortP, sortA, insA, h1, h2]
    · refine behind_no ?_ ?_ <;> simp [sortP, sortA, insA, h1, ltB_irrefl, risingB]
  | [a, b, c], _ =>
    rcases ways a b with ⟨h1, h2⟩ | ⟨h1, h2⟩ | h1 <;> rcases ways b c with ⟨h3, h4⟩ | ⟨h3, h4⟩ | h3 <;> rcases ways a c with ⟨h5, h6⟩ | ⟨h5, h6⟩ | h5 <;>
      first
        | (have h9 := ltB_trans _ _ _ h1 h3; rw [h9] at h5; exact absurd h5 (by decide))
        | (have h9 := ltB_trans _ _ _ h2 h5; rw [h9] at h3; exact absurd h3 (by decide))
        | (have h9 := ltB_trans _ _ _ h4 h2; rw [h9] at h6; exact absurd h6 (by decide))
        | (simp [sortP, sortA, insA, h1, h2, h3, h4, h5, h6]; done)
        | (refine behind_no ?_ ?_ <;> (simp [sortP, sortA, insA, risingB, ltB_irrefl, *]; done))
        | (exfalso; simp_all [ltB_irrefl]; done)
end Go.Proofs.YtkafonmpmgjcpaaGreatDoor
