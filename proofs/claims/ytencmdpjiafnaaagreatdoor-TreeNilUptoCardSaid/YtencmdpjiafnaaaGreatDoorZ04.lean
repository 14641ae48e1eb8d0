import Derived.Test.YtencmdpjiafnaaaGreatDoorZ03
import Derived.Lib.Split
import Derived.Lib.Join
import Derived.Lib.ParseIntB
import Derived.Lib.ItoaNum
/- Plain: the library's words (Split, Join, Cut, IndexByte, Compare, ParseInt) at what names need of them. No program in sight. -/
namespace Go.Proofs.YtencmdpjiafnaaaGreatDoor
set_option linter.unusedSimpArgs false

/-- The first place of a byte. -/
theorem first_mem {c : UInt8} : ∀ {l : List UInt8}, c ∈ l → ∃ a r, l = a ++ c :: r ∧ c ∉ a
  | [], h => by cases h
  | x :: t, h => by
    by_cases hx : x = c
    · exact ⟨[], t, by rw [hx]; rfl, by simp⟩
    · obtain ⟨a, r, e, hn⟩ := first_mem (c := c) (l := t) (by rcases List.mem_cons.1 h with e | e; exact absurd e.symm hx; exact e)
      exact ⟨x :: a, r, by rw [e]; rfl, by simp [hn, Ne.symm hx]⟩
theorem index_one (c : UInt8) (l : List UInt8) : (Lib.index l [c] = -1 ∧ c ∉ l) ∨ (∃ a r, l = a ++ c :: r ∧ c ∉ a ∧ Lib.index l [c] = a.length) := by
  by_cases h : c ∈ l
  · right
    obtain ⟨a, r, rfl, hn⟩ := first_mem h
    refine ⟨a, r, rfl, hn, ?_⟩
    refine Lib.index_first (by simp) (by simp [Lib.occAt]) fun j hj => ?_
    have hne : ((a ++ c :: r).drop j).head? ≠ some c := by
      rw [List.head?_drop, List.getElem?_append_left hj, List.getElem?_eq_getElem hj]
      intro e
      injection e with e
      exact hn (e ▸ List.getElem_mem hj)
    unfold Lib.occAt
    cases hd : (a ++ c :: r).drop j with
    | nil => rfl
    | cons x t =>
      rw [hd] at hne
      have hx : ¬ c = x := fun e => hne (by simp [e])
      simp [List.isPrefixOf, hx]
  · left
    refine ⟨Lib.index_none fun j _ => ?_, h⟩
    unfold Lib.occAt
    cases hd : l.drop j with
    | nil => rfl
    | cons x t =>
      have hx : ¬ c = x := fun e => h (List.mem_of_mem_drop (i := j) (by rw [hd, e]; simp))
      simp [List.isPrefixOf, hx]
theorem splitSp_none : ∀ (l cur : List UInt8), (32 : UInt8) ∉ l → splitSp cur l = [cur ++ l]
  | [], cur, _ => by simp [splitSp]
  | c :: t, cur, h => by
    have hc : ¬ c = 32 := fun e => h (by simp [e])
    unfold splitSp
    rw [if_neg hc, splitSp_none t _ (fun hm => h (by simp [hm]))]
    simp
theorem splitSp_hit : ∀ (a cur r : List UInt8), (32 : UInt8) ∉ a → splitSp cur (a ++ 32 :: r) = (cur ++ a) :: splitSp [] r
  | [], cur, r, _ => by simp [splitSp]
  | c :: t, cur, r, h => by
    have hc : ¬ c = 32 := fun e => h (by simp [e])
    rw [List.cons_append]
    rw [splitSp, if_neg hc, splitSp_hit t _ r (fun hm => h (by simp [hm]))]
    simp
theorem split_sp : ∀ (n : Nat) (l : List UInt8), l.length ≤ n → Lib.splitK [32] 0 (Lib.count l [32]) l = splitSp [] l
  | n, l, hn => by
    rcases index_one 32 l with ⟨h1, h2⟩ | ⟨a, r, rfl, h2, h3⟩
    · rw [Lib.count_miss h1, splitSp_none l [] h2]
      rfl
    · rw [Lib.count_hit (by simp) h3, splitSp_hit a [] r h2, Nat.add_comm 1]
      unfold Lib.splitK
      rw [h3]
      have hm : ¬ (((a.length : Nat) : Int) == -1) = true := by rw [beq_iff_eq]; omega
      rw [if_neg hm]
      simp only [Int.toNat_natCast, List.length_cons, List.length_nil]
      have e1 : (a ++ 32 :: r).drop (a.length + 1) = r := by rw [← List.drop_drop]; simp
      have e2 : (a ++ 32 :: r).take (a.length + 0) = a := by simp
      rw [e1, e2]
      cases n with
      | zero => simp at hn
      | succ n => rw [split_sp n r (by simp at hn; omega)]; rfl
theorem join_sp : ∀ ws : List (List UInt8), Lib.join ws [32] = joinSp ws
  | [] => rfl
  | [x] => Lib.join_one x [32]
  | x :: y :: t => by
    have h := join_sp (y :: t)
    rw [Lib.join_cons] at h ⊢
    simp only [Lib.joinTail, List.map_cons, List.flatten_cons] at h ⊢
    simp only [joinSp]
    rw [← h]
    simp
theorem join_c : ∀ ws : List (List UInt8), Lib.join ws [44] = joinC ws
  | [] => rfl
  | [x] => Lib.join_one x [44]
  | x :: y :: t => by
    have h := join_c (y :: t)
    rw [Lib.join_cons] at h ⊢
    simp only [Lib.joinTail, List.map_cons, List.flatten_cons] at h ⊢
    simp only [joinC]
    rw [← h]
    simp
theorem cutEq_none : ∀ l : List UInt8, (61 : UInt8) ∉ l → cutEq l = none
  | [], _ => rfl
  | c :: t, h => by
    have hc : ¬ c = 61 := fun e => h (by simp [e])
    unfold cutEq
    rw [if_neg hc, cutEq_none t (fun hm => h (by simp [hm]))]
    rfl
theorem cutEq_hit : ∀ a r : List UInt8, (61 : UInt8) ∉ a → cutEq (a ++ 61 :: r) = some (a, r)
  | [], r, _ => by simp [cutEq]
  | c :: t, r, h => by
    have hc : ¬ c = 61 := fun e => h (by simp [e])
    rw [List.cons_append]
    unfold cutEq
    rw [if_neg hc, cutEq_hit t r (fun hm => h (by simp [hm]))]
    rfl
theorem cut_eq (l : List UInt8) : Lib.cut l [61] = match cutEq l with | some (a, r) => (a, r, true) | none => (l, [], false) := by
  unfold Lib.cut
  rcases index_one 61 l with ⟨h1, h2⟩ | ⟨a, r, rfl, h2, h3⟩
  · rw [h1, cutEq_none l h2, if_neg (by omega)]
  · rw [h3, cutEq_hit a r h2, if_pos (by omega)]
    simp only [Int.toNat_natCast, List.length_cons, List.length_nil]
    rw [← List.drop_drop]
    simp
theorem cmp_lt (a b : List UInt8) : (Lib.compareBytes a b = -1 ∧ ltB a b = true) ∨ (Lib.compareBytes a b = 0 ∧ a = b) ∨ (Lib.compareBytes a b = 1 ∧ ltB b a = true) := by
  induction a generalizing b with
  | nil => cases b <;> simp [Lib.compareBytes, ltB]
  | cons x s ih =>
    cases b with
    | nil => simp [Lib.compareBytes, ltB]
    | cons y t =>
      unfold Lib.compareBytes ltB
      by_cases h1 : x.toNat < y.toNat
      · left
        rw [if_pos (UInt8.lt_iff_toNat_lt.2 h1), if_pos h1]; exact ⟨rfl, rfl⟩
      · by_cases h2 : y.toNat < x.toNat
        · right; right
          rw [if_neg (fun e => h1 (UInt8.lt_iff_toNat_lt.1 e)), if_pos (UInt8.lt_iff_toNat_lt.2 h2), if_pos h2]; exact ⟨rfl, rfl⟩
        · rw [if_neg (fun e => h1 (UInt8.lt_iff_toNat_lt.1 e)), if_neg (fun e => h2 (UInt8.lt_iff_toNat_lt.1 e)), if_neg h1, if_neg h2, if_neg h2, if_neg h1]
          have e : x = y := UInt8.toNat_inj.1 (by omega)
          subst e
          rcases ih t with ⟨h3, h4⟩ | ⟨h3, h4⟩ | ⟨h3, h4⟩
          · exact .inl ⟨h3, h4⟩
          · exact .inr (.inl ⟨h3, by rw [h4]⟩)
          · exact .inr (.inr ⟨h3, h4⟩)
theorem idxB_some {l : List UInt8} {c : UInt8} (h : c ∈ l) : ∃ i : Nat, Lib.indexByte l c = i ∧ i < l.length := by
  induction l with
  | nil => cases h
  | cons x t ih =>
    unfold Lib.indexByte
    by_cases hx : x = c
    · exact ⟨0, by simp [hx], by simp⟩
    · obtain ⟨i, hi, hl⟩ := ih (by rcases List.mem_cons.1 h with e | e; exact absurd e.symm hx; exact e)
      have h2 : ¬ (x == c) = true := by simpa using hx
      rw [if_neg h2, hi, if_neg (by rw [beq_iff_eq]; omega)]
      exact ⟨i + 1, by omega, by simp; omega⟩
theorem idxB_none {l : List UInt8} {c : UInt8} (h : c ∉ l) : Lib.indexByte l c = -1 := by
  induction l with
  | nil => rfl
  | cons x t ih =>
    have hx : ¬ (x == c) = true := by rw [beq_iff_eq]; intro e; exact h (by simp [e])
    unfold Lib.indexByte
    rw [if_neg hx, ih (fun hm => h (by simp [hm]))]
    rfl
end Go.Proofs.YtencmdpjiafnaaaGreatDoor
