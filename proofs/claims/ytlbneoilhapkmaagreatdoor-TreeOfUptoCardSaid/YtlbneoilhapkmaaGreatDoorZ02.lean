/- Lemmas of the walk that the last text of this claim joins. -/
import Derived.Test.YtlbneoilhapkmaaGreatDoorZ01
set_option maxHeartbeats 40000000
set_option linter.unusedVariables false
set_option linter.unusedSimpArgs false
namespace Go.Proofs.YtlbneoilhapkmaaGreatDoor
def splitSp (cur : List UInt8) : List UInt8 → List (List UInt8)
 | []=>[cur]
 | c :: t=>if c = 32 then cur :: splitSp [] t else splitSp (cur ++ [c]) t
def joinSp : List (List UInt8) → List UInt8
 | []=>[]
 | [x]=>x
 | x :: y :: t=>x ++ 32 :: joinSp (y :: t)
def wordsB (l : List UInt8) : List (List UInt8):=(splitSp [] l).filter (fun x=>decide (x ≠ []))
def refSq (out : List UInt8) (gap : Bool) : List UInt8 → List UInt8
 | []=>out
 | c :: t=>if c = 32 then refSq out true t else refSq ((if gap && decide (out ≠ []) then out ++ [32] else out) ++ [c]) false t
theorem joinSp_snoc (ws : List (List UInt8)) (x : List UInt8) (h : ws ≠ []) : joinSp (ws ++ [x]) = joinSp ws ++ 32 :: x:=by
 induction ws with
 | nil=>exact absurd rfl h
 | cons y t ih=>
  cases t with
  | nil=>rfl
  | cons z t=>
   have h1:=ih (by simp)
   simp only [List.cons_append,joinSp] at h1 ⊢
   rw [h1]
   simp
theorem joinSp_grow (ws : List (List UInt8)) (x : List UInt8) (c : UInt8) : joinSp (ws ++ [x ++ [c]]) = joinSp (ws ++ [x]) ++ [c]:=by
 by_cases h : ws = []
 ·subst h
  rfl
 ·rw [joinSp_snoc ws _ h,joinSp_snoc ws _ h]
  simp
theorem joinSp_ne (ws : List (List UInt8)) (h : ws ≠ []) (hn : ∀ x ∈ ws,x ≠ []) : joinSp ws ≠ []:=by
 cases ws with
 | nil=>exact absurd rfl h
 | cons x t=>
  have hx:=hn x (by simp)
  cases t with
  | nil=>exact hx
  | cons y t=>simp [joinSp]
theorem refSq_words (l : List UInt8) : ∀ (ws : List (List UInt8)),(∀ x ∈ ws,x ≠ []) →
 (∀ cur,cur ≠ [] → refSq (joinSp (ws ++ [cur])) false l = joinSp (ws ++ (splitSp cur l).filter (fun x=>decide (x ≠ [])))) ∧
 (∀ gap,(gap = true ∨ ws = []) → refSq (joinSp ws) gap l = joinSp (ws ++ (splitSp [] l).filter (fun x=>decide (x ≠ [])))):=by
 induction l with
 | nil=>
  intro ws hw
  refine ⟨fun cur hc=>?_,fun gap _=>?_⟩
  ·simp [refSq,splitSp,hc]
  ·simp [refSq,splitSp]
 | cons c t ih=>
  intro ws hw
  refine ⟨fun cur hc=>?_,fun gap hg=>?_⟩
  ·by_cases h : c = 32
   ·have h1:=(ih (ws ++ [cur]) (by intro x hx;rcases List.mem_append.1 hx with h2 | h2;exact hw x h2;simp at h2;rw [h2];exact hc)).2 true (.inl rfl)
    simp only [refSq,splitSp,h,if_true] at h1 ⊢
    rw [h1]
    simp [hc]
   ·have h1:=(ih ws hw).1 (cur ++ [c]) (by simp)
    simp only [refSq,splitSp,h,if_false,Bool.false_and,Bool.false_eq_true] at h1 ⊢
    rw [← h1,joinSp_grow]
  ·by_cases h : c = 32
   ·have h1:=(ih ws hw).2 true (.inl rfl)
    simp only [refSq,splitSp,h,if_true] at h1 ⊢
    rw [h1]
    simp
   ·have h1:=(ih ws hw).1 [c] (by simp)
    simp only [refSq,splitSp,h,if_false,List.nil_append] at h1 ⊢
    rw [← h1]
    congr 1
    by_cases hws : ws = []
    ·subst hws
     simp [joinSp]
    ·have hgt : gap = true:=by rcases hg with hg | hg;exact hg;exact absurd hg hws
     have hne:=joinSp_ne ws hws hw
     rw [joinSp_snoc ws _ hws,hgt]
     simp [hne]
theorem words_same (l : List UInt8) : refSq [] false l = joinSp (wordsB l):=(refSq_words l [] (by simp)).2 false (.inr rfl)
theorem mem_joinSp (z : UInt8) (hz : z ≠ 32) : ∀ ws : List (List UInt8),z ∈ joinSp ws ↔ ∃ x ∈ ws,z ∈ x
 | []=>by simp [joinSp]
 | [x]=>by simp [joinSp]
 | x :: y :: t=>by
  have h:=mem_joinSp z hz (y :: t)
  simp only [joinSp,List.mem_append,List.mem_cons,h,hz,false_or]
  simp
theorem mem_splitSp (z : UInt8) (hz : z ≠ 32) : ∀ (l cur : List UInt8),(∃ x ∈ splitSp cur l,z ∈ x) ↔ z ∈ cur ∨ z ∈ l
 | [],cur=>by simp [splitSp]
 | c :: t,cur=>by
  by_cases h : c = 32
  ·have h1:=mem_splitSp z hz t []
   simp only [splitSp,h,if_true]
   simp only [List.mem_cons,exists_eq_or_imp,h1]
   simp [hz]
  ·have h1:=mem_splitSp z hz t (cur ++ [c])
   simp only [splitSp,h,if_false]
   rw [h1]
   simp [or_assoc]
theorem mem_words (z : UInt8) (hz : z ≠ 32) (l : List UInt8) : z ∈ joinSp (wordsB l) ↔ z ∈ l:=by
 rw [mem_joinSp z hz]
 have h:=mem_splitSp z hz l []
 constructor
 ·rintro ⟨x,hx,hzx⟩
  have:=h.1 ⟨x,(List.mem_filter.1 hx).1,hzx⟩
  simpa using this
 ·intro hl
  obtain ⟨x,hx,hzx⟩:=h.2 (.inr hl)
  exact ⟨x,List.mem_filter.2 ⟨hx,by simp;rintro rfl;simp at hzx⟩,hzx⟩
def splitF (sep : UInt8) (cur : List UInt8) : List UInt8 → List (List UInt8)
 | []=>[cur]
 | c :: t=>
  if c = sep then cur :: splitF sep [] t
  else if c = 92 then
   match t with
   | []=>[cur ++ [92]]
   | d :: t=>splitF sep (cur ++ [92,d]) t
  else splitF sep (cur ++ [c]) t
def specB (c : UInt8) : Bool:=c == 44 || c == 43 || c == 34 || c == 92 || c == 60 || c == 62 || c == 59
def hexB (c : UInt8) : Option Nat:=
 if 48 ≤ c.toNat ∧ c.toNat ≤ 57 then some (c.toNat - 48)
 else if 97 ≤ c.toNat ∧ c.toNat ≤ 102 then some (c.toNat - 87)
 else if 65 ≤ c.toNat ∧ c.toNat ≤ 70 then some (c.toNat - 55)
 else none
def readF (acc : List UInt8) : List UInt8 → Option (List UInt8)
 | []=>some acc
 | c :: t=>
  if c = 92 then
   match t with
   | []=>none
   | d :: t=>
    if specB d || d == 35 || d == 61 || d == 32 then readF (acc ++ [d]) t
    else
     match t with
     | []=>none
     | e :: t=>
      match hexB d,hexB e with
      | some a,some b=>readF (acc ++ [UInt8.ofNat (16 * a + b)]) t
      | _,_=>none
  else if c == 0 || specB c || (c == 32 && t.isEmpty) then none
  else readF (acc ++ [c]) t
def valueB (s : List UInt8) : Option (List UInt8):=if s.head? = some 32 ∨ s.head? = some 35 then none else readF [] s
def digitB (n : Nat) : UInt8:=if n < 10 then UInt8.ofNat (48 + n) else UInt8.ofNat (87 + n)
def writeF (fst : Bool) : List UInt8 → List UInt8
 | []=>[]
 | c :: t=>
  (if (c == 32 && (fst || t.isEmpty)) || (c == 35 && fst) || specB c then [92,c]
   else if c.toNat < 32 ∨ 126 < c.toNat then [92,digitB (c.toNat / 16),digitB (c.toNat % 16)]
   else [c]) ++ writeF false t
theorem splitF_length (sep : UInt8) : ∀ (n : Nat) (cur l : List UInt8),l.length ≤ n → (splitF sep cur l).length ≤ l.length + 1 ∧ 1 ≤ (splitF sep cur l).length ∧ ((splitF sep cur l).map List.length).sum ≤ cur.length + l.length
 | _,cur,[],_=>by simp [splitF]
 | 0,cur,c :: t,h=>by simp at h
 | n + 1,cur,c :: t,h=>by
  simp only [List.length_cons] at h
  by_cases h1 : c = sep
  ·have h2:=splitF_length sep n [] t (by omega)
   unfold splitF
   rw [if_pos h1]
   simp only [List.length_cons,List.map_cons,List.sum_cons,List.length_nil] at h2 ⊢
   omega
  ·by_cases h3 : c = 92
   ·cases t with
    | nil=>
     unfold splitF
     rw [if_neg h1,if_pos h3]
     simp
    | cons d t=>
     have h2:=splitF_length sep n (cur ++ [92,d]) t (by simp at h;omega)
     unfold splitF
     rw [if_neg h1,if_pos h3]
     simp only [List.length_append,List.length_cons,List.length_nil] at h2 ⊢
     omega
   ·have h2:=splitF_length sep n (cur ++ [c]) t (by omega)
    unfold splitF
    rw [if_neg h1,if_neg h3]
    simp only [List.length_append,List.length_cons,List.length_nil] at h2 ⊢
    omega
theorem writeF_length : ∀ (l : List UInt8) (b : Bool),(writeF b l).length ≤ 3 * l.length
 | [],_=>by simp [writeF]
 | c :: t,b=>by
  have h:=writeF_length t false
  simp only [writeF,List.length_append,List.length_cons]
  split <;> (try split) <;> simp only [List.length_cons,List.length_nil] <;> omega
def loB (c : UInt8) : UInt8:=if 65 ≤ c.toNat ∧ c.toNat ≤ 90 then UInt8.ofNat (c.toNat + 32) else c
def lowerB (l : List UInt8) : List UInt8:=l.map loB
def textN (v : List UInt8) : Option (List UInt8):=
 let t:=joinSp (wordsB (lowerB v))
 if t = [] ∨ (0 : UInt8) ∈ t then none else some t
theorem textN_ref (v : List UInt8) : textN v = if refSq [] false (lowerB v) = [] ∨ (0 : UInt8) ∈ lowerB v then none else some (refSq [] false (lowerB v)):=by
 unfold textN
 rw [words_same]
 simp only [mem_words 0 (by decide)]
def intB (v : List UInt8) : Bool:=
 let neg:=decide (v.head? = some 45)
 let d:=if neg then v.drop 1 else v
 decide (1 ≤ d.length) && decide (d.length ≤ 18) && !(decide (d.head? = some 48) && (decide (1 < d.length) || neg)) && d.all (fun c=>decide (48 ≤ c.toNat) && decide (c.toNat ≤ 57))
def normB (syntax_ : Nat) (v : List UInt8) : Option (List UInt8):=
 if v = [] ∨ 200 < v.length then none
 else if syntax_ = 1 then textN v
 else if syntax_ = 3 then (if intB v then some v else none)
 else none
end Go.Proofs.YtlbneoilhapkmaaGreatDoor
