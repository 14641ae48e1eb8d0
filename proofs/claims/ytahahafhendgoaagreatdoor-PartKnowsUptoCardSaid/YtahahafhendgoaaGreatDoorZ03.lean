/- Lemmas of the walk that the last text of this claim joins. -/
import Derived.Test.YtahahafhendgoaaGreatDoorZ02
set_option maxHeartbeats 40000000
set_option linter.unusedVariables false
set_option linter.unusedSimpArgs false
namespace Go.Proofs.YtahahafhendgoaaGreatDoor
def splitF (sep : UInt8) (cur : List UInt8) : List UInt8 → List (List UInt8)
 | []=>[cur]
 | c :: t=>
  if c = sep then cur :: splitF sep [] t
  else if c = 92 then
   match t with
   | []=>[cur ++ [92]]
   | d :: t=>splitF sep (cur ++ [92,d]) t
  else splitF sep (cur ++ [c]) t
def specB (c : UInt8) : Bool:=c == 44 || c == 43 || c == 34 || c == 92 || c == 60 || c == 62 || c == 59
def hexB (c : UInt8) : Option Nat:=
 if 48 ≤ c.toNat ∧ c.toNat ≤ 57 then some (c.toNat - 48)
 else if 97 ≤ c.toNat ∧ c.toNat ≤ 102 then some (c.toNat - 87)
 else if 65 ≤ c.toNat ∧ c.toNat ≤ 70 then some (c.toNat - 55)
 else none
def readF (acc : List UInt8) : List UInt8 → Option (List UInt8)
 | []=>some acc
 | c :: t=>
  if c = 92 then
   match t with
   | []=>none
   | d :: t=>
    if specB d || d == 35 || d == 61 || d == 32 then readF (acc ++ [d]) t
    else
     match t with
     | []=>none
     | e :: t=>
      match hexB d,hexB e with
      | some a,some b=>readF (acc ++ [UInt8.ofNat (16 * a + b)]) t
      | _,_=>none
  else if c == 0 || specB c || (c == 32 && t.isEmpty) then none
  else readF (acc ++ [c]) t
def valueB (s : List UInt8) : Option (List UInt8):=if s.head? = some 32 ∨ s.head? = some 35 then none else readF [] s
def digitB (n : Nat) : UInt8:=if n < 10 then UInt8.ofNat (48 + n) else UInt8.ofNat (87 + n)
def writeF (fst : Bool) : List UInt8 → List UInt8
 | []=>[]
 | c :: t=>
  (if (c == 32 && (fst || t.isEmpty)) || (c == 35 && fst) || specB c then [92,c]
   else if c.toNat < 32 ∨ 126 < c.toNat then [92,digitB (c.toNat / 16),digitB (c.toNat % 16)]
   else [c]) ++ writeF false t
theorem splitF_length (sep : UInt8) : ∀ (n : Nat) (cur l : List UInt8),l.length ≤ n → (splitF sep cur l).length ≤ l.length + 1 ∧ 1 ≤ (splitF sep cur l).length ∧ ((splitF sep cur l).map List.length).sum ≤ cur.length + l.length
 | _,cur,[],_=>by simp [splitF]
 | 0,cur,c :: t,h=>by simp at h
 | n + 1,cur,c :: t,h=>by
  simp only [List.length_cons] at h
  by_cases h1 : c = sep
  ·have h2:=splitF_length sep n [] t (by omega)
   unfold splitF
   rw [if_pos h1]
   simp only [List.length_cons,List.map_cons,List.sum_cons,List.length_nil] at h2 ⊢
   omega
  ·by_cases h3 : c = 92
   ·cases t with
    | nil=>
     unfold splitF
     rw [if_neg h1,if_pos h3]
     simp
    | cons d t=>
     have h2:=splitF_length sep n (cur ++ [92,d]) t (by simp at h;omega)
     unfold splitF
     rw [if_neg h1,if_pos h3]
     simp only [List.length_append,List.length_cons,List.length_nil] at h2 ⊢
     omega
   ·have h2:=splitF_length sep n (cur ++ [c]) t (by omega)
    unfold splitF
    rw [if_neg h1,if_neg h3]
    simp only [List.length_append,List.length_cons,List.length_nil] at h2 ⊢
    omega
theorem writeF_length : ∀ (l : List UInt8) (b : Bool),(writeF b l).length ≤ 3 * l.length
 | [],_=>by simp [writeF]
 | c :: t,b=>by
  have h:=writeF_length t false
  simp only [writeF,List.length_append,List.length_cons]
  split <;> (try split) <;> simp only [List.length_cons,List.length_nil] <;> omega
def loB (c : UInt8) : UInt8:=if 65 ≤ c.toNat ∧ c.toNat ≤ 90 then UInt8.ofNat (c.toNat + 32) else c
def lowerB (l : List UInt8) : List UInt8:=l.map loB
def textN (v : List UInt8) : Option (List UInt8):=
 let t:=joinSp (wordsB (lowerB v))
 if t = [] ∨ (0 : UInt8) ∈ t then none else some t
theorem textN_ref (v : List UInt8) : textN v = if refSq [] false (lowerB v) = [] ∨ (0 : UInt8) ∈ lowerB v then none else some (refSq [] false (lowerB v)):=by
 unfold textN
 rw [words_same]
 simp only [mem_words 0 (by decide)]
def intB (v : List UInt8) : Bool:=
 let neg:=decide (v.head? = some 45)
 let d:=if neg then v.drop 1 else v
 decide (1 ≤ d.length) && decide (d.length ≤ 18) && !(decide (d.head? = some 48) && (decide (1 < d.length) || neg)) && d.all (fun c=>decide (48 ≤ c.toNat) && decide (c.toNat ≤ 57))
def normB (syntax_ : Nat) (v : List UInt8) : Option (List UInt8):=
 if v = [] ∨ 200 < v.length then none
 else if syntax_ = 1 then textN v
 else if syntax_ = 3 then (if intB v then some v else none)
 else none
end Go.Proofs.YtahahafhendgoaaGreatDoor
