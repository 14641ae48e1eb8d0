/- Lemmas of the walk that the last text of this claim joins. -/
import Derived.Test.YtahahafhendgoaaGreatDoorZ03
import Derived.Lib.Split
import Derived.Lib.Join
import Derived.Lib.ParseIntB
import Derived.Lib.ItoaNum
set_option maxHeartbeats 40000000
set_option linter.unusedVariables false
set_option linter.unusedSimpArgs false
namespace Go.Proofs.YtahahafhendgoaaGreatDoor
def typTab : List (List UInt8 × Nat):=
 [([111,98,106,101,99,116,67,108,97,115,115],1),([99,110],1),([111,117],1),([111],1),([100,99],1),([117,105,100],1),
  ([100,101,115,99,114,105,112,116,105,111,110],1),([109,97,105,108],1),([117,115,101,114,80,97,115,115,119,111,114,100],2),([114,101,102],2),
  ([115,101,114,105,97,108,78,117,109,98,101,114],3),([112,111,115,105,116,105,111,110],4),
  ([97,108,105,97,115,101,100,79,98,106,101,99,116,78,97,109,101],5),([109,101,109,98,101,114],5)]
def typeB (n : List UInt8) : List UInt8 × Nat:=(typTab.find? fun p=>lowerB p.1 == lowerB n).getD ([],0)
theorem type_none (n : List UInt8) : (typeB n).1 = [] ↔ (typeB n).2 = 0:=by
 unfold typeB
 cases h : typTab.find? (fun p=>lowerB p.1 == lowerB n) with
 | none=>simp
 | some p=>
  have hm:=List.mem_of_find?_eq_some h
  have hall : ∀ p ∈ typTab,(p.1 = [] ↔ p.2 = 0):=by decide
  simpa using hall p hm
structure Ava where
 type : List UInt8
 val : List UInt8
def cutEq : List UInt8 → Option (List UInt8 × List UInt8)
 | []=>none
 | c :: t=>if c = 61 then some ([],t) else (cutEq t).map fun p=>(c :: p.1,p.2)
def avaB (p : List UInt8) : Option Ava:=
 match cutEq p with
 | none=>none
 | some (a,b)=>if (typeB a).2 = 0 then none else (valueB b).map fun v=>⟨(typeB a).1,v⟩
def ltB : List UInt8 → List UInt8 → Bool
 | [],[]=>false
 | [],_ :: _=>true
 | _ :: _,[]=>false
 | a :: s,b :: t=>if a.toNat < b.toNat then true else if b.toNat < a.toNat then false else ltB s t
def avaOk (a : Ava) : Bool:=decide ((typeB a.type).1 = a.type) && (decide ((typeB a.type).2 = 1) || decide ((typeB a.type).2 = 3)) && (normB (typeB a.type).2 a.val).isSome
def risingB : List Ava → Bool
 | a :: b :: t=>ltB a.type b.type && risingB (b :: t)
 | _=>true
def formedA (l : List Ava) : Bool:=decide (1 ≤ l.length) && decide (l.length ≤ 3) && l.all avaOk && risingB l
def insA (a : Ava) : List Ava → List Ava
 | []=>[a]
 | b :: t=>if ltB b.type a.type then b :: insA a t else a :: b :: t
def sortA (l : List Ava) : List Ava:=l.foldl (fun o a=>insA a o) []
def partB (s : List UInt8) : Option (List Ava):=
 match (splitF 43 [] s).mapM avaB with
 | none=>none
 | some l=>if formedA (sortA l) then some (sortA l) else none
def normA (l : List Ava) : List Ava:=l.map fun a=>⟨a.type,(normB (typeB a.type).2 a.val).getD []⟩
def printF : List Ava → List UInt8
 | []=>[]
 | [a]=>a.type ++ 61 :: writeF true a.val
 | a :: b :: t=>a.type ++ 61 :: writeF true a.val ++ 43 :: printF (b :: t)
def printB (l : List Ava) : List UInt8:=if formedA l then printF l else []
def joinC : List (List UInt8) → List UInt8
 | []=>[]
 | [x]=>x
 | x :: y :: t=>x ++ 44 :: joinC (y :: t)
inductive NameErr where
 | long
 | form
def partsB (s : List UInt8) : Except NameErr (List (List UInt8)):=
 if 1000 < s.length then .error .long
 else if s = [] then .ok []
 else if 12 < (splitF 44 [] s).length then .error .long
 else
  match (splitF 44 [] s).mapM partB with
  | none=>.error .form
  | some l=>
   let texts:=l.map fun p=>printB (normA p)
   if 1000 < (joinC texts).length then .error .long else .ok texts
theorem insA_length (a : Ava) : ∀ l : List Ava,(insA a l).length = l.length + 1
 | []=>rfl
 | b :: t=>by
  unfold insA
  split
  ·simp [insA_length a t]
  ·simp
theorem sortA_length (l : List Ava) : (sortA l).length = l.length:=by
 have h : ∀ (l o : List Ava),(l.foldl (fun o a=>insA a o) o).length = o.length + l.length:=by
  intro l
  induction l with
  | nil=>intro o;simp
  | cons a t ih=>intro o;simp only [List.foldl_cons,ih,insA_length,List.length_cons];omega
 exact (h l []).trans (by simp)
theorem part_few (s : List UInt8) (h : 3 < (splitF 43 [] s).length) : partB s = none:=by
 unfold partB
 cases hm : (splitF 43 [] s).mapM avaB with
 | none=>rfl
 | some l=>
  have hl : l.length = (splitF 43 [] s).length:=by
   have h9 : ∀ (x : List (List UInt8)) (l : List Ava),x.mapM avaB = some l → l.length = x.length:=by
    intro x
    induction x with
    | nil=>intro l h;simp at h;rw [h];rfl
    | cons y t ih=>
     intro l h
     rw [List.mapM_cons] at h
     cases ha : avaB y with
     | none=>rw [ha] at h;cases h
     | some v=>
      rw [ha] at h
      cases hb : t.mapM avaB with
      | none=>rw [hb] at h;cases h
      | some w=>
       rw [hb] at h
       cases h
       simp [ih w hb]
   exact h9 _ l hm
  have hf : formedA (sortA l) = false:=by
   unfold formedA
   rw [decide_eq_false (show ¬ (sortA l).length ≤ 3 by rw [sortA_length];omega)]
   simp
  simp [hf]
theorem ltB_irrefl : ∀ s : List UInt8,ltB s s = false
 | []=>rfl
 | a :: s=>by simp [ltB,ltB_irrefl s]
theorem ltB_asymm : ∀ s t : List UInt8,ltB s t = true → ltB t s = false
 | [],[],h=>by cases h
 | [],_ :: _,_=>rfl
 | _ :: _,[],h=>by cases h
 | a :: s,b :: t,h=>by
  unfold ltB at h ⊢
  by_cases h1 : a.toNat < b.toNat
  ·rw [if_neg (by omega),if_pos h1]
  ·rw [if_neg h1] at h
   by_cases h2 : b.toNat < a.toNat
   ·rw [if_pos h2] at h;cases h
   ·rw [if_neg h2] at h
    rw [if_neg h2,if_neg h1]
    exact ltB_asymm s t h
theorem ltB_tri : ∀ s t : List UInt8,ltB s t = false → ltB t s = false → s = t
 | [],[],_,_=>rfl
 | [],_ :: _,h,_=>by cases h
 | _ :: _,[],_,h=>by cases h
 | a :: s,b :: t,h,k=>by
  unfold ltB at h k
  by_cases h1 : a.toNat < b.toNat
  ·rw [if_pos h1] at h;cases h
  ·by_cases h2 : b.toNat < a.toNat
   ·rw [if_pos h2] at k;cases k
   ·rw [if_neg h1,if_neg h2] at h
    rw [if_neg h2,if_neg h1] at k
    have e : a = b:=UInt8.toNat_inj.1 (by omega)
    rw [e,ltB_tri s t h k]
theorem ltB_trans : ∀ s t u : List UInt8,ltB s t = true → ltB t u = true → ltB s u = true
 | [],[],_,h,_=>by cases h
 | [],_ :: _,[],_,k=>by cases k
 | [],_ :: _,_ :: _,_,_=>rfl
 | _ :: _,[],_,h,_=>by cases h
 | _ :: _,_ :: _,[],_,k=>by cases k
 | a :: s,b :: t,c :: u,h,k=>by
  unfold ltB at h k ⊢
  by_cases h1 : a.toNat < b.toNat
  ·by_cases k1 : b.toNat < c.toNat
   ·rw [if_pos (by omega)]
   ·rw [if_neg k1] at k
    by_cases k2 : c.toNat < b.toNat
    ·rw [if_pos k2] at k;cases k
    ·rw [if_pos (by omega)]
  ·rw [if_neg h1] at h
   by_cases h2 : b.toNat < a.toNat
   ·rw [if_pos h2] at h;cases h
   ·rw [if_neg h2] at h
    by_cases k1 : b.toNat < c.toNat
    ·rw [if_pos (by omega)]
    ·rw [if_neg k1] at k
     by_cases k2 : c.toNat < b.toNat
     ·rw [if_pos k2] at k;cases k
     ·rw [if_neg k2] at k
      rw [if_neg (by omega),if_neg (by omega)]
      exact ltB_trans s t u h k
def sortP : List Ava → List Ava
 | [a,b]=>if ltB b.type a.type then [b,a] else [a,b]
 | [a,b,c]=>
  if ltB b.type a.type then (if ltB c.type a.type then (if ltB c.type b.type then [c,b,a] else [b,c,a]) else [b,a,c])
  else (if ltB c.type b.type then (if ltB c.type a.type then [c,a,b] else [a,c,b]) else [a,b,c])
 | l=>l
theorem formedA_no {l : List Ava} (h : risingB l = false) : formedA l = false:=by simp [formedA,h]
def behindF (l : List Ava) : Option (List Ava):=if formedA l then some l else none
theorem behind_no {l k : List Ava} (h : risingB l = false) (g : risingB k = false) : behindF l = behindF k:=by simp [behindF,formedA_no h,formedA_no g]
theorem ways (a b : Ava) : (ltB a.type b.type = true ∧ ltB b.type a.type = false) ∨ (ltB a.type b.type = false ∧ ltB b.type a.type = true) ∨ a.type = b.type:=by
 cases h : ltB a.type b.type
 ·cases g : ltB b.type a.type
  ·exact .inr (.inr (ltB_tri _ _ h g))
  ·exact .inr (.inl ⟨rfl,rfl⟩)
 ·exact .inl ⟨rfl,ltB_asymm _ _ h⟩
theorem sortP_same (l : List Ava) (h : l.length ≤ 3) : behindF (sortP l) = behindF (sortA l):=by
 match l,h with
 | [],_=>rfl
 | [a],_=>rfl
 | [a,b],_=>
  rcases ways a b with ⟨h1,h2⟩ | ⟨h1,h2⟩ | h1
  ·simp [sortP,sortA,insA,h1,h2]
  ·simp [sortP,sortA,insA,h1,h2]
  ·refine behind_no ?_ ?_ <;> simp [sortP,sortA,insA,h1,ltB_irrefl,risingB]
 | [a,b,c],_=>
  rcases ways a b with ⟨h1,h2⟩ | ⟨h1,h2⟩ | h1 <;> rcases ways b c with ⟨h3,h4⟩ | ⟨h3,h4⟩ | h3 <;> rcases ways a c with ⟨h5,h6⟩ | ⟨h5,h6⟩ | h5 <;>
   first
    | (have h9:=ltB_trans _ _ _ h1 h3;rw [h9] at h5;exact absurd h5 (by decide))
    | (have h9:=ltB_trans _ _ _ h2 h5;rw [h9] at h3;exact absurd h3 (by decide))
    | (have h9:=ltB_trans _ _ _ h4 h2;rw [h9] at h6;exact absurd h6 (by decide))
    | (simp [sortP,sortA,insA,h1,h2,h3,h4,h5,h6];done)
    | (refine behind_no ?_ ?_ <;> (simp [sortP,sortA,insA,risingB,ltB_irrefl, *];done))
    | (exfalso;simp_all [ltB_irrefl];done)
theorem first_mem {c : UInt8} : ∀ {l : List UInt8},c ∈ l → ∃ a r,l = a ++ c :: r ∧ c ∉ a
 | [],h=>by cases h
 | x :: t,h=>by
  by_cases hx : x = c
  ·exact ⟨[],t,by rw [hx];rfl,by simp⟩
  ·obtain ⟨a,r,e,hn⟩:=first_mem (c:=c) (l:=t) (by rcases List.mem_cons.1 h with e | e;exact absurd e.symm hx;exact e)
   exact ⟨x :: a,r,by rw [e];rfl,by simp [hn,Ne.symm hx]⟩
theorem index_one (c : UInt8) (l : List UInt8) : (Lib.index l [c] = -1 ∧ c ∉ l) ∨ (∃ a r,l = a ++ c :: r ∧ c ∉ a ∧ Lib.index l [c] = a.length):=by
 by_cases h : c ∈ l
 ·right
  obtain ⟨a,r,rfl,hn⟩:=first_mem h
  refine ⟨a,r,rfl,hn,?_⟩
  refine Lib.index_first (by simp) (by simp [Lib.occAt]) fun j hj=>?_
  have hne : ((a ++ c :: r).drop j).head? ≠ some c:=by
   rw [List.head?_drop,List.getElem?_append_left hj,List.getElem?_eq_getElem hj]
   intro e
   injection e with e
   exact hn (e ▸ List.getElem_mem hj)
  unfold Lib.occAt
  cases hd : (a ++ c :: r).drop j with
  | nil=>rfl
  | cons x t=>
   rw [hd] at hne
   have hx : ¬ c = x:=fun e=>hne (by simp [e])
   simp [List.isPrefixOf,hx]
 ·left
  refine ⟨Lib.index_none fun j _=>?_,h⟩
  unfold Lib.occAt
  cases hd : l.drop j with
  | nil=>rfl
  | cons x t=>
   have hx : ¬ c = x:=fun e=>h (List.mem_of_mem_drop (i:=j) (by rw [hd,e];simp))
   simp [List.isPrefixOf,hx]
theorem splitSp_none : ∀ (l cur : List UInt8),(32 : UInt8) ∉ l → splitSp cur l = [cur ++ l]
 | [],cur,_=>by simp [splitSp]
 | c :: t,cur,h=>by
  have hc : ¬ c = 32:=fun e=>h (by simp [e])
  unfold splitSp
  rw [if_neg hc,splitSp_none t _ (fun hm=>h (by simp [hm]))]
  simp
theorem splitSp_hit : ∀ (a cur r : List UInt8),(32 : UInt8) ∉ a → splitSp cur (a ++ 32 :: r) = (cur ++ a) :: splitSp [] r
 | [],cur,r,_=>by simp [splitSp]
 | c :: t,cur,r,h=>by
  have hc : ¬ c = 32:=fun e=>h (by simp [e])
  rw [List.cons_append]
  rw [splitSp,if_neg hc,splitSp_hit t _ r (fun hm=>h (by simp [hm]))]
  simp
theorem split_sp : ∀ (n : Nat) (l : List UInt8),l.length ≤ n → Lib.splitK [32] 0 (Lib.count l [32]) l = splitSp [] l
 | n,l,hn=>by
  rcases index_one 32 l with ⟨h1,h2⟩ | ⟨a,r,rfl,h2,h3⟩
  ·rw [Lib.count_miss h1,splitSp_none l [] h2]
   rfl
  ·rw [Lib.count_hit (by simp) h3,splitSp_hit a [] r h2,Nat.add_comm 1]
   unfold Lib.splitK
   rw [h3]
   have hm : ¬ (((a.length : Nat) : Int) == -1) = true:=by rw [beq_iff_eq];omega
   rw [if_neg hm]
   simp only [Int.toNat_natCast,List.length_cons,List.length_nil]
   have e1 : (a ++ 32 :: r).drop (a.length + 1) = r:=by rw [← List.drop_drop];simp
   have e2 : (a ++ 32 :: r).take (a.length + 0) = a:=by simp
   rw [e1,e2]
   cases n with
   | zero=>simp at hn
   | succ n=>rw [split_sp n r (by simp at hn;omega)];rfl
theorem join_sp : ∀ ws : List (List UInt8),Lib.join ws [32] = joinSp ws
 | []=>rfl
 | [x]=>Lib.join_one x [32]
 | x :: y :: t=>by
  have h:=join_sp (y :: t)
  rw [Lib.join_cons] at h ⊢
  simp only [Lib.joinTail,List.map_cons,List.flatten_cons] at h ⊢
  simp only [joinSp]
  rw [← h]
  simp
theorem join_c : ∀ ws : List (List UInt8),Lib.join ws [44] = joinC ws
 | []=>rfl
 | [x]=>Lib.join_one x [44]
 | x :: y :: t=>by
  have h:=join_c (y :: t)
  rw [Lib.join_cons] at h ⊢
  simp only [Lib.joinTail,List.map_cons,List.flatten_cons] at h ⊢
  simp only [joinC]
  rw [← h]
  simp
theorem cutEq_none : ∀ l : List UInt8,(61 : UInt8) ∉ l → cutEq l = none
 | [],_=>rfl
 | c :: t,h=>by
  have hc : ¬ c = 61:=fun e=>h (by simp [e])
  unfold cutEq
  rw [if_neg hc,cutEq_none t (fun hm=>h (by simp [hm]))]
  rfl
theorem cutEq_hit : ∀ a r : List UInt8,(61 : UInt8) ∉ a → cutEq (a ++ 61 :: r) = some (a,r)
 | [],r,_=>by simp [cutEq]
 | c :: t,r,h=>by
  have hc : ¬ c = 61:=fun e=>h (by simp [e])
  rw [List.cons_append]
  unfold cutEq
  rw [if_neg hc,cutEq_hit t r (fun hm=>h (by simp [hm]))]
  rfl
theorem cut_eq (l : List UInt8) : Lib.cut l [61] = match cutEq l with | some (a,r)=>(a,r,true) | none=>(l,[],false):=by
 unfold Lib.cut
 rcases index_one 61 l with ⟨h1,h2⟩ | ⟨a,r,rfl,h2,h3⟩
 ·rw [h1,cutEq_none l h2,if_neg (by omega)]
 ·rw [h3,cutEq_hit a r h2,if_pos (by omega)]
  simp only [Int.toNat_natCast,List.length_cons,List.length_nil]
  rw [← List.drop_drop]
  simp
theorem cmp_lt (a b : List UInt8) : (Lib.compareBytes a b = -1 ∧ ltB a b = true) ∨ (Lib.compareBytes a b = 0 ∧ a = b) ∨ (Lib.compareBytes a b = 1 ∧ ltB b a = true):=by
 induction a generalizing b with
 | nil=>cases b <;> simp [Lib.compareBytes,ltB]
 | cons x s ih=>
  cases b with
  | nil=>simp [Lib.compareBytes,ltB]
  | cons y t=>
   unfold Lib.compareBytes ltB
   by_cases h1 : x.toNat < y.toNat
   ·left
    rw [if_pos (UInt8.lt_iff_toNat_lt.2 h1),if_pos h1];exact ⟨rfl,rfl⟩
   ·by_cases h2 : y.toNat < x.toNat
    ·right;right
     rw [if_neg (fun e=>h1 (UInt8.lt_iff_toNat_lt.1 e)),if_pos (UInt8.lt_iff_toNat_lt.2 h2),if_pos h2];exact ⟨rfl,rfl⟩
    ·rw [if_neg (fun e=>h1 (UInt8.lt_iff_toNat_lt.1 e)),if_neg (fun e=>h2 (UInt8.lt_iff_toNat_lt.1 e)),if_neg h1,if_neg h2,if_neg h2,if_neg h1]
     have e : x = y:=UInt8.toNat_inj.1 (by omega)
     subst e
     rcases ih t with ⟨h3,h4⟩ | ⟨h3,h4⟩ | ⟨h3,h4⟩
     ·exact .inl ⟨h3,h4⟩
     ·exact .inr (.inl ⟨h3,by rw [h4]⟩)
     ·exact .inr (.inr ⟨h3,h4⟩)
theorem idxB_some {l : List UInt8} {c : UInt8} (h : c ∈ l) : ∃ i : Nat,Lib.indexByte l c = i ∧ i < l.length:=by
 induction l with
 | nil=>cases h
 | cons x t ih=>
  unfold Lib.indexByte
  by_cases hx : x = c
  ·exact ⟨0,by simp [hx],by simp⟩
  ·obtain ⟨i,hi,hl⟩:=ih (by rcases List.mem_cons.1 h with e | e;exact absurd e.symm hx;exact e)
   have h2 : ¬ (x == c) = true:=by simpa using hx
   rw [if_neg h2,hi,if_neg (by rw [beq_iff_eq];omega)]
   exact ⟨i + 1,by omega,by simp;omega⟩
theorem idxB_none {l : List UInt8} {c : UInt8} (h : c ∉ l) : Lib.indexByte l c = -1:=by
 induction l with
 | nil=>rfl
 | cons x t ih=>
  have hx : ¬ (x == c) = true:=by rw [beq_iff_eq];intro e;exact h (by simp [e])
  unfold Lib.indexByte
  rw [if_neg hx,ih (fun hm=>h (by simp [hm]))]
  rfl
def digC (c : UInt8) : Bool:=decide (48 ≤ c.toNat) && decide (c.toNat ≤ 57)
def valFrom (acc : Nat) : List UInt8 → Nat
 | []=>acc
 | c :: t=>valFrom (acc * 10 + (c.toNat - 48)) t
theorem digC_iff (c : UInt8) : digC c = true ↔ 48 ≤ c.toNat ∧ c.toNat ≤ 57:=by simp [digC]
theorem valFrom_ge (l : List UInt8) : ∀ acc : Nat,acc ≤ valFrom acc l:=by
 induction l with
 | nil=>intro acc;exact Nat.le_refl _
 | cons c t ih=>
  intro acc
  have h:=ih (acc * 10 + (c.toNat - 48))
  have e : valFrom acc (c :: t) = valFrom (acc * 10 + (c.toNat - 48)) t:=rfl
  rw [e]
  exact Nat.le_trans (by omega) h
theorem valFrom_lt (l : List UInt8) : ∀ acc : Nat,l.all digC = true → valFrom acc l < (acc + 1) * 10 ^ l.length:=by
 induction l with
 | nil=>intro acc _;show acc < (acc + 1) * 1;omega
 | cons c t ih=>
  intro acc h
  simp only [List.all_cons,Bool.and_eq_true] at h
  have h1:=(digC_iff c).1 h.1
  have h2:=ih (acc * 10 + (c.toNat - 48)) h.2
  have e : valFrom acc (c :: t) = valFrom (acc * 10 + (c.toNat - 48)) t:=rfl
  rw [e,List.length_cons,Nat.pow_succ,Nat.mul_comm (10 ^ t.length) 10,← Nat.mul_assoc]
  exact Nat.lt_of_lt_of_le h2 (Nat.mul_le_mul_right _ (by omega))
theorem valFrom_snoc : ∀ (l : List UInt8) (acc : Nat) (c : UInt8),valFrom acc (l ++ [c]) = valFrom acc l * 10 + (c.toNat - 48)
 | [],_,_=>rfl
 | _ :: t,_,c=>valFrom_snoc t _ c
theorem dec_small {u : Nat} (h : u < 10) : Lib.decDigits u = [UInt8.ofNat (48 + u)]:=by unfold Lib.decDigits;rw [dif_pos h]
theorem dec_big {u : Nat} (h : ¬ u < 10) : Lib.decDigits u = Lib.decDigits (u / 10) ++ [UInt8.ofNat (48 + u % 10)]:=by rw [Lib.decDigits,dif_neg h]
theorem parse_okM {M : Nat} (hM : 1000000000000000000 ≤ M) (l : List UInt8) : ∀ acc : Nat,l.all digC = true → valFrom acc l < 1000000000000000000 → Lib.parseUintM M acc l = .ok (valFrom acc l):=by
 induction l with
 | nil=>intro acc _ _;rfl
 | cons c t ih=>
  intro acc h hv
  simp only [List.all_cons,Bool.and_eq_true] at h
  have h1:=(digC_iff c).1 h.1
  have e : valFrom acc (c :: t) = valFrom (acc * 10 + (c.toNat - 48)) t:=rfl
  rw [e] at hv ⊢
  have h2:=valFrom_ge t (acc * 10 + (c.toNat - 48))
  have h3 : acc * 10 + (c.toNat - 48) < 1000000000000000000:=Nat.lt_of_le_of_lt h2 hv
  unfold Lib.parseUintM
  rw [if_pos h1,if_neg (by omega),if_neg (by omega)]
  exact ih _ h.2 hv
theorem parse_ok (l : List UInt8) (acc : Nat) (h : l.all digC = true) (hv : valFrom acc l < 10 ^ 18) : Lib.parseUintM (2 ^ 64 - 1) acc l = .ok (valFrom acc l):=parse_okM (by decide) l acc h hv
def plainD (d : List UInt8) : Prop:=d ≠ [] ∧ d.all digC = true ∧ (d.head? ≠ some 48 ∨ d = [48])
theorem val_pos : ∀ (d : List UInt8),d ≠ [] → d.all digC = true → d.head? ≠ some 48 → 1 ≤ valFrom 0 d
 | [],h,_,_=>absurd rfl h
 | c :: t,_,h,hh=>by
  simp only [List.all_cons,Bool.and_eq_true] at h
  have h1:=(digC_iff c).1 h.1
  have h2:=valFrom_ge t (0 * 10 + (c.toNat - 48))
  have h3 : c.toNat ≠ 48:=fun e=>hh (congrArg some (UInt8.toNat_inj.1 e))
  have e : valFrom 0 (c :: t) = valFrom (0 * 10 + (c.toNat - 48)) t:=rfl
  rw [e]
  exact Nat.le_trans (by omega) h2
theorem digits_val : ∀ (n : Nat) (d : List UInt8),d.length ≤ n → plainD d → Lib.decDigits (valFrom 0 d) = d
 | n,d,hn,⟨h1,h2,h3⟩=>by
  rcases List.eq_nil_or_concat d with e | ⟨e,c,hd⟩
  ·exact absurd e h1
  ·rw [List.concat_eq_append] at hd
   subst hd
   rw [List.all_append,Bool.and_eq_true] at h2
   simp only [List.all_cons,List.all_nil,Bool.and_true] at h2
   have hc:=(digC_iff c).1 h2.2
   rw [valFrom_snoc]
   by_cases he : e = []
   ·subst he
    have e0 : valFrom 0 [] = 0:=rfl
    rw [e0,dec_small (by omega)]
    have : 48 + (0 * 10 + (c.toNat - 48)) = c.toNat:=by omega
    rw [this]
    simp
   ·have hh : e.head? ≠ some 48:=by
     rcases h3 with h3 | h3
     ·cases e with
      | nil=>exact absurd rfl he
      | cons x t=>simpa using h3
     ·cases e with
      | nil=>exact absurd rfl he
      | cons x t=>have:=congrArg List.length h3;simp at this
    have hp:=val_pos e he h2.1 hh
    cases n with
    | zero=>simp at hn
    | succ n=>
     have ih:=digits_val n e (by simp at hn;omega) ⟨he,h2.1,.inl hh⟩
     rw [dec_big (by omega)]
     have e1 : (valFrom 0 e * 10 + (c.toNat - 48)) / 10 = valFrom 0 e:=by omega
     have e2 : 48 + (valFrom 0 e * 10 + (c.toNat - 48)) % 10 = c.toNat:=by omega
     rw [e1,e2,ih]
     simp
theorem dec_plain : ∀ (n u : Nat),u ≤ n → plainD (Lib.decDigits u) ∧ (0 < u → (Lib.decDigits u).head? ≠ some 48)
 | n,u,hn=>by
  by_cases h : u < 10
  ·rw [dec_small h]
   have ht : (UInt8.ofNat (48 + u)).toNat = 48 + u:=by rw [UInt8.toNat_ofNat'];omega
   refine ⟨⟨by simp,by simp [digC,ht];omega,?_⟩,fun h0=>?_⟩
   ·by_cases h0 : u = 0
    ·right;subst h0;rfl
    ·left
     intro e
     injection e with e
     have:=congrArg UInt8.toNat e
     rw [ht] at this
     have e48 : (48 : UInt8).toNat = 48:=rfl
     omega
   ·intro e
    injection e with e
    have:=congrArg UInt8.toNat e
    rw [ht] at this
    have e48 : (48 : UInt8).toNat = 48:=rfl
    omega
  ·rw [dec_big h]
   cases n with
   | zero=>omega
   | succ n=>
    obtain ⟨⟨h1,h2,_⟩,h4⟩:=dec_plain n (u / 10) (by omega)
    have h5:=h4 (by omega)
    have hh : (Lib.decDigits (u / 10) ++ [UInt8.ofNat (48 + u % 10)]).head? ≠ some 48:=by
     cases hd : Lib.decDigits (u / 10) with
     | nil=>exact absurd hd h1
     | cons x t=>rw [hd] at h5;simpa using h5
    have ht : (UInt8.ofNat (48 + u % 10)).toNat = 48 + u % 10:=by rw [UInt8.toNat_ofNat'];omega
    refine ⟨⟨by simp,?_,.inl hh⟩,fun _=>hh⟩
    rw [List.all_append,h2]
    simp [digC,ht]
    omega
def negB (v : List UInt8) : Bool:=decide (v.head? = some 45)
def digsB (v : List UInt8) : List UInt8:=if negB v then v.drop 1 else v
def intV (v : List UInt8) : Int:=if negB v then -(valFrom 0 (digsB v) : Int) else (valFrom 0 (digsB v) : Int)
theorem intB_iff (v : List UInt8) : intB v = true ↔ 1 ≤ (digsB v).length ∧ (digsB v).length ≤ 18 ∧ ¬ ((digsB v).head? = some 48 ∧ (1 < (digsB v).length ∨ negB v = true)) ∧ (digsB v).all digC = true:=by
 have e : intB v = (decide (1 ≤ (digsB v).length) && decide ((digsB v).length ≤ 18) && !(decide ((digsB v).head? = some 48) && (decide (1 < (digsB v).length) || negB v)) && (digsB v).all digC):=rfl
 rw [e]
 simp only [Bool.and_eq_true,decide_eq_true_eq,Bool.not_eq_true',Bool.and_eq_false_iff,decide_eq_false_iff_not,Bool.or_eq_false_iff,and_assoc]
 constructor
 ·rintro ⟨h1,h2,h3,h4⟩
  refine ⟨h1,h2,fun ⟨h5,h6⟩=>?_,h4⟩
  rcases h3 with h3 | ⟨h3,h7⟩
  ·exact h3 h5
  ·rcases h6 with h6 | h6
   ·exact h3 h6
   ·rw [h7] at h6;cases h6
 ·rintro ⟨h1,h2,h3,h4⟩
  refine ⟨h1,h2,?_,h4⟩
  by_cases h5 : (digsB v).head? = some 48
  ·right
   refine ⟨fun h6=>h3 ⟨h5,.inl h6⟩,?_⟩
   cases h7 : negB v with
   | false=>rfl
   | true=>exact absurd ⟨h5,.inr h7⟩ h3
  ·exact .inl h5
theorem intB_plain {v : List UInt8} (h : intB v = true) : plainD (digsB v) ∧ (negB v = true → (digsB v).head? ≠ some 48):=by
 obtain ⟨h1,h2,h3,h4⟩:=(intB_iff v).1 h
 refine ⟨⟨fun e=>by rw [e] at h1;simp at h1,h4,?_⟩,fun hn he=>h3 ⟨he,.inr hn⟩⟩
 by_cases hh : (digsB v).head? = some 48
 ·right
  have hl : ¬ 1 < (digsB v).length:=fun hl=>h3 ⟨hh,.inl hl⟩
  cases hd : digsB v with
  | nil=>rw [hd] at h1;simp at h1
  | cons c t=>
   rw [hd] at hh hl
   cases t with
   | nil=>simp at hh;rw [hh]
   | cons x t=>simp at hl
 ·exact .inl hh
theorem intV_small {v : List UInt8} (h : intB v = true) : valFrom 0 (digsB v) < 10 ^ 18:=by
 obtain ⟨h1,h2,h3,h4⟩:=(intB_iff v).1 h
 have:=valFrom_lt (digsB v) 0 h4
 have h5 : 10 ^ (digsB v).length ≤ 10 ^ 18:=Nat.pow_le_pow_right (by decide) h2
 omega
theorem neg_form {v : List UInt8} (h : negB v = true) : v = 45 :: digsB v:=by
 unfold digsB
 rw [if_pos h]
 unfold negB at h
 rw [decide_eq_true_eq] at h
 cases v with
 | nil=>cases h
 | cons c t=>simp at h;rw [h];rfl
theorem pos_form {v : List UInt8} (h : negB v = false) : digsB v = v:=by unfold digsB;rw [if_neg (by simp [h])]
theorem parse_int {v : List UInt8} (h : intB v = true) : Lib.parseIntB 64 v = .ok (intV v):=by
 obtain ⟨⟨h1,h2,h3⟩,h4⟩:=intB_plain h
 have hs:=intV_small h
 have hp : Lib.parseUintB 64 (digsB v) = .ok (valFrom 0 (digsB v)):=by
  unfold Lib.parseUintB
  rw [if_neg h1]
  exact parse_ok _ 0 h2 hs
 cases hn : negB v with
 | true=>
  have e:=neg_form hn
  have hV : intV v = -(valFrom 0 (digsB v) : Int):=by unfold intV;rw [if_pos hn]
  generalize digsB v = d at *
  subst e
  have c1 : ((45 : UInt8).toNat = 43 ∨ (45 : UInt8).toNat = 45):=by decide
  have c2 : (45 : UInt8).toNat = 45:=by decide
  have c3 : ¬ 2 ^ (64 - 1) < valFrom 0 d:=by omega
  simp only [Lib.parseIntB,if_pos c1]
  simp only [hp,c2,not_true_eq_false,false_and,if_false,true_and,if_true,c3,hV]
 | false=>
  have e:=pos_form hn
  have hV : intV v = (valFrom 0 (digsB v) : Int):=by unfold intV;rw [if_neg (by simp [hn])]
  rw [e] at h1 h2 h3 hs hp hV
  cases v with
  | nil=>exact absurd rfl h1
  | cons c t=>
   simp only [List.all_cons,Bool.and_eq_true] at h2
   have h5:=(digC_iff c).1 h2.1
   have c1 : ¬ (c.toNat = 43 ∨ c.toNat = 45):=by omega
   have c2 : ¬ c.toNat = 45:=by omega
   have c3 : ¬ 2 ^ (64 - 1) ≤ valFrom 0 (c :: t):=by omega
   simp only [Lib.parseIntB,if_neg c1]
   simp only [hp,c2,not_false_eq_true,true_and,false_and,if_false,c3,hV]
theorem itoa_int {v : List UInt8} (h : intB v = true) : Lib.itoa (intV v) = v:=by
 obtain ⟨hp,h4⟩:=intB_plain h
 have hd:=digits_val _ (digsB v) (Nat.le_refl _) hp
 cases hn : negB v with
 | true=>
  have hpos:=val_pos _ hp.1 hp.2.1 (h4 hn)
  have hV : intV v = -(valFrom 0 (digsB v) : Int):=by unfold intV;rw [if_pos hn]
  have hlt : -(valFrom 0 (digsB v) : Int) < 0:=by omega
  unfold Lib.itoa
  rw [hV,if_pos hlt]
  have : (-(valFrom 0 (digsB v) : Int)).natAbs = valFrom 0 (digsB v):=by omega
  rw [this,hd]
  exact (neg_form hn).symm
 | false=>
  have hV : intV v = (valFrom 0 (digsB v) : Int):=by unfold intV;rw [if_neg (by simp [hn])]
  have hlt : ¬ (valFrom 0 (digsB v) : Int) < 0:=by omega
  unfold Lib.itoa
  rw [hV,if_neg hlt,Int.toNat_natCast,hd]
  exact pos_form hn
theorem trim_dash (v : List UInt8) : Lib.trimPrefix v [45] = digsB v:=by
 unfold Lib.trimPrefix Lib.hasPrefix digsB negB
 cases v with
 | nil=>rfl
 | cons c t=>
  by_cases hc : c = 45
  ·subst hc;rfl
  ·have : ¬ (45 : UInt8) = c:=fun e=>hc e.symm
   simp [List.isPrefixOf,hc,this]
theorem int_prog (v : List UInt8) (n : Int) (h1 : Lib.itoa n = v) (h2 : (Lib.trimPrefix v [45]).length ≤ 18) : intB v = true:=by
 rw [trim_dash] at h2
 rw [intB_iff]
 unfold Lib.itoa at h1
 by_cases hn : n < 0
 ·rw [if_pos hn] at h1
  obtain ⟨⟨p1,p2,p3⟩,p4⟩:=dec_plain _ n.natAbs (Nat.le_refl _)
  have hneg : negB v = true:=by rw [← h1];rfl
  have hd : digsB v = Lib.decDigits n.natAbs:=by have h9:=h1.trans (neg_form hneg);injection h9 with _ e;exact e.symm
  rw [hd] at h2 ⊢
  exact ⟨by have:=List.length_pos_iff.2 p1;omega,h2,fun ⟨e,_⟩=>p4 (by omega) e,p2⟩
 ·rw [if_neg hn] at h1
  obtain ⟨⟨p1,p2,p3⟩,p4⟩:=dec_plain _ n.toNat (Nat.le_refl _)
  rw [h1] at p1 p2 p3 p4
  have hneg : negB v = false:=by
   cases hb : negB v with
   | false=>rfl
   | true=>
    have:=neg_form hb
    rw [this] at p2
    simp [digC] at p2
  have hd:=pos_form hneg
  rw [hd] at h2 ⊢
  refine ⟨by have:=List.length_pos_iff.2 p1;omega,h2,?_,p2⟩
  rintro ⟨e,e2 | e2⟩
  ·rcases p3 with p3 | p3
   ·exact p3 e
   ·rw [p3] at e2;simp at e2
  ·rw [hneg] at e2;cases e2
end Go.Proofs.YtahahafhendgoaaGreatDoor
