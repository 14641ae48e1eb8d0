/- Lemmas of the walk that the last text of this claim joins. -/
import Derived.Test.YtlbneoilhapkmaaGreatDoorZ02
import Derived.Lib.Split
import Derived.Lib.Join
import Derived.Lib.ParseIntB
import Derived.Lib.ItoaNum
import Derived.Test.YtlbneoilhapkmaaGreatDoorRows
import Derived.Test.YtlbneoilhapkmaaGreatDoorZ03
import Derived.Laws.CopyRow
import Derived.Laws.Rows
import Derived.Deep.WholeRow
import Derived.Test.YtlbneoilhapkmaaGreatDoorZ04
import Derived.WalkSmall
import Derived.Lib.LaidTab
set_option maxHeartbeats 40000000
set_option linter.unusedVariables false
set_option linter.unusedSimpArgs false
namespace Go.Proofs.YtlbneoilhapkmaaGreatDoor
def typTab : List (List UInt8 × Nat):=
 [([111,98,106,101,99,116,67,108,97,115,115],1),([99,110],1),([111,117],1),([111],1),([100,99],1),([117,105,100],1),
  ([100,101,115,99,114,105,112,116,105,111,110],1),([109,97,105,108],1),([117,115,101,114,80,97,115,115,119,111,114,100],2),([114,101,102],2),
  ([115,101,114,105,97,108,78,117,109,98,101,114],3),([112,111,115,105,116,105,111,110],4),
  ([97,108,105,97,115,101,100,79,98,106,101,99,116,78,97,109,101],5),([109,101,109,98,101,114],5)]
def typeB (n : List UInt8) : List UInt8 × Nat:=(typTab.find? fun p=>lowerB p.1 == lowerB n).getD ([],0)
theorem type_none (n : List UInt8) : (typeB n).1 = [] ↔ (typeB n).2 = 0:=by
 unfold typeB
 cases h : typTab.find? (fun p=>lowerB p.1 == lowerB n) with
 | none=>simp
 | some p=>
  have hm:=List.mem_of_find?_eq_some h
  have hall : ∀ p ∈ typTab,(p.1 = [] ↔ p.2 = 0):=by decide
  simpa using hall p hm
structure Ava where
 type : List UInt8
 val : List UInt8
def cutEq : List UInt8 → Option (List UInt8 × List UInt8)
 | []=>none
 | c :: t=>if c = 61 then some ([],t) else (cutEq t).map fun p=>(c :: p.1,p.2)
def avaB (p : List UInt8) : Option Ava:=
 match cutEq p with
 | none=>none
 | some (a,b)=>if (typeB a).2 = 0 then none else (valueB b).map fun v=>⟨(typeB a).1,v⟩
def ltB : List UInt8 → List UInt8 → Bool
 | [],[]=>false
 | [],_ :: _=>true
 | _ :: _,[]=>false
 | a :: s,b :: t=>if a.toNat < b.toNat then true else if b.toNat < a.toNat then false else ltB s t
def avaOk (a : Ava) : Bool:=decide ((typeB a.type).1 = a.type) && (decide ((typeB a.type).2 = 1) || decide ((typeB a.type).2 = 3)) && (normB (typeB a.type).2 a.val).isSome
def risingB : List Ava → Bool
 | a :: b :: t=>ltB a.type b.type && risingB (b :: t)
 | _=>true
def formedA (l : List Ava) : Bool:=decide (1 ≤ l.length) && decide (l.length ≤ 3) && l.all avaOk && risingB l
def insA (a : Ava) : List Ava → List Ava
 | []=>[a]
 | b :: t=>if ltB b.type a.type then b :: insA a t else a :: b :: t
def sortA (l : List Ava) : List Ava:=l.foldl (fun o a=>insA a o) []
def partB (s : List UInt8) : Option (List Ava):=
 match (splitF 43 [] s).mapM avaB with
 | none=>none
 | some l=>if formedA (sortA l) then some (sortA l) else none
def normA (l : List Ava) : List Ava:=l.map fun a=>⟨a.type,(normB (typeB a.type).2 a.val).getD []⟩
def printF : List Ava → List UInt8
 | []=>[]
 | [a]=>a.type ++ 61 :: writeF true a.val
 | a :: b :: t=>a.type ++ 61 :: writeF true a.val ++ 43 :: printF (b :: t)
def printB (l : List Ava) : List UInt8:=if formedA l then printF l else []
def joinC : List (List UInt8) → List UInt8
 | []=>[]
 | [x]=>x
 | x :: y :: t=>x ++ 44 :: joinC (y :: t)
inductive NameErr where
 | long
 | form
def partsB (s : List UInt8) : Except NameErr (List (List UInt8)):=
 if 1000 < s.length then .error .long
 else if s = [] then .ok []
 else if 12 < (splitF 44 [] s).length then .error .long
 else
  match (splitF 44 [] s).mapM partB with
  | none=>.error .form
  | some l=>
   let texts:=l.map fun p=>printB (normA p)
   if 1000 < (joinC texts).length then .error .long else .ok texts
theorem insA_length (a : Ava) : ∀ l : List Ava,(insA a l).length = l.length + 1
 | []=>rfl
 | b :: t=>by
  unfold insA
  split
  ·simp [insA_length a t]
  ·simp
theorem sortA_length (l : List Ava) : (sortA l).length = l.length:=by
 have h : ∀ (l o : List Ava),(l.foldl (fun o a=>insA a o) o).length = o.length + l.length:=by
  intro l
  induction l with
  | nil=>intro o;simp
  | cons a t ih=>intro o;simp only [List.foldl_cons,ih,insA_length,List.length_cons];omega
 exact (h l []).trans (by simp)
theorem part_few (s : List UInt8) (h : 3 < (splitF 43 [] s).length) : partB s = none:=by
 unfold partB
 cases hm : (splitF 43 [] s).mapM avaB with
 | none=>rfl
 | some l=>
  have hl : l.length = (splitF 43 [] s).length:=by
   have h9 : ∀ (x : List (List UInt8)) (l : List Ava),x.mapM avaB = some l → l.length = x.length:=by
    intro x
    induction x with
    | nil=>intro l h;simp at h;rw [h];rfl
    | cons y t ih=>
     intro l h
     rw [List.mapM_cons] at h
     cases ha : avaB y with
     | none=>rw [ha] at h;cases h
     | some v=>
      rw [ha] at h
      cases hb : t.mapM avaB with
      | none=>rw [hb] at h;cases h
      | some w=>
       rw [hb] at h
       cases h
       simp [ih w hb]
   exact h9 _ l hm
  have hf : formedA (sortA l) = false:=by
   unfold formedA
   rw [decide_eq_false (show ¬ (sortA l).length ≤ 3 by rw [sortA_length];omega)]
   simp
  simp [hf]
theorem ltB_irrefl : ∀ s : List UInt8,ltB s s = false
 | []=>rfl
 | a :: s=>by simp [ltB,ltB_irrefl s]
theorem ltB_asymm : ∀ s t : List UInt8,ltB s t = true → ltB t s = false
 | [],[],h=>by cases h
 | [],_ :: _,_=>rfl
 | _ :: _,[],h=>by cases h
 | a :: s,b :: t,h=>by
  unfold ltB at h ⊢
  by_cases h1 : a.toNat < b.toNat
  ·rw [if_neg (by omega),if_pos h1]
  ·rw [if_neg h1] at h
   by_cases h2 : b.toNat < a.toNat
   ·rw [if_pos h2] at h;cases h
   ·rw [if_neg h2] at h
    rw [if_neg h2,if_neg h1]
    exact ltB_asymm s t h
theorem ltB_tri : ∀ s t : List UInt8,ltB s t = false → ltB t s = false → s = t
 | [],[],_,_=>rfl
 | [],_ :: _,h,_=>by cases h
 | _ :: _,[],_,h=>by cases h
 | a :: s,b :: t,h,k=>by
  unfold ltB at h k
  by_cases h1 : a.toNat < b.toNat
  ·rw [if_pos h1] at h;cases h
  ·by_cases h2 : b.toNat < a.toNat
   ·rw [if_pos h2] at k;cases k
   ·rw [if_neg h1,if_neg h2] at h
    rw [if_neg h2,if_neg h1] at k
    have e : a = b:=UInt8.toNat_inj.1 (by omega)
    rw [e,ltB_tri s t h k]
theorem ltB_trans : ∀ s t u : List UInt8,ltB s t = true → ltB t u = true → ltB s u = true
 | [],[],_,h,_=>by cases h
 | [],_ :: _,[],_,k=>by cases k
 | [],_ :: _,_ :: _,_,_=>rfl
 | _ :: _,[],_,h,_=>by cases h
 | _ :: _,_ :: _,[],_,k=>by cases k
 | a :: s,b :: t,c :: u,h,k=>by
  unfold ltB at h k ⊢
  by_cases h1 : a.toNat < b.toNat
  ·by_cases k1 : b.toNat < c.toNat
   ·rw [if_pos (by omega)]
   ·rw [if_neg k1] at k
    by_cases k2 : c.toNat < b.toNat
    ·rw [if_pos k2] at k;cases k
    ·rw [if_pos (by omega)]
  ·rw [if_neg h1] at h
   by_cases h2 : b.toNat < a.toNat
   ·rw [if_pos h2] at h;cases h
   ·rw [if_neg h2] at h
    by_cases k1 : b.toNat < c.toNat
    ·rw [if_pos (by omega)]
    ·rw [if_neg k1] at k
     by_cases k2 : c.toNat < b.toNat
     ·rw [if_pos k2] at k;cases k
     ·rw [if_neg k2] at k
      rw [if_neg (by omega),if_neg (by omega)]
      exact ltB_trans s t u h k
def sortP : List Ava → List Ava
 | [a,b]=>if ltB b.type a.type then [b,a] else [a,b]
 | [a,b,c]=>
  if ltB b.type a.type then (if ltB c.type a.type then (if ltB c.type b.type then [c,b,a] else [b,c,a]) else [b,a,c])
  else (if ltB c.type b.type then (if ltB c.type a.type then [c,a,b] else [a,c,b]) else [a,b,c])
 | l=>l
theorem formedA_no {l : List Ava} (h : risingB l = false) : formedA l = false:=by simp [formedA,h]
def behindF (l : List Ava) : Option (List Ava):=if formedA l then some l else none
theorem behind_no {l k : List Ava} (h : risingB l = false) (g : risingB k = false) : behindF l = behindF k:=by simp [behindF,formedA_no h,formedA_no g]
theorem ways (a b : Ava) : (ltB a.type b.type = true ∧ ltB b.type a.type = false) ∨ (ltB a.type b.type = false ∧ ltB b.type a.type = true) ∨ a.type = b.type:=by
 cases h : ltB a.type b.type
 ·cases g : ltB b.type a.type
  ·exact .inr (.inr (ltB_tri _ _ h g))
  ·exact .inr (.inl ⟨rfl,rfl⟩)
 ·exact .inl ⟨rfl,ltB_asymm _ _ h⟩
theorem sortP_same (l : List Ava) (h : l.length ≤ 3) : behindF (sortP l) = behindF (sortA l):=by
 match l,h with
 | [],_=>rfl
 | [a],_=>rfl
 | [a,b],_=>
  rcases ways a b with ⟨h1,h2⟩ | ⟨h1,h2⟩ | h1
  ·simp [sortP,sortA,insA,h1,h2]
  ·simp [sortP,sortA,insA,h1,h2]
  ·refine behind_no ?_ ?_ <;> simp [sortP,sortA,insA,h1,ltB_irrefl,risingB]
 | [a,b,c],_=>
  rcases ways a b with ⟨h1,h2⟩ | ⟨h1,h2⟩ | h1 <;> rcases ways b c with ⟨h3,h4⟩ | ⟨h3,h4⟩ | h3 <;> rcases ways a c with ⟨h5,h6⟩ | ⟨h5,h6⟩ | h5 <;>
   first
    | (have h9:=ltB_trans _ _ _ h1 h3;rw [h9] at h5;exact absurd h5 (by decide))
    | (have h9:=ltB_trans _ _ _ h2 h5;rw [h9] at h3;exact absurd h3 (by decide))
    | (have h9:=ltB_trans _ _ _ h4 h2;rw [h9] at h6;exact absurd h6 (by decide))
    | (simp [sortP,sortA,insA,h1,h2,h3,h4,h5,h6];done)
    | (refine behind_no ?_ ?_ <;> (simp [sortP,sortA,insA,risingB,ltB_irrefl, *];done))
    | (exfalso;simp_all [ltB_irrefl];done)
theorem first_mem {c : UInt8} : ∀ {l : List UInt8},c ∈ l → ∃ a r,l = a ++ c :: r ∧ c ∉ a
 | [],h=>by cases h
 | x :: t,h=>by
  by_cases hx : x = c
  ·exact ⟨[],t,by rw [hx];rfl,by simp⟩
  ·obtain ⟨a,r,e,hn⟩:=first_mem (c:=c) (l:=t) (by rcases List.mem_cons.1 h with e | e;exact absurd e.symm hx;exact e)
   exact ⟨x :: a,r,by rw [e];rfl,by simp [hn,Ne.symm hx]⟩
theorem index_one (c : UInt8) (l : List UInt8) : (Lib.index l [c] = -1 ∧ c ∉ l) ∨ (∃ a r,l = a ++ c :: r ∧ c ∉ a ∧ Lib.index l [c] = a.length):=by
 by_cases h : c ∈ l
 ·right
  obtain ⟨a,r,rfl,hn⟩:=first_mem h
  refine ⟨a,r,rfl,hn,?_⟩
  refine Lib.index_first (by simp) (by simp [Lib.occAt]) fun j hj=>?_
  have hne : ((a ++ c :: r).drop j).head? ≠ some c:=by
   rw [List.head?_drop,List.getElem?_append_left hj,List.getElem?_eq_getElem hj]
   intro e
   injection e with e
   exact hn (e ▸ List.getElem_mem hj)
  unfold Lib.occAt
  cases hd : (a ++ c :: r).drop j with
  | nil=>rfl
  | cons x t=>
   rw [hd] at hne
   have hx : ¬ c = x:=fun e=>hne (by simp [e])
   simp [List.isPrefixOf,hx]
 ·left
  refine ⟨Lib.index_none fun j _=>?_,h⟩
  unfold Lib.occAt
  cases hd : l.drop j with
  | nil=>rfl
  | cons x t=>
   have hx : ¬ c = x:=fun e=>h (List.mem_of_mem_drop (i:=j) (by rw [hd,e];simp))
   simp [List.isPrefixOf,hx]
theorem splitSp_none : ∀ (l cur : List UInt8),(32 : UInt8) ∉ l → splitSp cur l = [cur ++ l]
 | [],cur,_=>by simp [splitSp]
 | c :: t,cur,h=>by
  have hc : ¬ c = 32:=fun e=>h (by simp [e])
  unfold splitSp
  rw [if_neg hc,splitSp_none t _ (fun hm=>h (by simp [hm]))]
  simp
theorem splitSp_hit : ∀ (a cur r : List UInt8),(32 : UInt8) ∉ a → splitSp cur (a ++ 32 :: r) = (cur ++ a) :: splitSp [] r
 | [],cur,r,_=>by simp [splitSp]
 | c :: t,cur,r,h=>by
  have hc : ¬ c = 32:=fun e=>h (by simp [e])
  rw [List.cons_append]
  rw [splitSp,if_neg hc,splitSp_hit t _ r (fun hm=>h (by simp [hm]))]
  simp
theorem split_sp : ∀ (n : Nat) (l : List UInt8),l.length ≤ n → Lib.splitK [32] 0 (Lib.count l [32]) l = splitSp [] l
 | n,l,hn=>by
  rcases index_one 32 l with ⟨h1,h2⟩ | ⟨a,r,rfl,h2,h3⟩
  ·rw [Lib.count_miss h1,splitSp_none l [] h2]
   rfl
  ·rw [Lib.count_hit (by simp) h3,splitSp_hit a [] r h2,Nat.add_comm 1]
   unfold Lib.splitK
   rw [h3]
   have hm : ¬ (((a.length : Nat) : Int) == -1) = true:=by rw [beq_iff_eq];omega
   rw [if_neg hm]
   simp only [Int.toNat_natCast,List.length_cons,List.length_nil]
   have e1 : (a ++ 32 :: r).drop (a.length + 1) = r:=by rw [← List.drop_drop];simp
   have e2 : (a ++ 32 :: r).take (a.length + 0) = a:=by simp
   rw [e1,e2]
   cases n with
   | zero=>simp at hn
   | succ n=>rw [split_sp n r (by simp at hn;omega)];rfl
theorem join_sp : ∀ ws : List (List UInt8),Lib.join ws [32] = joinSp ws
 | []=>rfl
 | [x]=>Lib.join_one x [32]
 | x :: y :: t=>by
  have h:=join_sp (y :: t)
  rw [Lib.join_cons] at h ⊢
  simp only [Lib.joinTail,List.map_cons,List.flatten_cons] at h ⊢
  simp only [joinSp]
  rw [← h]
  simp
theorem join_c : ∀ ws : List (List UInt8),Lib.join ws [44] = joinC ws
 | []=>rfl
 | [x]=>Lib.join_one x [44]
 | x :: y :: t=>by
  have h:=join_c (y :: t)
  rw [Lib.join_cons] at h ⊢
  simp only [Lib.joinTail,List.map_cons,List.flatten_cons] at h ⊢
  simp only [joinC]
  rw [← h]
  simp
theorem cutEq_none : ∀ l : List UInt8,(61 : UInt8) ∉ l → cutEq l = none
 | [],_=>rfl
 | c :: t,h=>by
  have hc : ¬ c = 61:=fun e=>h (by simp [e])
  unfold cutEq
  rw [if_neg hc,cutEq_none t (fun hm=>h (by simp [hm]))]
  rfl
theorem cutEq_hit : ∀ a r : List UInt8,(61 : UInt8) ∉ a → cutEq (a ++ 61 :: r) = some (a,r)
 | [],r,_=>by simp [cutEq]
 | c :: t,r,h=>by
  have hc : ¬ c = 61:=fun e=>h (by simp [e])
  rw [List.cons_append]
  unfold cutEq
  rw [if_neg hc,cutEq_hit t r (fun hm=>h (by simp [hm]))]
  rfl
theorem cut_eq (l : List UInt8) : Lib.cut l [61] = match cutEq l with | some (a,r)=>(a,r,true) | none=>(l,[],false):=by
 unfold Lib.cut
 rcases index_one 61 l with ⟨h1,h2⟩ | ⟨a,r,rfl,h2,h3⟩
 ·rw [h1,cutEq_none l h2,if_neg (by omega)]
 ·rw [h3,cutEq_hit a r h2,if_pos (by omega)]
  simp only [Int.toNat_natCast,List.length_cons,List.length_nil]
  rw [← List.drop_drop]
  simp
theorem cmp_lt (a b : List UInt8) : (Lib.compareBytes a b = -1 ∧ ltB a b = true) ∨ (Lib.compareBytes a b = 0 ∧ a = b) ∨ (Lib.compareBytes a b = 1 ∧ ltB b a = true):=by
 induction a generalizing b with
 | nil=>cases b <;> simp [Lib.compareBytes,ltB]
 | cons x s ih=>
  cases b with
  | nil=>simp [Lib.compareBytes,ltB]
  | cons y t=>
   unfold Lib.compareBytes ltB
   by_cases h1 : x.toNat < y.toNat
   ·left
    rw [if_pos (UInt8.lt_iff_toNat_lt.2 h1),if_pos h1];exact ⟨rfl,rfl⟩
   ·by_cases h2 : y.toNat < x.toNat
    ·right;right
     rw [if_neg (fun e=>h1 (UInt8.lt_iff_toNat_lt.1 e)),if_pos (UInt8.lt_iff_toNat_lt.2 h2),if_pos h2];exact ⟨rfl,rfl⟩
    ·rw [if_neg (fun e=>h1 (UInt8.lt_iff_toNat_lt.1 e)),if_neg (fun e=>h2 (UInt8.lt_iff_toNat_lt.1 e)),if_neg h1,if_neg h2,if_neg h2,if_neg h1]
     have e : x = y:=UInt8.toNat_inj.1 (by omega)
     subst e
     rcases ih t with ⟨h3,h4⟩ | ⟨h3,h4⟩ | ⟨h3,h4⟩
     ·exact .inl ⟨h3,h4⟩
     ·exact .inr (.inl ⟨h3,by rw [h4]⟩)
     ·exact .inr (.inr ⟨h3,h4⟩)
theorem idxB_some {l : List UInt8} {c : UInt8} (h : c ∈ l) : ∃ i : Nat,Lib.indexByte l c = i ∧ i < l.length:=by
 induction l with
 | nil=>cases h
 | cons x t ih=>
  unfold Lib.indexByte
  by_cases hx : x = c
  ·exact ⟨0,by simp [hx],by simp⟩
  ·obtain ⟨i,hi,hl⟩:=ih (by rcases List.mem_cons.1 h with e | e;exact absurd e.symm hx;exact e)
   have h2 : ¬ (x == c) = true:=by simpa using hx
   rw [if_neg h2,hi,if_neg (by rw [beq_iff_eq];omega)]
   exact ⟨i + 1,by omega,by simp;omega⟩
theorem idxB_none {l : List UInt8} {c : UInt8} (h : c ∉ l) : Lib.indexByte l c = -1:=by
 induction l with
 | nil=>rfl
 | cons x t ih=>
  have hx : ¬ (x == c) = true:=by rw [beq_iff_eq];intro e;exact h (by simp [e])
  unfold Lib.indexByte
  rw [if_neg hx,ih (fun hm=>h (by simp [hm]))]
  rfl
end Go.Proofs.YtlbneoilhapkmaaGreatDoor
namespace Go.Proofs.YtlbneoilhapkmaaGreatDoor
open Go.RowKit
def Same (S : Nat → Prop) (w w' : World) : Prop:=∀ b,S b → w'.heap[b]? = w.heap[b]?
theorem Same.refl (S : Nat → Prop) (w : World) : Same S w w:=fun _ _=>rfl
theorem Same.trans {S : Nat → Prop} {a b c : World} (h : Same S a b) (k : Same S b c) : Same S a c:=fun x hx=>(k x hx).trans (h x hx)
theorem Same.mono {S T : Nat → Prop} {a b : World} (h : Same S a b) (hs : ∀ x,T x → S x) : Same T a b:=fun x hx=>h x (hs x hx)
def CellsIn (S : Nat → Prop) (w : World) (A : Option Addr) (vs : List Value) : Prop:=
 vs = [] ∨ ∃ b off,A = some ⟨b,off,none⟩ ∧ S b ∧ ∀ j u,vs[j]? = some u → w.cell? ⟨b,off + j,none⟩ = some u
section
variable {S T : Nat → Prop} {w w' : World} {A : Option Addr} {vs : List Value}
theorem CellsIn.cells (h : CellsIn S w A vs) : Cells w A vs:=by
 rcases h with h | ⟨b,off,hA,_,hc⟩
 ·exact .inl h
 ·exact .inr ⟨b,off,hA,hc⟩
theorem CellsIn.same (h : CellsIn S w A vs) (hk : Same S w w') : CellsIn S w' A vs:=by
 rcases h with h | ⟨b,off,hA,hS,hc⟩
 ·exact .inl h
 ·exact .inr ⟨b,off,hA,hS,fun j u hj=>by rw [World.cell?_of_block (hk b hS)];exact hc j u hj⟩
theorem CellsIn.mono (h : CellsIn S w A vs) (hs : ∀ x,x < w.heap.size → S x → T x) : CellsIn T w A vs:=by
 rcases h with h | ⟨b,off,hA,hS,hc⟩
 ·exact .inl h
 ·rcases vs with _ | ⟨u,vs⟩
  ·exact .inl rfl
  ·exact .inr ⟨b,off,hA,hs b (by have:=World.block_lt_of_cell? w _ (hc 0 u rfl);simpa using this) hS,hc⟩
end
structure Elem (α : Type) where
 k : Nat
 pos : 0 < k
 R : (Nat → Prop) → World → List Value → α → Prop
 len : ∀ {S w v x},R S w v x → v.length = k
 same : ∀ {S w w' v x},R S w v x → Same S w w' → R S w' v x
 mono : ∀ {S T w v x},R S w v x → (∀ b,b < w.heap.size → S b → T b) → R T w v x
structure Row {α : Type} (E : Elem α) (S : Nat → Prop) (w : World) (A : Option Addr) (n c : Nat) (l : List α) : Prop where
 len : n = l.length
 cap : n ≤ c
 most : c ≤ maxLen
 rows : ∃ vss : List (List Value),vss.length = n ∧ CellsIn S w A vss.flatten ∧ ∀ (i : Nat) v x,vss[i]? = some v → l[i]? = some x → E.R S w v x
theorem flatten_at {k : Nat} : ∀ {vss : List (List Value)},(∀ v ∈ vss,v.length = k) → ∀ {i j : Nat} {v : List Value} {u : Value},vss[i]? = some v → v[j]? = some u → vss.flatten[i * k + j]? = some u
 | [],_,i,j,v,u,hi,_=>by simp at hi
 | v0 :: vss,hl,0,j,v,u,hi,hj=>by
  simp at hi;subst hi
  rw [Nat.zero_mul,Nat.zero_add,List.flatten_cons,List.getElem?_append_left (List.getElem?_eq_some_iff.1 hj).1];exact hj
 | v0 :: vss,hl,i + 1,j,v,u,hi,hj=>by
  have h0:=hl v0 (by simp)
  rw [List.flatten_cons,List.getElem?_append_right (by rw [h0,Nat.succ_mul];omega),h0]
  have : (i + 1) * k + j - k = i * k + j:=by rw [Nat.succ_mul];omega
  rw [this]
  exact flatten_at (fun v hv=>hl v (by simp [hv])) (by simpa using hi) hj
section
variable {α : Type} {E : Elem α} {S T : Nat → Prop} {w w' : World} {A : Option Addr} {n c : Nat} {l : List α}
theorem Row.nil (E : Elem α) (S : Nat → Prop) (w : World) : Row E S w none 0 0 []:=⟨rfl,Nat.le_refl _,by simp [maxLen],[],rfl,.inl rfl,fun i v x h=>by simp at h⟩
theorem Row.same (h : Row E S w A n c l) (hk : Same S w w') : Row E S w' A n c l:=by
 obtain ⟨h1,h2,h3,vss,h4,h5,h6⟩:=h
 exact ⟨h1,h2,h3,vss,h4,h5.same hk,fun i v x hi hx=>E.same (h6 i v x hi hx) hk⟩
theorem Row.mono (h : Row E S w A n c l) (hs : ∀ x,x < w.heap.size → S x → T x) : Row E T w A n c l:=by
 obtain ⟨h1,h2,h3,vss,h4,h5,h6⟩:=h
 exact ⟨h1,h2,h3,vss,h4,h5.mono hs,fun i v x hi hx=>E.mono (h6 i v x hi hx) hs⟩
theorem Row.lt (h : Row E S w A n c l) : Row E (fun b=>S b ∧ b < w.heap.size) w A n c l:=h.mono fun _ hx hs=>⟨hs,hx⟩
theorem Row.ext (h : Row E S w A n c l) (hx : Ext w w') : Row E S w' A n c l:=
 (h.lt.same fun b hb=>hx.block b hb.2).mono fun _ _ hs=>hs.1
theorem Row.at_ (h : Row E S w A n c l) {i : Nat} (hi : i < n) :
 ∃ b off v x,A = some ⟨b,off,none⟩ ∧ l[i]? = some x ∧ v.length = E.k ∧ E.R S w v x ∧ ∀ (j : Nat) u,v[j]? = some u → w.cell? ⟨b,off + i * E.k + j,none⟩ = some u:=by
 obtain ⟨h1,h2,h3,vss,h4,h5,h6⟩:=h
 have hv : vss[i]? = some vss[i]:=List.getElem?_eq_getElem (by omega)
 have hx : l[i]? = some l[i]:=List.getElem?_eq_getElem (by omega)
 have hR:=h6 i _ _ hv hx
 have hlen:=E.len hR
 have hall : ∀ v ∈ vss,v.length = E.k:=by
  intro v hv
  obtain ⟨j,hj,rfl⟩:=List.mem_iff_getElem.1 hv
  exact E.len (h6 j vss[j] (l[j]'(by omega)) (List.getElem?_eq_getElem hj) (List.getElem?_eq_getElem (by omega)))
 have hf : ∀ (j : Nat) u,vss[i][j]? = some u → vss.flatten[i * E.k + j]? = some u:=fun j u hj=>flatten_at hall hv hj
 rcases h5 with h5 | ⟨b,off,hA,hS,hc⟩
 ·have h0:=hf 0 _ (List.getElem?_eq_getElem (show 0 < vss[i].length by rw [hlen];exact E.pos))
  rw [h5] at h0
  cases h0
 ·exact ⟨b,off,vss[i],l[i],hA,hx,hlen,hR,fun j u hj=>by rw [Nat.add_assoc];exact hc _ u (hf j u hj)⟩
theorem Row.nil_iff (h : Row E S w A n c l) : n = 0 ↔ l = []:=by rw [h.len];exact List.length_eq_zero_iff
end
theorem box_a (w : World) (cs : Array Value) (t : TypeId) (j : Nat) : (w.alloc (.cells cs t)).cell? ⟨w.heap.size,j,none⟩ = cs[j]?:=by
 rw [cell_of_row _ _ j cs t (0,0) (heap_alloc_new w _)]
def Elem.str : Elem ByteArray:=⟨1,by decide,fun _ _ v x=>v = [.string x],fun h=>by rw [h];rfl,fun h _=>h,fun h _=>h⟩
def Elem.slc {α : Type} (E : Elem α) : Elem (List α):=
 ⟨1,by decide,fun S w v l=>∃ A n c,v = [.slice A n c] ∧ Row E S w A n c l,fun ⟨_,_,_,h,_⟩=>by rw [h];rfl,fun ⟨A,n,c,h,hr⟩ hk=>⟨A,n,c,h,hr.same hk⟩,fun ⟨A,n,c,h,hr⟩ hs=>⟨A,n,c,h,hr.mono hs⟩⟩
structure Att where
 type : ByteArray
 vals : List ByteArray
def Elem.att : Elem Att:=
 ⟨2,by decide,fun S w v a=>∃ A n c,v = [.string a.type,.slice A n c] ∧ Row Elem.str S w A n c a.vals,fun ⟨_,_,_,h,_⟩=>by rw [h];rfl,fun ⟨A,n,c,h,hr⟩ hk=>⟨A,n,c,h,hr.same hk⟩,fun ⟨A,n,c,h,hr⟩ hs=>⟨A,n,c,h,hr.mono hs⟩⟩
theorem Row.one {α : Type} {E : Elem α} {S : Nat → Prop} {w : World} {v : List Value} {x : α} (h : E.R S w v x) (t : TypeId) :
 Row E (fun _=>True) (w.alloc (.cells v.toArray t)) (some ⟨w.heap.size,0,none⟩) 1 1 [x]:=by
 have hx : Ext w (w.alloc (.cells v.toArray t)):=Ext.alloc _ _
 refine ⟨rfl,Nat.le_refl _,by simp [maxLen],[v],rfl,.inr ⟨w.heap.size,0,rfl,trivial,fun j u hj=>?_⟩,fun i v' x' hi hx'=>?_⟩
 ·rw [Nat.zero_add,cell_of_row _ _ j v.toArray t (0,0) (heap_alloc_new w _)]
  simpa using hj
 ·rcases i with _ | i
  ·simp at hi hx'
   subst hi hx'
   have h1 : E.R (fun b=>b < w.heap.size) w v x:=E.mono h fun b hb _=>hb
   exact E.mono (E.same h1 fun b hb=>hx.block b hb) fun _ _ _=>trivial
  ·simp at hi
theorem str_eq {a b : ByteArray} (h : a = b) : (a.toList == b.toList) = true:=by rw [h];exact beq_self_eq_true _
theorem str_ne {a b : ByteArray} (h : ¬ a = b) : (a.toList == b.toList) = false:=by
 rw [beq_eq_false_iff_ne]
 intro e
 rw [ByteArray.toList_eq,ByteArray.toList_eq] at e
 obtain ⟨⟨a⟩⟩:=a
 obtain ⟨⟨b⟩⟩:=b
 exact h (by simp at e;rw [e])
theorem Row.str_cell {S : Nat → Prop} {w : World} {A : Option Addr} {n c : Nat} {l : List ByteArray} (h : Row Elem.str S w A n c l) (hn : 0 < n) :
 ∃ b off,A = some ⟨b,off,none⟩ ∧ ∀ i,i < n → w.cell? ⟨b,off + i,none⟩ = some (.string (l[i]?.getD ByteArray.empty)):=by
 obtain ⟨b,off,v,x,hA,_⟩:=h.at_ hn
 refine ⟨b,off,hA,fun i hi=>?_⟩
 obtain ⟨b',off',v,x,hA',hx,_,hR,hc⟩:=h.at_ hi
 rw [hA] at hA'
 injection hA' with e
 injection e with e1 e2
 subst e1 e2
 have hv : v = [.string x]:=hR
 subst hv
 have:=hc 0 _ rfl
 rw [hx]
 simpa [Elem.str] using this
end Go.Proofs.YtlbneoilhapkmaaGreatDoor
namespace Go.Proofs.YtlbneoilhapkmaaGreatDoor
open Go.RowKit
set_option maxRecDepth 100000
theorem lit_str (w : World) (xs : List ByteArray) (t : TypeId) (hm : xs.length ≤ maxLen) :
 Row Elem.str (fun _=>True) (w.alloc (.cells (xs.map .string).toArray t)) (some ⟨w.heap.size,0,none⟩) xs.length xs.length xs:=by
 refine ⟨rfl,Nat.le_refl _,hm,xs.map fun x=>[.string x],by simp,.inr ⟨w.heap.size,0,rfl,trivial,fun j u hj=>?_⟩,fun i v x hi hx=>?_⟩
 ·rw [Nat.zero_add,box_a]
  have e : ∀ l : List ByteArray,(l.map fun x=>[Value.string x]).flatten = l.map .string:=fun l=>by
   induction l with
   | nil=>rfl
   | cons x t ih=>simp only [List.map_cons,List.flatten_cons,ih];rfl
  rw [e] at hj
  simpa using hj
 ·rw [List.getElem?_map,hx] at hi
  simpa [Elem.str] using hi.symm
theorem lit_slc {α : Type} {E : Elem α} (w : World) (vs : List Value) (xs : List (List α)) (t : TypeId) (hm : xs.length ≤ maxLen) (hl : vs.length = xs.length)
 (h : ∀ (i : Nat) v x,vs[i]? = some v → xs[i]? = some x → ∃ A n c,v = .slice A n c ∧ Row E (fun _=>True) w A n c x) :
 Row (Elem.slc E) (fun _=>True) (w.alloc (.cells vs.toArray t)) (some ⟨w.heap.size,0,none⟩) xs.length xs.length xs:=by
 refine ⟨rfl,Nat.le_refl _,hm,vs.map fun v=>[v],by simpa using hl,.inr ⟨w.heap.size,0,rfl,trivial,fun j u hj=>?_⟩,fun i v x hi hx=>?_⟩
 ·rw [Nat.zero_add,box_a]
  have e : ∀ l : List Value,(l.map fun x=>[x]).flatten = l:=fun l=>by
   induction l with
   | nil=>rfl
   | cons x t ih=>simp only [List.map_cons,List.flatten_cons,ih];rfl
  rw [e] at hj
  simpa using hj
 ·rw [List.getElem?_map] at hi
  obtain ⟨v',hv,rfl⟩:=Option.map_eq_some_iff.1 hi
  obtain ⟨A,n,c,rfl,hr⟩:=h i v' x hv hx
  exact ⟨A,n,c,rfl,hr.ext (Ext.alloc _ _)⟩
def typRows : List (List (List UInt8)):=
 [[],[[111,98,106,101,99,116,67,108,97,115,115],[99,110],[111,117],[111],[100,99],[117,105,100],[100,101,115,99,114,105,112,116,105,111,110],[109,97,105,108]],
  [[117,115,101,114,80,97,115,115,119,111,114,100],[114,101,102]],[[115,101,114,105,97,108,78,117,109,98,101,114]],[[112,111,115,105,116,105,111,110]],
  [[97,108,105,97,115,101,100,79,98,106,101,99,116,78,97,109,101],[109,101,109,98,101,114]]]
def rowAt (i : Nat) : List (List UInt8):=typRows[i]?.getD []
def preT (i j : Nat) : List (List UInt8 × Nat):=((List.range i).flatMap fun k=>(rowAt k).map (·,k)) ++ ((rowAt i).take j).map (·,i)
def noneT (n : List UInt8) (i j : Nat) : Prop:=∀ q ∈ preT i j,¬ lowerB q.1 = lowerB n
theorem noneT_row {n : List UInt8} {i : Nat} (h : noneT n i (rowAt i).length) : noneT n (i + 1) 0:=by
 intro q hq
 refine h q ?_
 simp only [preT,List.take_length,List.range_succ,List.flatMap_append,List.flatMap_cons,List.flatMap_nil,List.append_nil,List.take_zero,List.map_nil] at hq ⊢
 exact hq
theorem noneT_next {n x : List UInt8} {i j : Nat} (h : noneT n i j) (hx : (rowAt i)[j]? = some x) (hn : ¬ lowerB x = lowerB n) : noneT n i (j + 1):=by
 intro q hq
 simp only [preT,List.take_add_one,hx,Option.toList_some,List.map_append,← List.append_assoc] at hq
 rcases List.mem_append.1 hq with hq | hq
 ·exact h q hq
 ·simp at hq;subst hq;exact hn
theorem typ_none {n : List UInt8} (h : noneT n 6 0) : typeB n = ([],0):=by
 have e : preT 6 0 = typTab:=by decide
 unfold noneT at h
 rw [e] at h
 unfold typeB
 rw [List.find?_eq_none.2 (fun q hq=>by simpa using h q hq)]
 rfl
theorem typ_hit {n x : List UInt8} {i j : Nat} (hi : i < 6) (h : noneT n i j) (hx : (rowAt i)[j]? = some x) (he : lowerB x = lowerB n) : typeB n = (x,i):=by
 have hj : j < 8:=by
  have h1:=(List.getElem?_eq_some_iff.1 hx).1
  have h2 : ∀ i < 6,(rowAt i).length ≤ 8:=by decide
  have:=h2 i hi
  omega
 have hall : ∀ i < 6,∀ j < 8,∀ x ∈ (rowAt i)[j]?,typTab = preT i j ++ (x,i) :: typTab.drop ((preT i j).length + 1):=by decide
 unfold typeB
 rw [hall i hi j hj x (by rw [hx];rfl),List.find?_append,List.find?_eq_none.2 (fun q hq=>by simpa using h q hq)]
 simp [he]
abbrev strs (l : List (List UInt8)) : List ByteArray:=l.map str
theorem strs_at {l : List (List UInt8)} {j : Nat} {x : ByteArray} (h : (strs l)[j]? = some x) : l[j]? = some (bys x):=by
 rw [List.getElem?_map] at h
 obtain ⟨y,hy,rfl⟩:=Option.map_eq_some_iff.1 h
 rw [hy,bys_str]
theorem row_small {i j : Nat} {x : List UInt8} (hi : i < 6) (hx : (rowAt i)[j]? = some x) : x.length ≤ 100:=by
 have hall : ∀ i < 6,∀ x ∈ rowAt i,x.length ≤ 100:=by decide
 exact hall i hi x (List.mem_of_getElem? hx)
theorem typ_rows_at {i : Nat} {x : List ByteArray} (h : (typRows.map strs)[i]? = some x) : x = strs (rowAt i):=by
 rw [List.getElem?_map] at h
 obtain ⟨y,hy,rfl⟩:=Option.map_eq_some_iff.1 h
 unfold rowAt
 rw [hy]
 rfl
theorem typ_start (w : World) (t u : TypeId) : Row (Elem.slc Elem.str) (fun _=>True)
 ((((((w.alloc (.cells ((strs (rowAt 1)).map .string).toArray t)).alloc (.cells ((strs (rowAt 2)).map .string).toArray t)).alloc (.cells ((strs (rowAt 3)).map .string).toArray t)).alloc (.cells ((strs (rowAt 4)).map .string).toArray t)).alloc (.cells ((strs (rowAt 5)).map .string).toArray t)).alloc
   (.cells #[.slice none 0 0,.slice (some ⟨w.heap.size,0,none⟩) 8 8,.slice (some ⟨w.heap.size + 1,0,none⟩) 2 2,.slice (some ⟨w.heap.size + 2,0,none⟩) 1 1,.slice (some ⟨w.heap.size + 3,0,none⟩) 1 1,.slice (some ⟨w.heap.size + 4,0,none⟩) 2 2] u))
 (some ⟨w.heap.size + 5,0,none⟩) 6 6 (typRows.map strs):=by
 have h1:=lit_str w (strs (rowAt 1)) t (by decide)
 generalize hw1 : w.alloc (.cells ((strs (rowAt 1)).map .string).toArray t) = w1 at *
 have z1 : w1.heap.size = w.heap.size + 1:=by rw [← hw1];simp
 have h2:=lit_str w1 (strs (rowAt 2)) t (by decide)
 have x1:=Ext.alloc w1 (.cells ((strs (rowAt 2)).map .string).toArray t)
 generalize hw2 : w1.alloc (.cells ((strs (rowAt 2)).map .string).toArray t) = w2 at *
 have z2 : w2.heap.size = w.heap.size + 2:=by rw [← hw2];simp [z1]
 have h3:=lit_str w2 (strs (rowAt 3)) t (by decide)
 have x2:=Ext.alloc w2 (.cells ((strs (rowAt 3)).map .string).toArray t)
 generalize hw3 : w2.alloc (.cells ((strs (rowAt 3)).map .string).toArray t) = w3 at *
 have z3 : w3.heap.size = w.heap.size + 3:=by rw [← hw3];simp [z2]
 have h4:=lit_str w3 (strs (rowAt 4)) t (by decide)
 have x3:=Ext.alloc w3 (.cells ((strs (rowAt 4)).map .string).toArray t)
 generalize hw4 : w3.alloc (.cells ((strs (rowAt 4)).map .string).toArray t) = w4 at *
 have z4 : w4.heap.size = w.heap.size + 4:=by rw [← hw4];simp [z3]
 have h5:=lit_str w4 (strs (rowAt 5)) t (by decide)
 have x4:=Ext.alloc w4 (.cells ((strs (rowAt 5)).map .string).toArray t)
 generalize hw5 : w4.alloc (.cells ((strs (rowAt 5)).map .string).toArray t) = w5 at *
 have z5 : w5.heap.size = w.heap.size + 5:=by rw [← hw5];simp [z4]
 have r1:=h1.ext (x1.trans (x2.trans (x3.trans x4)))
 have r2:=h2.ext (x2.trans (x3.trans x4))
 have r3:=h3.ext (x3.trans x4)
 have r4:=h4.ext x4
 rw [z1] at r2
 rw [z2] at r3
 rw [z3] at r4
 rw [z4] at h5
 have:=lit_slc (E:=Elem.str) w5 [.slice none 0 0,.slice (some ⟨w.heap.size,0,none⟩) 8 8,.slice (some ⟨w.heap.size + 1,0,none⟩) 2 2,.slice (some ⟨w.heap.size + 2,0,none⟩) 1 1,.slice (some ⟨w.heap.size + 3,0,none⟩) 1 1,.slice (some ⟨w.heap.size + 4,0,none⟩) 2 2] (typRows.map strs) u (by decide) rfl ?_
 ·rw [z5] at this
  exact this
 ·intro i v x hi hx
  rw [typ_rows_at hx]
  have hl:=(List.getElem?_eq_some_iff.1 hi).1
  simp only [List.length_cons,List.length_nil] at hl
  rcases i with _ | _ | _ | _ | _ | _ | i
  ·simp at hi;subst hi;exact ⟨_,_,_,rfl,Row.nil _ _ _⟩
  ·simp at hi;subst hi;exact ⟨_,_,_,rfl,r1⟩
  ·simp at hi;subst hi;exact ⟨_,_,_,rfl,r2⟩
  ·simp at hi;subst hi;exact ⟨_,_,_,rfl,r3⟩
  ·simp at hi;subst hi;exact ⟨_,_,_,rfl,r4⟩
  ·simp at hi;subst hi;exact ⟨_,_,_,rfl,h5⟩
  ·omega
def TypeSays (w : World) (n : List UInt8) (e : Ending) (w' : World) : Prop:=e = .returned (.tuple #[.string (str (typeB n).1),.int .i64 ((typeB n).2 : Int)]) ∧ Ext w w'
theorem type_any (s : ByteArray) (w : World) (hs : s.size ≤ maxLen) : Calls Tryz.prog 115 #[.string s] w (TypeSays w (bys s)):=by
 have Hs:=hid hs
 clear hs
 go_enter Tryz.func115,Tryz.ntmps115
 go_wp2
 go_loopw [15] (fun i wr=>∃ k : Nat,k ≤ 6 ∧ i = .int .i64 k ∧ Hid (noneT (bys s) k 0) ∧ Hid (Row (Elem.slc Elem.str) (fun _=>True) wr (some ⟨w.heap.size + 5,0,none⟩) 6 6 (typRows.map strs)) ∧ Hid (Ext w wr)) (fun i _=>6 - (intOf i).toNat)
 case atStart=>
  refine ⟨0,by omega,rfl,fun q hq=>by simp [preT] at hq,typ_start w 9 66,?_⟩
  exact (Ext.alloc _ _).trans ((Ext.alloc _ _).trans ((Ext.alloc _ _).trans ((Ext.alloc _ _).trans ((Ext.alloc _ _).trans (Ext.alloc _ _)))))
 case round=>
  obtain ⟨k,hk,rfl,HN,HR,HX⟩:=hrel
  by_cases hlt : k < 6
  ·obtain ⟨b1,o1,v1,x1,hA,g1,-,⟨A1,n1,c1,rfl,r1⟩,q1⟩:=HR.out.at_ hlt
   injection hA with hA
   injection hA with hA1 hA2
   subst hA1 hA2
   have e10:=q1 0 _ rfl
   simp only [Elem.slc,Nat.add_zero,Nat.zero_add,Nat.mul_one] at e10
   obtain rfl:=typ_rows_at g1
   have R1:=hid r1
   have hn1 : n1 ≤ 9223372036854775807:=by have:=r1.cap;have:=r1.most;simp only [maxLen] at this;omega
   clear q1 g1 r1
   go_wp2
   go_loopw [22] (fun j wr'=>∃ m : Nat,m ≤ n1 ∧ j = .int .i64 m ∧ Hid (noneT (bys s) k m) ∧ Hid (Ext wr wr')) (fun j _=>n1 - (intOf j).toNat)
   case atStart=>exact ⟨0,by omega,rfl,HN,Ext.refl _⟩
   case round=>
    obtain ⟨m,hm,rfl,HM,HY⟩:=hrel
    by_cases hlt2 : m < n1
    ·obtain ⟨b2,o2,v2,x2,rfl,g2,-,hv2,q2⟩:=(R1.out.ext HY.out).at_ hlt2
     subst hv2
     have e20:=q2 0 _ rfl
     simp only [Elem.str,Nat.add_zero,Nat.mul_one] at e20
     have G2:=hid (strs_at g2)
     have hz2:=hid (show x2.size ≤ maxLen by have:=row_small hlt (strs_at g2);rw [bys_len] at this;simp only [maxLen];omega)
     clear q2 g2
     by_cases he : lowerB (bys x2) = lowerB (bys s)
     ·have ht : (lowerB (bys x2) == lowerB (bys s)) = true:=beq_iff_eq.2 he
      have HH:=hid (typ_hit hlt HM.out G2.out he)
      clear he
      go_wp2_with (first
       | (go_at_call 188;(with_reducible refine (lower_any x2 _ hz2.out).mono ?_);rintro e w3 ⟨rfl,hx3⟩)
       | (go_at_call 188;(with_reducible refine (lower_any s _ Hs.out).mono ?_);rintro e w4 ⟨rfl,hx4⟩))
      go_ret2
      refine ⟨?_,HX.out.trans (HY.out.trans (hx3.trans hx4))⟩
      rw [HH.out,str_bys];rfl
     ·have ht : (lowerB (bys x2) == lowerB (bys s)) = false:=beq_eq_false_iff_ne.2 he
      have HH:=hid (noneT_next HM.out G2.out he)
      clear he
      go_wp2_with (first
       | (go_at_call 188;(with_reducible refine (lower_any x2 _ hz2.out).mono ?_);rintro e w3 ⟨rfl,hx3⟩)
       | (go_at_call 188;(with_reducible refine (lower_any s _ Hs.out).mono ?_);rintro e w4 ⟨rfl,hx4⟩))
      exact ⟨⟨m + 1,by omega,by go_num,HH,HY.out.trans (hx3.trans hx4)⟩,by simp [intOf];omega⟩
    ·obtain rfl : m = n1:=by omega
     have HH:=hid (noneT_row (n:=bys s) (i:=k) (by have:=R1.out.len;simp at this;rw [← this];exact HM.out))
     go_wp2
     exact ⟨⟨k + 1,by omega,by go_num,HH,HR.out.ext HY.out,HX.out.trans HY.out⟩,by simp [intOf];omega⟩
  ·obtain rfl : k = 6:=by omega
   have HH:=hid (typ_none HN.out)
   go_wp2
   go_ret2
   exact ⟨by rw [HH.out];rfl,HX.out⟩
def typeL (m : List UInt8) : List UInt8 × Nat:=(typTab.find? fun p=>lowerB p.1 == m).getD ([],0)
theorem typeL_none {m : List UInt8} (h : ∀ c ∈ ([[111,98,106,101,99,116,99,108,97,115,115],[99,110],[111,117],[111],[100,99],[117,105,100],[100,101,115,99,114,105,112,116,105,111,110],[109,97,105,108],[117,115,101,114,112,97,115,115,119,111,114,100],[114,101,102],[115,101,114,105,97,108,110,117,109,98,101,114],[112,111,115,105,116,105,111,110],[97,108,105,97,115,101,100,111,98,106,101,99,116,110,97,109,101],[109,101,109,98,101,114]] : List (List UInt8)),(m == c) = false) : typeL m = ([],0):=by
 unfold typeL
 rw [List.find?_eq_none.2]
 ·rfl
 ·intro q hq e
  have hall : ∀ q ∈ typTab,lowerB q.1 ∈ ([[111,98,106,101,99,116,99,108,97,115,115],[99,110],[111,117],[111],[100,99],[117,105,100],[100,101,115,99,114,105,112,116,105,111,110],[109,97,105,108],[117,115,101,114,112,97,115,115,119,111,114,100],[114,101,102],[115,101,114,105,97,108,110,117,109,98,101,114],[112,111,115,105,116,105,111,110],[97,108,105,97,115,101,100,111,98,106,101,99,116,110,97,109,101],[109,101,109,98,101,114]] : List (List UInt8)):=by decide
  have h1:=h _ (hall q hq)
  rw [beq_iff_eq.1 e] at h1
  simp at h1
theorem rtype_any (s : ByteArray) (w : World) (hs : s.size ≤ maxLen) : Calls Tryz.prog 147 #[.string s] w (TypeSays w (bys s)):=by
 have Hs:=hid hs
 have HT : Hid (∀ x,typeL (lowerB (bys s)) = x → typeB (bys s) = x):=fun x h=>h
 clear hs
 obtain ⟨m,hm⟩ : ∃ m,m = lowerB (bys s):=⟨_,rfl⟩
 rw [← hm] at HT
 have HL : ∀ w : World,Calls Tryz.prog 215 #[.string s] w fun e w'=>e = .returned (.string (str m)) ∧ Ext w w':=fun w=>by
  rw [hm];exact rlower_any s w Hs.out
 clear hm
 go_enter Tryz.func147,Tryz.ntmps147
 go_wp2_with (go_at_call 215;(with_reducible refine (HL _).mono ?_);rintro e w3 ⟨rfl,hx3⟩)
 all_goals go_ret2
 all_goals (refine ⟨?_,by first | assumption | exact Ext.trans (by assumption) (by assumption)⟩)
 all_goals first
  | (have e:=beq_iff_eq.1 (by assumption : (m == _) = true);subst e;rw [HT.out _ rfl];rfl)
  | (exfalso;have e:=beq_iff_eq.1 (by assumption : (m == _) = true);clear HL HT;subst e;simp at *;done)
  | (rw [HT.out _ (typeL_none (by intro c hc;simp only [List.mem_cons,List.not_mem_nil,or_false] at hc;(repeat (rcases hc with rfl | hc;· assumption))))];rfl)
end Go.Proofs.YtlbneoilhapkmaaGreatDoor
namespace Go.Proofs.YtlbneoilhapkmaaGreatDoor
open Go.RowKit
section
variable {P : Program} {w : World} {o : Oper} {a : Act} {K : Act → World → Prop} {Q : Exit → Act → World → Prop}
def over (cur : Array Value) (off : Nat) (v : Value) : Array Value:=(cur.toList.take off ++ v.cells.toList ++ cur.toList.drop (off + v.cells.size)).toArray
theorem wp_store_at (T : TypeId) (x y : Operand) (ho : o.op = .store T x y) (g off : Nat) (hx : a.eval x = .pointer (some ⟨g,off,none⟩)) (v : Value) (hy : a.eval y = v) (t : TypeId) (cur : Array Value)
 (hg : w.heap[g]? = some (.cells cur t (0,0))) (hsz : (P.info? T).map (·.size) = some v.cells.size) (hfit : off + v.cells.size ≤ cur.size) (h1 : ∀ u ∈ v.cells.toList,u.oneCell' = true)
 (h : K (a.put o.dst undef) (w.setRow g (over cur off v))) : o.wp P a w K Q:=by
 have hs : (storeCells ⟨g,off,none⟩ v.cells.toList 0).run P w = .ok () (w.setRow g (over cur off v)):=by
  have:=run_storeCells_at (P:=P) g off t v.cells.toList 0 cur w hg (by simpa using hfit) h1
  simpa [over] using this
 have hr : (execOp a.eval o).run P w = .ok .skip (w.setRow g (over cur off v)):=by
  unfold execOp
  cases hq : P.info? T with
  | none=>simp [hq] at hsz
  | some i=>
   have hi : v.cells.size = i.size:=by simp [hq] at hsz;omega
   simp only [ho,hx,hy,Instr.storeAt,Instr.sureAddr,storeVar,sizeOf,typeInfo,Sem.run_bind,Sem.run_pure,Result.andThen_ok,hi]
   simp [hq,hs]
 unfold Oper.wp
 rw [hr]
 exact h
theorem run_load_row (T : TypeId) (x : Operand) (ho : o.op = .load T x) (g : Nat) (hx : a.eval x = .pointer (some ⟨g,0,none⟩)) (t : TypeId) (cs : Array Value) (d : TypeDesc) (hg : w.heap[g]? = some (.cells cs t (0,0)))
 (hu : P.underlying T = some d) (hd : (match d with | .struct _ | .array _ _=>true | _=>false) = true) (hi : (P.info? T).map (·.size) = some cs.size) :
 (execOp a.eval o).run P w = .ok (.value (.agg cs)) w:=by
 unfold execOp
 simp only [ho,hx,Instr.loadAt,Instr.sureAddr,Sem.run_bind,Sem.run_pure,Result.andThen_ok,run_loadVar_row w g t T cs (0,0) d hg hu hd hi]
variable {ops : Array Oper} {rest : List Oper}
end
end Go.Proofs.YtlbneoilhapkmaaGreatDoor
namespace Go.Proofs.YtlbneoilhapkmaaGreatDoor
open Go.RowKit
section
variable {P : Program} {w : World} {o : Oper} {a : Act} {K : Act → World → Prop} {Q : Exit → Act → World → Prop}
theorem run_append_sz (w : World) (base : Nat) (t ty e : TypeId) (i : TypeInfo) (z : Value) (size bytes : Nat) (ht : P.underlying t = some (.slice e)) (hi : P.info? e = some i) (hz : i.zero = some z)
 (hsize : i.size = size) (hby : i.bytes = bytes) (hzs : z.cells.size = size) (hsz : 0 < size)
 (v : Value) (n : Nat) (xs : List Value) (hown : w.ownsRow base e size v n xs)
 (A : Option Addr) (m c : Nat) (news : List Value) (hm : news.length = m * size) (hr : Cells w A news) (h1 : ∀ u ∈ news,u.oneCell' = true)
 (h63 : n + m ≤ maxLen) (hbytes : (n + m) * bytes ≤ 140737488355328) (hbase : base ≤ w.heap.size) :
 ∃ v' w',(Builtin.append_ #[t,t] ty #[v,.slice A m c]).run P w = .ok v' w' ∧ w'.ownsRow base e size v' (n + m) (xs ++ news) ∧ w.grownBy w' v.ownBlock ∧
  (v'.ownBlock = v.ownBlock ∨ v'.ownBlock = some w.heap.size):=by
 rcases A with _ | ad
 ·have hn : news = []:=by
   rcases hr with h | ⟨b,off,h,_⟩
   ·exact h
   ·cases h
  subst hn
  have hm0 : m = 0:=by
   rcases Nat.eq_zero_or_pos m with h | h
   ·exact h
   ·have:=Nat.mul_pos h hsz
    simp at hm
    omega
  subst hm0
  refine ⟨v,w,?_,by simpa using hown,World.grownBy.refl w _,.inl rfl⟩
  rcases hown.2 with ⟨rfl,rfl⟩ | ⟨g,cap,cur,rfl,_,_,hnc,_⟩
  ·simp [Builtin.append_,run_underlying ht,sizeOf,typeInfo,hi,Builtin.lenOf,Builtin.firstCells]
  ·simp [Builtin.append_,run_underlying ht,sizeOf,typeInfo,hi,Builtin.lenOf,Builtin.firstCells,hnc,storeCells]
 ·have hcells : ∀ j u,news[j]? = some u → w.cell? (ad.add j) = some u:=by
   intro j u hu
   rcases hr with h | ⟨b,off,h,hc⟩
   ·subst h;simp at hu
   ·injection h with h
    subst h
    rw [addr_add]
    exact hc j u hu
  obtain ⟨v',w',hrun,h2,h3,_,h5⟩:=run_append_own_at (P:=P) w base t ty e i z size bytes ht hi hz hsize hby hzs hsz v n xs hown ad m c news hm hcells h1 h63 hbytes hbase
  exact ⟨v',w',hrun,h2,h3,h5⟩
theorem wp_append_sz (s x : Operand) (t : TypeId)
 (ho : o.op = .call { callee:=.builtin .append,args:=#[s,x],argTypes:=#[t,t] })
 (base : Nat) (e : TypeId) (z : Value) (size bytes : Nat) (ht : P.underlying t = some (.slice e)) (hinf : (P.info? e).map (fun i=>(i.zero,i.size,i.bytes)) = some (some z,size,bytes)) (hzs : z.cells.size = size) (hsz : 0 < size)
 (v : Value) (n : Nat) (xs : List Value) (hs : a.eval s = v) (hown : w.ownsRow base e size v n xs)
 (A : Option Addr) (m c : Nat) (news : List Value) (hx : a.eval x = .slice A m c) (hm : news.length = m * size) (hr : Cells w A news) (h1 : ∀ u ∈ news,u.oneCell' = true)
 (h63 : n + m ≤ maxLen) (hbytes : (n + m) * bytes ≤ 140737488355328) (hbase : base ≤ w.heap.size)
 (h : ∀ v' w',w'.ownsRow base e size v' (n + m) (xs ++ news) → w.grownBy w' v.ownBlock → (v'.ownBlock = v.ownBlock ∨ v'.ownBlock = some w.heap.size) → K (a.put o.dst v') w') : o.wp P a w K Q:=by
 obtain ⟨i,hi,hz0,hz1,hz2⟩:=info_parts hinf
 obtain ⟨v',w',hrun,h2,h3,h4⟩:=run_append_sz (P:=P) w base t o.type e i z size bytes ht hi hz0 hz1 hz2 hzs hsz v n xs hown A m c news hm hr h1 h63 hbytes hbase
 unfold Oper.wp execOp
 simp only [ho,resolve,invoke,builtin,Sem.run_bind,Sem.run_pure,Result.andThen_ok,List.map_toArray,List.map_cons,List.map_nil,hs,hx,hrun]
 exact h v' w' h2 h3 h4
end
theorem own_empty (w : World) (base : Nat) (hb : base ≤ w.heap.size) (e : TypeId) (size : Nat) : (w.alloc (.cells #[] e)).ownsRow base e size (.slice (some ⟨w.heap.size,0,none⟩) 0 0) 0 []:=
 ⟨by simp,.inr ⟨w.heap.size,0,#[],rfl,hb,heap_alloc_new w _,Nat.le_refl _,by simp [maxLen],by simp,by simp⟩⟩
section
variable {P : Program} {w : World} {o : Oper} {a : Act} {K : Act → World → Prop} {Q : Exit → Act → World → Prop}
end
theorem wp_load_cell {P : Program} {w : World} {o : Oper} {a : Act} {K : Act → World → Prop} {Q : Exit → Act → World → Prop} (T : TypeId) (x : Operand) (ho : o.op = .load T x) (p : Addr) (hx : a.eval x = .pointer (some p)) (v : Value) (hc : w.cell? p = some v) (hT : ∀ w,(isAgg T).run P w = .ok false w)
 (h : K (a.put o.dst v) w) : o.wp P a w K Q:=by
 have hr : (execOp a.eval o).run P w = .ok (.value v) w:=by
  unfold execOp
  simp only [ho,hx,Instr.loadAt,Instr.sureAddr,loadVar,Sem.run_bind,Sem.run_pure,Result.andThen_ok,hT]
  simp [run_load,hc]
 unfold Oper.wp
 rw [hr]
 exact h
theorem ext_sz {w w' : World} (h : Ext w w') : w.heap.size ≤ w'.heap.size:=h.size
theorem row_later' {w w1 : World} {g : Nat} {cs : Array Value} {T : TypeId} (h : w.heap[g]? = some (.cells cs T (0,0))) (hx : Ext w w1) : w1.heap[g]? = some (.cells cs T (0,0)):=
 (hx.block g (Array.getElem?_eq_some_iff.1 h).1).trans h
theorem row_lt {w : World} {g : Nat} {cs : Array Value} {T : TypeId} (h : w.heap[g]? = some (.cells cs T (0,0))) : g < w.heap.size:=(Array.getElem?_eq_some_iff.1 h).1
theorem below_grown {B : Nat} {w w' : World} {base : Nat} {e : TypeId} {size n : Nat} {v : Value} {xs : List Value} (ho : w.ownsRow base e size v n xs) (hg : w.grownBy w' v.ownBlock) (hb : B ≤ w.heap.size) (hB : B ≤ base) : Below B w w':=
 (Below.refl B w).grown hg hb (fun k hk=>Nat.le_trans hB (ho.lt k hk).1)
theorem own_str {S : Nat → Prop} {w : World} {base : Nat} {e : TypeId} {A : Option Addr} {n c : Nat} {l : List ByteArray} (h : w.ownsRow base e 1 (.slice A n c) n (l.map .string)) (hS : ∀ g,(Value.slice A n c).ownBlock = some g → S g) : Row Elem.str S w A n c l:=by
 have hl : n = l.length:=by simpa using h.1.symm
 refine ⟨hl,(own_cap h).1,(own_cap h).2,l.map fun s=>[.string s],by simp [hl],?_,fun i v x hi hx=>?_⟩
 ·have hfl : ∀ l : List ByteArray,(l.map fun s=>[Value.string s]).flatten = l.map .string:=fun l=>by
   induction l with
   | nil=>rfl
   | cons x l ih=>simp only [List.map_cons,List.flatten_cons,ih];rfl
  rw [hfl]
  rcases h.2 with ⟨hv,hn⟩ | ⟨g,cap,cur,hv,hb,hh,hnc,hcm,hsz,htk⟩
  ·exact .inl (by rw [hn] at hl;simp [List.length_eq_zero_iff.1 hl.symm])
  ·injection hv with hA _ _
   subst hA
   refine .inr ⟨g,0,rfl,hS g rfl,fun j u hj=>?_⟩
   rw [Nat.zero_add,cell_of_row w g j cur e (0,0) hh]
   rw [← htk,List.getElem?_take] at hj
   split at hj
   ·simpa using hj
   ·cases hj
 ·rw [List.getElem?_map,hx] at hi
  simp at hi
  exact hi.symm
theorem Row.str_cells {S : Nat → Prop} {w : World} {A : Option Addr} {n c : Nat} {l : List ByteArray} (h : Row Elem.str S w A n c l) : Cells w A (l.map .string):=by
 rcases Nat.eq_zero_or_pos n with h0 | h0
 ·exact .inl (by have:=h.len;rw [h0] at this;simp [List.length_eq_zero_iff.1 this.symm])
 ·obtain ⟨b,off,hA,hc⟩:=h.str_cell h0
  refine .inr ⟨b,off,hA,fun j u hj=>?_⟩
  rw [List.getElem?_map] at hj
  obtain ⟨x,hx,rfl⟩:=Option.map_eq_some_iff.1 hj
  rw [hc j (by rw [h.len];exact (List.getElem?_eq_some_iff.1 hx).1),hx]
  rfl
theorem own_rows {α : Type} {E : Elem α} {S : Nat → Prop} {w : World} {base : Nat} {e : TypeId} {A : Option Addr} {n c : Nat} {vss : List (List Value)} {l : List α} (h : w.ownsRow base e E.k (.slice A n c) n vss.flatten) (hl : n = l.length) (hv : vss.length = n)
 (hS : ∀ g,(Value.slice A n c).ownBlock = some g → S g) (hR : ∀ (i : Nat) v x,vss[i]? = some v → l[i]? = some x → E.R S w v x) : Row E S w A n c l:=by
 rcases h.2 with ⟨hv0,hn⟩ | ⟨g,cap,cur,hv0,hb,hh,hnc,hcm,hsz,htk⟩
 ·injection hv0 with h1 h2 h3
  subst h1 h2 h3
  have e1 : vss = []:=List.length_eq_zero_iff.1 hv
  have e2 : l = []:=List.length_eq_zero_iff.1 hl.symm
  subst e1 e2
  exact Row.nil E S w
 ·injection hv0 with hA _ hc
  subst hA hc
  refine ⟨hl,hnc,hcm,vss,hv,.inr ⟨g,0,rfl,hS g rfl,fun j u hj=>?_⟩,hR⟩
  rw [Nat.zero_add,cell_of_row w g j cur e (0,0) hh]
  rw [← htk,List.getElem?_take] at hj
  split at hj
  ·simpa using hj
  ·cases hj
end Go.Proofs.YtlbneoilhapkmaaGreatDoor
namespace Go.Proofs.YtlbneoilhapkmaaGreatDoor
open Go.RowKit
set_option maxRecDepth 100000
structure Facts (w : World) : Prop where
 maxlen : ∃ m,w.cell? ⟨0,0,none⟩ = some (.int .i64 m)
 syn : ∃ tp p,w.var? Tryz.prog "strconv.ErrSyntax" = some #[.iface tp p]
 rng : ∃ tp p,w.var? Tryz.prog "strconv.ErrRange" = some #[.iface tp p]
 pow : Lib.TabIs Tryz.prog w "internal/strconv.uint64pow10" .u64 Lib.pow10Tab
theorem gSyn : Tryz.prog.globalNamed "strconv.ErrSyntax" = some 1:=by kernel_rfl
theorem gRng : Tryz.prog.globalNamed "strconv.ErrRange" = some 2:=by kernel_rfl
theorem gPow : Tryz.prog.globalNamed "internal/strconv.uint64pow10" = some 3:=by kernel_rfl
theorem var_lt {w : World} {n : String} {g : Nat} {cs : Array Value} (hg : Tryz.prog.globalNamed n = some g) (h : w.var? Tryz.prog n = some cs) : g < w.heap.size:=by
 unfold World.var? at h
 simp only [hg,Option.bind_some] at h
 rcases Nat.lt_or_ge g w.heap.size with h' | h'
 ·exact h'
 ·simp [Array.getElem?_eq_none h'] at h
theorem Facts.ext {w w' : World} (h : Facts w) (hx : Ext w w') : Facts w':=by
 obtain ⟨⟨m,h1⟩,⟨a,b,h2⟩,⟨c,d,h3⟩,h4⟩:=h
 exact ⟨⟨m,cell_later h1 _ hx⟩,⟨a,b,var?_below hx gSyn (var_lt gSyn h2) h2⟩,⟨c,d,var?_below hx gRng (var_lt gRng h3) h3⟩,var?_below hx gPow (var_lt gPow h4) h4⟩
def Gl (w : World) : Prop:=Facts w
theorem Gl.ext {w w' : World} (h : Gl w) (hx : Ext w w') : Gl w':=Facts.ext h hx
theorem own_base {w : World} {b b' : Nat} {e : TypeId} {size : Nat} {v : Value} {n : Nat} {xs : List Value} (h : w.ownsRow b e size v n xs) (hb : b' ≤ b) : w.ownsRow b' e size v n xs:=by
 obtain ⟨h1,h2⟩:=h
 refine ⟨h1,?_⟩
 rcases h2 with h2 | ⟨g,cap,cur,h3,h4,h5⟩
 ·exact .inl h2
 ·exact .inr ⟨g,cap,cur,h3,Nat.le_trans hb h4,h5⟩
structure GrowB (w wr : World) (v : Value) (xs : List UInt8) : Prop where
 own : wr.ownsRow w.heap.size 5 1 v xs.length (xs.map bv)
 ext : Ext w wr
theorem GrowB.nil {w wr : World} (hx : Ext w wr) : GrowB w wr (.slice none 0 0) []:=⟨World.ownsRow_nil _ _ _ _,hx⟩
theorem GrowB.later {w wr w' : World} {v : Value} {l : List UInt8} (h : GrowB w wr v l) (hx : Ext wr w') : GrowB w w' v l:=⟨own_ext h.own hx,h.ext.trans hx⟩
theorem GrowB.sl {w wr : World} {v : Value} {l : List UInt8} (h : GrowB w wr v l) : ∃ A c,v = .slice A l.length c ∧ Sl wr A l.length c l:=by
 have ho:=h.own
 obtain ⟨A,c,rfl⟩:=own_form ho
 exact ⟨A,c,rfl,Sl.of_own ho⟩
theorem sl_char (w : World) (x : UInt8) : Sl (w.alloc (.cells #[.int .u8 (x.toNat : Int)] 5)) (some ⟨w.heap.size,0,none⟩) 1 1 [x]:=by
 have h:=sl_one w (x.toNat : Int) ⟨by omega,by have:=x.toNat_lt;omega⟩
 rwa [Int.toNat_natCast,UInt8.ofNat_toNat] at h
theorem str_get {m : List UInt8} {j : Nat} {x : UInt8} (h : m[j]? = some x) (h' : j < (str m).size) : (str m)[j]'h' = x:=by
 have hl:=(List.getElem?_eq_some_iff.1 h)
 obtain ⟨h1,h2⟩:=hl
 exact h2
theorem str_app (a b : List UInt8) : str a ++ str b = str (a ++ b):=by
 have : (str a ++ str b).data = (str (a ++ b)).data:=by rw [ByteArray.data_append];simp
 exact ByteArray.ext this
theorem bys_get {s : ByteArray} {j : Nat} {x : UInt8} (h : (bys s)[j]? = some x) (h' : j < s.size) : s[j]'h' = x:=by
 obtain ⟨⟨l⟩⟩:=s
 exact str_get h h'
theorem byte_is {x : UInt8} {k : Nat} (hk : k < 256) (h : x = UInt8.ofNat k) : ((x.toNat : Int) == (k : Int)) = true:=by
 subst h
 rw [beq_iff_eq,UInt8.toNat_ofNat']
 omega
theorem byte_isnt {x : UInt8} {k : Nat} (h : ¬ x = UInt8.ofNat k) : ((x.toNat : Int) == (k : Int)) = false:=by
 rw [beq_eq_false_iff_ne]
 intro e
 exact h (UInt8.toNat_inj.1 (by rw [UInt8.toNat_ofNat'];have:=x.toNat_lt;omega))
theorem append_grow_wp {w w0 : World} {o : Oper} {a : Act} {K : Act → World → Prop} {Q : Exit → Act → World → Prop} (s x : Operand)
 (ho : o.op = .call { callee:=.builtin .append,args:=#[s,x],argTypes:=#[237,237] })
 (v : Value) (xs : List UInt8) (hs : a.eval s = v) (hg : GrowB w0 w v xs) (A : Option Addr) (m c : Nat) (ys : List UInt8) (hx : a.eval x = .slice A m c) (hy : Sl w A m c ys)
 (hb : xs.length + m ≤ 140737488355328) (h : ∀ v' w',GrowB w0 w' v' (xs ++ ys) → Below w0.heap.size w w' → K (a.put o.dst v') w') : o.wp Tryz.prog a w K Q:=by
 have hm:=hy.len
 obtain ⟨i0,hi,hz0,hz1,hz2⟩:=info_parts Tryz.infoByte
 refine wp_append_cells s x 237 ho w0.heap.size 5 i0 (.int .u8 0) 1 Tryz.underlying237 hi hz0 hz1 hz2 rfl v xs.length (xs.map bv) hs hg.own A m c (ys.map bv) hx (by simpa using hy.len) hy.cells ?_ (by simp [maxLen];omega) (by omega) (ext_sz hg.ext) ?_
 ·intro u hu
  obtain ⟨b,_,rfl⟩:=List.mem_map.1 hu
  rfl
 ·intro v' w' h1 h2 _
  have hb:=below_grown hg.own h2 (ext_sz hg.ext) (Nat.le_refl _)
  refine h v' w' ⟨?_,Below.trans hg.ext hb⟩ hb
  rw [List.length_append,← hm,List.map_append]
  exact h1
theorem append_grow {w w0 : World} {ops : Array Oper} {rest : List Oper} {o : Oper} {a : Act} {Q : Exit → Act → World → Prop} (hgd : o.guard = none) (s x : Operand)
 (ho : o.op = .call { callee:=.builtin .append,args:=#[s,x],argTypes:=#[237,237] })
 (v : Value) (xs : List UInt8) (hs : a.eval s = v) (hg : GrowB w0 w v xs) (A : Option Addr) (m c : Nat) (ys : List UInt8) (hx : a.eval x = .slice A m c) (hy : Sl w A m c ys)
 (hb : xs.length + m ≤ 140737488355328) (h : ∀ v' w',GrowB w0 w' v' (xs ++ ys) → wpList Tryz.prog ops Q rest (a.put o.dst v') w') : wpList Tryz.prog ops Q (o :: rest) a w:=
 wpList_plain hgd fun _ hK=>append_grow_wp s x ho v xs hs hg A m c ys hx hy hb fun v' w' h1 _=>hK _ _ (h v' w' h1)
structure GrowS (w wr : World) (v : Value) (l : List ByteArray) : Prop where
 own : wr.ownsRow w.heap.size 9 1 v l.length (l.map .string)
 ext : Ext w wr
theorem GrowS.nil {w wr : World} (hx : Ext w wr) : GrowS w wr (.slice none 0 0) []:=⟨World.ownsRow_nil _ _ _ _,hx⟩
theorem GrowS.later {w wr w' : World} {v : Value} {l : List ByteArray} (h : GrowS w wr v l) (hx : Ext wr w') : GrowS w w' v l:=⟨own_ext h.own hx,h.ext.trans hx⟩
theorem GrowS.base {w w1 wr : World} {v : Value} {l : List ByteArray} (h : GrowS w1 wr v l) (hx : Ext w w1) : GrowS w wr v l:=⟨own_base h.own (ext_sz hx),hx.trans h.ext⟩
theorem GrowS.row {w wr : World} {v : Value} {l : List ByteArray} (h : GrowS w wr v l) : ∃ A c,v = .slice A l.length c ∧ Row Elem.str (fun b=>w.heap.size ≤ b) wr A l.length c l:=by
 have ho:=h.own
 obtain ⟨A,c,rfl⟩:=own_form ho
 exact ⟨A,c,rfl,own_str ho fun g hg=>(ho.lt g hg).1⟩
theorem infoStr : (Tryz.prog.info? 9).map (fun i=>(i.zero,i.size,i.bytes)) = some (some (.string ByteArray.empty),1,16):=by kernel_rfl
section
variable {w w0 : World} {ops : Array Oper} {rest : List Oper} {o : Oper} {a : Act} {Q : Exit → Act → World → Prop} {K : Act → World → Prop}
theorem append_strs_wp (s x : Operand) (ho : o.op = .call { callee:=.builtin .append,args:=#[s,x],argTypes:=#[66,66] })
 (v : Value) (l : List ByteArray) (hs : a.eval s = v) (hg : GrowS w0 w v l) (A : Option Addr) (m c : Nat) (ys : List ByteArray) (hx : a.eval x = .slice A m c) (hm : m = ys.length) (hy : Cells w A (ys.map .string))
 (hb : l.length + m ≤ 8796093022208) (h : ∀ v' w',GrowS w0 w' v' (l ++ ys) → K (a.put o.dst v') w') : o.wp Tryz.prog a w K Q:=by
 obtain ⟨i0,hi,hz0,hz1,hz2⟩:=info_parts infoStr
 refine wp_append_cells s x 66 ho w0.heap.size 9 i0 (.string ByteArray.empty) 16 Tryz.underlying66 hi hz0 hz1 hz2 rfl v l.length (l.map .string) hs hg.own A m c (ys.map .string) hx (by simpa using hm) hy ?_ (by simp [maxLen];omega) (by omega) (ext_sz hg.ext) ?_
 ·intro u hu
  obtain ⟨b,_,rfl⟩:=List.mem_map.1 hu
  rfl
 ·intro v' w' h1 h2 _
  refine h v' w' ⟨?_,below_grown hg.own h2 (ext_sz hg.ext) (Nat.le_refl _) |> fun hb=>Below.trans hg.ext hb⟩
  rw [List.length_append,← hm,List.map_append]
  exact h1
theorem append_strs (hgd : o.guard = none) (s x : Operand) (ho : o.op = .call { callee:=.builtin .append,args:=#[s,x],argTypes:=#[66,66] })
 (v : Value) (l : List ByteArray) (hs : a.eval s = v) (hg : GrowS w0 w v l) (A : Option Addr) (m c : Nat) (ys : List ByteArray) (hx : a.eval x = .slice A m c) (hm : m = ys.length) (hy : Cells w A (ys.map .string))
 (hb : l.length + m ≤ 8796093022208) (h : ∀ v' w',GrowS w0 w' v' (l ++ ys) → wpList Tryz.prog ops Q rest (a.put o.dst v') w') : wpList Tryz.prog ops Q (o :: rest) a w:=
 wpList_plain hgd fun _ hK=>append_strs_wp s x ho v l hs hg A m c ys hx hm hy hb fun v' w' h1=>hK _ _ (h v' w' h1)
theorem cells_lit1 (w : World) (y : ByteArray) (t : TypeId) : Cells (w.alloc (.cells #[.string y] t)) (some ⟨w.heap.size,0,none⟩) ([y].map .string):=
 (lit_str w [y] t (by simp [maxLen])).str_cells
theorem append_str1 {w : World} {y : ByteArray} {t : TypeId} (hgd : o.guard = none) (s x : Operand) (ho : o.op = .call { callee:=.builtin .append,args:=#[s,x],argTypes:=#[66,66] })
 (v : Value) (l : List ByteArray) (hs : a.eval s = v) (hg : GrowS w0 w v l) (hx : a.eval x = .slice (some ⟨w.heap.size,0,none⟩) 1 1)
 (hb : l.length + 1 ≤ 8796093022208) (h : ∀ v' w',GrowS w0 w' v' (l ++ [y]) → wpList Tryz.prog ops Q rest (a.put o.dst v') w') : wpList Tryz.prog ops Q (o :: rest) a (w.alloc (.cells #[.string y] t)):=
 append_strs hgd s x ho v l hs (hg.later (Ext.alloc _ _)) _ 1 1 [y] hx rfl (cells_lit1 w y t) hb h
end
end Go.Proofs.YtlbneoilhapkmaaGreatDoor
namespace Go.Proofs.YtlbneoilhapkmaaGreatDoor
def digC (c : UInt8) : Bool:=decide (48 ≤ c.toNat) && decide (c.toNat ≤ 57)
def valFrom (acc : Nat) : List UInt8 → Nat
 | []=>acc
 | c :: t=>valFrom (acc * 10 + (c.toNat - 48)) t
theorem digC_iff (c : UInt8) : digC c = true ↔ 48 ≤ c.toNat ∧ c.toNat ≤ 57:=by simp [digC]
theorem valFrom_ge (l : List UInt8) : ∀ acc : Nat,acc ≤ valFrom acc l:=by
 induction l with
 | nil=>intro acc;exact Nat.le_refl _
 | cons c t ih=>
  intro acc
  have h:=ih (acc * 10 + (c.toNat - 48))
  have e : valFrom acc (c :: t) = valFrom (acc * 10 + (c.toNat - 48)) t:=rfl
  rw [e]
  exact Nat.le_trans (by omega) h
theorem valFrom_lt (l : List UInt8) : ∀ acc : Nat,l.all digC = true → valFrom acc l < (acc + 1) * 10 ^ l.length:=by
 induction l with
 | nil=>intro acc _;show acc < (acc + 1) * 1;omega
 | cons c t ih=>
  intro acc h
  simp only [List.all_cons,Bool.and_eq_true] at h
  have h1:=(digC_iff c).1 h.1
  have h2:=ih (acc * 10 + (c.toNat - 48)) h.2
  have e : valFrom acc (c :: t) = valFrom (acc * 10 + (c.toNat - 48)) t:=rfl
  rw [e,List.length_cons,Nat.pow_succ,Nat.mul_comm (10 ^ t.length) 10,← Nat.mul_assoc]
  exact Nat.lt_of_lt_of_le h2 (Nat.mul_le_mul_right _ (by omega))
theorem valFrom_snoc : ∀ (l : List UInt8) (acc : Nat) (c : UInt8),valFrom acc (l ++ [c]) = valFrom acc l * 10 + (c.toNat - 48)
 | [],_,_=>rfl
 | _ :: t,_,c=>valFrom_snoc t _ c
theorem dec_small {u : Nat} (h : u < 10) : Lib.decDigits u = [UInt8.ofNat (48 + u)]:=by unfold Lib.decDigits;rw [dif_pos h]
theorem dec_big {u : Nat} (h : ¬ u < 10) : Lib.decDigits u = Lib.decDigits (u / 10) ++ [UInt8.ofNat (48 + u % 10)]:=by rw [Lib.decDigits,dif_neg h]
theorem parse_okM {M : Nat} (hM : 1000000000000000000 ≤ M) (l : List UInt8) : ∀ acc : Nat,l.all digC = true → valFrom acc l < 1000000000000000000 → Lib.parseUintM M acc l = .ok (valFrom acc l):=by
 induction l with
 | nil=>intro acc _ _;rfl
 | cons c t ih=>
  intro acc h hv
  simp only [List.all_cons,Bool.and_eq_true] at h
  have h1:=(digC_iff c).1 h.1
  have e : valFrom acc (c :: t) = valFrom (acc * 10 + (c.toNat - 48)) t:=rfl
  rw [e] at hv ⊢
  have h2:=valFrom_ge t (acc * 10 + (c.toNat - 48))
  have h3 : acc * 10 + (c.toNat - 48) < 1000000000000000000:=Nat.lt_of_le_of_lt h2 hv
  unfold Lib.parseUintM
  rw [if_pos h1,if_neg (by omega),if_neg (by omega)]
  exact ih _ h.2 hv
theorem parse_ok (l : List UInt8) (acc : Nat) (h : l.all digC = true) (hv : valFrom acc l < 10 ^ 18) : Lib.parseUintM (2 ^ 64 - 1) acc l = .ok (valFrom acc l):=parse_okM (by decide) l acc h hv
def plainD (d : List UInt8) : Prop:=d ≠ [] ∧ d.all digC = true ∧ (d.head? ≠ some 48 ∨ d = [48])
theorem val_pos : ∀ (d : List UInt8),d ≠ [] → d.all digC = true → d.head? ≠ some 48 → 1 ≤ valFrom 0 d
 | [],h,_,_=>absurd rfl h
 | c :: t,_,h,hh=>by
  simp only [List.all_cons,Bool.and_eq_true] at h
  have h1:=(digC_iff c).1 h.1
  have h2:=valFrom_ge t (0 * 10 + (c.toNat - 48))
  have h3 : c.toNat ≠ 48:=fun e=>hh (congrArg some (UInt8.toNat_inj.1 e))
  have e : valFrom 0 (c :: t) = valFrom (0 * 10 + (c.toNat - 48)) t:=rfl
  rw [e]
  exact Nat.le_trans (by omega) h2
theorem digits_val : ∀ (n : Nat) (d : List UInt8),d.length ≤ n → plainD d → Lib.decDigits (valFrom 0 d) = d
 | n,d,hn,⟨h1,h2,h3⟩=>by
  rcases List.eq_nil_or_concat d with e | ⟨e,c,hd⟩
  ·exact absurd e h1
  ·rw [List.concat_eq_append] at hd
   subst hd
   rw [List.all_append,Bool.and_eq_true] at h2
   simp only [List.all_cons,List.all_nil,Bool.and_true] at h2
   have hc:=(digC_iff c).1 h2.2
   rw [valFrom_snoc]
   by_cases he : e = []
   ·subst he
    have e0 : valFrom 0 [] = 0:=rfl
    rw [e0,dec_small (by omega)]
    have : 48 + (0 * 10 + (c.toNat - 48)) = c.toNat:=by omega
    rw [this]
    simp
   ·have hh : e.head? ≠ some 48:=by
     rcases h3 with h3 | h3
     ·cases e with
      | nil=>exact absurd rfl he
      | cons x t=>simpa using h3
     ·cases e with
      | nil=>exact absurd rfl he
      | cons x t=>have:=congrArg List.length h3;simp at this
    have hp:=val_pos e he h2.1 hh
    cases n with
    | zero=>simp at hn
    | succ n=>
     have ih:=digits_val n e (by simp at hn;omega) ⟨he,h2.1,.inl hh⟩
     rw [dec_big (by omega)]
     have e1 : (valFrom 0 e * 10 + (c.toNat - 48)) / 10 = valFrom 0 e:=by omega
     have e2 : 48 + (valFrom 0 e * 10 + (c.toNat - 48)) % 10 = c.toNat:=by omega
     rw [e1,e2,ih]
     simp
theorem dec_plain : ∀ (n u : Nat),u ≤ n → plainD (Lib.decDigits u) ∧ (0 < u → (Lib.decDigits u).head? ≠ some 48)
 | n,u,hn=>by
  by_cases h : u < 10
  ·rw [dec_small h]
   have ht : (UInt8.ofNat (48 + u)).toNat = 48 + u:=by rw [UInt8.toNat_ofNat'];omega
   refine ⟨⟨by simp,by simp [digC,ht];omega,?_⟩,fun h0=>?_⟩
   ·by_cases h0 : u = 0
    ·right;subst h0;rfl
    ·left
     intro e
     injection e with e
     have:=congrArg UInt8.toNat e
     rw [ht] at this
     have e48 : (48 : UInt8).toNat = 48:=rfl
     omega
   ·intro e
    injection e with e
    have:=congrArg UInt8.toNat e
    rw [ht] at this
    have e48 : (48 : UInt8).toNat = 48:=rfl
    omega
  ·rw [dec_big h]
   cases n with
   | zero=>omega
   | succ n=>
    obtain ⟨⟨h1,h2,_⟩,h4⟩:=dec_plain n (u / 10) (by omega)
    have h5:=h4 (by omega)
    have hh : (Lib.decDigits (u / 10) ++ [UInt8.ofNat (48 + u % 10)]).head? ≠ some 48:=by
     cases hd : Lib.decDigits (u / 10) with
     | nil=>exact absurd hd h1
     | cons x t=>rw [hd] at h5;simpa using h5
    have ht : (UInt8.ofNat (48 + u % 10)).toNat = 48 + u % 10:=by rw [UInt8.toNat_ofNat'];omega
    refine ⟨⟨by simp,?_,.inl hh⟩,fun _=>hh⟩
    rw [List.all_append,h2]
    simp [digC,ht]
    omega
def negB (v : List UInt8) : Bool:=decide (v.head? = some 45)
def digsB (v : List UInt8) : List UInt8:=if negB v then v.drop 1 else v
def intV (v : List UInt8) : Int:=if negB v then -(valFrom 0 (digsB v) : Int) else (valFrom 0 (digsB v) : Int)
theorem intB_iff (v : List UInt8) : intB v = true ↔ 1 ≤ (digsB v).length ∧ (digsB v).length ≤ 18 ∧ ¬ ((digsB v).head? = some 48 ∧ (1 < (digsB v).length ∨ negB v = true)) ∧ (digsB v).all digC = true:=by
 have e : intB v = (decide (1 ≤ (digsB v).length) && decide ((digsB v).length ≤ 18) && !(decide ((digsB v).head? = some 48) && (decide (1 < (digsB v).length) || negB v)) && (digsB v).all digC):=rfl
 rw [e]
 simp only [Bool.and_eq_true,decide_eq_true_eq,Bool.not_eq_true',Bool.and_eq_false_iff,decide_eq_false_iff_not,Bool.or_eq_false_iff,and_assoc]
 constructor
 ·rintro ⟨h1,h2,h3,h4⟩
  refine ⟨h1,h2,fun ⟨h5,h6⟩=>?_,h4⟩
  rcases h3 with h3 | ⟨h3,h7⟩
  ·exact h3 h5
  ·rcases h6 with h6 | h6
   ·exact h3 h6
   ·rw [h7] at h6;cases h6
 ·rintro ⟨h1,h2,h3,h4⟩
  refine ⟨h1,h2,?_,h4⟩
  by_cases h5 : (digsB v).head? = some 48
  ·right
   refine ⟨fun h6=>h3 ⟨h5,.inl h6⟩,?_⟩
   cases h7 : negB v with
   | false=>rfl
   | true=>exact absurd ⟨h5,.inr h7⟩ h3
  ·exact .inl h5
theorem intB_plain {v : List UInt8} (h : intB v = true) : plainD (digsB v) ∧ (negB v = true → (digsB v).head? ≠ some 48):=by
 obtain ⟨h1,h2,h3,h4⟩:=(intB_iff v).1 h
 refine ⟨⟨fun e=>by rw [e] at h1;simp at h1,h4,?_⟩,fun hn he=>h3 ⟨he,.inr hn⟩⟩
 by_cases hh : (digsB v).head? = some 48
 ·right
  have hl : ¬ 1 < (digsB v).length:=fun hl=>h3 ⟨hh,.inl hl⟩
  cases hd : digsB v with
  | nil=>rw [hd] at h1;simp at h1
  | cons c t=>
   rw [hd] at hh hl
   cases t with
   | nil=>simp at hh;rw [hh]
   | cons x t=>simp at hl
 ·exact .inl hh
theorem intV_small {v : List UInt8} (h : intB v = true) : valFrom 0 (digsB v) < 10 ^ 18:=by
 obtain ⟨h1,h2,h3,h4⟩:=(intB_iff v).1 h
 have:=valFrom_lt (digsB v) 0 h4
 have h5 : 10 ^ (digsB v).length ≤ 10 ^ 18:=Nat.pow_le_pow_right (by decide) h2
 omega
theorem neg_form {v : List UInt8} (h : negB v = true) : v = 45 :: digsB v:=by
 unfold digsB
 rw [if_pos h]
 unfold negB at h
 rw [decide_eq_true_eq] at h
 cases v with
 | nil=>cases h
 | cons c t=>simp at h;rw [h];rfl
theorem pos_form {v : List UInt8} (h : negB v = false) : digsB v = v:=by unfold digsB;rw [if_neg (by simp [h])]
theorem parse_int {v : List UInt8} (h : intB v = true) : Lib.parseIntB 64 v = .ok (intV v):=by
 obtain ⟨⟨h1,h2,h3⟩,h4⟩:=intB_plain h
 have hs:=intV_small h
 have hp : Lib.parseUintB 64 (digsB v) = .ok (valFrom 0 (digsB v)):=by
  unfold Lib.parseUintB
  rw [if_neg h1]
  exact parse_ok _ 0 h2 hs
 cases hn : negB v with
 | true=>
  have e:=neg_form hn
  have hV : intV v = -(valFrom 0 (digsB v) : Int):=by unfold intV;rw [if_pos hn]
  generalize digsB v = d at *
  subst e
  have c1 : ((45 : UInt8).toNat = 43 ∨ (45 : UInt8).toNat = 45):=by decide
  have c2 : (45 : UInt8).toNat = 45:=by decide
  have c3 : ¬ 2 ^ (64 - 1) < valFrom 0 d:=by omega
  simp only [Lib.parseIntB,if_pos c1]
  simp only [hp,c2,not_true_eq_false,false_and,if_false,true_and,if_true,c3,hV]
 | false=>
  have e:=pos_form hn
  have hV : intV v = (valFrom 0 (digsB v) : Int):=by unfold intV;rw [if_neg (by simp [hn])]
  rw [e] at h1 h2 h3 hs hp hV
  cases v with
  | nil=>exact absurd rfl h1
  | cons c t=>
   simp only [List.all_cons,Bool.and_eq_true] at h2
   have h5:=(digC_iff c).1 h2.1
   have c1 : ¬ (c.toNat = 43 ∨ c.toNat = 45):=by omega
   have c2 : ¬ c.toNat = 45:=by omega
   have c3 : ¬ 2 ^ (64 - 1) ≤ valFrom 0 (c :: t):=by omega
   simp only [Lib.parseIntB,if_neg c1]
   simp only [hp,c2,not_false_eq_true,true_and,false_and,if_false,c3,hV]
theorem itoa_int {v : List UInt8} (h : intB v = true) : Lib.itoa (intV v) = v:=by
 obtain ⟨hp,h4⟩:=intB_plain h
 have hd:=digits_val _ (digsB v) (Nat.le_refl _) hp
 cases hn : negB v with
 | true=>
  have hpos:=val_pos _ hp.1 hp.2.1 (h4 hn)
  have hV : intV v = -(valFrom 0 (digsB v) : Int):=by unfold intV;rw [if_pos hn]
  have hlt : -(valFrom 0 (digsB v) : Int) < 0:=by omega
  unfold Lib.itoa
  rw [hV,if_pos hlt]
  have : (-(valFrom 0 (digsB v) : Int)).natAbs = valFrom 0 (digsB v):=by omega
  rw [this,hd]
  exact (neg_form hn).symm
 | false=>
  have hV : intV v = (valFrom 0 (digsB v) : Int):=by unfold intV;rw [if_neg (by simp [hn])]
  have hlt : ¬ (valFrom 0 (digsB v) : Int) < 0:=by omega
  unfold Lib.itoa
  rw [hV,if_neg hlt,Int.toNat_natCast,hd]
  exact pos_form hn
theorem trim_dash (v : List UInt8) : Lib.trimPrefix v [45] = digsB v:=by
 unfold Lib.trimPrefix Lib.hasPrefix digsB negB
 cases v with
 | nil=>rfl
 | cons c t=>
  by_cases hc : c = 45
  ·subst hc;rfl
  ·have : ¬ (45 : UInt8) = c:=fun e=>hc e.symm
   simp [List.isPrefixOf,hc,this]
theorem int_prog (v : List UInt8) (n : Int) (h1 : Lib.itoa n = v) (h2 : (Lib.trimPrefix v [45]).length ≤ 18) : intB v = true:=by
 rw [trim_dash] at h2
 rw [intB_iff]
 unfold Lib.itoa at h1
 by_cases hn : n < 0
 ·rw [if_pos hn] at h1
  obtain ⟨⟨p1,p2,p3⟩,p4⟩:=dec_plain _ n.natAbs (Nat.le_refl _)
  have hneg : negB v = true:=by rw [← h1];rfl
  have hd : digsB v = Lib.decDigits n.natAbs:=by have h9:=h1.trans (neg_form hneg);injection h9 with _ e;exact e.symm
  rw [hd] at h2 ⊢
  exact ⟨by have:=List.length_pos_iff.2 p1;omega,h2,fun ⟨e,_⟩=>p4 (by omega) e,p2⟩
 ·rw [if_neg hn] at h1
  obtain ⟨⟨p1,p2,p3⟩,p4⟩:=dec_plain _ n.toNat (Nat.le_refl _)
  rw [h1] at p1 p2 p3 p4
  have hneg : negB v = false:=by
   cases hb : negB v with
   | false=>rfl
   | true=>
    have:=neg_form hb
    rw [this] at p2
    simp [digC] at p2
  have hd:=pos_form hneg
  rw [hd] at h2 ⊢
  refine ⟨by have:=List.length_pos_iff.2 p1;omega,h2,?_,p2⟩
  rintro ⟨e,e2 | e2⟩
  ·rcases p3 with p3 | p3
   ·exact p3 e
   ·rw [p3] at e2;simp at e2
  ·rw [hneg] at e2;cases e2
end Go.Proofs.YtlbneoilhapkmaaGreatDoor
