/- Lemmas of the walk. -/
import Derived.Test.YtioglicfndkgiaaGreatDoorV37
import Derived.Test.YtioglicfndkgiaaGreatDoorV34
import Derived.Test.YtioglicfndkgiaaGreatDoorV33
import Derived.Test.YtioglicfndkgiaaGreatDoorV27
import Derived.Test.YtioglicfndkgiaaGreatDoorV32
set_option maxHeartbeats 40000000
set_option linter.unusedVariables false
set_option linter.unusedSimpArgs false
namespace Go.Proofs.YtioglicfndkgiaaGreatDoor
open Go.RowKit
set_option maxRecDepth 100000
theorem zla {nm : List UInt8} {l : List Att} (h : zc6 nm l = true) : zb3 nm = true:=by
 unfold zc6 zqn at h
 simp only [Bool.and_eq_true] at h
 exact h.1.1.1.1
theorem znE {l : List Ent} {p : ByteArray} : zdM l p = none ↔ l.any (fun e=>decide (nmE e = bys p)) = false:=by
 unfold zdM
 rw [List.find?_eq_none,List.any_eq_false]
 constructor
 ·intro h x hx
  have:=h x hx
  simp only [decide_eq_true_eq] at this ⊢
  intro e
  exact this (by rw [← zaK x.name];unfold nmE at e;rw [e,zaK])
 ·intro h x hx
  have:=h x hx
  simp only [decide_eq_true_eq] at this ⊢
  intro e
  exact this (by unfold nmE;rw [e])
theorem zfk {l : List Ent} (h : OkOf l) : Named l:=by
 have hs : ∀ e ∈ l,zb3 (nmE e) = true:=fun e he=>by
  obtain ⟨i,hi⟩:=List.getElem?_of_mem he
  exact zla (h.2.1 i e (List.getElem?_eq_some_iff.1 hi).1 hi).2
 refine ⟨hs,List.pairwise_iff_getElem.2 fun i j hi hj hij=>?_⟩
 have h1:=(h.2.1 j l[j] hj (List.getElem?_eq_getElem hj)).1
 rw [znE,List.any_eq_false] at h1
 have h2:=h1 l[i] (List.mem_of_getElem? (i:=i) (by rw [List.getElem?_take_of_lt hij];exact List.getElem?_eq_getElem hi))
 simpa using h2
end Go.Proofs.YtioglicfndkgiaaGreatDoor
namespace Go.Proofs.YtioglicfndkgiaaGreatDoor
abbrev nmQ (c : CutR) : List UInt8:=bys c.name
theorem zdQ {a b : List UInt8} : za9 a b = true ↔ zaD (zaf a) = 0 ∧ zaD (zaf b) = 0 ∧ (okL (zaf b)).length ≤ (okL (zaf a)).length ∧ (okL (zaf a)).drop ((okL (zaf a)).length - (okL (zaf b)).length) = okL (zaf b):=by
 unfold za9 zcR
 simp only [Bool.and_eq_true,decide_eq_true_eq]
 constructor
 ·rintro ⟨⟨h1,h2⟩,h3⟩
  refine ⟨h1,h2,?_⟩
  split at h3
  ·assumption
  ·simp at h3
 ·rintro ⟨h1,h2,h3⟩
  exact ⟨⟨h1,h2⟩,by rw [if_pos h3];rfl⟩
theorem zms {a : List UInt8} (h : zaD (zaf a) = 0) : za9 a a = true:=zdQ.2 ⟨h,h,Nat.le_refl _,by rw [Nat.sub_self];rfl⟩
theorem zjg {a b : List UInt8} (ha : zaD (zaf a) = 0) (h : za9 (zaR a).1 b = true) : za9 a b = true:=by
 obtain ⟨h1,h2,h3,h4⟩:=zdQ.1 h
 rw [zf3 ha] at h3 h4
 refine zdQ.2 ⟨ha,h2,?_⟩
 change (okL (zaf b)).length ≤ (okL (zaf a)).tail.length at h3
 change (okL (zaf a)).tail.drop ((okL (zaf a)).tail.length - (okL (zaf b)).length) = okL (zaf b) at h4
 generalize okL (zaf a) = x at *
 generalize okL (zaf b) = y at *
 cases x with
 | nil=>exact ⟨h3,h4⟩
 | cons p t=>
  simp only [List.tail_cons,List.length_cons] at *
  refine ⟨by omega,?_⟩
  rw [show t.length + 1 - y.length = (t.length - y.length) + 1 by omega,List.drop_succ_cons]
  exact h4
theorem zox {a b c : List UInt8} (hb : zb3 b = true) (hc : zb3 c = true) (h1 : za9 a b = true) (h2 : za9 a c = true) (h3 : za1 b = za1 c) : b = c:=by
 obtain ⟨-,-,-,e1⟩:=zdQ.1 h1
 obtain ⟨-,-,-,e2⟩:=zdQ.1 h2
 obtain ⟨-,n1,-⟩:=zbg hb
 obtain ⟨-,n2,-⟩:=zbg hc
 unfold za1 at h3
 have hl : (okL (zaf b)).length = (okL (zaf c)).length:=by omega
 rw [hl,e2] at e1
 rw [← n1,← n2]
 unfold za2
 rw [e1]
def zrr (cs : List CutR) (nm : List UInt8) (i : Int) : Prop:=
 (i = -1 ∧ ∀ c ∈ cs,za9 nm (nmQ c) = false) ∨ ∃ (k : Nat) (c : CutR),i = k ∧ cs[k]? = some c ∧ za9 nm (nmQ c) = true ∧ ∀ c' ∈ cs,za9 nm (nmQ c') = true → za1 (nmQ c') ≤ za1 (nmQ c)
theorem ziH (cs : List CutR) (nm : List UInt8) : zrr cs nm (zbS cs nm):=by
 have key : ∀ j,j ≤ cs.length → (za8 nm 0 (-1,-1) (cs.take j) = (-1,-1) ∧ ∀ c ∈ cs.take j,za9 nm (nmQ c) = false) ∨
  ∃ (k : Nat) (c : CutR),za8 nm 0 (-1,-1) (cs.take j) = ((k : Int),za1 (nmQ c)) ∧ cs[k]? = some c ∧ za9 nm (nmQ c) = true ∧ ∀ c' ∈ cs.take j,za9 nm (nmQ c') = true → za1 (nmQ c') ≤ za1 (nmQ c):=by
  intro j
  induction j with
  | zero=>intro _;exact .inl ⟨rfl,by simp⟩
  | succ j ih=>
   intro hj
   have hc : cs[j]? = some cs[j]:=List.getElem?_eq_getElem (by omega)
   have ht : cs.take (j + 1) = cs.take j ++ [cs[j]]:=by rw [List.take_add_one,hc];rfl
   rw [zdy hc,ht]
   generalize cs[j] = x at *
   have hd0 : 0 ≤ za1 (nmQ x):=by unfold za1;omega
   rcases ih (by omega) with ⟨e,h⟩ | ⟨k,c,e,h1,h2,h3⟩
   ·rw [e]
    unfold zcg
    cases hu : za9 nm (nmQ x) with
    | false=>
     refine .inl ⟨by simp,fun c hc'=>?_⟩
     rcases List.mem_append.1 hc' with h4 | h4
     ·exact h c h4
     ·simp at h4;rw [h4];exact hu
    | true=>
     refine .inr ⟨j,x,by show (if (decide ((-1 : Int) < za1 (nmQ x)) && true) = true then _ else _) = _;rw [decide_eq_true (show (-1 : Int) < za1 (nmQ x) by omega)];rfl,hc,hu,fun c' hc' hu'=>?_⟩
     rcases List.mem_append.1 hc' with h4 | h4
     ·rw [h c' h4] at hu';cases hu'
     ·simp at h4;rw [h4];exact Int.le_refl _
   ·rw [e]
    unfold zcg
    cases hu : za9 nm (nmQ x) with
    | false=>
     refine .inr ⟨k,c,by simp,h1,h2,fun c' hc' hu'=>?_⟩
     rcases List.mem_append.1 hc' with h4 | h4
     ·exact h3 c' h4 hu'
     ·simp at h4;rw [h4,hu] at hu';cases hu'
    | true=>
     by_cases hd : za1 (nmQ c) < za1 (nmQ x)
     ·refine .inr ⟨j,x,by show (if (decide (za1 (nmQ c) < za1 (nmQ x)) && true) = true then _ else _) = _;rw [decide_eq_true hd];rfl,hc,hu,fun c' hc' hu'=>?_⟩
      rcases List.mem_append.1 hc' with h4 | h4
      ·have:=h3 c' h4 hu';omega
      ·simp at h4;rw [h4];exact Int.le_refl _
     ·refine .inr ⟨k,c,by show (if (decide (za1 (nmQ c) < za1 (nmQ x)) && true) = true then _ else _) = _;rw [decide_eq_false hd];rfl,h1,h2,fun c' hc' hu'=>?_⟩
      rcases List.mem_append.1 hc' with h4 | h4
      ·exact h3 c' h4 hu'
      ·simp at h4;rw [h4];omega
 have:=key cs.length (Nat.le_refl _)
 rw [List.take_length] at this
 unfold zbS
 rcases this with ⟨e,h⟩ | ⟨k,c,e,h⟩
 ·exact .inl ⟨by rw [e],h⟩
 ·exact .inr ⟨k,c,by rw [e],h⟩
theorem zkv {cs : List CutR} {nm : List UInt8} {c : CutR} (hc : c ∈ cs) (hu : za9 nm (nmQ c) = true) : ∃ (k : Nat) (d : CutR),zbS cs nm = k ∧ cs[k]? = some d ∧ za9 nm (nmQ d) = true:=by
 rcases ziH cs nm with ⟨-,h⟩ | ⟨k,d,e,h1,h2,-⟩
 ·rw [h c hc] at hu;cases hu
 ·exact ⟨k,d,e,h1,h2⟩
structure RightOk (l : List Ent) (cs : List CutR) (n : Int) : Prop where
 srv : 1 ≤ n ∧ n ≤ 8
 few : cs.length ≤ 30
 cut : ∀ c ∈ cs,0 ≤ c.server ∧ c.server < n ∧ ∃ e ∈ l,e.name = c.name ∧ (zcG e.atts).2 = false
 apart : Apart nmQ cs
 top : ∀ e ∈ l,(zaR (nmE e)).1 = [] → ∃ c ∈ cs,c.name = e.name
theorem RightOk.self {l : List Ent} {cs : List CutR} {n : Int} (h : RightOk l cs n) (hN : Named l) : ∀ c ∈ cs,zb3 (nmQ c) = true:=fun c hc=>by
 obtain ⟨-,-,e,he,hn,-⟩:=h.cut c hc
 have:=hN.self e he
 unfold nmE at this
 rw [hn] at this
 exact this
theorem zqx {l : List Ent} {cs : List CutR} {n : Int} (hok : OkOf l) (h : RightOk l cs n) : ∀ e ∈ l,∃ c ∈ cs,za9 (nmE e) (nmQ c) = true:=by
 have hN:=zfk hok
 have key : ∀ (m : Nat) (e : Ent),e ∈ l → (okL (zaf (nmE e))).length ≤ m → ∃ c ∈ cs,za9 (nmE e) (nmQ c) = true:=by
  intro m
  induction m with
  | zero=>
   intro e he hm
   have hs:=hN.self e he
   obtain ⟨h1,h2,h3⟩:=zbg hs
   have : okL (zaf (nmE e)) = []:=List.eq_nil_of_length_eq_zero (by omega)
   unfold za2 at h2
   rw [this] at h2
   exact absurd h2.symm h3
  | succ m ih=>
   intro e he hm
   obtain ⟨h1,h2,h3⟩:=zbg (hN.self e he)
   by_cases hp : (zaR (nmE e)).1 = []
   ·obtain ⟨c,hc,hn⟩:=h.top e he hp
    refine ⟨c,hc,?_⟩
    have e2 : nmQ c = nmE e:=by unfold nmQ nmE;rw [hn]
    rw [e2]
    exact zms h1
   ·have ha:=hok.2.2 e he
    unfold zdI at ha
    rw [zao,if_neg hp] at ha
    cases hf : zdM l (str (zaR (bys e.name)).1) with
    | none=>rw [hf] at ha;simp at ha
    | some e'=>
     have hm' : e' ∈ l:=List.mem_of_find?_eq_some hf
     have hn' : nmE e' = (zaR (nmE e)).1:=by
      have:=List.find?_some hf
      simp only [decide_eq_true_eq] at this
      unfold nmE
      rw [this,zao]
     have hpp:=zf3 h1
     have hlen : (okL (zaf (nmE e'))).length ≤ m:=by
      rw [hn',hpp]
      show (okL (zaf (nmE e))).tail.length ≤ m
      rw [List.length_tail]
      omega
     obtain ⟨c,hc,hu⟩:=ih e' hm' hlen
     refine ⟨c,hc,zjg h1 ?_⟩
     rw [← hn']
     exact hu
 exact fun e he=>key _ e he (Nat.le_refl _)
theorem zn0 {cs cs' : List CutR} {nm : List UInt8} (hp : cs'.Perm cs) (hs : ∀ c ∈ cs,zb3 (nmQ c) = true) (ha : Apart nmQ cs) {k : Nat} {c : CutR} (h : zbS cs' nm = k) (hc : cs'[k]? = some c) : ∃ k' : Nat,zbS cs nm = k' ∧ cs[k']? = some c:=by
 rcases ziH cs' nm with ⟨h1,-⟩ | ⟨k1,c1,e1,g1,u1,m1⟩
 ·omega
 obtain rfl : k1 = k:=by omega
 rw [hc] at g1
 injection g1 with g1
 subst g1
 have hm : c ∈ cs:=hp.mem_iff.1 (List.mem_of_getElem? hc)
 rcases ziH cs nm with ⟨-,h2⟩ | ⟨k2,c2,e2,g2,u2,m2⟩
 ·rw [h2 c hm] at u1;cases u1
 ·have hm2:=List.mem_of_getElem? g2
  have d1:=m1 c2 (hp.mem_iff.2 hm2) u2
  have d2:=m2 c hm u1
  have:=ha.one hm2 hm (zox (hs c2 hm2) (hs c hm) u2 u1 (by omega))
  subst this
  exact ⟨k2,e2,g2⟩
def ctxE (l : List Ent) (cs : List CutR) (i : Nat) : List Ent:=l.filter fun e=>decide (zbS cs (nmE e) = (i : Int))
def upC (cs : List CutR) (c : CutR) : Int:=zbS cs (zaR (nmQ c)).1
def ctxS (cs : List CutR) (i : Nat) : List CutR:=cs.filter fun c=>decide (upC cs c = (i : Int))
def topS (cs : List CutR) : List CutR:=cs.filter fun c=>decide (upC cs c < 0)
def nmAt (cs : List CutR) (i : Nat) : ByteArray:=((cs[i]?).map (·.name)).getD ByteArray.empty
def zjI (l : List Ent) (cs : List CutR) (i : Nat) : Cxt:=⟨nmAt cs i,ctxE l cs i,ctxS cs i⟩
def srvF (l : List Ent) (cs : List CutR) (s : Nat) : List Cxt:=((List.range cs.length).filter fun i=>decide (((cs[i]?).map (·.server)).getD (-1) = (s : Int))).map (zjI l cs)
def zb4 (l : List Ent) (cs : List CutR) (n : Nat) : List (List Cxt):=(List.range n).map (srvF l cs)
end Go.Proofs.YtioglicfndkgiaaGreatDoor
