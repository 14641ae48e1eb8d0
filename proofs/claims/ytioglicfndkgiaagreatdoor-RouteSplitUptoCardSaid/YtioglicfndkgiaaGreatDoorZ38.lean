/- Lemmas of the walk. -/
import Derived.Test.YtioglicfndkgiaaGreatDoorZ29
import Derived.Test.YtioglicfndkgiaaGreatDoorZ37
import Derived.Test.YtioglicfndkgiaaGreatDoorZ30
set_option maxHeartbeats 40000000
set_option linter.unusedVariables false
set_option linter.unusedSimpArgs false
namespace Go.Proofs.YtioglicfndkgiaaGreatDoor
abbrev nmQ (c:CutR):List UInt8:=bys c.name
theorem zbF {a b:List UInt8}:zaP a b=true ↔ zap (zac a)=0∧zap (zac b)=0∧(okL (zac b)).length≤(okL (zac a)).length∧(okL (zac a)).drop ((okL (zac a)).length-(okL (zac b)).length)=okL (zac b):=by
 unfold zaP zdb
 simp only [Bool.and_eq_true,decide_eq_true_eq]
 constructor
 ·rintro ⟨⟨h1,h2⟩,h3⟩
  refine ⟨h1,h2,?_⟩
  split at h3
  ·assumption
  ·simp at h3
 ·rintro ⟨h1,h2,h3⟩
  exact ⟨⟨h1,h2⟩,by rw [if_pos h3];rfl⟩
theorem zm9 {a:List UInt8} (h:zap (zac a)=0):zaP a a=true:=zbF.2 ⟨h,h,Nat.le_refl _,by rw [Nat.sub_self];rfl⟩
theorem zep {a b:List UInt8} (ha:zap (zac a)=0) (h:zaP (zaO a).1 b=true):zaP a b=true:=by
 obtain ⟨h1,h2,h3,h4⟩:=zbF.1 h
 rw [zdo ha] at h3 h4
 refine zbF.2 ⟨ha,h2,?_⟩
 change (okL (zac b)).length≤(okL (zac a)).tail.length at h3
 change (okL (zac a)).tail.drop ((okL (zac a)).tail.length-(okL (zac b)).length)=okL (zac b) at h4
 generalize okL (zac a)=x at *
 generalize okL (zac b)=y at *
 cases x with
 | nil=>exact ⟨h3,h4⟩
 | cons p t=>
  simp only [List.tail_cons,List.length_cons] at *
  refine ⟨by omega,?_⟩
  rw [show t.length+1-y.length=(t.length-y.length)+1 by omega,List.drop_succ_cons]
  exact h4
theorem zcz {a b:List UInt8} (ha:zap (zac a)=0) (hne:okL (zac a)≠[]) (h:zaP (zaO a).1 b=true):zaz b<zaz a:=by
 have h3:=(zbF.1 h).2.2.1
 rw [zdo ha] at h3
 change (okL (zac b)).length≤(okL (zac a)).tail.length at h3
 unfold zaz
 cases hx:okL (zac a) with
 | nil=>exact absurd hx hne
 | cons p t=>rw [hx] at h3;simp at h3 ⊢;omega
theorem zhe {a b c:List UInt8} (hb:zbD b=true) (hc:zbD c=true) (h1:zaP a b=true) (h2:zaP a c=true) (h3:zaz b=zaz c):b=c:=by
 obtain ⟨-,-,-,e1⟩:=zbF.1 h1
 obtain ⟨-,-,-,e2⟩:=zbF.1 h2
 obtain ⟨-,n1,-⟩:=za2 hb
 obtain ⟨-,n2,-⟩:=za2 hc
 unfold zaz at h3
 have hl:(okL (zac b)).length=(okL (zac c)).length:=by omega
 rw [hl,e2] at e1
 rw [← n1,← n2]
 unfold zaG
 rw [e1]
def zsS (cs:List CutR) (nm:List UInt8) (i:Int):Prop:=
 (i = -1∧∀ c∈cs,zaP nm (nmQ c)=false)∨∃ (k:Nat) (c:CutR),i=k∧cs[k]?=some c∧zaP nm (nmQ c)=true∧∀ c'∈cs,zaP nm (nmQ c')=true→zaz (nmQ c')≤zaz (nmQ c)
theorem zbJ (cs:List CutR) (nm:List UInt8):zsS cs nm (zaJ cs nm):=by
 have key:∀ j,j≤cs.length→(za8 nm 0 (-1,-1) (cs.take j)=(-1,-1)∧∀ c∈cs.take j,zaP nm (nmQ c)=false) ∨
  ∃ (k:Nat) (c:CutR),za8 nm 0 (-1,-1) (cs.take j)=((k:Int),zaz (nmQ c))∧cs[k]?=some c∧zaP nm (nmQ c)=true∧∀ c'∈cs.take j,zaP nm (nmQ c')=true→zaz (nmQ c')≤zaz (nmQ c):=by
  intro j
  induction j with
  | zero=>intro _;exact .inl ⟨rfl,by simp⟩
  | succ j ih=>
   intro hj
   have hc:cs[j]?=some cs[j]:=List.getElem?_eq_getElem (by omega)
   have ht:cs.take (j+1)=cs.take j++[cs[j]]:=by rw [List.take_add_one,hc];rfl
   rw [zdM hc,ht]
   generalize cs[j]=x at *
   have hd0:0≤zaz (nmQ x):=by unfold zaz;omega
   rcases ih (by omega) with ⟨e,h⟩ | ⟨k,c,e,h1,h2,h3⟩
   ·rw [e]
    unfold zcr
    cases hu:zaP nm (nmQ x) with
    | false=>
     refine .inl ⟨by simp,fun c hc'=>?_⟩
     rcases List.mem_append.1 hc' with h4 | h4
     ·exact h c h4
     ·simp at h4;rw [h4];exact hu
    | true=>
     refine .inr ⟨j,x,by show (if (decide ((-1:Int)<zaz (nmQ x)) && true)=true then _ else _)=_;rw [decide_eq_true (show (-1:Int)<zaz (nmQ x) by omega)];rfl,hc,hu,fun c' hc' hu'=>?_⟩
     rcases List.mem_append.1 hc' with h4 | h4
     ·rw [h c' h4] at hu';cases hu'
     ·simp at h4;rw [h4];exact Int.le_refl _
   ·rw [e]
    unfold zcr
    cases hu:zaP nm (nmQ x) with
    | false=>
     refine .inr ⟨k,c,by simp,h1,h2,fun c' hc' hu'=>?_⟩
     rcases List.mem_append.1 hc' with h4 | h4
     ·exact h3 c' h4 hu'
     ·simp at h4;rw [h4,hu] at hu';cases hu'
    | true=>
     by_cases hd:zaz (nmQ c)<zaz (nmQ x)
     ·refine .inr ⟨j,x,by show (if (decide (zaz (nmQ c)<zaz (nmQ x)) && true)=true then _ else _)=_;rw [decide_eq_true hd];rfl,hc,hu,fun c' hc' hu'=>?_⟩
      rcases List.mem_append.1 hc' with h4 | h4
      ·have:=h3 c' h4 hu';omega
      ·simp at h4;rw [h4];exact Int.le_refl _
     ·refine .inr ⟨k,c,by show (if (decide (zaz (nmQ c)<zaz (nmQ x)) && true)=true then _ else _)=_;rw [decide_eq_false hd];rfl,h1,h2,fun c' hc' hu'=>?_⟩
      rcases List.mem_append.1 hc' with h4 | h4
      ·exact h3 c' h4 hu'
      ·simp at h4;rw [h4];omega
 have:=key cs.length (Nat.le_refl _)
 rw [List.take_length] at this
 unfold zaJ
 rcases this with ⟨e,h⟩ | ⟨k,c,e,h⟩
 ·exact .inl ⟨by rw [e],h⟩
 ·exact .inr ⟨k,c,by rw [e],h⟩
theorem zfC {cs:List CutR} {nm:List UInt8} {c:CutR} (hc:c∈cs) (hu:zaP nm (nmQ c)=true):∃ (k:Nat) (d:CutR),zaJ cs nm=k∧cs[k]?=some d∧zaP nm (nmQ d)=true:=by
 rcases zbJ cs nm with ⟨-,h⟩ | ⟨k,d,e,h1,h2,-⟩
 ·rw [h c hc] at hu;cases hu
 ·exact ⟨k,d,e,h1,h2⟩
structure RightOk (l:List Ent) (cs:List CutR) (n:Int):Prop where
 srv:1≤n∧n≤8
 few:cs.length≤30
 cut:∀ c∈cs,0≤c.server∧c.server<n∧∃ e∈l,e.name=c.name∧(zdi e.atts).2=false
 apart:Apart nmQ cs
 top:∀ e∈l,(zaO (nmE e)).1=[]→∃ c∈cs,c.name=e.name
theorem RightOk.self {l:List Ent} {cs:List CutR} {n:Int} (h:RightOk l cs n) (hN:Named l):∀ c∈cs,zbD (nmQ c)=true:=fun c hc=>by
 obtain ⟨-,-,e,he,hn,-⟩:=h.cut c hc
 have:=hN.self e he
 unfold nmE at this
 rw [hn] at this
 exact this
theorem zrD {l:List Ent} {cs:List CutR} {n:Int} (hok:OkOf l) (h:RightOk l cs n):∀ e∈l,∃ c∈cs,zaP (nmE e) (nmQ c)=true:=by
 have hN:=zd1 hok
 have key:∀ (m:Nat) (e:Ent),e∈l→(okL (zac (nmE e))).length≤m→∃ c∈cs,zaP (nmE e) (nmQ c)=true:=by
  intro m
  induction m with
  | zero=>
   intro e he hm
   have hs:=hN.self e he
   obtain ⟨h1,h2,h3⟩:=za2 hs
   have:okL (zac (nmE e))=[]:=List.eq_nil_of_length_eq_zero (by omega)
   unfold zaG at h2
   rw [this] at h2
   exact absurd h2.symm h3
  | succ m ih=>
   intro e he hm
   obtain ⟨h1,h2,h3⟩:=za2 (hN.self e he)
   by_cases hp:(zaO (nmE e)).1=[]
   ·obtain ⟨c,hc,hn⟩:=h.top e he hp
    refine ⟨c,hc,?_⟩
    have e2:nmQ c=nmE e:=by unfold nmQ nmE;rw [hn]
    rw [e2]
    exact zm9 h1
   ·have ha:=hok.2.2 e he
    unfold zeg at ha
    rw [zao,if_neg hp] at ha
    cases hf:zec l (str (zaO (bys e.name)).1) with
    | none=>rw [hf] at ha;simp at ha
    | some e'=>
     have hm':e'∈l:=List.mem_of_find?_eq_some hf
     have hn':nmE e'=(zaO (nmE e)).1:=by
      have:=List.find?_some hf
      simp only [decide_eq_true_eq] at this
      unfold nmE
      rw [this,zao]
     have hpp:=zdo h1
     have hlen:(okL (zac (nmE e'))).length≤m:=by
      rw [hn',hpp]
      show (okL (zac (nmE e))).tail.length≤m
      rw [List.length_tail]
      omega
     obtain ⟨c,hc,hu⟩:=ih e' hm' hlen
     refine ⟨c,hc,zep h1 ?_⟩
     rw [← hn']
     exact hu
 exact fun e he=>key _ e he (Nat.le_refl _)
theorem zfV {s:List UInt8} (h:zbD s=true):okL (zac s)≠[]:=fun e=>by
 obtain ⟨h1,h2,h3⟩:=za2 h
 unfold zaG at h2
 rw [e] at h2
 exact h3 h2.symm
theorem zn5 {cs cs':List CutR} {nm:List UInt8} (hp:cs'.Perm cs) (hs:∀ c∈cs,zbD (nmQ c)=true) (ha:Apart nmQ cs) {k:Nat} {c:CutR} (h:zaJ cs' nm=k) (hc:cs'[k]?=some c):∃ k':Nat,zaJ cs nm=k'∧cs[k']?=some c:=by
 rcases zbJ cs' nm with ⟨h1,-⟩ | ⟨k1,c1,e1,g1,u1,m1⟩
 ·omega
 obtain rfl:k1=k:=by omega
 rw [hc] at g1
 injection g1 with g1
 subst g1
 have hm:c∈cs:=hp.mem_iff.1 (List.mem_of_getElem? hc)
 rcases zbJ cs nm with ⟨-,h2⟩ | ⟨k2,c2,e2,g2,u2,m2⟩
 ·rw [h2 c hm] at u1;cases u1
 ·have hm2:=List.mem_of_getElem? g2
  have d1:=m1 c2 (hp.mem_iff.2 hm2) u2
  have d2:=m2 c hm u1
  have:=ha.one hm2 hm (zhe (hs c2 hm2) (hs c hm) u2 u1 (by omega))
  subst this
  exact ⟨k2,e2,g2⟩
def ctxE (l:List Ent) (cs:List CutR) (i:Nat):List Ent:=l.filter fun e=>decide (zaJ cs (nmE e)=(i:Int))
def upC (cs:List CutR) (c:CutR):Int:=zaJ cs (zaO (nmQ c)).1
def ctxS (cs:List CutR) (i:Nat):List CutR:=cs.filter fun c=>decide (upC cs c=(i:Int))
def topS (cs:List CutR):List CutR:=cs.filter fun c=>decide (upC cs c<0)
def nmAt (cs:List CutR) (i:Nat):ByteArray:=((cs[i]?).map (·.name)).getD ByteArray.empty
def zlE (l:List Ent) (cs:List CutR) (i:Nat):Cxt:=⟨nmAt cs i,ctxE l cs i,ctxS cs i⟩
def srvF (l:List Ent) (cs:List CutR) (s:Nat):List Cxt:=((List.range cs.length).filter fun i=>decide (((cs[i]?).map (·.server)).getD (-1)=(s:Int))).map (zlE l cs)
def zaZ (l:List Ent) (cs:List CutR) (n:Nat):List (List Cxt):=(List.range n).map (srvF l cs)
end Go.Proofs.YtioglicfndkgiaaGreatDoor
