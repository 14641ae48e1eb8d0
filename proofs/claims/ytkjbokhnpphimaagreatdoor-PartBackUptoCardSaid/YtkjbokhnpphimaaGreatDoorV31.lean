/- Lemmas of the walk. -/
import Derived.Test.YtkjbokhnpphimaaGreatDoorV30
set_option maxHeartbeats 40000000
set_option linter.unusedVariables false
set_option linter.unusedSimpArgs false
namespace Go.Proofs.YtkjbokhnpphimaaGreatDoor
section
open Go.RowKit
set_option maxRecDepth 100000
theorem zbE{s:List UInt8}(h:zbZ s=true):zaJ (zak s)=0∧za3 s=s∧s≠[]:=by
 unfold zbZ at h
 simp only[Bool.and_eq_true,decide_eq_true_eq,Bool.not_eq_true',decide_eq_false_iff_not] at h
 exact⟨h.1.1,h.1.2,h.2⟩
def zhZ:List UInt8:=[97,108,105,97,115,101,100,79,98,106,101,99,116,78,97,109,101]
def aliB:List UInt8:=[97,108,105,97,115]
def zcV(l:List Att):List UInt8×Bool:=
 match zbv zhZ l with
 |[]=>([],false)
 |v::_=>if hasZ objB aliB (zbv objB l) then((valZ zhZ (bys v)).1,(valZ zhZ (bys v)).2==0) else([],false)
def zdn(w:World)(l:List Att)(e:Ending)(w':World):Prop:=e=.returned (.tuple #[.string (str (zcV l).1),.bool (zcV l).2])∧Ext w w'
theorem zkl{S:Nat→Prop}{A:Option Addr}{n c:Nat}{l:List Att}{w:World}(h:Row Elem.att S w A n c l)(nm:ByteArray)(hG:Gu w)(hv:∀a∈l,a.vals.length≤8796093022208) :
 Calls Tryz.prog 53 #[.agg #[.string nm,.slice A n c]] w (zdn w l):=by
 have HG:=hid hG
 have HB:=hid (Bx.make (Ext.refl w) #[.string nm,.slice A n c] 58)
 have HVL:∀w',Ext w w'→Calls Tryz.prog 78 #[.agg #[.string nm,.slice A n c],.string ⟨#[97,108,105,97,115,101,100,79,98,106,101,99,116,78,97,109,101]⟩] w' (zcJ w' zhZ l):=fun w' hx=>zez (h.ext hx) ⟨#[97,108,105,97,115,101,100,79,98,106,101,99,116,78,97,109,101]⟩ nm (by decide) hv
 have HH:∀w',Ext w w'→Calls Tryz.prog 102 #[.agg #[.string nm,.slice A n c],.string ⟨#[111,98,106,101,99,116,67,108,97,115,115]⟩,.string ⟨#[97,108,105,97,115]⟩] w' fun e w''=>e=.returned (.bool (hasZ objB aliB (zbv objB l)))∧Ext w' w'':=fun w' hx=>zpY (h.ext hx) ⟨#[111,98,106,101,99,116,67,108,97,115,115]⟩ nm ⟨#[97,108,105,97,115]⟩ (hG.ext hx) (by decide) hv
 have HV:∀(x:ByteArray) w',Gu w'→Calls Tryz.prog 103 #[.string ⟨#[97,108,105,97,115,101,100,79,98,106,101,99,116,78,97,109,101]⟩,.string x] w' (zcw w' zhZ (bys x)):=fun x w' hG=>zc6 ⟨#[97,108,105,97,115,101,100,79,98,106,101,99,116,78,97,109,101]⟩ x w' hG (by decide)
 have HD:Hid (zcV l=match zbv zhZ l with|[]=>([],false)|v::_=>if hasZ objB aliB (zbv objB l) then((valZ zhZ (bys v)).1,(valZ zhZ (bys v)).2==0) else([],false)):=rfl
 have HCD:Hid (zdn w l=fun e w'=>e=.returned (.tuple #[.string (str (zcV l).1),.bool (zcV l).2])∧Ext w w'):=rfl
 unfold zcJ at HVL
 unfold zcw at HV
 clear h hG hv
 generalize zcV l=r at*
 obtain⟨hb,hhb⟩:∃hb,hb=hasZ objB aliB (zbv objB l):=⟨_,rfl⟩
 rw[←hhb] at HH HD
 clear hhb
 cases hq:zbv zhZ l with
 |nil=>
  have HQ:=hid hq
  have HE:Hid (r=([],false)):=by show _=_;rw[HD.out,hq]
  clear hq HD
  cases hb
  all_goals
   go_enter Tryz.func53,Tryz.ntmps53
   go_wp2_with (first
    |(go_at_call 78;(with_reducible refine(HVL _ HB.out.ext).mono ?_);rintro e w1 ⟨A1,n1,c1,rfl,hr1,hx1⟩;obtain rfl:n1=0:=(by have:=hr1.len;rw[HQ.out] at this;simpa using this);have HB1:=hid (HB.out.later hx1);have c0:=HB1.out.cell (i:=0) rfl;have cc1:=HB1.out.cell (i:=1) rfl;clear hr1 hx1)
    | (go_at_call 102;(with_reducible refine (HH _ HB1.out.ext).mono ?_);rintro e w2 ⟨rfl,hx2⟩;have HB2:=hid (HB1.out.later hx2);clear hx2))
   go_ret2
   rw[HCD.out,HE.out]
   exact⟨rfl,HB1.out.ext⟩
 |cons x q=>
  have HQ:=hid hq
  rw[hq] at HD
  simp only at HD
  clear hq
  have HV1:=HV x
  obtain⟨vz,hvz⟩:∃vz,vz=valZ zhZ (bys x):=⟨_,rfl⟩
  rw[←hvz] at HV1 HD
  clear HV hvz
  obtain⟨z1,z2⟩:=vz
  simp only at HV1 HD
  cases hb
  ·have HE:Hid (r=([],false)):=by show _=_;rw[HD.out];rfl
   clear HD
   go_enter Tryz.func53,Tryz.ntmps53
   go_wp2_with (first
    |(go_at_call 78;(with_reducible refine(HVL _ HB.out.ext).mono ?_);rintro e w1 ⟨A1,n1,c1,rfl,hr1,hx1⟩;have hl1:n1=q.length+1:=(by have:=hr1.len;rw[HQ.out] at this;simpa using this);have tl1:((n1:Int)==0)=false:=(by rw[beq_eq_false_iff_ne];omega);have tl3:0<n1:=(by omega);have tl4:(0:Int)<(n1:Int):=(by omega);have HR1:=hid hr1;clear hl1;have HB1:=hid (HB.out.later hx1);have c0:=HB1.out.cell (i:=0) rfl;have cc1:=HB1.out.cell (i:=1) rfl;clear hr1 hx1)
    | (go_at_call 102;(with_reducible refine (HH _ HB1.out.ext).mono ?_);rintro e w2 ⟨rfl,hx2⟩;have HB2:=hid (HB1.out.later hx2);clear hx2))
   go_ret2
   rw[HCD.out,HE.out]
   exact⟨rfl,HB2.out.ext⟩
  ·have HE:Hid (r=(z1,z2==0)):=by show _=_;rw[HD.out];rfl
   clear HD
   go_enter Tryz.func53,Tryz.ntmps53
   go_wp2_with (first
    |(go_at_call 78;(with_reducible refine(HVL _ HB.out.ext).mono ?_);rintro e w1 ⟨A1,n1,c1,rfl,hr1,hx1⟩;have hl1:n1=q.length+1:=(by have:=hr1.len;rw[HQ.out] at this;simpa using this);have tl1:((n1:Int)==0)=false:=(by rw[beq_eq_false_iff_ne];omega);have tl3:0<n1:=(by omega);have tl4:(0:Int)<(n1:Int):=(by omega);have HR1:=hid hr1;clear hl1;have HB1:=hid (HB.out.later hx1);have c0:=HB1.out.cell (i:=0) rfl;have cc1:=HB1.out.cell (i:=1) rfl;clear hr1 hx1)
    |(go_at_call 102;(with_reducible refine(HH _ HB1.out.ext).mono ?_);rintro e w2 ⟨rfl,hx2⟩;have HB2:=hid (HB1.out.later hx2);have HX2:=hid hx2;obtain⟨b1,o1,rfl,k1⟩:=(HR1.out.ext HX2.out).str_cell tl3;have e1:=k1 0 (by omega);simp only[HQ.out,List.getElem?_cons_zero,Option.getD_some,Nat.add_zero] at e1;clear k1;clear hx2)
    | (go_at_call 103;(with_reducible refine (HV1 _ (HG.out.ext HB2.out.ext)).mono ?_);rintro e w3 ⟨rfl,hx3⟩;have HX3:=hid (HB2.out.ext.trans hx3);clear hx3))
   go_ret2
   rw[HCD.out,HE.out]
   exact⟨rfl,HX3.out⟩
end
section
def cmpL:List (List UInt8)→List (List UInt8)→Int
 |[],[]=>0
 |[],_::_=>-1
 |_::_,[]=>1
 |x::xs,y::ys=>if ltB x y then -1 else if ltB y x then 1 else cmpL xs ys
theorem zdp:∀x y,cmpL y x = - cmpL x y
 |[],[]=>rfl
 |[],_::_=>rfl
 |_::_,[]=>rfl
 |a::x,b::y=>by
  unfold cmpL
  cases h1:ltB a b with
  |true=>rw[zcY _ _ h1];rfl
  |false=>
   cases h2:ltB b a with
   |true=>rfl
   |false=>simpa using zdp x y
theorem zkD:∀x y,cmpL x y=0→x=y
 |[],[],_=>rfl
 |[],_::_,h=>by simp[cmpL] at h
 |_::_,[],h=>by simp[cmpL] at h
 |a::x,b::y,h=>by
  unfold cmpL at h
  cases h1:ltB a b with
  |true=>simp[h1] at h
  |false=>
   cases h2:ltB b a with
   |true=>simp[h1,h2] at h
   |false=>
    simp[h1,h2] at h
    rw[ze6 _ _ h1 h2,zkD x y h]
theorem zfg:∀x y z,cmpL x y≤0→cmpL y z≤0→cmpL x z≤0
 |[],[],z,_,h=>h
 |[],_::_,[],_,_=>by simp[cmpL]
 |[],_::_,_::_,_,_=>by simp[cmpL]
 |_::_,[],_,h,_=>by simp[cmpL] at h
 |_::_,_::_,[],_,h=>by simp[cmpL] at h
 |a::x,b::y,c::z,h,k=>by
  unfold cmpL at h k ⊢
  cases h1:ltB a b with
  |true=>
   cases h3:ltB b c with
   |true=>rw[zdt _ _ _ h1 h3];simp
   |false=>
    cases h4:ltB c b with
    |true=>simp[h3,h4] at k
    |false=>rw[←ze6 _ _ h3 h4,h1];simp
  |false=>
   cases h2:ltB b a with
   |true=>simp[h1,h2] at h
   |false=>
    have e:=ze6 _ _ h1 h2
    subst e
    simp only[h1,Bool.false_eq_true,if_false] at h
    cases h3:ltB a c with
    |true=>simp
    |false=>
     cases h4:ltB c a with
     |true=>simp[h3,h4] at k
     |false=>
      simp only[h3,h4,Bool.false_eq_true,if_false] at k ⊢
      exact zfg x y z h k
def zbc(a b:List UInt8):Int:=if zaJ (zak a)=0∧zaJ (zak b)=0 then cmpL (okL (zak a)).reverse (okL (zak b)).reverse else 0
theorem zbQ{a b:List UInt8}(ha:zaJ (zak a)=0)(hb:zaJ (zak b)=0):zbc a b=cmpL (okL (zak a)).reverse (okL (zak b)).reverse:=by unfold zbc;rw[if_pos ⟨ha,hb⟩]
theorem ziS{a b:List UInt8}(ha:zbZ a=true)(hb:zbZ b=true)(h:zbc a b=0):a=b:=by
 obtain⟨a1,a2,a3⟩:=zbE ha
 obtain⟨b1,b2,b3⟩:=zbE hb
 rw[zbQ a1 b1] at h
 have:=congrArg List.reverse (zkD _ _ h)
 rw[List.reverse_reverse,List.reverse_reverse] at this
 rw[←a2,←b2]
 unfold za3
 rw[this]
def zbA(a b:List UInt8):Bool:=decide (zbc a b<0)
theorem zd8{α:Type}(f:α→List UInt8)(l:List α)(h:∀x∈l,zaJ (zak (f x))=0):Ordly (fun x y=>zbA (f x) (f y)) l:=by
 refine⟨fun x hx y hy hl=>?_,fun x hx y hy z hz h1 h2=>?_⟩
 ·simp only[zbA,decide_eq_true_eq,decide_eq_false_iff_not] at hl ⊢
  rw[zbQ (h x hx) (h y hy)] at hl
  rw[zbQ (h y hy) (h x hx),zdp]
  omega
 ·simp only[zbA,decide_eq_false_iff_not] at h1 h2 ⊢
  rw[zbQ (h y hy) (h x hx),zdp] at h1
  rw[zbQ (h z hz) (h y hy),zdp] at h2
  rw[zbQ (h z hz) (h x hx),zdp]
  have:=zfg _ _ _ (show cmpL (okL (zak (f x))).reverse (okL (zak (f y))).reverse≤0 by omega) (show cmpL (okL (zak (f y))).reverse (okL (zak (f z))).reverse≤0 by omega)
  omega
theorem znk{a b:List UInt8}(ha:zbZ a=true)(hb:zbZ b=true)(h1:zbA a b=false)(h2:zbA b a=false):a=b:=by
 obtain⟨a1,a2,a3⟩:=zbE ha
 obtain⟨b1,b2,b3⟩:=zbE hb
 simp only[zbA,decide_eq_false_iff_not] at h1 h2
 refine ziS ha hb ?_
 rw[zbQ b1 a1,zdp] at h2
 rw[zbQ a1 b1] at h1 ⊢
 omega
section
variable {α:Type}{f:α→List UInt8}{l:List α}
def Apart(f:α→List UInt8)(l:List α):Prop:=l.Pairwise fun x y=>f x≠f y
theorem Apart.one:∀{l:List α},Apart f l→∀{x y:α},x∈l→y∈l→f x=f y→x=y
 |[],_,_,_,hx,_,_=>by simp at hx
 |a::r,hp,x,y,hx,hy,h=>by
  obtain⟨h1,h2⟩:=List.pairwise_cons.1 hp
  rcases List.mem_cons.1 hx with ex|hx'
  ·rcases List.mem_cons.1 hy with ey|hy'
   ·rw[ex,ey]
   ·exact absurd (ex ▸ h) (h1 y hy')
  ·rcases List.mem_cons.1 hy with ey|hy'
   ·exact absurd (ey ▸ h).symm (h1 x hx')
   ·exact Apart.one h2 hx' hy' h
theorem Apart.perm{l':List α}(h:Apart f l)(hp:l'.Perm l):Apart f l':=(hp.pairwise_iff (fun h=>fun e=>h e.symm)).2 h
def InOrder(f:α→List UInt8)(l:List α):Prop:=l.Pairwise fun x y=>zbA (f y) (f x)=false
theorem InOrder.of_srt(h:Srt (fun x y=>zbA (f x) (f y)) l 0 l.length):InOrder f l:=
 List.pairwise_iff_getElem.2 fun i j hi hj hij=>h i j _ _ (Nat.zero_le _) hij hj (List.getElem?_eq_getElem hi) (List.getElem?_eq_getElem hj)
theorem zor{l1 l2:List α}(hn:∀x∈l,zbZ (f x)=true)(ha:Apart f l)(p1:l1.Perm l)(p2:l2.Perm l)(o1:InOrder f l1)(o2:InOrder f l2):l1=l2:=
 List.Perm.eq_of_pairwise (le:=fun x y=>zbA (f y) (f x)=false) (fun a b h1 h2 h3 h4=>
  ha.one (p1.mem_iff.1 h1) (p2.mem_iff.1 h2) (znk (hn a (p1.mem_iff.1 h1)) (hn b (p2.mem_iff.1 h2)) h4 h3)) o1 o2 (p1.trans p2.symm)
def insN(f:α→List UInt8)(e:α):List α→List α
 |[]=>[e]
 |o::t=>if zbA (f o) (f e) then o::insN f e t else if f o=f e then o::t else e::o::t
def sortN(f:α→List UInt8)(l:List α):List α:=l.foldl (fun out e=>insN f e out) []
theorem zpL{e:α}:∀{out:List α},Ordly (fun x y=>zbA (f x) (f y)) (e::out)→InOrder f out→(∀o∈out,f o≠f e)→(insN f e out).Perm (e::out)∧InOrder f (insN f e out)
 |[],_,_,_=>⟨List.Perm.refl _,List.pairwise_cons.2 ⟨fun a ha=>(by cases ha),List.Pairwise.nil⟩⟩
 |o::t,ho,hs,hn=>by
  obtain⟨s1,s2⟩:=List.pairwise_cons.1 hs
  have ho':Ordly (fun x y=>zbA (f x) (f y)) (e::t):=⟨fun x hx y hy=>ho.asym x (by simp at hx ⊢;rcases hx with h | h <;> simp [h]) y (by simp at hy ⊢;rcases hy with h | h <;> simp [h]),
   fun x hx y hy z hz=>ho.tran x (by simp at hx ⊢;rcases hx with h | h <;> simp [h]) y (by simp at hy ⊢;rcases hy with h | h <;> simp [h]) z (by simp at hz ⊢;rcases hz with h | h <;> simp [h])⟩
  unfold insN
  cases hl:zbA (f o) (f e) with
  |true=>
   simp only[if_true]
   obtain⟨p,q⟩:=zpL ho' s2 (fun x hx=>hn x (by simp[hx]))
   refine⟨(p.cons o).trans (List.Perm.swap e o t),List.pairwise_cons.2 ⟨fun z hz=>?_,q⟩⟩
   rcases List.mem_cons.1 (p.mem_iff.1 hz) with h|h
   ·rw[h];exact ho.asym o (by simp) e (by simp) hl
   ·exact s1 z h
  |false=>
   simp only[Bool.false_eq_true,if_false]
   rw[if_neg (hn o (by simp))]
   refine⟨List.Perm.refl _,List.pairwise_cons.2 ⟨fun z hz=>?_,hs⟩⟩
   rcases List.mem_cons.1 hz with h|h
   ·rw[h];exact hl
   ·exact ho.tran e (by simp) o (by simp) z (by simp[h]) hl (s1 z h)
theorem zim:∀(l out:List α),(∀x∈out++l,zbZ (f x)=true)→Apart f (out++l)→InOrder f out→(l.foldl (fun out e=>insN f e out) out).Perm (out++l)∧InOrder f (l.foldl (fun out e=>insN f e out) out)
 |[],out,hn,ha,hs=>by rw[List.append_nil];exact⟨List.Perm.refl _,hs⟩
 |e::l,out,hn,ha,hs=>by
  have hsub:∀x∈e::out,x∈out++e::l:=by intro x hx;simp at hx ⊢;rcases hx with h|h<;>simp[h]
  have hne:∀o∈out,f o≠f e:=fun o ho=>(List.pairwise_append.1 ha).2.2 o ho e (by simp)
  obtain⟨p,q⟩:=zpL (f:=f) (zd8 f (e::out) fun x hx=>(zbE (hn x (hsub x hx))).1) hs hne
  have p2:(insN f e out++l).Perm (out++e::l):=(p.append_right l).trans (by simpa using(List.perm_middle (a:=e) (l₁:=out) (l₂:=l)).symm)
  obtain⟨p3,q3⟩:=zim l (insN f e out) (fun x hx=>hn x (p2.mem_iff.1 hx)) (ha.perm p2) q
  exact⟨p3.trans p2,q3⟩
theorem zbo(hn:∀x∈l,zbZ (f x)=true)(ha:Apart f l):(sortN f l).Perm l∧InOrder f (sortN f l):=by
 have:=zim (f:=f) l [] (by simpa using hn) (by simpa using ha) List.Pairwise.nil
 exact this
theorem zcL{l':List α}(hn:∀x∈l,zbZ (f x)=true)(ha:Apart f l)(hp:l'.Perm l)(ho:InOrder f l'):l'=sortN f l:=by
 obtain⟨p,q⟩:=zbo hn ha
 exact zor hn ha hp p ho q
theorem znO{l':List α}(hn:∀x∈l,zbZ (f x)=true)(ha:Apart f l)(hp:l'.Perm l):sortN f l'=sortN f l:=by
 obtain⟨p,q⟩:=zbo (f:=f) (l:=l') (fun x hx=>hn x (hp.mem_iff.1 hx)) (ha.perm hp)
 exact zcL hn ha (p.trans hp) q
theorem StOk.sortN{l':List α}(h:StOk (fun x y=>zbA (f x) (f y)) l l')(hn:∀x∈l,zbZ (f x)=true)(ha:Apart f l):l'=sortN f l:=by
 refine zcL hn ha h.1.perm (InOrder.of_srt ?_)
 rw[h.1.len]
 exact h.2 (zd8 f l fun x hx=>(zbE (hn x hx)).1)
end
end
section
def Good(x:List UInt8):Prop:=∃p,zan p=true∧x=zaZ (za8 p)
theorem zko:∀{l:List (List UInt8)},(∀x∈l,Good x)→∃k:List (List Ava),l=k.map (fun p=>zaZ (za8 p))∧∀p∈k,zan p=true
 |[],_=>⟨[],rfl,by simp⟩
 |x::t,h=>by
  obtain⟨k,h1,h2⟩:=zko (l:=t) fun y hy=>h y (by simp[hy])
  obtain⟨p,h3,h4⟩:=h x (by simp)
  refine⟨p::k,by rw[h1,h4];rfl,fun q hq=>?_⟩
  rcases List.mem_cons.1 hq with e|e
  ·rw[e];exact h3
  ·exact h2 q e
theorem zmT{l:List (List UInt8)}(hg:∀x∈l,Good x)(h12:l.length≤12)(h1k:(zaY l).length≤1000):zak (zaY l)=.ok l:=by
 by_cases hz:l=[]
 ·subst hz;rfl
 obtain⟨k,hl,hf⟩:=zko hg
 have hn:∀q∈k.map za8,zan q=true:=by
  intro q hq
  obtain⟨p,hp,rfl⟩:=List.mem_map.1 hq
  exact zcf (hf p hp)
 have hl2:l=(k.map za8).map zaZ:=by rw[hl,List.map_map];rfl
 have hcl:∀x∈l,clos 44 x=true:=by
  intro x hx
  rw[hl2] at hx
  obtain⟨q,hq,rfl⟩:=List.mem_map.1 hx
  have:=hn q hq
  unfold zan at this
  rw[Bool.and_eq_true,Bool.and_eq_true] at this
  exact zeM q (List.all_eq_true.1 this.1.2)
 have hsp:=zeQ l hz hcl
 have hjn:zaY l≠[]:=by
  cases hk:l with
  |nil=>exact absurd hk hz
  |cons x t=>
   refine zmi ?_
   have hx:x∈(k.map za8).map zaZ:=by rw[←hl2,hk];simp
   obtain⟨q,hq,rfl⟩:=List.mem_map.1 hx
   exact zka (by rintro rfl;have:=hn _ hq;cases this)
 unfold zak
 rw[if_neg (by omega),if_neg hjn,hsp,if_neg (by omega)]
 have hmm:l.mapM zbk=some (k.map za8):=by
  rw[hl2]
  exact zfe fun q hq=>zgX (hn q hq)
 rw[hmm]
 have e2:(k.map za8).map (fun p=>zb8 (za8 p))=l:=by
  rw[hl2]
  refine List.map_congr_left fun q hq=>?_
  obtain⟨p,hp,rfl⟩:=List.mem_map.1 hq
  have hfp:=hf p hp
  have ha:p.all zbV=true:=by
   unfold zan at hfp
   rw[Bool.and_eq_true,Bool.and_eq_true] at hfp
   exact hfp.1.2
  rw[(zeP ha).1]
  unfold zb8
  rw[if_pos (zcf hfp)]
 simp only[e2]
 rw[if_neg (by omega)]
theorem znt{s:List UInt8}{l:List (List UInt8)}(h:zak s=.ok l):(∀x∈l,Good x)∧l.length≤12∧(zaY l).length≤1000:=by
 unfold zak at h
 by_cases h1:1000<s.length
 ·rw[if_pos h1] at h;cases h
 rw[if_neg h1] at h
 by_cases h2:s=[]
 ·rw[if_pos h2] at h
  injection h with h
  subst h
  simp[zaY]
 rw[if_neg h2] at h
 by_cases h3:12<(splitF 44 [] s).length
 ·rw[if_pos h3] at h;cases h
 rw[if_neg h3] at h
 cases hm:(splitF 44 [] s).mapM zbk with
 |none=>rw[hm] at h;cases h
 |some k=>
  rw[hm] at h
  simp only at h
  by_cases h4:1000<(zaY (k.map fun p=>zb8 (za8 p))).length
  ·rw[if_pos h4] at h;cases h
  rw[if_neg h4] at h
  injection h with h
  obtain⟨hk1,hk2⟩:=zgD hm
  have hf:∀p∈k,zan p=true:=fun p hp=>by obtain⟨a,-,ha⟩:=hk1 p hp;exact zfE ha
  refine⟨fun x hx=>?_,by rw[←h,List.length_map];omega,by rw[←h];omega⟩
  rw[←h] at hx
  obtain⟨p,hp,rfl⟩:=List.mem_map.1 hx
  refine⟨p,hf p hp,?_⟩
  unfold zb8
  rw[if_pos (zcf (hf p hp))]
theorem zrV{s:List UInt8}(h:zaJ (zak s)=0):zak s=.ok (okL (zak s)):=by
 cases hp:zak s with
 |ok l=>rfl
 |error e=>rw[hp] at h;cases e<;>simp[zaJ] at h
theorem zgo{s:List UInt8}(h:zaJ (zak s)=0):zak (zaT s).1=.ok (okL (zak s)).tail:=by
 obtain⟨h1,h2,h3⟩:=znt (zrV h)
 unfold zaT
 cases hl:okL (zak s) with
 |nil=>rfl
 |cons x t=>
  rw[hl] at h1 h2 h3
  exact zmT (fun y hy=>h1 y (by simp[hy])) (by simp at h2;omega) (Nat.le_trans (zhd x t) h3)
end
end Go.Proofs.YtkjbokhnpphimaaGreatDoor
