/- Lemmas of the walk. -/
import Derived.Test.YtkjbokhnpphimaaGreatDoorV01
import Derived.Lib.Split
import Derived.Lib.Join
import Derived.Lib.ParseIntB
import Derived.Lib.ItoaNum
set_option maxHeartbeats 40000000
set_option linter.unusedVariables false
set_option linter.unusedSimpArgs false
namespace Go.Proofs.YtkjbokhnpphimaaGreatDoor
def zaB(cur:List UInt8):List UInt8→List (List UInt8)
 |[]=>[cur]
 |c::t=>if c=32 then cur::zaB [] t else zaB (cur++[c]) t
def zaD:List (List UInt8)→List UInt8
 |[]=>[]
 |[x]=>x
 |x::y::t=>x++32::zaD (y::t)
def zaU(l:List UInt8):List (List UInt8):=(zaB [] l).filter (fun x=>decide (x≠[]))
def zcq(out:List UInt8)(gap:Bool):List UInt8→List UInt8
 |[]=>out
 |c::t=>if c=32 then zcq out true t else zcq ((if gap&&decide (out≠[]) then out++[32] else out)++[c]) false t
theorem zeR(ws:List (List UInt8))(x:List UInt8)(h:ws≠[]):zaD (ws++[x])=zaD ws++32::x:=by
 induction ws with
 |nil=>exact absurd rfl h
 |cons y t ih=>
  cases t with
  |nil=>rfl
  |cons z t=>
   have h1:=ih (by simp)
   simp only[List.cons_append,zaD] at h1 ⊢
   rw[h1]
   simp
theorem zlY(ws:List (List UInt8))(x:List UInt8)(c:UInt8):zaD (ws++[x++[c]])=zaD (ws++[x])++[c]:=by
 by_cases h:ws=[]
 ·subst h
  rfl
 ·rw[zeR ws _ h,zeR ws _ h]
  simp
theorem zoU(ws:List (List UInt8))(h:ws≠[])(hn:∀x∈ws,x≠[]):zaD ws≠[]:=by
 cases ws with
 |nil=>exact absurd rfl h
 |cons x t=>
  have hx:=hn x (by simp)
  cases t with
  |nil=>exact hx
  |cons y t=>simp[zaD]
theorem zlg(l:List UInt8):∀(ws:List (List UInt8)),(∀x∈ws,x≠[]) →
 (∀cur,cur≠[]→zcq (zaD (ws++[cur])) false l=zaD (ws++(zaB cur l).filter (fun x=>decide (x≠[])))) ∧
 (∀gap,(gap=true∨ws=[])→zcq (zaD ws) gap l=zaD (ws++(zaB [] l).filter (fun x=>decide (x≠[])))):=by
 induction l with
 |nil=>
  intro ws hw
  refine⟨fun cur hc=>?_,fun gap _=>?_⟩
  ·simp[zcq,zaB,hc]
  ·simp[zcq,zaB]
 |cons c t ih=>
  intro ws hw
  refine⟨fun cur hc=>?_,fun gap hg=>?_⟩
  ·by_cases h:c=32
   ·have h1:=(ih (ws++[cur]) (by intro x hx;rcases List.mem_append.1 hx with h2|h2;exact hw x h2;simp at h2;rw[h2];exact hc)).2 true (.inl rfl)
    simp only[zcq,zaB,h,if_true] at h1 ⊢
    rw[h1]
    simp[hc]
   ·have h1:=(ih ws hw).1 (cur++[c]) (by simp)
    simp only[zcq,zaB,h,if_false,Bool.false_and,Bool.false_eq_true] at h1 ⊢
    rw[←h1,zlY]
  ·by_cases h:c=32
   ·have h1:=(ih ws hw).2 true (.inl rfl)
    simp only[zcq,zaB,h,if_true] at h1 ⊢
    rw[h1]
    simp
   ·have h1:=(ih ws hw).1 [c] (by simp)
    simp only[zcq,zaB,h,if_false,List.nil_append] at h1 ⊢
    rw[←h1]
    congr 1
    by_cases hws:ws=[]
    ·subst hws
     simp[zaD]
    ·have hgt:gap=true:=by rcases hg with hg|hg;exact hg;exact absurd hg hws
     have hne:=zoU ws hws hw
     rw[zeR ws _ hws,hgt]
     simp[hne]
theorem znq(l:List UInt8):zcq [] false l=zaD (zaU l):=(zlg l [] (by simp)).2 false (.inr rfl)
theorem zfH(z:UInt8)(hz:z≠32):∀ws:List (List UInt8),z∈zaD ws↔∃x∈ws,z∈x
 |[]=>by simp[zaD]
 |[x]=>by simp[zaD]
 |x::y::t=>by
  have h:=zfH z hz (y::t)
  simp only[zaD,List.mem_append,List.mem_cons,h,hz,false_or]
  simp
theorem ze0(z:UInt8)(hz:z≠32):∀(l cur:List UInt8),(∃x∈zaB cur l,z∈x)↔z∈cur∨z∈l
 |[],cur=>by simp[zaB]
 |c::t,cur=>by
  by_cases h:c=32
  ·have h1:=ze0 z hz t []
   simp only[zaB,h,if_true]
   simp only[List.mem_cons,exists_eq_or_imp,h1]
   simp[hz]
  ·have h1:=ze0 z hz t (cur++[c])
   simp only[zaB,h,if_false]
   rw[h1]
   simp[or_assoc]
theorem zpv(z:UInt8)(hz:z≠32)(l:List UInt8):z∈zaD (zaU l)↔z∈l:=by
 rw[zfH z hz]
 have h:=ze0 z hz l []
 constructor
 ·rintro⟨x,hx,hzx⟩
  have:=h.1 ⟨x,(List.mem_filter.1 hx).1,hzx⟩
  simpa using this
 ·intro hl
  obtain⟨x,hx,hzx⟩:=h.2 (.inr hl)
  exact⟨x,List.mem_filter.2 ⟨hx,by simp;rintro rfl;simp at hzx⟩,hzx⟩
def splitF(sep:UInt8)(cur:List UInt8):List UInt8→List (List UInt8)
 |[]=>[cur]
 |c::t=>
  if c=sep then cur::splitF sep [] t
  else if c=92 then
   match t with
   |[]=>[cur++[92]]
   |d::t=>splitF sep (cur++[92,d]) t
  else splitF sep (cur++[c]) t
def zbq(c:UInt8):Bool:=c==44 || c==43 || c==34 || c==92 || c==60 || c==62 || c==59
def hexB(c:UInt8):Option Nat:=
 if 48≤c.toNat∧c.toNat≤57 then some (c.toNat-48)
 else if 97≤c.toNat∧c.toNat≤102 then some (c.toNat-87)
 else if 65≤c.toNat∧c.toNat≤70 then some (c.toNat-55)
 else none
def readF(acc:List UInt8):List UInt8→Option (List UInt8)
 |[]=>some acc
 |c::t=>
  if c=92 then
   match t with
   |[]=>none
   |d::t=>
    if zbq d || d==35 || d==61 || d==32 then readF (acc++[d]) t
    else
     match t with
     |[]=>none
     |e::t=>
      match hexB d,hexB e with
      |some a,some b=>readF (acc++[UInt8.ofNat (16 * a+b)]) t
      |_,_=>none
  else if c==0 || zbq c || (c==32&&t.isEmpty) then none
  else readF (acc++[c]) t
def za2(s:List UInt8):Option (List UInt8):=if s.head?=some 32∨s.head?=some 35 then none else readF [] s
def zbp(n:Nat):UInt8:=if n<10 then UInt8.ofNat (48+n) else UInt8.ofNat (87+n)
def zaA(fst:Bool):List UInt8→List UInt8
 |[]=>[]
 |c::t=>
  (if (c==32 && (fst || t.isEmpty)) || (c==35 && fst) || zbq c then [92,c]
   else if c.toNat<32∨126<c.toNat then[92,zbp (c.toNat / 16),zbp (c.toNat % 16)]
   else [c])++zaA false t
theorem zbw(sep:UInt8):∀(n:Nat) (cur l:List UInt8),l.length≤n→(splitF sep cur l).length≤l.length+1∧1≤(splitF sep cur l).length∧((splitF sep cur l).map List.length).sum≤cur.length+l.length
 |_,cur,[],_=>by simp[splitF]
 |0,cur,c::t,h=>by simp at h
 |n+1,cur,c::t,h=>by
  simp only[List.length_cons] at h
  by_cases h1:c=sep
  ·have h2:=zbw sep n [] t (by omega)
   unfold splitF
   rw[if_pos h1]
   simp only[List.length_cons,List.map_cons,List.sum_cons,List.length_nil] at h2 ⊢
   omega
  ·by_cases h3:c=92
   ·cases t with
    |nil=>
     unfold splitF
     rw[if_neg h1,if_pos h3]
     simp
    |cons d t=>
     have h2:=zbw sep n (cur++[92,d]) t (by simp at h;omega)
     unfold splitF
     rw[if_neg h1,if_pos h3]
     simp only[List.length_append,List.length_cons,List.length_nil] at h2 ⊢
     omega
   ·have h2:=zbw sep n (cur++[c]) t (by omega)
    unfold splitF
    rw[if_neg h1,if_neg h3]
    simp only[List.length_append,List.length_cons,List.length_nil] at h2 ⊢
    omega
theorem zcn:∀(l:List UInt8) (b:Bool),(zaA b l).length≤3 * l.length
 |[],_=>by simp[zaA]
 |c::t,b=>by
  have h:=zcn t false
  simp only[zaA,List.length_append,List.length_cons]
  split<;>(try split)<;>simp only[List.length_cons,List.length_nil]<;>omega
def loB(c:UInt8):UInt8:=if 65≤c.toNat∧c.toNat≤90 then UInt8.ofNat (c.toNat+32) else c
def zas(l:List UInt8):List UInt8:=l.map loB
def zhm(v:List UInt8):Option (List UInt8):=
 let t:=zaD (zaU (zas v))
 if t=[]∨(0:UInt8)∈t then none else some t
theorem zoC(v:List UInt8):zhm v=if zcq [] false (zas v)=[]∨(0:UInt8)∈zas v then none else some (zcq [] false (zas v)):=by
 unfold zhm
 rw[znq]
 simp only[zpv 0 (by decide)]
def intB(v:List UInt8):Bool:=
 let neg:=decide (v.head?=some 45)
 let d:=if neg then v.drop 1 else v
 decide (1≤d.length)&&decide (d.length≤18)&&!(decide (d.head?=some 48)&&(decide (1<d.length) || neg))&&d.all (fun c=>decide (48≤c.toNat)&&decide (c.toNat≤57))
def zcs(syntax_:Nat)(v:List UInt8):Option (List UInt8):=
 if v=[]∨200<v.length then none
 else if syntax_=1 then zhm v
 else if syntax_=3 then(if intB v then some v else none)
 else none
def typTab:List (List UInt8×Nat):=
 [([111,98,106,101,99,116,67,108,97,115,115],1),([99,110],1),([111,117],1),([111],1),([100,99],1),([117,105,100],1),
  ([100,101,115,99,114,105,112,116,105,111,110],1),([109,97,105,108],1),([117,115,101,114,80,97,115,115,119,111,114,100],2),([114,101,102],2),
  ([115,101,114,105,97,108,78,117,109,98,101,114],3),([112,111,115,105,116,105,111,110],4),
  ([97,108,105,97,115,101,100,79,98,106,101,99,116,78,97,109,101],5),([109,101,109,98,101,114],5)]
def zat(n:List UInt8):List UInt8×Nat:=(typTab.find? fun p=>zas p.1==zas n).getD ([],0)
theorem zhp(n:List UInt8):(zat n).1=[]↔(zat n).2=0:=by
 unfold zat
 cases h:typTab.find? (fun p=>zas p.1==zas n) with
 |none=>simp
 |some p=>
  have hm:=List.mem_of_find?_eq_some h
  have hall:∀p∈typTab,(p.1=[]↔p.2=0):=by decide
  simpa using hall p hm
structure Ava where
 type:List UInt8
 val:List UInt8
def zdM:List UInt8→Option (List UInt8×List UInt8)
 |[]=>none
 |c::t=>if c=61 then some ([],t) else(zdM t).map fun p=>(c::p.1,p.2)
def avaB(p:List UInt8):Option Ava:=
 match zdM p with
 |none=>none
 |some (a,b)=>if(zat a).2=0 then none else(za2 b).map fun v=>⟨(zat a).1,v⟩
def ltB:List UInt8→List UInt8→Bool
 |[],[]=>false
 |[],_::_=>true
 |_::_,[]=>false
 |a::s,b::t=>if a.toNat<b.toNat then true else if b.toNat<a.toNat then false else ltB s t
def zbV(a:Ava):Bool:=decide ((zat a.type).1=a.type)&&(decide ((zat a.type).2=1) || decide ((zat a.type).2=3))&&(zcs (zat a.type).2 a.val).isSome
def zb4:List Ava→Bool
 |a::b::t=>ltB a.type b.type&&zb4 (b::t)
 |_=>true
def zan(l:List Ava):Bool:=decide (1≤l.length)&&decide (l.length≤3)&&l.all zbV&&zb4 l
def insA(a:Ava):List Ava→List Ava
 |[]=>[a]
 |b::t=>if ltB b.type a.type then b::insA a t else a::b::t
def zcx(l:List Ava):List Ava:=l.foldl (fun o a=>insA a o) []
def zbk(s:List UInt8):Option (List Ava):=
 match (splitF 43 [] s).mapM avaB with
 |none=>none
 |some l=>if zan (zcx l) then some (zcx l) else none
def za8(l:List Ava):List Ava:=l.map fun a=>⟨a.type,(zcs (zat a.type).2 a.val).getD []⟩
def zaZ:List Ava→List UInt8
 |[]=>[]
 |[a]=>a.type++61::zaA true a.val
 |a::b::t=>a.type++61::zaA true a.val++43::zaZ (b::t)
def zb8(l:List Ava):List UInt8:=if zan l then zaZ l else[]
def zaY:List (List UInt8)→List UInt8
 |[]=>[]
 |[x]=>x
 |x::y::t=>x++44::zaY (y::t)
inductive NameErr where
 |long
 |form
def zak(s:List UInt8):Except NameErr (List (List UInt8)):=
 if 1000<s.length then .error .long
 else if s=[] then .ok []
 else if 12<(splitF 44 [] s).length then .error .long
 else
  match (splitF 44 [] s).mapM zbk with
  |none=>.error .form
  |some l=>
   let texts:=l.map fun p=>zb8 (za8 p)
   if 1000<(zaY texts).length then .error .long else .ok texts
theorem zhf(a:Ava):∀l:List Ava,(insA a l).length=l.length+1
 |[]=>rfl
 |b::t=>by
  unfold insA
  split
  ·simp[zhf a t]
  ·simp
theorem zd2(l:List Ava):(zcx l).length=l.length:=by
 have h:∀(l o:List Ava),(l.foldl (fun o a=>insA a o) o).length=o.length+l.length:=by
  intro l
  induction l with
  |nil=>intro o;simp
  |cons a t ih=>intro o;simp only[List.foldl_cons,ih,zhf,List.length_cons];omega
 exact(h l []).trans (by simp)
theorem zqg(s:List UInt8)(h:3<(splitF 43 [] s).length):zbk s=none:=by
 unfold zbk
 cases hm:(splitF 43 [] s).mapM avaB with
 |none=>rfl
 |some l=>
  have hl:l.length=(splitF 43 [] s).length:=by
   have h9:∀(x:List (List UInt8)) (l:List Ava),x.mapM avaB=some l→l.length=x.length:=by
    intro x
    induction x with
    |nil=>intro l h;simp at h;rw[h];rfl
    |cons y t ih=>
     intro l h
     rw[List.mapM_cons] at h
     cases ha:avaB y with
     |none=>rw[ha] at h;cases h
     |some v=>
      rw[ha] at h
      cases hb:t.mapM avaB with
      |none=>rw[hb] at h;cases h
      |some w=>
       rw[hb] at h
       cases h
       simp[ih w hb]
   exact h9 _ l hm
  have hf:zan (zcx l)=false:=by
   unfold zan
   rw[decide_eq_false (show ¬(zcx l).length≤3 by rw[zd2];omega)]
   simp
  simp[hf]
theorem zbF:∀s:List UInt8,ltB s s=false
 |[]=>rfl
 |a::s=>by simp[ltB,zbF s]
theorem zcY:∀s t:List UInt8,ltB s t=true→ltB t s=false
 |[],[],h=>by cases h
 |[],_::_,_=>rfl
 |_::_,[],h=>by cases h
 |a::s,b::t,h=>by
  unfold ltB at h ⊢
  by_cases h1:a.toNat<b.toNat
  ·rw[if_neg (by omega),if_pos h1]
  ·rw[if_neg h1] at h
   by_cases h2:b.toNat<a.toNat
   ·rw[if_pos h2] at h;cases h
   ·rw[if_neg h2] at h
    rw[if_neg h2,if_neg h1]
    exact zcY s t h
theorem ze6:∀s t:List UInt8,ltB s t=false→ltB t s=false→s=t
 |[],[],_,_=>rfl
 |[],_::_,h,_=>by cases h
 |_::_,[],_,h=>by cases h
 |a::s,b::t,h,k=>by
  unfold ltB at h k
  by_cases h1:a.toNat<b.toNat
  ·rw[if_pos h1] at h;cases h
  ·by_cases h2:b.toNat<a.toNat
   ·rw[if_pos h2] at k;cases k
   ·rw[if_neg h1,if_neg h2] at h
    rw[if_neg h2,if_neg h1] at k
    have e:a=b:=UInt8.toNat_inj.1 (by omega)
    rw[e,ze6 s t h k]
theorem zdt:∀s t u:List UInt8,ltB s t=true→ltB t u=true→ltB s u=true
 |[],[],_,h,_=>by cases h
 |[],_::_,[],_,k=>by cases k
 |[],_::_,_::_,_,_=>rfl
 |_::_,[],_,h,_=>by cases h
 |_::_,_::_,[],_,k=>by cases k
 |a::s,b::t,c::u,h,k=>by
  unfold ltB at h k ⊢
  by_cases h1:a.toNat<b.toNat
  ·by_cases k1:b.toNat<c.toNat
   ·rw[if_pos (by omega)]
   ·rw[if_neg k1] at k
    by_cases k2:c.toNat<b.toNat
    ·rw[if_pos k2] at k;cases k
    ·rw[if_pos (by omega)]
  ·rw[if_neg h1] at h
   by_cases h2:b.toNat<a.toNat
   ·rw[if_pos h2] at h;cases h
   ·rw[if_neg h2] at h
    by_cases k1:b.toNat<c.toNat
    ·rw[if_pos (by omega)]
    ·rw[if_neg k1] at k
     by_cases k2:c.toNat<b.toNat
     ·rw[if_pos k2] at k;cases k
     ·rw[if_neg k2] at k
      rw[if_neg (by omega),if_neg (by omega)]
      exact zdt s t u h k
def zlZ:List Ava→List Ava
 |[a,b]=>if ltB b.type a.type then[b,a] else[a,b]
 |[a,b,c]=>
  if ltB b.type a.type then(if ltB c.type a.type then(if ltB c.type b.type then[c,b,a] else[b,c,a]) else[b,a,c])
  else(if ltB c.type b.type then(if ltB c.type a.type then[c,a,b] else[a,c,b]) else[a,b,c])
 |l=>l
theorem ziv{l:List Ava}(h:zb4 l=false):zan l=false:=by simp[zan,h]
def zfU(l:List Ava):Option (List Ava):=if zan l then some l else none
theorem zj1{l k:List Ava}(h:zb4 l=false)(g:zb4 k=false):zfU l=zfU k:=by simp[zfU,ziv h,ziv g]
theorem ways(a b:Ava):(ltB a.type b.type=true∧ltB b.type a.type=false)∨(ltB a.type b.type=false∧ltB b.type a.type=true)∨a.type=b.type:=by
 cases h:ltB a.type b.type
 ·cases g:ltB b.type a.type
  ·exact .inr (.inr (ze6 _ _ h g))
  ·exact .inr (.inl ⟨rfl,rfl⟩)
 ·exact .inl ⟨rfl,zcY _ _ h⟩
theorem zmM(l:List Ava)(h:l.length≤3):zfU (zlZ l)=zfU (zcx l):=by
 match l,h with
 |[],_=>rfl
 |[a],_=>rfl
 |[a,b],_=>
  rcases ways a b with⟨h1,h2⟩|⟨h1,h2⟩|h1
  ·simp[zlZ,zcx,insA,h1,h2]
  ·simp[zlZ,zcx,insA,h1,h2]
  ·refine zj1 ?_ ?_<;>simp[zlZ,zcx,insA,h1,zbF,zb4]
 |[a,b,c],_=>
  rcases ways a b with⟨h1,h2⟩|⟨h1,h2⟩|h1<;>rcases ways b c with⟨h3,h4⟩|⟨h3,h4⟩|h3<;>rcases ways a c with⟨h5,h6⟩|⟨h5,h6⟩|h5 <;>
   first
    |(have h9:=zdt _ _ _ h1 h3;rw[h9] at h5;exact absurd h5 (by decide))
    |(have h9:=zdt _ _ _ h2 h5;rw[h9] at h3;exact absurd h3 (by decide))
    |(have h9:=zdt _ _ _ h4 h2;rw[h9] at h6;exact absurd h6 (by decide))
    |(simp[zlZ,zcx,insA,h1,h2,h3,h4,h5,h6];done)
    |(refine zj1 ?_ ?_<;>(simp[zlZ,zcx,insA,zb4,zbF, *];done))
    |(exfalso;simp_all [zbF];done)
theorem zj8{c:UInt8}:∀{l:List UInt8},c∈l→∃a r,l=a++c::r∧c ∉ a
 |[],h=>by cases h
 |x::t,h=>by
  by_cases hx:x=c
  ·exact⟨[],t,by rw[hx];rfl,by simp⟩
  ·obtain⟨a,r,e,hn⟩:=zj8 (c:=c) (l:=t) (by rcases List.mem_cons.1 h with e|e;exact absurd e.symm hx;exact e)
   exact⟨x::a,r,by rw[e];rfl,by simp[hn,Ne.symm hx]⟩
theorem zjA(c:UInt8)(l:List UInt8):(Lib.index l [c] = -1∧c ∉ l)∨(∃a r,l=a++c::r∧c ∉ a∧Lib.index l [c]=a.length):=by
 by_cases h:c∈l
 ·right
  obtain⟨a,r,rfl,hn⟩:=zj8 h
  refine⟨a,r,rfl,hn,?_⟩
  refine Lib.index_first (by simp) (by simp[Lib.occAt]) fun j hj=>?_
  have hne:((a++c::r).drop j).head?≠some c:=by
   rw[List.head?_drop,List.getElem?_append_left hj,List.getElem?_eq_getElem hj]
   intro e
   injection e with e
   exact hn (e ▸ List.getElem_mem hj)
  unfold Lib.occAt
  cases hd:(a++c::r).drop j with
  |nil=>rfl
  |cons x t=>
   rw[hd] at hne
   have hx:¬c=x:=fun e=>hne (by simp[e])
   simp[List.isPrefixOf,hx]
 ·left
  refine⟨Lib.index_none fun j _=>?_,h⟩
  unfold Lib.occAt
  cases hd:l.drop j with
  |nil=>rfl
  |cons x t=>
   have hx:¬c=x:=fun e=>h (List.mem_of_mem_drop (i:=j) (by rw[hd,e];simp))
   simp[List.isPrefixOf,hx]
theorem zei:∀(l cur:List UInt8),(32:UInt8) ∉ l→zaB cur l=[cur++l]
 |[],cur,_=>by simp[zaB]
 |c::t,cur,h=>by
  have hc:¬c=32:=fun e=>h (by simp[e])
  unfold zaB
  rw[if_neg hc,zei t _ (fun hm=>h (by simp[hm]))]
  simp
theorem zeX:∀(a cur r:List UInt8),(32:UInt8) ∉ a→zaB cur (a++32::r)=(cur++a)::zaB [] r
 |[],cur,r,_=>by simp[zaB]
 |c::t,cur,r,h=>by
  have hc:¬c=32:=fun e=>h (by simp[e])
  rw[List.cons_append]
  rw[zaB,if_neg hc,zeX t _ r (fun hm=>h (by simp[hm]))]
  simp
theorem zmD:∀(n:Nat) (l:List UInt8),l.length≤n→Lib.splitK [32] 0 (Lib.count l [32]) l=zaB [] l
 |n,l,hn=>by
  rcases zjA 32 l with⟨h1,h2⟩|⟨a,r,rfl,h2,h3⟩
  ·rw[Lib.count_miss h1,zei l [] h2]
   rfl
  ·rw[Lib.count_hit (by simp) h3,zeX a [] r h2,Nat.add_comm 1]
   unfold Lib.splitK
   rw[h3]
   have hm:¬(((a.length:Nat):Int) == -1)=true:=by rw[beq_iff_eq];omega
   rw[if_neg hm]
   simp only[Int.toNat_natCast,List.length_cons,List.length_nil]
   have e1:(a++32::r).drop (a.length+1)=r:=by rw[←List.drop_drop];simp
   have e2:(a++32::r).take (a.length+0)=a:=by simp
   rw[e1,e2]
   cases n with
   |zero=>simp at hn
   |succ n=>rw[zmD n r (by simp at hn;omega)];rfl
theorem ze1:∀ws:List (List UInt8),Lib.join ws [32]=zaD ws
 |[]=>rfl
 |[x]=>Lib.join_one x [32]
 |x::y::t=>by
  have h:=ze1 (y::t)
  rw[Lib.join_cons] at h ⊢
  simp only[Lib.joinTail,List.map_cons,List.flatten_cons] at h ⊢
  simp only[zaD]
  rw[←h]
  simp
theorem zha:∀ws:List (List UInt8),Lib.join ws [44]=zaY ws
 |[]=>rfl
 |[x]=>Lib.join_one x [44]
 |x::y::t=>by
  have h:=zha (y::t)
  rw[Lib.join_cons] at h ⊢
  simp only[Lib.joinTail,List.map_cons,List.flatten_cons] at h ⊢
  simp only[zaY]
  rw[←h]
  simp
theorem zfR:∀l:List UInt8,(61:UInt8) ∉ l→zdM l=none
 |[],_=>rfl
 |c::t,h=>by
  have hc:¬c=61:=fun e=>h (by simp[e])
  unfold zdM
  rw[if_neg hc,zfR t (fun hm=>h (by simp[hm]))]
  rfl
theorem zfd:∀a r:List UInt8,(61:UInt8) ∉ a→zdM (a++61::r)=some (a,r)
 |[],r,_=>by simp[zdM]
 |c::t,r,h=>by
  have hc:¬c=61:=fun e=>h (by simp[e])
  rw[List.cons_append]
  unfold zdM
  rw[if_neg hc,zfd t r (fun hm=>h (by simp[hm]))]
  rfl
theorem zsu(l:List UInt8):Lib.cut l [61]=match zdM l with|some (a,r)=>(a,r,true)|none=>(l,[],false):=by
 unfold Lib.cut
 rcases zjA 61 l with⟨h1,h2⟩|⟨a,r,rfl,h2,h3⟩
 ·rw[h1,zfR l h2,if_neg (by omega)]
 ·rw[h3,zfd a r h2,if_pos (by omega)]
  simp only[Int.toNat_natCast,List.length_cons,List.length_nil]
  rw[←List.drop_drop]
  simp
theorem zow(a b:List UInt8):(Lib.compareBytes a b = -1∧ltB a b=true)∨(Lib.compareBytes a b=0∧a=b)∨(Lib.compareBytes a b=1∧ltB b a=true):=by
 induction a generalizing b with
 |nil=>cases b<;>simp[Lib.compareBytes,ltB]
 |cons x s ih=>
  cases b with
  |nil=>simp[Lib.compareBytes,ltB]
  |cons y t=>
   unfold Lib.compareBytes ltB
   by_cases h1:x.toNat<y.toNat
   ·left
    rw[if_pos (UInt8.lt_iff_toNat_lt.2 h1),if_pos h1];exact⟨rfl,rfl⟩
   ·by_cases h2:y.toNat<x.toNat
    ·right;right
     rw[if_neg (fun e=>h1 (UInt8.lt_iff_toNat_lt.1 e)),if_pos (UInt8.lt_iff_toNat_lt.2 h2),if_pos h2];exact⟨rfl,rfl⟩
    ·rw[if_neg (fun e=>h1 (UInt8.lt_iff_toNat_lt.1 e)),if_neg (fun e=>h2 (UInt8.lt_iff_toNat_lt.1 e)),if_neg h1,if_neg h2,if_neg h2,if_neg h1]
     have e:x=y:=UInt8.toNat_inj.1 (by omega)
     subst e
     rcases ih t with⟨h3,h4⟩|⟨h3,h4⟩|⟨h3,h4⟩
     ·exact .inl ⟨h3,h4⟩
     ·exact .inr (.inl ⟨h3,by rw[h4]⟩)
     ·exact .inr (.inr ⟨h3,h4⟩)
theorem zpQ{l:List UInt8}{c:UInt8}(h:c∈l):∃i:Nat,Lib.indexByte l c=i∧i<l.length:=by
 induction l with
 |nil=>cases h
 |cons x t ih=>
  unfold Lib.indexByte
  by_cases hx:x=c
  ·exact⟨0,by simp[hx],by simp⟩
  ·obtain⟨i,hi,hl⟩:=ih (by rcases List.mem_cons.1 h with e|e;exact absurd e.symm hx;exact e)
   have h2:¬(x==c)=true:=by simpa using hx
   rw[if_neg h2,hi,if_neg (by rw[beq_iff_eq];omega)]
   exact⟨i+1,by omega,by simp;omega⟩
theorem zpu{l:List UInt8}{c:UInt8}(h:c ∉ l):Lib.indexByte l c = -1:=by
 induction l with
 |nil=>rfl
 |cons x t ih=>
  have hx:¬(x==c)=true:=by rw[beq_iff_eq];intro e;exact h (by simp[e])
  unfold Lib.indexByte
  rw[if_neg hx,ih (fun hm=>h (by simp[hm]))]
  rfl
end Go.Proofs.YtkjbokhnpphimaaGreatDoor
