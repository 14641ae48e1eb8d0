/- Lemmas of the walk. -/
import Derived.Test.YtkjbokhnpphimaaGreatDoorV17
set_option maxHeartbeats 40000000
set_option linter.unusedVariables false
set_option linter.unusedSimpArgs false
namespace Go.Proofs.YtkjbokhnpphimaaGreatDoor
section
set_option maxRecDepth 10000
theorem zig{c:UInt8}(h:digC c=true):([43,45]:List UInt8).contains c=false:=by
 have h1:=(zaM c).1 h
 have a1:(c==43)=false:=by rw[beq_eq_false_iff_ne];intro e;rw[e] at h1;exact absurd h1.1 (by decide)
 have a2:(c==45)=false:=by rw[beq_eq_false_iff_ne];intro e;rw[e] at h1;exact absurd h1.1 (by decide)
 simp[List.contains,List.elem,a1,a2]
theorem zpi{d:List UInt8}(h:d.all digC=true){k:Nat}(hk:k<d.length):digC (d[k]?.getD 0)=true:=by
 rw[List.getElem?_eq_getElem hk]
 exact List.all_eq_true.1 h _ (List.getElem_mem hk)
theorem zil{d:List UInt8}(h:d.all digC=true):∀k,k≤d.length→zb6 d k = -1
 |0,_=>rfl
 |k+1,hk=>by
  rw[zb6,zig (zpi h (by omega))]
  exact zil h k (by omega)
theorem zjz(p:List UInt8){d:List UInt8}{c:UInt8}(hc:([43,45]:List UInt8).contains c=true)(h:d.all digC=true):∀k,k≤d.length→zb6 (p++c::d) (p.length+1+k)=p.length
 |0,_=>by
  have e:(p++c::d)[p.length]?.getD 0=c:=by simp
  show zb6 (p++c::d) (p.length+1)=_
  rw[zb6,e,hc];rfl
 |k+1,hk=>by
  have e:(p++c::d)[p.length+1+k]?.getD 0=d[k]?.getD 0:=by
   rw[List.getElem?_append_right (by omega),show p.length+1+k-p.length=k+1 by omega,List.getElem?_cons_succ]
  show zb6 (p++c::d) (p.length+1+k+1)=_
  rw[zb6,e,zig (zpi h (by omega))]
  exact zjz p hc h k (by omega)
def atP(t:List UInt8):Nat:=(max (zb6 t t.length) 0).toNat
theorem zl6{d:List UInt8}(h:d.all digC=true):atP d=0:=by
 unfold atP;rw[zil h _ (Nat.le_refl _)];rfl
theorem zlU(p:List UInt8){d:List UInt8}{c:UInt8}(hc:([43,45]:List UInt8).contains c=true)(h:d.all digC=true):atP (p++c::d)=p.length:=by
 have:=zjz p hc h d.length (Nat.le_refl _)
 unfold atP
 rw[show(p++c::d).length=p.length+1+d.length by simp;omega,this]
 omega
def zfq(v:List UInt8):List UInt8:=if v.getLast?=some 105 then(if v.dropLast.take (atP v.dropLast)=[] then[48] else v.dropLast.take (atP v.dropLast)) else v
def zdG(v:List UInt8):List UInt8:=
 if v.getLast?=some 105 then(if v.dropLast.drop (atP v.dropLast)=[]∨v.dropLast.drop (atP v.dropLast)=[43]∨v.dropLast.drop (atP v.dropLast)=[45] then v.dropLast.drop (atP v.dropLast)++[49] else v.dropLast.drop (atP v.dropLast)) else[48]
theorem ziK(t:List UInt8):zfq (t++[105])=if t.take (atP t)=[] then[48] else t.take (atP t):=by
 unfold zfq;rw[if_pos (by simp),List.dropLast_concat]
theorem zje(t:List UInt8):zdG (t++[105])=if t.drop (atP t)=[]∨t.drop (atP t)=[43]∨t.drop (atP t)=[45] then t.drop (atP t)++[49] else t.drop (atP t):=by
 unfold zdG;rw[if_pos (by simp),List.dropLast_concat]
theorem zkn{p d:List UInt8}{c:UInt8}(hp:p≠[])(hc:([43,45]:List UInt8).contains c=true)(h:d.all digC=true):zfq (p++c::d++[105])=p:=by
 rw[ziK,zlU p hc h,List.take_left,if_neg hp]
theorem zf6{p d:List UInt8}{c:UInt8}(hc:([43,45]:List UInt8).contains c=true)(h:d.all digC=true):zdG (p++c::d++[105])=if d=[] then[c,49] else c::d:=by
 rw[zje,zlU p hc h,List.drop_left]
 by_cases hd:d=[]
 ·subst hd
  have:c=43∨c=45:=by
   have hm:c∈([43,45]:List UInt8):=List.contains_iff_mem.1 hc
   simpa using hm
  rw[if_pos rfl]
  rcases this with rfl|rfl<;>rfl
 ·rw[if_neg hd,if_neg (by simp[hd])]
theorem no_i{v:List UInt8}{c:UInt8}(h:v.getLast?=some c)(hc:digC c=true):v.getLast?≠some 105:=by
 rw[h]
 intro e
 have:=(zaM c).1 hc
 rw[Option.some.inj e] at this
 exact absurd this.2 (by decide)
theorem zmt(u:Nat):∃c,(Lib.decDigits u).getLast?=some c∧digC c=true:=by
 obtain⟨h1,-,h3⟩:=zcr u u (Nat.le_refl _)
 exact⟨_,List.getLast?_eq_some_getLast h3,List.all_eq_true.1 h1 _ (List.getLast_mem h3)⟩
theorem zgO(a:Int):(Lib.itoa a).getLast?≠some 105:=by
 unfold Lib.itoa
 split
 ·obtain⟨c,h1,h2⟩:=zmt a.natAbs
  refine no_i (c:=c) ?_ h2
  rw[List.getLast?_cons,h1];rfl
 ·obtain⟨c,h1,h2⟩:=zmt a.toNat
  exact no_i h1 h2
theorem ze4(a:Int):Lib.itoa a≠[]:=by
 unfold Lib.itoa
 split
 ·simp
 ·exact(zcr _ _ (Nat.le_refl _)).2.2
def phB(v:List UInt8):Option (Int×Int):=
 match Lib.parseIntB 32 (zfq v),Lib.parseIntB 32 (zdG v) with
 |.ok a,.ok b=>if zaE a b=true∧zaR a b=v then some (a,b) else none
 |_,_=>none
theorem zke{v:List UInt8}{a b:Int}(h1:Lib.parseIntB 32 (zfq v)=.ok a)(h2:Lib.parseIntB 32 (zdG v)=.ok b)(hw:zaE a b=true)(hp:zaR a b=v):phB v=some (a,b):=by
 unfold phB
 rw[h1,h2]
 exact if_pos ⟨hw,hp⟩
theorem zmo{v:List UInt8}{a b:Int}(h:phB v=some (a,b)):zaE a b=true∧zaR a b=v:=by
 unfold phB at h
 split at h
 ·split at h
  ·rename_i hc
   cases h
   exact hc
  ·cases h
 ·cases h
theorem dec_one:Lib.decDigits 1=[49]:=by rw[zcp (by decide)];decide
theorem ziR{b:Int}(h:0<b):∃d:List UInt8,d.all digC=true∧zaH b=d++[105]∧(if d=[] then[49] else d)=Lib.decDigits b.natAbs:=by
 unfold zaH
 by_cases h1:b=1
 ·subst h1
  exact⟨[],rfl,rfl,dec_one.symm⟩
 ·obtain⟨x1,-,x3⟩:=zcr b.natAbs b.natAbs (Nat.le_refl _)
  refine⟨Lib.decDigits b.natAbs,x1,?_,if_neg x3⟩
  rw[if_neg h1,if_neg (by omega)]
  unfold Lib.itoa
  rw[if_neg (by omega),show b.toNat=b.natAbs by omega]
theorem zjg{b:Int}(h:b<0):∃d:List UInt8,d.all digC=true∧zaH b=45::d++[105]∧(if d=[] then[45,49] else 45::d)=45::Lib.decDigits b.natAbs:=by
 unfold zaH
 by_cases h1:b = -1
 ·subst h1
  exact⟨[],rfl,rfl,by rw[show(-1:Int).natAbs=1 from rfl,dec_one];rfl⟩
 ·obtain⟨x1,-,x3⟩:=zcr b.natAbs b.natAbs (Nat.le_refl _)
  refine⟨Lib.decDigits b.natAbs,x1,?_,if_neg x3⟩
  rw[if_neg (by omega),if_neg h1]
  unfold Lib.itoa
  rw[if_pos h]
theorem zfI:Lib.parseIntB 32 [48]=.ok 0:=by
 have:=zdd (a:=0) (by decide)
 rw[show Lib.itoa 0=[48] by unfold Lib.itoa;rw[if_neg (by decide),zcp (by decide)];decide] at this
 exact this
theorem zfw{a b:Int}(h:zaE a b=true):a.natAbs≤1000000∧b.natAbs≤1000000:=by
 rw[zeU] at h;simpa using h
theorem zjN:([43,45]:List UInt8).contains 43=true:=by decide
theorem zey:([43,45]:List UInt8).contains 45=true:=by decide
theorem zjw{d:List UInt8}(h:d.all digC=true):d≠[43]∧d≠[45]:=by
 constructor<;>· intro e;rw[e] at h;exact absurd h (by decide)
theorem zp7{a b:Int}(h:zaE a b=true):phB (zaR a b)=some (a,b):=by
 obtain⟨ha,hb⟩:=zfw h
 by_cases b0:b=0
 ·subst b0
  have e:zaR a 0=Lib.itoa a:=by unfold zaR;rw[if_pos rfl]
  refine zke ?_ ?_ h rfl
  ·rw[e];unfold zfq;rw[if_neg (zgO a)];exact zdd ha
  ·rw[e];unfold zdG;rw[if_neg (zgO a)];exact zfI
 ·by_cases a0:a=0
  ·have e:zaR a b=zaH b:=by unfold zaR;rw[if_neg b0,if_pos a0]
   by_cases hp:0<b
   ·obtain⟨d,d1,d2,d3⟩:=ziR hp
    refine zke ?_ ?_ h rfl
    ·rw[e,d2,ziK,zl6 d1,List.take_zero,if_pos rfl,a0];exact zfI
    ·have:(if d=[]∨d=[43]∨d=[45] then d++[49] else d)=Lib.decDigits b.natAbs:=by
      rw[←d3]
      by_cases hd:d=[]
      ·rw[if_pos (.inl hd),if_pos hd,hd];rfl
      ·rw[if_neg hd,if_neg (by rintro(h|h|h);exact hd h;exact(zjw d1).1 h;exact(zjw d1).2 h)]
     rw[e,d2,zje,zl6 d1,List.drop_zero,this,zeF hb]
     congr 1;omega
   ·obtain⟨d,d1,d2,d3⟩:=zjg (b:=b) (by omega)
    have e2:zaH b=[]++45::d++[105]:=d2
    refine zke ?_ ?_ h rfl
    ·rw[e,e2,ziK,zlU [] zey d1,List.length_nil,List.take_zero,if_pos rfl,a0];exact zfI
    ·rw[e,e2,zf6 zey d1,d3,zdc hb 45 (.inr (by decide)),if_pos (by decide)]
     congr 1;omega
  ·by_cases hp:0<b
   ·obtain⟨d,d1,d2,d3⟩:=ziR hp
    have e:zaR a b=Lib.itoa a++43::d++[105]:=by unfold zaR;rw[if_neg b0,if_neg a0,if_pos hp,d2];simp
    have e3:(if d=[] then[43,49] else 43::d)=43::Lib.decDigits b.natAbs:=by
     rw[←d3];by_cases hd:d=[]
     ·rw[if_pos hd,if_pos hd]
     ·rw[if_neg hd,if_neg hd]
    refine zke ?_ ?_ h rfl
    ·rw[e,zkn (ze4 a) zjN d1];exact zdd ha
    ·rw[e,zf6 zjN d1,e3,zdc hb 43 (.inl (by decide)),if_neg (by decide)]
     congr 1;omega
   ·obtain⟨d,d1,d2,d3⟩:=zjg (b:=b) (by omega)
    have e:zaR a b=Lib.itoa a++45::d++[105]:=by unfold zaR;rw[if_neg b0,if_neg a0,if_neg hp,d2];simp
    refine zke ?_ ?_ h rfl
    ·rw[e,zkn (ze4 a) zey d1];exact zdd ha
    ·rw[e,zf6 zey d1,d3,zdc hb 45 (.inr (by decide)),if_pos (by decide)]
     congr 1;omega
theorem zss(v:List UInt8):(phB v).isSome=true↔∃a b,zaE a b=true∧zaR a b=v:=by
 constructor
 ·intro h
  obtain⟨⟨a,b⟩,hq⟩:=Option.isSome_iff_exists.1 h
  exact⟨a,b,zmo hq⟩
 ·rintro⟨a,b,h,rfl⟩
  rw[zp7 h];rfl
end
section
open Go.RowKit
set_option maxRecDepth 100000
def zfx(v:List UInt8)(w:World)(e:Ending)(w':World):Prop:=∃x y:Nat,e=.returned (.tuple #[.complex .f64 x y,.int .i64 (if(phB v).isSome then 0 else 2)])∧Ext w w'
theorem zsQ(v:List UInt8):Lib.hasSuffix v [105]=decide (v.getLast?=some 105):=by
 unfold Lib.hasSuffix
 rcases List.eq_nil_or_concat v with h|⟨t,c,h⟩
 ·subst h;rfl
 ·rw[List.concat_eq_append] at h
  subst h
  rw[Bool.eq_iff_iff,List.isSuffixOf_iff_suffix,decide_eq_true_iff,List.getLast?_concat]
  constructor
  ·rintro⟨p,hp⟩
   have:=congrArg List.getLast? hp
   rw[List.getLast?_concat,List.getLast?_concat] at this
   exact this.symm
  ·intro e
   rw[Option.some.inj e]
   exact⟨t,rfl⟩
theorem zsA(v:List UInt8):Lib.trimSuffix v [105]=if v.getLast?=some 105 then v.dropLast else v:=by
 unfold Lib.trimSuffix
 rw[zsQ]
 by_cases h:v.getLast?=some 105
 ·rw[if_pos h,if_pos (by simpa using h),List.dropLast_eq_take];try rfl
 ·rw[if_neg h,if_neg (by simpa using h)]
theorem zsO(s:ByteArray)(w:World)(hs:s.size≤4000000):Calls Tryz.prog 215 #[.string s,.string ⟨#[105]⟩] w fun e w'=>e=.returned (.tuple #[.string (str (if(bys s).getLast?=some 105 then(bys s).dropLast else bys s)),.bool (decide ((bys s).getLast?=some 105))])∧w'=w:=by
 refine(Tryz.strings_CutSuffix s ⟨#[105]⟩ w (by omega)).mono ?_
 rintro e w' ⟨rfl,rfl⟩
 have hh:Lib.hasSuffix s.data.toList [105]=decide ((bys s).getLast?=some 105):=zsQ _
 have ht:Lib.trimSuffix s.data.toList [105]=if(bys s).getLast?=some 105 then(bys s).dropLast else bys s:=zsA _
 rw[show(⟨#[105]⟩:ByteArray).data.toList=[105] from rfl,hh,ht]
 exact⟨rfl,rfl⟩
theorem zn4{s:ByteArray}{n1 n2:Int}{b1 b2:Bool}(hi:(bys s).getLast?≠some 105)(hy1:b1=true→Lib.parseIntB 32 (bys s)=.ok n1)(hz1:b1=false→∀n,Lib.parseIntB 32 (bys s)≠.ok n)(hy2:b2=true→Lib.parseIntB 32 (bys ⟨#[48]⟩)=.ok n2)(hz2:b2=false→∀n,Lib.parseIntB 32 (bys ⟨#[48]⟩)≠.ok n) :
 (phB (bys s)).isSome=(b1&&b2&&zaE n1 n2&&decide (zaR n1 n2=bys s)):=by
 have e1:zfq (bys s)=bys s:=by unfold zfq;rw[if_neg hi]
 have e2:zdG (bys s)=bys ⟨#[48]⟩:=by unfold zdG;rw[if_neg hi];try rfl
 cases b1 with
 |false=>
  have h:=hz1 rfl
  unfold phB
  rw[e1]
  cases hp:Lib.parseIntB 32 (bys s) with
  |ok n=>exact absurd hp (h n)
  |_=>rfl
 |true=>
  have h1:=hy1 rfl
  cases b2 with
  |false=>
   have h:=hz2 rfl
   unfold phB
   rw[e1,e2,h1]
   cases hp:Lib.parseIntB 32 (bys ⟨#[48]⟩) with
   |ok n=>exact absurd hp (h n)
   |_=>rfl
  |true=>
   have h2:=hy2 rfl
   unfold phB
   rw[e1,e2,h1,h2]
   show(if zaE n1 n2=true∧zaR n1 n2=bys s then some (n1,n2) else none).isSome=_
   by_cases hw:zaE n1 n2=true<;>by_cases hp:zaR n1 n2=bys s<;>simp[hw,hp]
theorem zlr(s:ByteArray)(w:World)(hG:Gl w)(hs:s.size≤4000000)(hi:(bys s).getLast?≠some 105):Calls Tryz.prog 195 #[.string s] w (zfx (bys s) w):=by
 have HG:=hid hG
 have hC:=zsO s w hs
 rw[if_neg hi,decide_eq_false hi] at hC
 have hR1:=fun w hG=>zf7 s w hG hs
 have hR2:=fun w hG=>zf7 ⟨#[48]⟩ w hG (by decide)
 unfold zdD at hR1 hR2
 go_enter Tryz.func195,Tryz.ntmps195
 go_wp2_with (first
  |(go_at_call 215;(with_reducible refine hC.mono ?_);rintro e w1 ⟨rfl,rfl⟩)
  |(go_at_call 217;(with_reducible refine(hR1 _ HG.out).mono ?_);rintro e w1 ⟨n1,b1,hn1,rfl,hx1,hy1,hz1⟩;have HX1:=hid hx1;clear hx1)
  |(go_at_call 217;(with_reducible refine(hR2 _ (HG.out.ext HX1.out)).mono ?_);rintro e w2 ⟨n2,b2,hn2,rfl,hx2,hy2,hz2⟩;have HX2:=hid (HX1.out.trans hx2);clear hx2)
  | (go_at_call 218;(with_reducible refine (zbz hn1 hn2 _ (HG.out.ext HX2.out)).mono ?_);rintro e w3 ⟨rfl,hx3⟩;have HX3:=hid (HX2.out.trans hx3);clear hx3;have HP:=hid (zn4 hi hy1 hz1 hy2 hz2);clear hy1 hz1 hy2 hz2 hR1 hR2 hC;generalize zaE n1 n2=W at *;generalize zaR n1 n2=T at *;generalize zax n1=x1 at *;generalize zax n2=x2 at *;cases b1 <;> cases b2 <;> cases W <;> simp only [if_true,if_false,Bool.false_eq_true] at *))
 all_goals go_ret2
 all_goals try(exact⟨_,_,by rw[HP.out];rfl,HX3.out⟩)
 ·rename_i h
  have hT:¬T=bys s:=by
   intro e
   rw[e,ByteArray.toList_eq] at h
   simp at h
  exact⟨_,_,by rw[HP.out,decide_eq_false hT];rfl,HX3.out⟩
 ·rename_i h
  have hT:T=bys s:=by
   rw[ByteArray.toList_eq] at h
   simpa using h
  exact⟨_,_,by rw[HP.out,decide_eq_true hT];rfl,HX3.out⟩
theorem zpr{c:UInt8}(h:digC c=true):c.toNat<128:=by have:=(zaM c).1 h;omega
theorem zkP(u:Nat):∀c∈Lib.decDigits u,c.toNat<128:=fun c hc=>zpr (List.all_eq_true.1 (zcr u u (Nat.le_refl _)).1 c hc)
theorem zes(a:Int):∀c∈Lib.itoa a,c.toNat<128:=by
 intro c hc
 unfold Lib.itoa at hc
 split at hc
 ·rcases List.mem_cons.1 hc with h|h
  ·rw[h];decide
  ·exact zkP _ c h
 ·exact zkP _ c hc
theorem zee(b:Int):∀c∈zaH b,c.toNat<128:=by
 intro c hc
 unfold zaH at hc
 split at hc
 ·simp at hc;rw[hc];decide
 ·split at hc
  ·simp at hc;rcases hc with h|h<;>(rw[h];decide)
  ·rcases List.mem_append.1 hc with h|h
   ·exact zes _ c h
   ·simp at h;rw[h];decide
theorem zm4(a b:Int):∀c∈zaR a b,c.toNat<128:=by
 intro c hc
 unfold zaR at hc
 split at hc
 ·exact zes _ c hc
 ·split at hc
  ·exact zee _ c hc
  ·split at hc
   ·rcases List.mem_append.1 hc with h|h
    ·exact zes _ c h
    ·rcases List.mem_cons.1 h with h|h
     ·rw[h];decide
     ·exact zee _ c h
   ·rcases List.mem_append.1 hc with h|h
    ·exact zes _ c h
    ·exact zee _ c h
def fT(t:List UInt8)(k:Nat):List UInt8:=if t.take k=[] then[48] else t.take k
def sT(t:List UInt8)(k:Nat):List UInt8:=if t.drop k=[]∨t.drop k=[43]∨t.drop k=[45] then t.drop k++[49] else t.drop k
theorem zki{t v:List UInt8}{k:Nat}{n1 n2:Int}{b1 b2:Bool}(hv:v=t++[105])(hk:k=atP t∨∃c∈t,¬c.toNat<128)(hy1:b1=true→Lib.parseIntB 32 (fT t k)=.ok n1)(hz1:b1=false→∀n,Lib.parseIntB 32 (fT t k)≠.ok n)(hy2:b2=true→Lib.parseIntB 32 (sT t k)=.ok n2)(hz2:b2=false→∀n,Lib.parseIntB 32 (sT t k)≠.ok n) :
 (phB v).isSome=(b1&&b2&&zaE n1 n2&&decide (zaR n1 n2=v)):=by
 rcases hk with rfl|⟨c,hc,h128⟩
 ·have e1:zfq v=fT t (atP t):=by rw[hv,ziK];rfl
  have e2:zdG v=sT t (atP t):=by rw[hv,zje];rfl
  cases b1 with
  |false=>
   have h:=hz1 rfl
   unfold phB
   rw[e1]
   cases hp:Lib.parseIntB 32 (fT t (atP t)) with
   |ok n=>exact absurd hp (h n)
   |_=>rfl
  |true=>
   have h1:=hy1 rfl
   cases b2 with
   |false=>
    have h:=hz2 rfl
    unfold phB
    rw[e1,e2,h1]
    cases hp:Lib.parseIntB 32 (sT t (atP t)) with
    |ok n=>exact absurd hp (h n)
    |_=>rfl
   |true=>
    have h2:=hy2 rfl
    unfold phB
    rw[e1,e2,h1,h2]
    show(if zaE n1 n2=true∧zaR n1 n2=v then some (n1,n2) else none).isSome=_
    by_cases hw:zaE n1 n2=true<;>by_cases hp:zaR n1 n2=v<;>simp[hw,hp]
 ·have hne:∀a b,zaR a b≠v:=fun a b e=>h128 (zm4 a b c (by rw[e,hv];exact List.mem_append_left _ hc))
  rw[decide_eq_false (hne n1 n2),Bool.and_false]
  cases hp:phB v with
  |none=>rfl
  |some p=>exact absurd (zmo hp).2 (hne _ _)
def ziX(t:List UInt8)(w:World)(e:Ending)(w':World):Prop:=∃q:Int,e=.returned (.int .i64 q)∧-1≤q∧q<(max t.length 1:Nat)∧((max q 0).toNat=atP t∨∃c∈t,¬c.toNat<128)∧Ext w w'
theorem zrM(s:ByteArray)(w:World)(hG:Gl w)(hs:s.size≤3000000)(hi:(bys s).getLast?=some 105)(hLA:Calls Tryz.prog 216 #[.string (str (bys s).dropLast),.string ⟨#[43,45]⟩] w (ziX (bys s).dropLast w)):Calls Tryz.prog 195 #[.string s] w (zfx (bys s) w):=by
 have HG:=hid hG
 have hC:=zsO s w (by omega)
 rw[if_pos hi,decide_eq_true hi] at hC
 obtain⟨t,ht⟩:∃t,t=(bys s).dropLast:=⟨_,rfl⟩
 have hv:bys s=t++[105]:=by
  rw[ht]
  have h1:bys s≠[]:=by intro e;rw[e] at hi;cases hi
  have h2:=List.dropLast_concat_getLast h1
  rw[List.getLast?_eq_some_getLast h1] at hi
  rw[Option.some.inj hi] at h2
  exact h2.symm
 rw[←ht] at hC hLA
 have htl:t.length≤3000000:=by have:=congrArg List.length hv;rw[zaj,List.length_append] at this;simp at this;omega
 have hR:=fun(x:List UInt8) (hx:x.length≤4000000) w hG=>zf7 (str x) w hG (by rw[zaI];exact hx)
 unfold zdD at hR
 simp only[zao] at hR
 unfold ziX at hLA
 have HV:=hid hv
 have HTL:=hid htl
 clear hG hs hi ht hv htl
 go_enter Tryz.func195,Tryz.ntmps195
 go_wp2_with (first
  |(go_at_call 215;(with_reducible refine hC.mono ?_);rintro e w1 ⟨rfl,rfl⟩)
  | (go_at_call 216;(with_reducible refine hLA.mono ?_);rintro e w1 ⟨q,rfl,hq1,hq2,hq3,hx1⟩;have HX1:=hid hx1;obtain ⟨k,hk⟩:∃ k,k=(max q 0).toNat:=⟨_,rfl⟩;have hmk:max q 0=(k:Int):=(by omega);have HQ3:=hid hq3;have hkl:k≤t.length:=(by omega);have HMK:=hid hmk;have HK:=hid hk;have HKL:=hid hkl;clear hx1 hq3 hk hq1 hq2))
 have HQK:Hid (k=atP t∨∃c∈t,¬c.toNat<128):=by show _∨_;rw[HK.out];exact HQ3.out
 have y1:(str t).extract 0 k=str (t.take k):=by rw[←zaK ((str t).extract 0 k),zdZ,zao];simp
 have y2:(str t).extract k (str t).size=str (t.drop k):=by rw[←zaK ((str t).extract k (str t).size),zeq,zao]
 have y3:(str t).extract k t.length=str (t.drop k):=y2
 have hkl2:(k:Int)≤(t.length:Int):=by omega
 have HFD:Hid (fT t k=if t.take k=[] then[48] else t.take k):=rfl
 have HSD:Hid (sT t k=if t.drop k=[]∨t.drop k=[43]∨t.drop k=[45] then t.drop k++[49] else t.drop k):=rfl
 have hpl:Hid ((t.take k).length≤3000000):=by show _≤_;have:=HTL.out;have:=List.length_take_le k t;omega
 have hdl:Hid ((t.drop k).length≤3000000):=by show _≤_;have:=HTL.out;rw[List.length_drop];omega
 clear hLA hC hmk
 refine zac (.read 0 (.read 1 (.read 2 (.read 3 (.read 4 (.read 5 (.read 6 (.read 7 .done)))))))) (by kernel_rfl) (by kernel_rfl) ?_
 intro wD hxD
 have XE:Hid (Ext wD wD):=Ext.refl _
 repeat' ((first
  |refine zaf rfl rfl ?_
  |refine zad rfl rfl ?_
  |refine zai rfl rfl ?_
  |refine zab rfl rfl ?_
  |(refine zae (v:=?_) rfl rfl (fun w' hE=>?_) ?_;rotate_left 1;(· ((try(have hEx:=Ext.trans (Hid.out XE) hE));go_simp;(try go_bits);with_reducible rfl)))
  |refine walks_alt ?_ ?_
  | (refine zah rfl rfl (fun K hK=>?_);go_wp2_with (fail);refine hK _ _ (by first | assumption | exact Ext.alloc _ _ | exact Ext.refl _) ?_;clear hK K));try simp only [Act.put,Act.eval,evs])
 refine zag ?_
 have HXD:=hid (HX1.out.trans hxD)
 clear y1 y2 y3 hkl2 hkl XE
 generalize t.take k=p at*
 generalize t.drop k=d at*
 by_cases hp:p=[]
 have hF:fT t k=[48]:=by rw[HFD.out,if_pos hp]
 have hR1:∀w,Gl w→Calls Tryz.prog 217 #[.string ⟨#[48]⟩] w fun e w'=>∃(n:Int) (b:Bool),n.natAbs<9007199254740992∧e=.returned (.tuple #[.float .f64 (zax n),.bool b])∧Ext w w'∧(b=true→Lib.parseIntB 32 (fT t k)=.ok n)∧(b=false→∀n,Lib.parseIntB 32 (fT t k)≠.ok n):=fun w hG=>by
  have h:Calls Tryz.prog 217 #[.string ⟨#[48]⟩] w _:=hR [48] (by simp) w hG
  refine h.mono fun e w' hh=>?_
  rw[hF]
  exact hh
 have tp:(p == [])=true:=by rw[hp];rfl
 rotate_left
 have hF:fT t k=p:=by rw[HFD.out,if_neg hp]
 have hR1:∀w,Gl w→Calls Tryz.prog 217 #[.string (str p)] w fun e w'=>∃(n:Int) (b:Bool),n.natAbs<9007199254740992∧e=.returned (.tuple #[.float .f64 (zax n),.bool b])∧Ext w w'∧(b=true→Lib.parseIntB 32 (fT t k)=.ok n)∧(b=false→∀n,Lib.parseIntB 32 (fT t k)≠.ok n):=fun w hG=>by
  refine(hR p (by have:=hpl.out;omega) w hG).mono fun e w' hh=>?_
  rw[hF]
  exact hh
 have tp:(p == [])=false:=beq_eq_false_iff_ne.2 hp
 rotate_left
 all_goals
  clear hp hF HFD hpl
  by_cases hd:d=[]∨d=[43]∨d=[45]
  ·have hS:sT t k=d++[49]:=by rw[HSD.out,if_pos hd]
   have hR2:∀w,Gl w→Calls Tryz.prog 217 #[.string (str (d++[49]))] w fun e w'=>∃(n:Int) (b:Bool),n.natAbs<9007199254740992∧e=.returned (.tuple #[.float .f64 (zax n),.bool b])∧Ext w w'∧(b=true→Lib.parseIntB 32 (sT t k)=.ok n)∧(b=false→∀n,Lib.parseIntB 32 (sT t k)≠.ok n):=fun w hG=>by
    refine(hR (d++[49]) (by have:=hdl.out;rw[List.length_append];simp only[List.length_cons,List.length_nil];omega) w hG).mono fun e w' hh=>?_
    rw[hS]
    exact hh
   have hz:str d++(⟨#[49]⟩:ByteArray)=str (d++[49]):=zbh d [49]
   have z0:¬9223372036854775807<d.length+1:=by have:=hdl.out;omega
   have td:(d == [])=true∨((d == [])=false∧(d == [43])=true)∨((d == [])=false∧(d == [43])=false∧(d == [45])=true):=by rcases hd with rfl|rfl|rfl<;>simp
   clear hS HSD hdl hR hd
   obtain⟨d2,hd2⟩:∃d2,d2=d++[49]:=⟨_,rfl⟩
   rw[←hd2] at hR2 hz
   clear hd2
   rcases td with td|⟨td,te⟩|⟨td,te,tf⟩
   all_goals
    go_wp2_with (first
     | (go_at_call 217;first
      |((with_reducible refine(hR1 _ (HG.out.ext HXD.out)).mono ?_);rintro e w2 ⟨n1,b1,hn1,rfl,hx2,hy1,hz1⟩;have HX2:=hid (HXD.out.trans hx2);clear hx2 hR1)
      | ((with_reducible refine (hR2 _ (HG.out.ext HX2.out)).mono ?_);rintro e w3 ⟨n2,b2,hn2,rfl,hx3,hy2,hz2⟩;have HX3:=hid (HX2.out.trans hx3);clear hx3 hR2))
     | (go_at_call 218;(with_reducible refine (zbz hn1 hn2 _ (HG.out.ext HX3.out)).mono ?_);rintro e w4 ⟨rfl,hx4⟩;have HX4:=hid (HX3.out.trans hx4);clear hx4;have HP:=hid (zki HV.out HQK.out hy1 hz1 hy2 hz2);clear hy1 hz1 hy2 hz2;generalize zaE n1 n2=W at *;generalize zaR n1 n2=T at *;generalize zax n1=x1 at *;generalize zax n2=x2 at *;cases b1 <;> cases b2 <;> cases W <;> simp only [if_true,if_false,Bool.false_eq_true] at *))
    all_goals go_ret2
    all_goals try(exact⟨_,_,by rw[HP.out];rfl,HX4.out⟩)
    ·rename_i h
     have hT:¬T=bys s:=by
      intro e
      rw[e,ByteArray.toList_eq] at h
      simp at h
     exact⟨_,_,by rw[HP.out,decide_eq_false hT];rfl,HX4.out⟩
    ·rename_i h
     have hT:T=bys s:=by
      rw[ByteArray.toList_eq] at h
      simpa using h
     exact⟨_,_,by rw[HP.out,decide_eq_true hT];rfl,HX4.out⟩
  ·have hS:sT t k=d:=by rw[HSD.out,if_neg hd]
   have hR2:∀w,Gl w→Calls Tryz.prog 217 #[.string (str d)] w fun e w'=>∃(n:Int) (b:Bool),n.natAbs<9007199254740992∧e=.returned (.tuple #[.float .f64 (zax n),.bool b])∧Ext w w'∧(b=true→Lib.parseIntB 32 (sT t k)=.ok n)∧(b=false→∀n,Lib.parseIntB 32 (sT t k)≠.ok n):=fun w hG=>by
    refine(hR d (by have:=hdl.out;omega) w hG).mono fun e w' hh=>?_
    rw[hS]
    exact hh
   have td:(d == [])=false:=beq_eq_false_iff_ne.2 fun h=>hd (.inl h)
   have te:(d == [43])=false:=beq_eq_false_iff_ne.2 fun h=>hd (.inr (.inl h))
   have tf:(d == [45])=false:=beq_eq_false_iff_ne.2 fun h=>hd (.inr (.inr h))
   clear hS HSD hdl hR hd
   go_wp2_with (first
    | (go_at_call 217;first
     |((with_reducible refine(hR1 _ (HG.out.ext HXD.out)).mono ?_);rintro e w2 ⟨n1,b1,hn1,rfl,hx2,hy1,hz1⟩;have HX2:=hid (HXD.out.trans hx2);clear hx2 hR1)
     | ((with_reducible refine (hR2 _ (HG.out.ext HX2.out)).mono ?_);rintro e w3 ⟨n2,b2,hn2,rfl,hx3,hy2,hz2⟩;have HX3:=hid (HX2.out.trans hx3);clear hx3 hR2))
    | (go_at_call 218;(with_reducible refine (zbz hn1 hn2 _ (HG.out.ext HX3.out)).mono ?_);rintro e w4 ⟨rfl,hx4⟩;have HX4:=hid (HX3.out.trans hx4);clear hx4;have HP:=hid (zki HV.out HQK.out hy1 hz1 hy2 hz2);clear hy1 hz1 hy2 hz2;generalize zaE n1 n2=W at *;generalize zaR n1 n2=T at *;generalize zax n1=x1 at *;generalize zax n2=x2 at *;cases b1 <;> cases b2 <;> cases W <;> simp only [if_true,if_false,Bool.false_eq_true] at *))
   all_goals go_ret2
   all_goals try(exact⟨_,_,by rw[HP.out];rfl,HX4.out⟩)
   ·rename_i h
    have hT:¬T=bys s:=by
     intro e
     rw[e,ByteArray.toList_eq] at h
     simp at h
    exact⟨_,_,by rw[HP.out,decide_eq_false hT];rfl,HX4.out⟩
   ·rename_i h
    have hT:T=bys s:=by
     rw[ByteArray.toList_eq] at h
     simpa using h
    exact⟨_,_,by rw[HP.out,decide_eq_true hT];rfl,HX4.out⟩
end
section
open Go.RowKit
set_option maxRecDepth 1000000
def Ug(w:World):Prop:=Lib.Utf8Tabs 6 7 w
theorem Ug.ext{w w':World}(h:Ug w)(hx:Ext w w'):Ug w':=Utf8Tabs_below h hx
structure Gu(w:World):Prop where
 gl:Gl w
 ug:Ug w
theorem Gu.ext{w w':World}(h:Gu w)(hx:Ext w w'):Gu w':=⟨h.gl.ext hx,h.ug.ext hx⟩
def ziW(w:World)(e:Ending)(w':World):Prop:=∃(r:Int) (z:Nat),e=.returned (.tuple #[.int .i32 r,.int .i64 z])∧z≤4∧Ext w w'
theorem zlA(s:ByteArray):(Lib.decodeGo s).2≤4:=by
 unfold Lib.decodeGo
 split
 ·simp
 ·rw[Lib.decode_at]
  unfold Lib.decodeN
  repeat' split
  all_goals simp
theorem zl9{s:ByteArray}(h:0<s.size):s.toList.isEmpty=false:=by
 have hl:(bys s).length=s.size:=zaj s
 rw[ByteArray.toList_eq]
 show(bys s).isEmpty=false
 cases h:bys s with
 |nil=>rw[h] at hl;simp at hl;omega
 |cons x t=>rfl
theorem zn0(s:ByteArray)(w:World)(hT:Ug w)(h0:0<s.size)(hs:s.size≤4000000):Calls Tryz.prog 264 #[.string s] w (ziW w):=by
 have hS:=fun w hT=>Tryz.utf8_decodeRuneInStringSlow s w hT
 have HT:Hid (Ug w):=hT
 unfold Ug at HT
 have he:=zl9 h0
 clear hT
 by_cases h8:((s[0]'h0).toNat:Int)<128
 all_goals
  go_enter Tryz.func264,Tryz.ntmps264
  go_wp2_with(go_at_call 273;(with_reducible refine(hS _ HT.out).mono ?_);rintro e w1 ⟨rfl,hx1⟩;have HX1:=hid hx1;clear hx1)
  go_ret2
 ·exact⟨_,1,rfl,by omega,Ext.refl _⟩
 ·exact⟨_,_,rfl,zlA s,HX1.out⟩
def zkZ(s:ByteArray)(w:World)(e:Ending)(w':World):Prop:=∃(r:Int) (z:Nat),e=.returned (.tuple #[.int .i32 r,.int .i64 z])∧1≤z∧z≤s.size∧Ext w w'
theorem zod(s:ByteArray)(w:World)(hT:Ug w)(h0:0<s.size)(hs:s.size≤4000000):Calls Tryz.prog 241 #[.string s] w (zkZ s w):=by
 have hz:((s.size:Int)==0)=false:=by rw[beq_eq_false_iff_ne];omega
 obtain⟨n,hn⟩:∃n,s.size=n+1:=⟨s.size-1,by omega⟩
 have hp:((s.size:Int)-1)=(n:Int):=by omega
 have hlt:n<s.size:=by omega
 have hnb:n<4000000:=by omega
 have hD:∀j,j≤n→∀w',w'=w→Calls Tryz.prog 264 #[.string (s.extract j (n+1))] w' (ziW w):=fun j hj w' hw=>by
  subst hw
  rw[←hn]
  exact zn0 _ w' hT (by rw[ByteArray.size_extract];omega) (by rw[ByteArray.size_extract];omega)
 unfold ziW at hD
 clear hT
 have hw:wrap32 ((s[n]'hlt).toNat:Int)=((s[n]'hlt).toNat:Int):=by unfold wrap32;have:=(s[n]'hlt).toNat_lt;omega
 have hRS:=fun(b:Int) h0 h1 w=>Tryz.utf8_RuneStart b w h0 h1
 by_cases h8:((s[n]'hlt).toNat:Int)<128
 ·go_enter Tryz.func241,Tryz.ntmps241
  go_wp2
  go_ret2
  exact⟨_,1,rfl,by omega,by omega,Ext.refl _⟩
 ·go_enter Tryz.func241,Tryz.ntmps241
  go_wp2
  generalize hL:max ((n:Int)+1-4) 0=L at*
  have hL0:0≤L:=by omega
  clear hL
  rw[hw]
  go_loopw [5] (fun i wr=>∃(j:Nat),j≤n∧i=.int .i64 ((j:Int)-1)∧wr=w) (fun i _=>(intOf i+1).toNat)
  case atStart=>exact⟨n,by omega,rfl,rfl⟩
  case round=>
   obtain⟨j,hj,rfl,rfl⟩:=hrel
   by_cases hc:L≤(j:Int)-1
   ·obtain⟨k,rfl⟩:∃k,j=k+1:=⟨j-1,by omega⟩
    have hk:((k+1:Nat):Int)-1=(k:Int):=by omega
    rw[hk] at*
    have hks:k<s.size:=by omega
    have hkk:¬(k:Int)<0:=by omega
    have hkn:(k:Int)≤(n:Int)+1:=by omega
    have hx:=hRS ((s[k]'hks).toNat) (by omega) (by have:=(s[k]'hks).toNat_lt;omega)
    have hd:=hD k (by omega)
    cases hr:Lib.runeStart ((s[k]'hks).toNat:Int)
    ·rw[hr] at hx
     go_wp2_with(go_at_call 263;(with_reducible refine(hx _).mono ?_);rintro e w1 ⟨rfl,rfl⟩)
     exact⟨⟨k,by omega,by go_num,by first|rfl|trivial⟩,by simp[intOf]<;>omega⟩
    ·rw[hr] at hx
     go_wp2_with (first
      |(go_at_call 263;(with_reducible refine(hx _).mono ?_);rintro e w1 ⟨rfl,rfl⟩)
      | (go_at_call 264;(with_reducible refine (hd _ rfl).mono ?_);rintro e w1 ⟨r,z,rfl,hz4,hx1⟩;have HX1:=hid hx1;clear hx1))
     all_goals go_ret2
     ·exact⟨_,1,rfl,by omega,by omega,HX1.out⟩
     ·rename_i he
      simp at he
      exact⟨_,z,rfl,by omega,by omega,HX1.out⟩
   ·have hcc:decide (L≤(j:Int)-1)=false:=decide_eq_false hc
    have hRS':=hRS
    cases j with
    |zero=>
     have hd:=hD 0 (by omega)
     have hx:=fun w=>hRS 0 (by omega) (by omega) w
     have hm:decide (((0:Nat):Int)-1<0)=true:=by decide
     go_wp2_with (first
      |(go_at_call 263;(with_reducible refine(hx _).mono ?_);rintro e w1 ⟨rfl,rfl⟩)
      | (go_at_call 264;(with_reducible refine (hd _ rfl).mono ?_);rintro e w1 ⟨r,z,rfl,hz4,hx1⟩;have HX1:=hid hx1;clear hx1))
     all_goals go_ret2
     ·exact⟨_,1,rfl,by omega,by omega,HX1.out⟩
     ·rename_i he
      simp at he
      exact⟨_,z,rfl,by omega,by omega,HX1.out⟩
    |succ k=>
     have hk:((k+1:Nat):Int)-1=(k:Int):=by omega
     rw[hk] at*
     have hkk:¬(k:Int)<0:=by omega
     have hkn:(k:Int)≤(n:Int)+1:=by omega
     have hd:=hD k (by omega)
     have hx:=fun w=>hRS 0 (by omega) (by omega) w
     go_wp2_with (first
      |(go_at_call 263;(with_reducible refine(hx _).mono ?_);rintro e w1 ⟨rfl,rfl⟩)
      | (go_at_call 264;(with_reducible refine (hd _ rfl).mono ?_);rintro e w1 ⟨r,z,rfl,hz4,hx1⟩;have HX1:=hid hx1;clear hx1))
     all_goals go_ret2
     ·exact⟨_,1,rfl,by omega,by omega,HX1.out⟩
     ·rename_i he
      simp at he
      exact⟨_,z,rfl,by omega,by omega,HX1.out⟩
end
end Go.Proofs.YtkjbokhnpphimaaGreatDoor
