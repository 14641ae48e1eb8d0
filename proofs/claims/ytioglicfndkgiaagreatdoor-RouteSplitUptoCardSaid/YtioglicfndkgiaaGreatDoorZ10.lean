/- Lemmas of the walk. -/
import Derived.Test.YtioglicfndkgiaaGreatDoorZ07
import Derived.Test.YtioglicfndkgiaaGreatDoorZ03
import Derived.Test.YtioglicfndkgiaaGreatDoorShl
import Derived.Lib.OthersKept
import Derived.Lib.AppendStr
import Derived.Lib.SplitLaws
import Derived.Lib.AppendIntMem
set_option maxHeartbeats 40000000
set_option linter.unusedVariables false
set_option linter.unusedSimpArgs false
namespace Go.Proofs.YtioglicfndkgiaaGreatDoor
open Go.RowKit
set_option maxRecDepth 100000
def zg5:Prop:=∀ (s:ByteArray) (w:World),Gl w→s.size≤4000000→Calls Tryz.prog 167 #[.string s,.string ⟨#[32]⟩] w fun e w'=>
 ∃ A n,e=.returned (.slice A n n)∧Row Elem.str (fun _=>True) w' A n n (strs (zaB [] (bys s)))∧Ext w w'
theorem zb8:∀ (l cur:List UInt8),(zaB cur l).length≤l.length+1
 | [],cur=>by simp [zaB]
 | c::t,cur=>by
  unfold zaB
  split
  ·have:=zb8 t [];simp;omega
  ·have:=zb8 t (cur++[c]);simp;omega
def zcR (l:List ByteArray):List ByteArray:=l.filter (fun x=>decide (x.size≠0))
theorem zlX (l:List (List UInt8)):zcR (strs l)=strs (l.filter (fun x=>decide (x≠[]))):=by
 unfold zcR
 induction l with
 | nil=>rfl
 | cons x t ih=>
  show List.filter _ (str x::strs t)=_
  rw [List.filter_cons,List.filter_cons,ih]
  cases x with
  | nil=>rfl
  | cons c r=>rfl
theorem zhi {l:List ByteArray} {j:Nat} {x:ByteArray} (h:l[j]?=some x):zcR (l.take (j+1))=if x.size=0 then zcR (l.take j) else zcR (l.take j)++[x]:=by
 unfold zcR
 rw [List.take_add_one,h,List.filter_append]
 show _++List.filter _ [x]=_
 rw [List.filter_cons,List.filter_nil]
 by_cases h0:x.size=0
 ·rw [if_pos h0,decide_eq_false (not_not_intro h0),if_neg (by decide),List.append_nil]
 ·rw [if_neg h0,decide_eq_true h0,if_pos rfl]
theorem zja (l:List ByteArray):(zcR l).length≤l.length:=List.length_filter_le _ _
theorem zpK (HSp:zg5) (s:ByteArray) (w:World) (hG:Gl w) (hs:s.size≤4000000) :
 Calls Tryz.prog 148 #[.string s] w fun e w'=>∃ v,e=.returned v∧GrowS w w' v (strs (zaY (bys s))):=by
 have Hs:=hid hs
 have HG:=hid hG
 have HSP:=hid HSp
 unfold zg5 at HSP
 clear hs hG HSp
 go_enter Tryz.func148,Tryz.ntmps148
 go_wp2_with (go_at_call 167;(with_reducible refine (HSP.out s _ HG.out Hs.out).mono ?_);rintro e w1 ⟨A1,n1,rfl,hr1,hx1⟩;have HR1:=hid hr1;have HX1:=hid hx1;clear hr1 hx1)
 have hn1:n1≤4000001:=by have h1:=HR1.out.len;have h2:=zb8 (bys s) [];have h3:=Hs.out;rw [List.length_map] at h1;rw [zaf] at h2;omega
 have HL:Hid (strs (zaY (bys s))=zcR (strs (zaB [] (bys s)))):=by show _=_;rw [zlX];rfl
 generalize strs (zaB [] (bys s))=l at *
 go_loopw [3,9] (fun v i wr=>∃ j:Nat,j≤n1∧i=.int .i64 j∧Hid (GrowS w1 wr v (zcR (l.take j)))) (fun _ i _=>n1-(intOf i).toNat)
 case atStart=>exact ⟨0,by omega,rfl,GrowS.nil (Ext.refl _)⟩
 case round=>
  obtain ⟨j,hj,rfl,HW⟩:=hrel
  by_cases hlt:j<n1
  ·obtain ⟨b1,o1,v1,x1,rfl,g1,-,hv1,q1⟩:=(HR1.out.ext HW.out.ext).at_ hlt
   subst hv1
   have e1:=q1 0 _ rfl
   simp only [Elem.str,Nat.add_zero,Nat.mul_one] at e1
   have G1:=hid g1
   clear q1 g1
   by_cases h0:x1.size=0
   ·have t0:=zcf h0
    have HH:Hid (zcR (l.take (j+1))=zcR (l.take j)):=by show _=_;rw [zhi G1.out,if_pos h0]
    clear h0
    go_wp2
    refine ⟨⟨j+1,by omega,by go_num,?_⟩,by simp [intOf];omega⟩
    rw [HH.out];exact HW
   ·have t0:=zdn h0
    have HH:Hid (zcR (l.take (j+1))=zcR (l.take j)++[x1]):=by show _=_;rw [zhi G1.out,if_neg h0]
    clear h0
    go_wp2_with (at_builtin;refine zct rfl _ _ rfl _ _ rfl HW.out rfl (by have:=zja (l.take j);have h2:=List.length_take_le j l;omega) ?_;intro v' w3 hg3;have HG3:=hid hg3;clear hg3)
    refine ⟨⟨j+1,by omega,by go_num,?_⟩,by simp [intOf];omega⟩
    rw [HH.out];exact HG3
  ·obtain rfl:j=n1:=by omega
   have hall:Hid (zcR (l.take j)=zcR l):=by show _=_;rw [List.take_of_length_le (Nat.le_of_eq HR1.out.len.symm)]
   go_wp2
   go_ret
   refine ⟨_,rfl,?_⟩
   rw [HL.out,← hall.out]
   exact HW.out.base HX1.out
def zeb (v:List UInt8):List UInt8:=if (0:UInt8)∈zat v then [] else zcu [] false (zat v)
theorem znS (v:List UInt8):zhU v=if zeb v=[] then none else some (zeb v):=by
 rw [zpz]
 unfold zeb
 by_cases h:(0:UInt8)∈zat v
 ·rw [if_pos (.inr h),if_pos h,if_pos rfl]
 ·rw [if_neg h]
  by_cases h2:zcu [] false (zat v)=[]
  ·rw [if_pos (.inl h2),if_pos h2]
  ·rw [if_neg (by rintro (h3 | h3);exact h2 h3;exact h h3),if_neg h2]
theorem zbU (s:ByteArray) (w:World) (hs:s.size≤4000000) :
 Calls Tryz.prog 111 #[.string s] w fun e w'=>e=.returned (.string (str (zeb (bys s))))∧Ext w w':=by
 have Hs:=hid hs
 have hml:(zat (bys s)).length≤4000000:=by unfold zat;rw [List.length_map,zaf];exact hs
 have HT:Hid (zeb (bys s)=if (0:UInt8)∈zat (bys s) then [] else zcu [] false (zat (bys s))):=rfl
 have HL:∀ w:World,Calls Tryz.prog 85 #[.string s] w fun e w'=>e=.returned (.string (str (zat (bys s))))∧Ext w w':=fun w=>ziD s w (by have:=Hs.out;simp only [maxLen];omega)
 generalize zat (bys s)=m at *
 have HS:=zaL m
 clear hs
 go_enter Tryz.func111,Tryz.ntmps111
 go_wp2_with (go_at_call 85;(with_reducible refine (HL _).mono ?_);rintro e w3 ⟨rfl,hx3⟩)
 have HX3:=hid hx3
 clear hx3 HL
 go_loopw [3,4,6] (fun v g i wr=>∃ (j:Nat) (out:List UInt8) (gap:Bool),j≤m.length∧out.length≤2 * j∧i=.int .i64 j∧g=.bool gap∧Hid (GrowB w wr v out)∧Hid (zcu out gap (m.drop j)=zcu [] false m)∧Hid ((0:UInt8) ∉ m.take j)) (fun _ _ i _=>m.length-(intOf i).toNat)
 case atStart=>exact ⟨0,[],false,by omega,by simp,rfl,rfl,GrowB.nil HX3.out,by rw [List.drop_zero];rfl,by simp [Hid]⟩
 case round=>
  obtain ⟨j,out,gap,hj,ho,rfl,rfl,HG,HR,HZ⟩:=hrel
  by_cases hlt:j<m.length
  ·obtain ⟨x,hx⟩:∃ x,m[j]?=some x:=⟨m[j],List.getElem?_eq_getElem hlt⟩
   have e1:=zpd hx (by rw [zaL];exact hlt)
   have hd:Hid (m.drop j=x::m.drop (j+1)):=by
    show _=_
    obtain ⟨h1,h2⟩:=List.getElem?_eq_some_iff.1 hx
    rw [List.drop_eq_getElem_cons h1,h2]
   have htk:Hid (m.take (j+1)=m.take j++[x]):=by show _=_;rw [List.take_add_one,hx];rfl
   have hmem:Hid (x∈m):=List.mem_of_getElem? hx
   clear hx
   by_cases h0:x=0
   ·have t0:((x.toNat:Int)==0)=true:=za6 (k:=0) (by decide) h0
    have HH:Hid (zeb (bys s)=[]):=by show _=_;rw [HT.out,if_pos (by rw [← h0];exact hmem.out)]
    clear h0
    go_wp2
    go_ret
    exact ⟨by rw [HH.out];rfl,HG.out.ext⟩
   ·have t0:((x.toNat:Int)==0)=false:=zau (k:=0) h0
    have HZ2:Hid ((0:UInt8) ∉ m.take (j+1)):=by show ¬ _;rw [htk.out,List.mem_append];rintro (h | h);exact HZ.out h;simp at h;exact h0 h.symm
    clear h0
    by_cases h32:x=32
    ·have t1:((x.toNat:Int)==32)=true:=za6 (k:=32) (by decide) h32
     have HH:Hid (zcu out true (m.drop (j+1))=zcu [] false m):=by show _=_;rw [← HR.out,hd.out,zcu,if_pos h32]
     clear h32
     go_wp2
     exact ⟨⟨j+1,out,true,by omega,by omega,by go_num,rfl,HG,HH,HZ2⟩,by simp [intOf];omega⟩
    ·have t1:((x.toNat:Int)==32)=false:=zau (k:=32) h32
     have hlo:out.length≤8000000:=by omega
     obtain ⟨A1,c1,rfl,-⟩:=HG.out.sl
     by_cases hgo:gap=true∧out≠[]
     ·obtain ⟨rfl,hne⟩:=hgo
      have hpos:(0:Int)<(out.length:Int):=by have:=List.length_pos_iff.2 hne;omega
      have HH:Hid (zcu (out++[32]++[x]) false (m.drop (j+1))=zcu [] false m):=by show _=_;rw [← HR.out,hd.out,zcu,if_neg h32];simp [hne]
      clear h32 hne
      go_wp2_with (at_builtin;first
       | (refine zbC rfl _ _ rfl _ _ rfl (HG1.out.later (Ext.alloc _ _)) _ 1 1 [x] rfl (zdS _ x) (by simp;omega) ?_;intro v' w5 hg5;have HG5:=hid hg5;clear hg5)
       | (refine zbC rfl _ _ rfl _ _ rfl (HG.out.later (Ext.alloc _ _)) _ 1 1 [32] rfl (zdS _ 32) (by omega) ?_;intro v' w4 hg4;have HG1:=hid hg4;clear hg4))
      exact ⟨⟨j+1,_,false,by omega,by simp;omega,by go_num,rfl,HG5,HH,HZ2⟩,by simp [intOf];omega⟩
     ·have HH:Hid (zcu (out++[x]) false (m.drop (j+1))=zcu [] false m):=by
       show _=_
       rw [← HR.out,hd.out,zcu,if_neg h32,if_neg (by simpa using hgo)]
      clear h32
      by_cases hg1:gap=true
      ·subst hg1
       have hz:¬ (0:Int)<(out.length:Int):=by
        have:out=[]:=by simpa using hgo
        subst this;simp
       clear hgo
       go_wp2_with (at_builtin;refine zbC rfl _ _ rfl _ _ rfl (HG.out.later (Ext.alloc _ _)) _ 1 1 [x] rfl (zdS _ x) (by omega) ?_;intro v' w5 hg5;have HG5:=hid hg5;clear hg5)
       exact ⟨⟨j+1,_,false,by omega,by simp;omega,by go_num,rfl,HG5,HH,HZ2⟩,by simp [intOf];omega⟩
      ·have hg2:gap=false:=by simpa using hg1
       subst hg2
       clear hgo hg1
       go_wp2_with (at_builtin;refine zbC rfl _ _ rfl _ _ rfl (HG.out.later (Ext.alloc _ _)) _ 1 1 [x] rfl (zdS _ x) (by omega) ?_;intro v' w5 hg5;have HG5:=hid hg5;clear hg5)
       exact ⟨⟨j+1,_,false,by omega,by simp;omega,by go_num,rfl,HG5,HH,HZ2⟩,by simp [intOf];omega⟩
  ·obtain rfl:j=m.length:=by omega
   obtain ⟨A1,c1,rfl,hs1⟩:=HG.out.sl
   have hC:=hs1.conv wr (Ext.refl wr)
   have HH:Hid (zeb (bys s)=out):=by
    show _=_
    rw [HT.out,if_neg (by have:=HZ.out;rwa [List.take_length] at this),← HR.out,List.drop_length];rfl
   clear hs1
   go_wp2
   go_ret
   exact ⟨by rw [HH.out];rfl,HG.out.ext⟩
end Go.Proofs.YtioglicfndkgiaaGreatDoor
namespace Go.Proofs.YtioglicfndkgiaaGreatDoor
def digC (c:UInt8):Bool:=decide (48≤c.toNat) && decide (c.toNat≤57)
def zal (acc:Nat):List UInt8→Nat
 | []=>acc
 | c::t=>zal (acc * 10+(c.toNat-48)) t
theorem zaR (c:UInt8):digC c=true ↔ 48≤c.toNat∧c.toNat≤57:=by simp [digC]
theorem zf8 (l:List UInt8):∀ acc:Nat,acc≤zal acc l:=by
 induction l with
 | nil=>intro acc;exact Nat.le_refl _
 | cons c t ih=>
  intro acc
  have h:=ih (acc * 10+(c.toNat-48))
  have e:zal acc (c::t)=zal (acc * 10+(c.toNat-48)) t:=rfl
  rw [e]
  exact Nat.le_trans (by omega) h
theorem zcj (l:List UInt8):∀ acc:Nat,l.all digC=true→zal acc l<(acc+1) * 10 ^ l.length:=by
 induction l with
 | nil=>intro acc _;show acc<(acc+1) * 1;omega
 | cons c t ih=>
  intro acc h
  simp only [List.all_cons,Bool.and_eq_true] at h
  have h1:=(zaR c).1 h.1
  have h2:=ih (acc * 10+(c.toNat-48)) h.2
  have e:zal acc (c::t)=zal (acc * 10+(c.toNat-48)) t:=rfl
  rw [e,List.length_cons,Nat.pow_succ,Nat.mul_comm (10 ^ t.length) 10,← Nat.mul_assoc]
  exact Nat.lt_of_lt_of_le h2 (Nat.mul_le_mul_right _ (by omega))
theorem zbl:∀ (l:List UInt8) (acc:Nat) (c:UInt8),zal acc (l++[c])=zal acc l * 10+(c.toNat-48)
 | [],_,_=>rfl
 | _::t,_,c=>zbl t _ c
theorem zcp {u:Nat} (h:u<10):Lib.decDigits u=[UInt8.ofNat (48+u)]:=by unfold Lib.decDigits;rw [dif_pos h]
theorem zhT {u:Nat} (h:¬ u<10):Lib.decDigits u=Lib.decDigits (u / 10)++[UInt8.ofNat (48+u % 10)]:=by rw [Lib.decDigits,dif_neg h]
theorem zoN {M:Nat} (hM:1000000000000000000≤M) (l:List UInt8):∀ acc:Nat,l.all digC=true→zal acc l<1000000000000000000→Lib.parseUintM M acc l=.ok (zal acc l):=by
 induction l with
 | nil=>intro acc _ _;rfl
 | cons c t ih=>
  intro acc h hv
  simp only [List.all_cons,Bool.and_eq_true] at h
  have h1:=(zaR c).1 h.1
  have e:zal acc (c::t)=zal (acc * 10+(c.toNat-48)) t:=rfl
  rw [e] at hv ⊢
  have h2:=zf8 t (acc * 10+(c.toNat-48))
  have h3:acc * 10+(c.toNat-48)<1000000000000000000:=Nat.lt_of_le_of_lt h2 hv
  unfold Lib.parseUintM
  rw [if_pos h1,if_neg (by omega),if_neg (by omega)]
  exact ih _ h.2 hv
theorem zrw (l:List UInt8) (acc:Nat) (h:l.all digC=true) (hv:zal acc l<10 ^ 18):Lib.parseUintM (2 ^ 64-1) acc l=.ok (zal acc l):=zoN (by decide) l acc h hv
def zp0 (d:List UInt8):Prop:=d≠[]∧d.all digC=true∧(d.head?≠some 48∨d=[48])
theorem zo1:∀ (d:List UInt8),d≠[]→d.all digC=true→d.head?≠some 48→1≤zal 0 d
 | [],h,_,_=>absurd rfl h
 | c::t,_,h,hh=>by
  simp only [List.all_cons,Bool.and_eq_true] at h
  have h1:=(zaR c).1 h.1
  have h2:=zf8 t (0 * 10+(c.toNat-48))
  have h3:c.toNat≠48:=fun e=>hh (congrArg some (UInt8.toNat_inj.1 e))
  have e:zal 0 (c::t)=zal (0 * 10+(c.toNat-48)) t:=rfl
  rw [e]
  exact Nat.le_trans (by omega) h2
theorem zii:∀ (n:Nat) (d:List UInt8),d.length≤n→zp0 d→Lib.decDigits (zal 0 d)=d
 | n,d,hn,⟨h1,h2,h3⟩=>by
  rcases List.eq_nil_or_concat d with e | ⟨e,c,hd⟩
  ·exact absurd e h1
  ·rw [List.concat_eq_append] at hd
   subst hd
   rw [List.all_append,Bool.and_eq_true] at h2
   simp only [List.all_cons,List.all_nil,Bool.and_true] at h2
   have hc:=(zaR c).1 h2.2
   rw [zbl]
   by_cases he:e=[]
   ·subst he
    have e0:zal 0 []=0:=rfl
    rw [e0,zcp (by omega)]
    have:48+(0 * 10+(c.toNat-48))=c.toNat:=by omega
    rw [this]
    simp
   ·have hh:e.head?≠some 48:=by
     rcases h3 with h3 | h3
     ·cases e with
      | nil=>exact absurd rfl he
      | cons x t=>simpa using h3
     ·cases e with
      | nil=>exact absurd rfl he
      | cons x t=>have:=congrArg List.length h3;simp at this
    have hp:=zo1 e he h2.1 hh
    cases n with
    | zero=>simp at hn
    | succ n=>
     have ih:=zii n e (by simp at hn;omega) ⟨he,h2.1,.inl hh⟩
     rw [zhT (by omega)]
     have e1:(zal 0 e * 10+(c.toNat-48)) / 10=zal 0 e:=by omega
     have e2:48+(zal 0 e * 10+(c.toNat-48)) % 10=c.toNat:=by omega
     rw [e1,e2,ih]
     simp
theorem zht:∀ (n u:Nat),u≤n→zp0 (Lib.decDigits u)∧(0<u→(Lib.decDigits u).head?≠some 48)
 | n,u,hn=>by
  by_cases h:u<10
  ·rw [zcp h]
   have ht:(UInt8.ofNat (48+u)).toNat=48+u:=by rw [UInt8.toNat_ofNat'];omega
   refine ⟨⟨by simp,by simp [digC,ht];omega,?_⟩,fun h0=>?_⟩
   ·by_cases h0:u=0
    ·right;subst h0;rfl
    ·left
     intro e
     injection e with e
     have:=congrArg UInt8.toNat e
     rw [ht] at this
     have e48:(48:UInt8).toNat=48:=rfl
     omega
   ·intro e
    injection e with e
    have:=congrArg UInt8.toNat e
    rw [ht] at this
    have e48:(48:UInt8).toNat=48:=rfl
    omega
  ·rw [zhT h]
   cases n with
   | zero=>omega
   | succ n=>
    obtain ⟨⟨h1,h2,_⟩,h4⟩:=zht n (u / 10) (by omega)
    have h5:=h4 (by omega)
    have hh:(Lib.decDigits (u / 10)++[UInt8.ofNat (48+u % 10)]).head?≠some 48:=by
     cases hd:Lib.decDigits (u / 10) with
     | nil=>exact absurd hd h1
     | cons x t=>rw [hd] at h5;simpa using h5
    have ht:(UInt8.ofNat (48+u % 10)).toNat=48+u % 10:=by rw [UInt8.toNat_ofNat'];omega
    refine ⟨⟨by simp,?_,.inl hh⟩,fun _=>hh⟩
    rw [List.all_append,h2]
    simp [digC,ht]
    omega
def negB (v:List UInt8):Bool:=decide (v.head?=some 45)
def zbe (v:List UInt8):List UInt8:=if negB v then v.drop 1 else v
def intV (v:List UInt8):Int:=if negB v then -(zal 0 (zbe v):Int) else (zal 0 (zbe v):Int)
theorem zeU (v:List UInt8):intB v=true ↔ 1≤(zbe v).length∧(zbe v).length≤18∧¬ ((zbe v).head?=some 48∧(1<(zbe v).length∨negB v=true))∧(zbe v).all digC=true:=by
 have e:intB v=(decide (1≤(zbe v).length) && decide ((zbe v).length≤18) && !(decide ((zbe v).head?=some 48) && (decide (1<(zbe v).length) || negB v)) && (zbe v).all digC):=rfl
 rw [e]
 simp only [Bool.and_eq_true,decide_eq_true_eq,Bool.not_eq_true',Bool.and_eq_false_iff,decide_eq_false_iff_not,Bool.or_eq_false_iff,and_assoc]
 constructor
 ·rintro ⟨h1,h2,h3,h4⟩
  refine ⟨h1,h2,fun ⟨h5,h6⟩=>?_,h4⟩
  rcases h3 with h3 | ⟨h3,h7⟩
  ·exact h3 h5
  ·rcases h6 with h6 | h6
   ·exact h3 h6
   ·rw [h7] at h6;cases h6
 ·rintro ⟨h1,h2,h3,h4⟩
  refine ⟨h1,h2,?_,h4⟩
  by_cases h5:(zbe v).head?=some 48
  ·right
   refine ⟨fun h6=>h3 ⟨h5,.inl h6⟩,?_⟩
   cases h7:negB v with
   | false=>rfl
   | true=>exact absurd ⟨h5,.inr h7⟩ h3
  ·exact .inl h5
theorem ziE {v:List UInt8} (h:intB v=true):zp0 (zbe v)∧(negB v=true→(zbe v).head?≠some 48):=by
 obtain ⟨h1,h2,h3,h4⟩:=(zeU v).1 h
 refine ⟨⟨fun e=>by rw [e] at h1;simp at h1,h4,?_⟩,fun hn he=>h3 ⟨he,.inr hn⟩⟩
 by_cases hh:(zbe v).head?=some 48
 ·right
  have hl:¬ 1<(zbe v).length:=fun hl=>h3 ⟨hh,.inl hl⟩
  cases hd:zbe v with
  | nil=>rw [hd] at h1;simp at h1
  | cons c t=>
   rw [hd] at hh hl
   cases t with
   | nil=>simp at hh;rw [hh]
   | cons x t=>simp at hl
 ·exact .inl hh
theorem zil {v:List UInt8} (h:intB v=true):zal 0 (zbe v)<10 ^ 18:=by
 obtain ⟨h1,h2,h3,h4⟩:=(zeU v).1 h
 have:=zcj (zbe v) 0 h4
 have h5:10 ^ (zbe v).length≤10 ^ 18:=Nat.pow_le_pow_right (by decide) h2
 omega
theorem zgS {v:List UInt8} (h:negB v=true):v=45::zbe v:=by
 unfold zbe
 rw [if_pos h]
 unfold negB at h
 rw [decide_eq_true_eq] at h
 cases v with
 | nil=>cases h
 | cons c t=>simp at h;rw [h];rfl
theorem zi0 {v:List UInt8} (h:negB v=false):zbe v=v:=by unfold zbe;rw [if_neg (by simp [h])]
theorem zpy {v:List UInt8} (h:intB v=true):Lib.parseIntB 64 v=.ok (intV v):=by
 obtain ⟨⟨h1,h2,h3⟩,h4⟩:=ziE h
 have hs:=zil h
 have hp:Lib.parseUintB 64 (zbe v)=.ok (zal 0 (zbe v)):=by
  unfold Lib.parseUintB
  rw [if_neg h1]
  exact zrw _ 0 h2 hs
 cases hn:negB v with
 | true=>
  have e:=zgS hn
  have hV:intV v = -(zal 0 (zbe v):Int):=by unfold intV;rw [if_pos hn]
  generalize zbe v=d at *
  subst e
  have c1:((45:UInt8).toNat=43∨(45:UInt8).toNat=45):=by decide
  have c2:(45:UInt8).toNat=45:=by decide
  have c3:¬ 2 ^ (64-1)<zal 0 d:=by omega
  simp only [Lib.parseIntB,if_pos c1]
  simp only [hp,c2,not_true_eq_false,false_and,if_false,true_and,if_true,c3,hV]
 | false=>
  have e:=zi0 hn
  have hV:intV v=(zal 0 (zbe v):Int):=by unfold intV;rw [if_neg (by simp [hn])]
  rw [e] at h1 h2 h3 hs hp hV
  cases v with
  | nil=>exact absurd rfl h1
  | cons c t=>
   simp only [List.all_cons,Bool.and_eq_true] at h2
   have h5:=(zaR c).1 h2.1
   have c1:¬ (c.toNat=43∨c.toNat=45):=by omega
   have c2:¬ c.toNat=45:=by omega
   have c3:¬ 2 ^ (64-1)≤zal 0 (c::t):=by omega
   simp only [Lib.parseIntB,if_neg c1]
   simp only [hp,c2,not_false_eq_true,true_and,false_and,if_false,c3,hV]
theorem zqH {v:List UInt8} (h:intB v=true):Lib.itoa (intV v)=v:=by
 obtain ⟨hp,h4⟩:=ziE h
 have hd:=zii _ (zbe v) (Nat.le_refl _) hp
 cases hn:negB v with
 | true=>
  have hpos:=zo1 _ hp.1 hp.2.1 (h4 hn)
  have hV:intV v = -(zal 0 (zbe v):Int):=by unfold intV;rw [if_pos hn]
  have hlt:-(zal 0 (zbe v):Int)<0:=by omega
  unfold Lib.itoa
  rw [hV,if_pos hlt]
  have:(-(zal 0 (zbe v):Int)).natAbs=zal 0 (zbe v):=by omega
  rw [this,hd]
  exact (zgS hn).symm
 | false=>
  have hV:intV v=(zal 0 (zbe v):Int):=by unfold intV;rw [if_neg (by simp [hn])]
  have hlt:¬ (zal 0 (zbe v):Int)<0:=by omega
  unfold Lib.itoa
  rw [hV,if_neg hlt,Int.toNat_natCast,hd]
  exact zi0 hn
theorem zhc (v:List UInt8):Lib.trimPrefix v [45]=zbe v:=by
 unfold Lib.trimPrefix Lib.hasPrefix zbe negB
 cases v with
 | nil=>rfl
 | cons c t=>
  by_cases hc:c=45
  ·subst hc;rfl
  ·have:¬ (45:UInt8)=c:=fun e=>hc e.symm
   simp [List.isPrefixOf,hc,this]
theorem zqh (v:List UInt8) (n:Int) (h1:Lib.itoa n=v) (h2:(Lib.trimPrefix v [45]).length≤18):intB v=true:=by
 rw [zhc] at h2
 rw [zeU]
 unfold Lib.itoa at h1
 by_cases hn:n<0
 ·rw [if_pos hn] at h1
  obtain ⟨⟨p1,p2,p3⟩,p4⟩:=zht _ n.natAbs (Nat.le_refl _)
  have hneg:negB v=true:=by rw [← h1];rfl
  have hd:zbe v=Lib.decDigits n.natAbs:=by have h9:=h1.trans (zgS hneg);injection h9 with _ e;exact e.symm
  rw [hd] at h2 ⊢
  exact ⟨by have:=List.length_pos_iff.2 p1;omega,h2,fun ⟨e,_⟩=>p4 (by omega) e,p2⟩
 ·rw [if_neg hn] at h1
  obtain ⟨⟨p1,p2,p3⟩,p4⟩:=zht _ n.toNat (Nat.le_refl _)
  rw [h1] at p1 p2 p3 p4
  have hneg:negB v=false:=by
   cases hb:negB v with
   | false=>rfl
   | true=>
    have:=zgS hb
    rw [this] at p2
    simp [digC] at p2
  have hd:=zi0 hneg
  rw [hd] at h2 ⊢
  refine ⟨by have:=List.length_pos_iff.2 p1;omega,h2,?_,p2⟩
  rintro ⟨e,e2 | e2⟩
  ·rcases p3 with p3 | p3
   ·exact p3 e
   ·rw [p3] at e2;simp at e2
  ·rw [hneg] at e2;cases e2
end Go.Proofs.YtioglicfndkgiaaGreatDoor
namespace Go.Proofs.YtioglicfndkgiaaGreatDoor
open Go.RowKit
set_option maxRecDepth 100000
def IsB (B b:Nat) (xs:List UInt8) (w:World):Prop:=Lib.IsBuilder 131 5 B b (xs.map bv) w
theorem IsB.lt {B b:Nat} {xs:List UInt8} {w:World} (h:IsB B b xs w):b<w.heap.size:=by
 rcases h with h | h
 ·exact h.lt
 ·exact h.lt
theorem IsB.base {B b:Nat} {xs:List UInt8} {w:World} (h:IsB B b xs w):B≤b:=by
 rcases h with ⟨h,_⟩ | ⟨h,_⟩
 ·exact h
 ·exact h
theorem IsB.le {B b:Nat} {xs:List UInt8} {w:World} (h:IsB B b xs w):B≤w.heap.size:=by have:=h.lt;have:=h.base;omega
theorem zrJ {B b:Nat} {xs:List Value} {p:Value} {w w':World} (h:Lib.BuilderAt 131 5 B b p xs w) (hx:Ext w w'):Lib.BuilderAt 131 5 B b p xs w':=by
 have hlt:=h.lt
 obtain ⟨h1,v,h2,h3,h4⟩:=h
 exact ⟨h1,v,(hx.block b hlt).trans h2,zd6 h3 hx,h4⟩
theorem IsB.ext {B b:Nat} {xs:List UInt8} {w w':World} (h:IsB B b xs w) (hx:Ext w w'):IsB B b xs w':=h.elim (fun h=>.inl (zrJ h hx)) (fun h=>.inr (zrJ h hx))
theorem zlH (w:World):IsB w.heap.size w.heap.size [] (w.alloc (.cells #[.pointer none,.slice none 0 0] 131)):=Lib.fresh_isBuilder _ _ w
theorem zdO {B b:Nat} {xs:List UInt8} {w:World} (h:IsB B b xs w) :
 Calls Tryz.prog 109 #[.pointer (some ⟨b,0,none⟩)] w fun e w'=>e=.returned (.tuple #[])∧(Lib.BuilderAt 131 5 B b (.pointer (some ⟨b,0,none⟩)) (xs.map bv) w'∧Below B w w'∧w.grownBy w' (some b)):=by
 rcases h with h | h
 ·refine (Any.Builder_copyCheck_fresh (ρ:=Tryz.lays156_ren) { Tryz.lays156 with } Tryz.Builder_Extra_156.toX72 b w h.cell0 h.shape h.frozen0).mono ?_
  rintro e w' ⟨rfl,rfl⟩
  exact ⟨rfl,h.used _,(Below.refl B w).setCell (p:=⟨b,0,none⟩) h.1 _,rfl,rfl,rfl,by simp,fun k _ hk=>heap_setCell_other w ⟨b,0,none⟩ k _ (fun e=>hk (by simp [e]))⟩
 ·refine (Any.Builder_copyCheck_used (ρ:=Tryz.lays156_ren) { Tryz.lays156 with } Tryz.Builder_Extra_156.toX72 b w h.cell0).mono ?_
  rintro e w' ⟨rfl,rfl⟩
  exact ⟨rfl,h,Below.refl B _,World.grownBy.refl _ _⟩
theorem Sl.aside {w w':World} {A:Option Addr} {n c b:Nat} {xs:List UInt8} (h:Sl w A n c xs) (hg:w.grownBy w' (some b)) (hA:∀ a,A=some a→a.block≠b):Sl w' A n c xs:=by
 obtain ⟨h1,h2,h3,h4⟩:=h
 refine ⟨h1,h2,h3,?_⟩
 rcases h4 with h4 | ⟨g,off,hg',hc⟩
 ·exact .inl h4
 ·refine .inr ⟨g,off,hg',fun j u hj=>?_⟩
  have hu:=hc j u hj
  have hlt:=World.block_lt_of_cell? w _ hu
  rw [World.cell?_of_block (hg.block g hlt (fun e=>hA _ hg' (by injection e)))]
  exact hu
theorem zgz {B b:Nat} {xs:List UInt8} {w:World} (h:IsB B b xs w) :
 Calls Tryz.prog 81 #[.pointer (some ⟨b,0,none⟩)] w fun e w'=>e=.returned (.string (str xs))∧Below B w w':=
 Tryz.Builder_String_any B b xs w h h.le
structure Kept (B b:Nat) (w w':World):Prop where
 below:Below B w w'
 others:Lib.OthersKept 5 (some b) w w'
theorem zdP {B b:Nat} {w w':World} (h:Ext w w') (hB:B≤w.heap.size):Kept B b w w':=
 ⟨Below.mono h hB,fun k o hk _ _=>by rw [h.block k (Array.getElem?_eq_some_iff.1 hk).1];exact hk⟩
theorem Kept.refl (B b:Nat) (w:World):Kept B b w w:=⟨Below.refl _ _,Lib.OthersKept.refl _ _ _⟩
theorem Kept.trans {B b:Nat} {a c d:World} (h:Kept B b a c) (k:Kept B b c d):Kept B b a d:=⟨Below.trans h.below k.below,h.others.trans k.others⟩
theorem Kept.cell {B b:Nat} {w w':World} (h:Kept B b w w') {g j:Nat} {v:Value} {cs:Array Value} {T:TypeId} {fz:Nat × Nat} (hg:w.heap[g]?=some (.cells cs T fz)) (hT:T≠5) (hb:g≠b) (hj:cs[j]?=some v):w'.cell? ⟨g,j,none⟩=some v:=by
 have:=h.others g _ hg (fun e=>hb (by injection e)) (fun c f e=>hT (by injection e))
 rw [cell_of_row w' g j cs T fz this]
 exact hj
theorem zeh {B b:Nat} {w w':World} (h:Below B w w') (hg:w.grownBy w' (some b)):Kept B b w w':=
 ⟨h,fun k o hk hb _=>by rw [hg.block k (Array.getElem?_eq_some_iff.1 hk).1 hb];exact hk⟩
theorem zfP {w:World} {B:Nat} {e:TypeId} {size n:Nat} {v:Value} {vs:List Value} (h:w.ownsRow B e size v n vs):∀ g,v.ownBlock=some g→∃ c fz,w.heap[g]?=some (.cells c e fz):=by
 intro g hg
 rcases h.2 with ⟨rfl,_⟩ | ⟨g',cap,cur,rfl,_,hh,_⟩
 ·cases hg
 ·injection hg with hg
  subst hg
  exact ⟨_,_,hh⟩
theorem zsw {B b:Nat} {xs ys:List UInt8} {v v':Value} {w1 w2:World} {n:Nat} (hB:B≤b) (hbk:w1.heap[b]?=some (.cells #[.pointer (some ⟨b,0,none⟩),v] 131 (0,0)))
 (hne:v.ownBlock≠some b) (hown:∀ g,v.ownBlock=some g→∃ c fz,w1.heap[g]?=some (.cells c 5 fz))
 (hown':w2.ownsRow B 5 1 v' n ((xs++ys).map bv)) (hn:n=(xs++ys).length) (hb:Below B w1 w2) (hg:w1.grownBy w2 v.ownBlock) :
 w2.heap[b]?=some (.cells #[.pointer (some ⟨b,0,none⟩),v] 131 (0,0))∧IsB B b (xs++ys) (w2.setCell ⟨b,1,none⟩ v')∧Kept B b w1 (w2.setCell ⟨b,1,none⟩ v'):=by
 have hlt:b<w1.heap.size:=(Array.getElem?_eq_some_iff.1 hbk).1
 have hb2:w2.heap[b]?=some (.cells #[.pointer (some ⟨b,0,none⟩),v] 131 (0,0)):=by
  rw [hg.block b hlt (fun e=>hne e.symm)];exact hbk
 refine ⟨hb2,.inr (Lib.BuilderAt.put hB hb2 (by rw [List.length_map,← hn];exact hown') (by decide)),?_,?_⟩
 ·refine Below.trans hb ⟨rfl,rfl,rfl,by simp,fun k hk=>?_⟩
  rw [heap_setCell_other _ _ _ _ (by simp;omega)]
 ·exact ((Lib.OthersKept.refl _ (some b) w1).grown hg hown).setCell ⟨b,1,none⟩ rfl v'
theorem zdt {B b:Nat} {xs:List UInt8} {w:World} (x:UInt8) (h:IsB B b xs w) (hl:xs.length+1≤140737488355328) :
 Calls Tryz.prog 107 #[.pointer (some ⟨b,0,none⟩),.int .u8 (x.toNat:Int)] w fun e w'=>e=.returned .nilIface∧IsB B b (xs++[x]) w'∧Kept B b w w':=by
 have HI:=hid h
 have HB0:=hid h.le
 clear h
 go_enter Tryz.func107,Tryz.ntmps107
 go_wp2_with (go_at_call 109;(with_reducible refine (zdO HI.out).mono ?_))
 rintro e w1 ⟨rfl,⟨hB,v,hbk,hown,hne⟩,hb1,hgw⟩
 rw [List.length_map] at hown
 have c1:w1.cell? ⟨b,1,none⟩=some v:=by rw [Lib.cell_of_heap hbk];rfl
 have HO:=hid hown
 have HK:=hid hbk
 have HN:=hid hne
 have HX:=hid (zeh hb1 hgw)
 have HC:=hid (zfP hown)
 have HB:=hid hB
 obtain ⟨A1,k1,rfl⟩:=zdh hown
 clear hown hbk hne hb1 hB hgw
 go_wp2_with (at_builtin;refine zgD rfl _ _ rfl B _ xs.length xs rfl (zd6 HO.out (Ext.alloc _ _)) _ 1 1 [x] rfl (zdS _ x) (by omega) (by have:=HB0.out;have:=HX.out.below.size;simp;omega) ?_)
 intro v' w2 ho2 hb2 hg2 _
 rw [← List.map_singleton,← List.map_append] at ho2
 obtain ⟨hk2,hi3,hb3⟩:=zsw HB.out (ziz HK.out (Ext.alloc _ _)) HN.out (zfP (zd6 HO.out (Ext.alloc _ _))) ho2 (by simp) hb2 hg2
 have d1:w2.cell? ⟨b,1,none⟩=some (.slice A1 xs.length k1):=by rw [Lib.cell_of_heap hk2];rfl
 have f1:w2.frozen? ⟨b,1,none⟩=false:=Lib.frozen_of_heap hk2 1
 have HI3:=hid hi3
 have HB3:=hid hb3
 obtain ⟨A2,k2,rfl⟩:=zdh ho2
 clear ho2 hb2 hg2 hk2 hi3 hb3
 go_wp2
 go_ret
 exact ⟨rfl,HI3.out,HX.out.trans ((zdP (Ext.alloc _ _) (by have:=HB0.out;have:=HX.out.below.size;omega)).trans HB3.out)⟩
theorem zb2 {B b:Nat} {xs:List UInt8} {w:World} (x:UInt8) (h:IsB B b xs w) (hl:xs.length+1≤140737488355328) :
 Calls Tryz.prog 107 #[.pointer (some ⟨b,0,none⟩),.int .u8 (x.toNat:Int)] w fun e w'=>e=.returned .nilIface∧IsB B b (xs++[x]) w'∧Below B w w':=
 (zdt x h hl).mono fun _ _ ⟨h1,h2,h3⟩=>⟨h1,h2,h3.below⟩
theorem zf5 {B b:Nat} {xs:List UInt8} {w:World} (A:Option Addr) (m c:Nat) (ys:List UInt8) (h:IsB B b xs w) (hy:Sl w A m c ys) (hA:∀ a,A=some a→a.block≠b) (hl:xs.length+m≤140737488355328) :
 Calls Tryz.prog 140 #[.pointer (some ⟨b,0,none⟩),.slice A m c] w fun e w'=>e=.returned (.tuple #[.int .i64 m,.nilIface])∧IsB B b (xs++ys) w'∧Kept B b w w':=by
 have HI:=hid h
 have HB0:=hid h.le
 have HY:=hid hy
 have HA:=hid hA
 clear h hy hA
 go_enter Tryz.func140,Tryz.ntmps140
 go_wp2_with (go_at_call 109;(with_reducible refine (zdO HI.out).mono ?_))
 rintro e w1 ⟨rfl,⟨hB,v,hbk,hown,hne⟩,hb1,hgw⟩
 rw [List.length_map] at hown
 have c1:w1.cell? ⟨b,1,none⟩=some v:=by rw [Lib.cell_of_heap hbk];rfl
 have HO:=hid hown
 have HK:=hid hbk
 have HN:=hid hne
 have HX:=hid (zeh hb1 hgw)
 have HC:=hid (zfP hown)
 have HB:=hid hB
 have HS:=hid (HY.out.aside hgw HA.out)
 obtain ⟨A1,k1,rfl⟩:=zdh hown
 clear hown hbk hne hb1 hB hgw
 go_wp2_with (at_builtin;refine zgD rfl _ _ rfl B _ xs.length xs rfl HO.out _ m c ys rfl HS.out (by omega) (by have:=HB0.out;have:=HX.out.below.size;omega) ?_)
 intro v' w2 ho2 hb2 hg2 _
 rw [← List.map_append] at ho2
 obtain ⟨hk2,hi3,hb3⟩:=zsw HB.out HK.out HN.out HC.out ho2 (by have:=HS.out.len;rw [List.length_append];omega) hb2 hg2
 have d1:w2.cell? ⟨b,1,none⟩=some (.slice A1 xs.length k1):=by rw [Lib.cell_of_heap hk2];rfl
 have f1:w2.frozen? ⟨b,1,none⟩=false:=Lib.frozen_of_heap hk2 1
 have HI3:=hid hi3
 have HB3:=hid hb3
 obtain ⟨A2,k2,rfl⟩:=zdh ho2
 clear ho2 hb2 hg2 hk2 hi3 hb3
 go_wp2
 go_ret2
 exact ⟨rfl,HI3.out,HX.out.trans HB3.out⟩
theorem zl6 (s:ByteArray):Lib.strCells s=(bys s).map bv:=rfl
theorem zd8 {B b:Nat} {xs:List UInt8} {w:World} (s:ByteArray) (h:IsB B b xs w) (hl:xs.length+s.size≤140737488355328) :
 Calls Tryz.prog 80 #[.pointer (some ⟨b,0,none⟩),.string s] w fun e w'=>e=.returned (.tuple #[.int .i64 s.size,.nilIface])∧IsB B b (xs++bys s) w'∧Kept B b w w':=by
 have HI:=hid h
 have HB0:=hid h.le
 obtain ⟨i0,hi,hz0,hz1,hz2⟩:=info_parts Tryz.infoByte
 clear h
 go_enter Tryz.func80,Tryz.ntmps80
 go_wp2_with (go_at_call 109;(with_reducible refine (zdO HI.out).mono ?_))
 rintro e w1 ⟨rfl,⟨hB,v,hbk,hown,hne⟩,hb1,hgw⟩
 rw [List.length_map] at hown
 have c1:w1.cell? ⟨b,1,none⟩=some v:=by rw [Lib.cell_of_heap hbk];rfl
 have HO:=hid hown
 have HK:=hid hbk
 have HN:=hid hne
 have HX:=hid (zeh hb1 hgw)
 have HC:=hid (zfP hown)
 have HB:=hid hB
 obtain ⟨A1,k1,rfl⟩:=zdh hown
 clear hown hbk hne hb1 hB hgw
 go_wp2_with (at_builtin;refine Lib.wpList_append_own_string _ rfl _ _ 129 9 rfl B 5 i0 Tryz.underlying129 Tryz.underlying9 hi hz0 hz1 hz2 _ xs.length (xs.map bv) rfl HO.out s rfl (by unfold maxLen;omega) hl (by have:=HB0.out;have:=HX.out.below.size;omega) ?_)
 intro v' w2 ho2 hg2 _
 rw [zl6,← List.map_append] at ho2
 obtain ⟨hk2,hi3,hb3⟩:=zsw HB.out HK.out HN.out HC.out ho2 (by rw [List.length_append,zaf]) ((Below.refl B w1).grown hg2 (by have:=HB0.out;have:=HX.out.below.size;omega) (fun k hk=>(HO.out.lt k hk).1)) hg2
 have d1:w2.cell? ⟨b,1,none⟩=some (.slice A1 xs.length k1):=by rw [Lib.cell_of_heap hk2];rfl
 have f1:w2.frozen? ⟨b,1,none⟩=false:=Lib.frozen_of_heap hk2 1
 have HI3:=hid hi3
 have HB3:=hid hb3
 obtain ⟨A2,k2,rfl⟩:=zdh ho2
 clear ho2 hg2 hk2 hi3 hb3
 go_wp2
 go_ret2
 exact ⟨rfl,HI3.out,HX.out.trans HB3.out⟩
theorem zcV (l:List (List UInt8)):(strs l).map (·.data.toList)=l:=by
 induction l with
 | nil=>rfl
 | cons x t ih=>exact congrArg (x :: ·) ih
theorem zlU (s:ByteArray) (w:World) (hG:Gl w) (hs:s.size≤4000000) :
 Calls Tryz.prog 167 #[.string s,.string ⟨#[32]⟩] w fun e w'=>∃ A n,e=.returned (.slice A n n)∧Row Elem.str (fun _=>True) w' A n n (strs (zaB [] (bys s)))∧Ext w w':=by
 obtain ⟨m,hm⟩:=hG.maxlen
 refine (Tryz.strings_Split s ⟨#[32]⟩ m w (by omega) hm (by decide)).mono ?_
 rintro e w' ⟨rfl,rfl⟩
 have hlen:=Lib.splitB_all ⟨#[32]⟩ (by decide) 0 _ s rfl
 have hle:=Lib.countB_le ⟨#[32]⟩ (by decide) s.size s (Nat.le_refl _)
 have hd:=Lib.splitB_data ⟨#[32]⟩ 0 (Lib.countB s ⟨#[32]⟩) s
 have h1:Lib.splitB ⟨#[32]⟩ 0 (Lib.countB s ⟨#[32]⟩) s=strs (zaB [] (bys s)):=by
  rw [← zmH _ (bys s) (Nat.le_refl _)]
  have e:Lib.splitK [32] 0 (Lib.count (bys s) [32]) (bys s)=(Lib.splitB ⟨#[32]⟩ 0 (Lib.countB s ⟨#[32]⟩) s).map (·.data.toList):=hd.symm
  rw [e]
  show _=List.map str (List.map _ _)
  rw [List.map_map]
  conv=>lhs;rw [← List.map_id (Lib.splitB ⟨#[32]⟩ 0 (Lib.countB s ⟨#[32]⟩) s)]
  exact List.map_congr_left fun x _=>(zaN x).symm
 have hl:=zfq w (Lib.splitB ⟨#[32]⟩ 0 (Lib.countB s ⟨#[32]⟩) s) 9 (by rw [hlen];unfold maxLen;omega)
 rw [hlen] at hl
 rw [h1] at hl ⊢
 exact ⟨_,_,rfl,hl,Ext.alloc _ _⟩
theorem zoF:zg5:=zlU
theorem zeN (l:List ByteArray) (sep:ByteArray) {S:Nat→Prop} {A:Option Addr} {n c:Nat} {w:World} (h:Row Elem.str S w A n c l) (hn:l.length≤4000001) (hl:(Lib.join (l.map (·.data.toList)) sep.data.toList).length≤140737488355328) :
 Calls Tryz.prog 51 #[.slice A n c,.string sep] w fun e w'=>e=.returned (.string (str (Lib.join (l.map bys) (bys sep))))∧Ext w w':=by
 have hlen:=h.len
 rcases Nat.eq_zero_or_pos n with h0 | h0
 ·have hnil:l=[]:=h.nil_iff.1 h0
  subst hnil h0
  refine (Tryz.strings_Join_none A c sep w).mono ?_
  rintro e w' ⟨rfl,rfl⟩
  exact ⟨rfl,Ext.refl _⟩
 ·obtain ⟨b,o,rfl,hc⟩:=h.str_cell h0
  have hc0:=hc 0 h0
  subst hlen
  refine (Tryz.strings_Join b o c l sep w (fun j x hj=>?_) (World.block_lt_of_cell? w _ hc0) (by omega) h.cap hl).mono ?_
  ·have hj':=(List.getElem?_eq_some_iff.1 hj).1
   rw [hc j hj',hj]
   rfl
  ·rintro e w' ⟨rfl,hx⟩
   exact ⟨rfl,hx⟩
theorem zhp (s:ByteArray) (w:World) (hG:Gl w) (hs:s.size≤4000000) :
 Calls Tryz.prog 148 #[.string s] w fun e w'=>∃ A n c,e=.returned (.slice A n c)∧Row Elem.str (fun b=>w.heap.size≤b) w' A n c (strs (zaY (bys s)))∧Ext w w':=by
 refine (zpK zoF s w hG hs).mono ?_
 rintro e w' ⟨v,rfl,hg⟩
 have hx:=hg.ext
 obtain ⟨A,c,rfl,hr⟩:=hg.row
 exact ⟨A,_,c,rfl,hr,hx⟩
theorem zfr:∀ (l cur:List UInt8),((zaB cur l).map List.length).sum≤cur.length+l.length
 | [],cur=>by simp [zaB]
 | c::t,cur=>by
  unfold zaB
  split
  ·have:=zfr t [];simp only [List.map_cons,List.sum_cons,List.length_nil,List.length_cons] at this ⊢;omega
  ·have:=zfr t (cur++[c]);simp only [List.length_append,List.length_cons,List.length_nil] at this ⊢;omega
theorem zj4:∀ ws:List (List UInt8),(zaE ws).length≤(ws.map List.length).sum+ws.length
 | []=>by simp [zaE]
 | [x]=>by simp [zaE]
 | x::y::t=>by
  have:=zj4 (y::t)
  simp only [zaE,List.length_append,List.length_cons,List.map_cons,List.sum_cons] at this ⊢
  omega
theorem ziB (p:List UInt8→Bool):∀ l:List (List UInt8),((l.filter p).map List.length).sum≤(l.map List.length).sum
 | []=>by simp
 | x::t=>by
  have:=ziB p t
  rw [List.filter_cons]
  split <;> simp only [List.map_cons,List.sum_cons] <;> omega
theorem zrq (v:List UInt8):(zaE (zaY v)).length≤2 * v.length+1:=by
 have h1:=zj4 (zaY v)
 have h2:=ziB (fun x=>decide (x≠[])) (zaB [] v)
 have h3:=zfr v []
 have h4:=zb8 v []
 have h5:(zaY v).length≤(zaB [] v).length:=List.length_filter_le _ _
 have h6:((zaY v).map List.length).sum≤((zaB [] v).map List.length).sum:=h2
 simp only [List.length_nil] at h3
 omega
theorem znk (v:List UInt8):(zaY v).length≤v.length+1:=Nat.le_trans (List.length_filter_le _ _) (zb8 v [])
theorem zde (l:List (List UInt8)):(strs l).map bys=l:=zcV l
theorem zkz (w:World) (e:TypeId) (s:ByteArray):Ext w (Lib.bytesWorld w e s):=by
 refine ⟨?_,?_,?_,by rw [Lib.bytesWorld_size];omega,fun k hk=>Lib.bytesWorld_at_old w e s k hk⟩
 all_goals
  simp only [Lib.bytesWorld,World.freeze,World.alloc,World.drew]
  split <;> rfl
theorem zfe (s:ByteArray) (n:Int) (w:World) (hs:s.size≤4000000) (h:Lib.parseIntB 64 (bys s)=.ok n) :
 Calls Tryz.prog 149 #[.string s,.int .i64 10,.int .i64 64] w fun e w'=>e=.returned (.tuple #[.int .i64 n,.nilIface])∧Ext w w':=by
 refine (Tryz.strconv_ParseInt_10_at64_ok s (by omega) n h w).mono ?_
 rintro e w' ⟨rfl,rfl | ⟨t,rfl⟩⟩
 ·exact ⟨rfl,Ext.refl _⟩
 ·exact ⟨rfl,zkz _ _ _⟩
theorem zkK (s:ByteArray) (w:World) (hG:Gl w) (hs:s.size≤4000000) (h:∀ n,Lib.parseIntB 64 (bys s)≠.ok n) :
 Calls Tryz.prog 149 #[.string s,.int .i64 10,.int .i64 64] w fun e w'=>(∃ n tp a,e=.returned (.tuple #[.int .i64 n,.iface tp (.pointer (some a))]))∧Ext w w':=by
 obtain ⟨-,⟨t1,p1,h1⟩,⟨t2,p2,h2⟩,-⟩:=hG
 rcases hp:Lib.parseIntB 64 (bys s) with n | _ | _
 ·exact absurd hp (h n)
 ·refine (Any.strconv_ParseInt_10_at64_syntax_var Tryz.laysC174 s (by omega) hp t1 p1 w h1).mono ?_
  rintro e w' ⟨N,rfl,_,_,hx⟩
  exact ⟨⟨_,_,_,rfl⟩,hx⟩
 ·refine (Tryz.strconv_ParseInt_10_at64_range_var s (by omega) hp t2 p2 w h2).mono ?_
  rintro e w' ⟨N,rfl,_,_,hx⟩
  exact ⟨⟨_,_,_,rfl⟩,hx⟩
theorem zbo (n:Int) (w:World) (hG:Gl w) (h0:-9223372036854775808≤n) (h1:n≤9223372036854775807) :
 Calls Tryz.prog 150 #[.int .i64 n,.int .i64 10] w fun e w'=>e=.returned (.string (str (Lib.itoa n)))∧Ext w w':=by
 refine (Tryz.strconv_FormatInt_10 n h0 h1 w hG.pow).mono ?_
 rintro e w' ⟨rfl,k,os,rfl⟩
 exact ⟨rfl,Lib.below_grow _ _ (Nat.le_refl _) _ _⟩
theorem zgG (s:ByteArray) (w:World) :
 Calls Tryz.prog 151 #[.string s,.string ⟨#[45]⟩] w fun e w'=>e=.returned (.string (str (zbe (bys s))))∧w'=w:=by
 refine (Tryz.strings_TrimPrefix s ⟨#[45]⟩ w).mono ?_
 rintro e w' ⟨rfl,rfl⟩
 refine ⟨?_,rfl⟩
 have e:Lib.trimPrefix s.data.toList (ByteArray.mk #[45]).data.toList=zbe (bys s):=zhc (bys s)
 rw [e]
theorem zaV (s:ByteArray) (k:Int) (c:UInt8) (hc:k.toNat.toUInt8=c) (w:World) (h:c ∉ bys s) :
 Calls Tryz.prog 139 #[.string s,.int .u8 k] w fun e w'=>e=.returned (.int .i64 (-1))∧w'=w:=by
 refine (Tryz.strings_IndexByte s k w).mono ?_
 rintro e w' ⟨rfl,rfl⟩
 have e:Lib.indexByte s.data.toList (k.toNat.toUInt8) = -1:=zpx (by rw [hc];exact h)
 rw [e]
 exact ⟨rfl,rfl⟩
theorem zb1 (s:ByteArray) (k:Int) (c:UInt8) (hc:k.toNat.toUInt8=c) (w:World) (h:c∈bys s) :
 Calls Tryz.prog 139 #[.string s,.int .u8 k] w fun e w'=>(∃ i:Nat,e=.returned (.int .i64 i))∧w'=w:=by
 refine (Tryz.strings_IndexByte s k w).mono ?_
 rintro e w' ⟨rfl,rfl⟩
 obtain ⟨i,e,_⟩:=zpQ (l:=s.data.toList) (c:=k.toNat.toUInt8) (by rw [hc];exact h)
 rw [e]
 exact ⟨⟨i,rfl⟩,rfl⟩
theorem zkx (s:ByteArray) (k:Int) (c:UInt8) (hc:k.toNat.toUInt8=c) (n:Int) (h:Lib.indexByte (bys s) c=n) (w:World) :
 Calls Tryz.prog 139 #[.string s,.int .u8 k] w fun e w'=>e=.returned (.int .i64 n)∧w'=w:=by
 refine (Tryz.strings_IndexByte s k w).mono ?_
 rintro e w' ⟨rfl,rfl⟩
 have e:Lib.indexByte s.data.toList (k.toNat.toUInt8)=n:=by rw [hc];exact h
 rw [e]
 exact ⟨rfl,rfl⟩
theorem zbu (x:UInt8):((x.toNat:Int)).toNat.toUInt8=x:=by rw [Int.toNat_natCast];exact UInt8.ofNat_toNat
end Go.Proofs.YtioglicfndkgiaaGreatDoor
