/- Lemmas of the walk. -/
import Derived.Test.YtkjbokhnpphimaaGreatDoorV26
import Derived.Test.YtkjbokhnpphimaaGreatDoorV28
set_option maxHeartbeats 40000000
set_option linter.unusedVariables false
set_option linter.unusedSimpArgs false
namespace Go.Proofs.YtkjbokhnpphimaaGreatDoor
open Go.RowKit
set_option maxRecDepth 100000
def attP(last:List UInt8)(a:Att):Bool:=
 decide ((zat (bys a.type)).1=bys a.type)&&ltB last (bys a.type)&&decide (1≤a.vals.length)&&decide (a.vals.length≤20)&&!badV (bys a.type) a.vals&&!zgn (bys a.type) a.vals
def zcl(last:List UInt8):List Att→Bool
 |[]=>true
 |a::t=>attP last a&&zcl (bys a.type) t
def zbZ(s:List UInt8):Bool:=decide (zaJ (zak s)=0)&&decide (za3 s=s)&&!decide (s=[])
def objB:List UInt8:=[111,98,106,101,99,116,67,108,97,115,115]
def zrw(nm:List UInt8)(l:List Att):Bool:=zbZ nm&&decide (l.length≤14)&&zcl [] l
def zcE(nm:List UInt8)(l:List Att):Bool:=zrw nm l&&decide (0<(zbv objB l).length)&&zfm nm l
theorem zsj{a b:ByteArray}(h:ltB (bys b) (bys a)=true):Op.bytesLess a.toList b.toList=false∧(a.toList==b.toList)=false:=by
 rw[ByteArray.toList_eq,ByteArray.toList_eq]
 exact zru h
theorem zqa{a b:ByteArray}(h:ltB (bys b) (bys a)=false):Op.bytesLess a.toList b.toList=true∨(Op.bytesLess a.toList b.toList=false∧(a.toList==b.toList)=true):=by
 rw[ByteArray.toList_eq,ByteArray.toList_eq]
 exact zpR h
theorem zmR{S:Nat→Prop}{A:Option Addr}{n c:Nat}{l:List Att}{w:World}(h:Row Elem.att S w A n c l)(nm:ByteArray)(hG:Gu w)(ht:∀a∈l,a.type.size≤4000000)(hv:∀a∈l,a.vals.length≤8796093022208) :
 Calls Tryz.prog 40 #[.agg #[.string nm,.slice A n c]] w fun e w'=>e=.returned (.bool (zcE (bys nm) l))∧Ext w w':=by
 have HG:=hid hG
 have HR:=hid h
 have hl:=hid h.len
 have HTS:=hid ht
 have HVS:=hid hv
 have hnl:n≤9223372036854775807:=by have:=h.cap;have:=h.most;simp only[maxLen] at this;omega
 have HB0:=hid (Bx.make (Ext.refl w) #[.string nm,.slice A n c] 58)
 have HNM:∀w,Gl w→Calls Tryz.prog 73 #[.string nm] w (zbD w (bys nm)):=fun w hG=>zc7 nm w hG
 unfold zbD at HNM
 have HD:Hid (zcE (bys nm) l=((decide (zaJ (zak (bys nm))=0)&&decide (za3 (bys nm)=bys nm)&&!decide (bys nm=[])&&decide (l.length≤14)&&zcl [] l)&&decide (0<(zbv objB l).length)&&zfm (bys nm) l)):=rfl
 obtain⟨F,hF⟩:∃F,F=zcE (bys nm) l:=⟨_,rfl⟩
 rw[←hF] at HD ⊢
 clear hF
 obtain⟨ns,hns⟩:∃ns,ns=za3 (bys nm):=⟨_,rfl⟩
 obtain⟨ms,hms⟩:∃ms,ms=str ns:=⟨_,rfl⟩
 rw[←hns,←hms] at HNM
 rw[←hns] at HD
 have HMS:=hid hms
 clear hG h ht hv hns hms
 generalize zaJ (zak (bys nm))=cd at*
 by_cases hc:cd=0
 ·have t1:(cd != 0)=false:=by rw[hc];rfl
  by_cases hn:ms=nm
  ·have hnb:ns=bys nm:=by rw[←hn,HMS.out,zao]
   rw[decide_eq_true hc,decide_eq_true hnb] at HD
   subst hn
   by_cases hz:ms.size=0
   ·have HE:Hid (F=false):=by show _=_;rw[HD.out,show bys ms=[] from by rw[zb3 hz];rfl];simp
    have e1:=zdf hz
    clear hz HD hnb hc HMS
    go_enter Tryz.func40,Tryz.ntmps40
    go_wp2_with(go_at_call 73;(with_reducible refine(HNM _ (HG.out.gl.ext HB0.out.ext)).mono ?_);rintro e w1 ⟨rfl,hx1⟩;have HB1:=hid (HB0.out.later hx1);have c0:=HB1.out.cell (i:=0) rfl;have c1:=HB1.out.cell (i:=1) rfl;clear hx1)
    clear c0 c1
    go_ret
    exact⟨by rw[HE.out];rfl,HB1.out.ext⟩
   ·have e1:=zfj hz
    have hne:bys ms≠[]:=by intro h;exact hz (by rw[←zaj,h];rfl)
    rw[decide_eq_false hne] at HD
    by_cases h14:14<n
    ·have HE:Hid (F=false):=by show _=_;rw[HD.out,decide_eq_false (show ¬l.length≤14 by have:=hl.out;omega)];simp
     have e2:14<(n:Int):=by omega
     clear hz HD hnb hc HMS hne h14
     go_enter Tryz.func40,Tryz.ntmps40
     go_wp2_with(go_at_call 73;(with_reducible refine(HNM _ (HG.out.gl.ext HB0.out.ext)).mono ?_);rintro e w1 ⟨rfl,hx1⟩;have HB1:=hid (HB0.out.later hx1);have c0:=HB1.out.cell (i:=0) rfl;have c1:=HB1.out.cell (i:=1) rfl;clear hx1)
     clear c0 c1
     go_ret
     exact⟨by rw[HE.out];rfl,HB1.out.ext⟩
    ·have e2:decide (14<(n:Int))=false:=by rw[decide_eq_false_iff_not];omega
     rw[decide_eq_true (show l.length≤14 by have:=hl.out;omega)] at HD
     have HF:Hid (zcl [] l=false→F=false):=fun h=>by rw[HD.out,h];simp
     have HT:Hid (zcl [] l=true→F=(decide (0<(zbv objB l).length)&&zfm (bys ms) l)):=fun h=>by rw[HD.out,h];simp
     have hn14:n≤14:=by omega
     clear hz HD hnb hc HMS hne h14
     go_enter Tryz.func40,Tryz.ntmps40
     go_wp2_with(go_at_call 73;(with_reducible refine(HNM _ (HG.out.gl.ext HB0.out.ext)).mono ?_);rintro e w1 ⟨rfl,hx1⟩;have HB1:=hid (HB0.out.later hx1);have c0:=HB1.out.cell (i:=0) rfl;have c1:=HB1.out.cell (i:=1) rfl;clear hx1)
     clear c0 c1 e1 e2 HNM
     go_loopw [5,37] (fun u i wr=>∃(j:Nat) (la:ByteArray),j≤n∧i=.int .i64 j∧u=.string la∧Hid (zcl (bys la) (l.drop j)=zcl [] l)∧Hid (Bx w wr w.heap.size 58 #[.string ms,.slice A n c])) (fun _ i _=>n-(intOf i).toNat)
     case atStart=>exact⟨0,⟨#[]⟩,by omega,rfl,rfl,rfl,HB1.out⟩
     case round=>
      obtain⟨j,la,hj,rfl,rfl,HO,HB⟩:=hrel
      by_cases hlt:j<n
      ·obtain⟨b1,o1,v1,x1,rfl,g1,-,⟨A1,n1,c1,rfl,r1⟩,q1⟩:=(HR.out.ext HB.out.ext).at_ hlt
       have e10:=q1 0 _ rfl
       have e11:=q1 1 _ rfl
       simp only[Elem.att,Nat.add_zero] at e10 e11
       have R1:=hid r1
       clear q1 r1
       have hd:Hid (l.drop j=x1::l.drop (j+1)):=by
        show _=_
        obtain⟨h1,h2⟩:=List.getElem?_eq_some_iff.1 g1
        rw[List.drop_eq_getElem_cons h1,h2]
       have HT1:=hid (HTS.out x1 (List.mem_of_getElem? g1))
       clear g1
       have HBA:=hid (Bx.make (Ext.refl wr) #[.string x1.type,.slice A1 n1 c1] 55)
       have HTY:∀w,Calls Tryz.prog 75 #[.string x1.type] w (zaX w (bys x1.type)):=fun w=>zc3 x1.type w (by have:=HT1.out;simp only[maxLen];omega)
       unfold zaX at HTY
       have HAP:Hid (attP (bys la) x1=(decide ((zat (bys x1.type)).1=bys x1.type)&&ltB (bys la) (bys x1.type)&&decide (1≤x1.vals.length)&&decide (x1.vals.length≤20)&&!badV (bys x1.type) x1.vals&&!zgn (bys x1.type) x1.vals)):=rfl
       have HST:Hid (zcl (bys la) (x1::l.drop (j+1))=(attP (bys la) x1&&zcl (bys x1.type) (l.drop (j+1)))):=rfl
       rw[←hd.out,HO.out] at HST
       clear hd HO
       generalize zat (bys x1.type)=tk at*
       obtain⟨t,k⟩:=tk
       simp only at HTY HAP
       obtain⟨ts,hts⟩:∃ts,str t=ts:=⟨_,rfl⟩
       rw[hts] at HTY
       have HTT:Hid (t=bys ts):=by show _=_;rw[←hts,zao]
       clear hts
       rw[HTT.out] at HAP
       clear HTT
       by_cases hty:ts=x1.type
       ·subst hty
        have s1:=zco (rfl:x1.type=x1.type)
        rw[decide_eq_true (rfl:bys x1.type=bys x1.type),Bool.true_and] at HAP
        have HWR:∀w',Ext wr w'→Calls Tryz.prog 76 #[.string x1.type,.slice A1 n1 c1] w' fun e w''=>e=.returned (.bool (badV (bys x1.type) x1.vals))∧Ext w' w'':=fun w' hx=>znS (R1.out.ext hx) x1.type (HG.out.ext (HB.out.ext.trans hx)) HT1.out
        have HTW:∀w',Ext wr w'→Calls Tryz.prog 77 #[.string x1.type,.slice A1 n1 c1] w' fun e w''=>e=.returned (.bool (zgn (bys x1.type) x1.vals))∧Ext w' w'':=fun w' hx=>zo2 (R1.out.ext hx) x1.type (HG.out.ext (HB.out.ext.trans hx)) HT1.out
        have hvl:=R1.out.len
        rw[←hvl] at HAP
        generalize badV (bys x1.type) x1.vals=bv1 at*
        generalize zgn (bys x1.type) x1.vals=tv1 at*
        cases hlb:ltB (bys la) (bys x1.type) with
        |false=>
         have HFF:Hid (F=false):=HF.out (by rw[HST.out,HAP.out,hlb];simp)
         rcases zqa hlb with s2|⟨s2,s3⟩
         ·clear hlb hvl
          go_wp2_with(go_at_call 75;(with_reducible refine(HTY _).mono ?_);rintro e w2 ⟨rfl,hx2⟩;have HA2:=hid (HBA.out.later hx2);have p0:=HA2.out.cell (i:=0) rfl;have p1:=HA2.out.cell (i:=1) rfl;clear hx2)
          go_ret
          exact⟨by rw[HFF.out];rfl,HB.out.ext.trans HA2.out.ext⟩
         ·clear hlb hvl
          go_wp2_with(go_at_call 75;(with_reducible refine(HTY _).mono ?_);rintro e w2 ⟨rfl,hx2⟩;have HA2:=hid (HBA.out.later hx2);have p0:=HA2.out.cell (i:=0) rfl;have p1:=HA2.out.cell (i:=1) rfl;clear hx2)
          go_ret
          exact⟨by rw[HFF.out];rfl,HB.out.ext.trans HA2.out.ext⟩
        |true=>
         obtain⟨s2,s3⟩:=zsj hlb
         rw[hlb,Bool.true_and] at HAP
         clear hlb
         by_cases h0:n1=0
         ·have HFF:Hid (F=false):=HF.out (by rw[HST.out,HAP.out,h0];simp)
          subst h0
          clear hvl
          go_wp2_with(go_at_call 75;(with_reducible refine(HTY _).mono ?_);rintro e w2 ⟨rfl,hx2⟩;have HA2:=hid (HBA.out.later hx2);have p0:=HA2.out.cell (i:=0) rfl;have p1:=HA2.out.cell (i:=1) rfl;clear hx2)
          go_ret
          exact⟨by rw[HFF.out];rfl,HB.out.ext.trans HA2.out.ext⟩
         ·have s4:((n1:Int)==0)=false:=by rw[beq_eq_false_iff_ne];omega
          rw[decide_eq_true (show 1≤n1 by omega),Bool.true_and] at HAP
          by_cases h20:20<n1
          ·have HFF:Hid (F=false):=HF.out (by rw[HST.out,HAP.out,decide_eq_false (show ¬n1≤20 by omega)];simp)
           have s5:20<(n1:Int):=by omega
           clear hvl h0 h20
           go_wp2_with(go_at_call 75;(with_reducible refine(HTY _).mono ?_);rintro e w2 ⟨rfl,hx2⟩;have HA2:=hid (HBA.out.later hx2);have p0:=HA2.out.cell (i:=0) rfl;have p1:=HA2.out.cell (i:=1) rfl;clear hx2)
           go_ret
           exact⟨by rw[HFF.out];rfl,HB.out.ext.trans HA2.out.ext⟩
          ·have s5:decide (20<(n1:Int))=false:=by rw[decide_eq_false_iff_not];omega
           rw[decide_eq_true (show n1≤20 by omega),Bool.true_and] at HAP
           clear hvl h0 h20
           cases bv1 with
           |true=>
            have HFF:Hid (F=false):=HF.out (by rw[HST.out,HAP.out];simp)
            go_wp2_with(first|(go_at_call 75;(with_reducible refine(HTY _).mono ?_);rintro e w2 ⟨rfl,hx2⟩;have HA2:=hid (HBA.out.later hx2);have p0:=HA2.out.cell (i:=0) rfl;have p1:=HA2.out.cell (i:=1) rfl;clear hx2)|(go_at_call 76;(with_reducible refine(HWR _ HA2.out.ext).mono ?_);rintro e w3 ⟨rfl,hx3⟩;have HA3:=hid (HA2.out.later hx3);clear p0 p1;have p0:=HA3.out.cell (i:=0) rfl;have p1:=HA3.out.cell (i:=1) rfl;clear hx3))
            go_ret
            exact⟨by rw[HFF.out];rfl,HB.out.ext.trans HA3.out.ext⟩
           |false=>
            cases tv1 with
            |true=>
             have HFF:Hid (F=false):=HF.out (by rw[HST.out,HAP.out];simp)
             go_wp2_with(first|(go_at_call 75;(with_reducible refine(HTY _).mono ?_);rintro e w2 ⟨rfl,hx2⟩;have HA2:=hid (HBA.out.later hx2);have p0:=HA2.out.cell (i:=0) rfl;have p1:=HA2.out.cell (i:=1) rfl;clear hx2)|(go_at_call 76;(with_reducible refine(HWR _ HA2.out.ext).mono ?_);rintro e w3 ⟨rfl,hx3⟩;have HA3:=hid (HA2.out.later hx3);clear p0 p1;have p0:=HA3.out.cell (i:=0) rfl;have p1:=HA3.out.cell (i:=1) rfl;clear hx3)|(go_at_call 77;(with_reducible refine(HTW _ HA3.out.ext).mono ?_);rintro e w4 ⟨rfl,hx4⟩;have HA4:=hid (HA3.out.later hx4);clear hx4))
             go_ret
             exact⟨by rw[HFF.out];rfl,HB.out.ext.trans HA4.out.ext⟩
            |false=>
             have HNX:Hid (zcl (bys x1.type) (l.drop (j+1))=zcl [] l):=by show _=_;rw[HST.out,HAP.out];simp
             go_wp2_with(first|(go_at_call 75;(with_reducible refine(HTY _).mono ?_);rintro e w2 ⟨rfl,hx2⟩;have HA2:=hid (HBA.out.later hx2);have p0:=HA2.out.cell (i:=0) rfl;have p1:=HA2.out.cell (i:=1) rfl;clear hx2)|(go_at_call 76;(with_reducible refine(HWR _ HA2.out.ext).mono ?_);rintro e w3 ⟨rfl,hx3⟩;have HA3:=hid (HA2.out.later hx3);clear p0 p1;have p0:=HA3.out.cell (i:=0) rfl;have p1:=HA3.out.cell (i:=1) rfl;clear hx3)|(go_at_call 77;(with_reducible refine(HTW _ HA3.out.ext).mono ?_);rintro e w4 ⟨rfl,hx4⟩;have HA4:=hid (HA3.out.later hx4);clear hx4))
             exact⟨⟨j+1,x1.type,by omega,by go_num,rfl,HNX.out,HB.out.later HA4.out.ext⟩,by simp[intOf];omega⟩
       ·have s1:=zch hty
        have HFF:Hid (F=false):=HF.out (by rw[HST.out,HAP.out,decide_eq_false (show ¬bys ts=bys x1.type from fun e=>hty (by rw[←zaK ts,e]))];simp)
        clear hty
        go_wp2_with(go_at_call 75;(with_reducible refine(HTY _).mono ?_);rintro e w2 ⟨rfl,hx2⟩;have HA2:=hid (HBA.out.later hx2);have p0:=HA2.out.cell (i:=0) rfl;have p1:=HA2.out.cell (i:=1) rfl;clear hx2)
        go_ret
        exact⟨by rw[HFF.out];rfl,HB.out.ext.trans HA2.out.ext⟩
      ·obtain rfl:j=n:=by omega
       have hd:l.drop j=[]:=by rw[hl.out];exact List.drop_eq_nil_of_le (Nat.le_refl _)
       have HTT:Hid (F=(decide (0<(zbv objB l).length)&&zfm (bys ms) l)):=HT.out (by have:=HO.out;rw[hd] at this;exact this.symm)
       have c0:=HB.out.cell (i:=0) rfl
       have c1:=HB.out.cell (i:=1) rfl
       have HVL:Calls Tryz.prog 78 #[.agg #[.string ms,.slice A j c],.string ⟨#[111,98,106,101,99,116,67,108,97,115,115]⟩] wr (zcJ wr objB l):=zez (HR.out.ext HB.out.ext) ⟨#[111,98,106,101,99,116,67,108,97,115,115]⟩ ms (by decide) HVS.out
       have HND:∀w',Ext wr w'→Calls Tryz.prog 79 #[.agg #[.string ms,.slice A j c]] w' fun e w''=>e=.returned (.bool (zfm (bys ms) l))∧Ext w' w'':=fun w' hx=>zo7 (HR.out.ext (HB.out.ext.trans hx)) ms (HG.out.gl.ext (HB.out.ext.trans hx)) HVS.out
       unfold zcJ at HVL
       clear hd HO HF HT
       generalize zfm (bys ms) l=nd at*
       obtain⟨vl,hvl⟩:∃vl,vl=(zbv objB l).length:=⟨_,rfl⟩
       rw[←hvl] at HTT
       have HVN:Hid (∀(m:Nat),m=(zbv objB l).length→m=vl):=fun m h=>by rw[h,hvl]
       clear hvl
       by_cases h0:0<vl
       ·rw[decide_eq_true h0] at HTT
        go_wp2_with (first
         |(go_at_call 78;(with_reducible refine HVL.mono ?_);rintro e w2 ⟨A2,n2,c2,rfl,hr2,hx2⟩;have HX2:=hid hx2;have y1:0<(n2:Int):=(by have:=HVN.out n2 hr2.len;omega);have c0:=(HB.out.later hx2).cell (i:=0) rfl;have c1:=(HB.out.later hx2).cell (i:=1) rfl;clear hr2 hx2)
         | (go_at_call 79;(with_reducible refine (HND _ HX2.out).mono ?_);rintro e w3 ⟨rfl,hx3⟩;have HX3:=hid (HX2.out.trans hx3);clear hx3))
        go_ret
        exact⟨by rw[HTT.out];rfl,HB.out.ext.trans HX3.out⟩
       ·rw[decide_eq_false h0] at HTT
        go_wp2_with (first
         | (go_at_call 78;(with_reducible refine HVL.mono ?_);rintro e w2 ⟨A2,n2,c2,rfl,hr2,hx2⟩;have HX2:=hid hx2;obtain rfl:n2=0:=(by have:=HVN.out n2 hr2.len;omega);have c0:=(HB.out.later hx2).cell (i:=0) rfl;have c1:=(HB.out.later hx2).cell (i:=1) rfl;clear hr2 hx2))
        go_ret
        exact⟨by rw[HTT.out];rfl,HB.out.ext.trans HX2.out⟩
  ·have e0:=zch hn
   have HE:Hid (F=false):=by show _=_;rw[HD.out,decide_eq_false (show ¬ns=bys nm from fun e=>hn (by rw[HMS.out,e]))];simp
   clear HD hn HMS hc
   go_enter Tryz.func40,Tryz.ntmps40
   go_wp2_with(go_at_call 73;(with_reducible refine(HNM _ (HG.out.gl.ext HB0.out.ext)).mono ?_);rintro e w1 ⟨rfl,hx1⟩;have HB1:=hid (HB0.out.later hx1);have c0:=HB1.out.cell (i:=0) rfl;have c1:=HB1.out.cell (i:=1) rfl;clear hx1)
   clear c0 c1
   go_ret
   exact⟨by rw[HE.out];rfl,HB1.out.ext⟩
 ·have t1:(cd != 0)=true:=by rw[bne_iff_ne];exact hc
  have HE:Hid (F=false):=by show _=_;rw[HD.out,decide_eq_false hc];simp
  clear HD hc HMS
  go_enter Tryz.func40,Tryz.ntmps40
  go_wp2_with(go_at_call 73;(with_reducible refine(HNM _ (HG.out.gl.ext HB0.out.ext)).mono ?_);rintro e w1 ⟨rfl,hx1⟩;have HB1:=hid (HB0.out.later hx1);have c0:=HB1.out.cell (i:=0) rfl;have c1:=HB1.out.cell (i:=1) rfl;clear hx1)
  clear c0 c1
  go_ret
  exact⟨by rw[HE.out];rfl,HB1.out.ext⟩
end Go.Proofs.YtkjbokhnpphimaaGreatDoor
