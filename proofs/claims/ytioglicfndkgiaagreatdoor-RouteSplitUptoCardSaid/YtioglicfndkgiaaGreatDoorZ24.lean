/- Lemmas of the walk. -/
import Derived.Test.YtioglicfndkgiaaGreatDoorZ23
set_option maxHeartbeats 40000000
set_option linter.unusedVariables false
set_option linter.unusedSimpArgs false
namespace Go.Proofs.YtioglicfndkgiaaGreatDoor
open Go.RowKit
set_option maxRecDepth 100000
def zlr:List (List UInt8)→List UInt8
 | []=>[]
 | x::t=>44::(x++zlr t)
theorem zeZ:∀ (x:List UInt8) (t:List (List UInt8)),za3 (x::t)=x++zlr t
 | x,[]=>by simp [za3,zlr]
 | x,y::t=>by
  have h:=zeZ y t
  rw [za3,h,zlr]
def zhE (j:Nat) (l:List (List UInt8)):List UInt8:=if j=0 then za3 l else zlr l
theorem zm2 (x:List UInt8) (t:List (List UInt8)):zhE 0 (x::t)=x++zhE 1 t:=by unfold zhE;rw [if_pos rfl,if_neg (by decide),zeZ]
theorem zny {j:Nat} (h:¬ j=0) (x:List UInt8) (t:List (List UInt8)):zhE j (x::t)=[44]++x++zhE (j+1) t:=by unfold zhE;rw [if_neg h,if_neg (by omega),zlr];simp
theorem zik {S:Nat→Prop} {A:Option Addr} {n c:Nat} {l:List (List UInt8)} {w:World} (h:Row Elem.str S w A n c (strs l)) (hj:(za3 l).length≤1000000000) :
 Calls Tryz.prog 90 #[.slice A n c] w fun e w'=>e=.returned (.string (str (za3 l)))∧Ext w w':=by
 have HR:=hid h
 have HLN:Hid (n=l.length):=by show _=_;rw [h.len,List.length_map]
 have HJL:=hid hj
 have hn:n≤9223372036854775807:=by have:=h.cap;have:=h.most;simp only [maxLen] at this;omega
 clear h hj
 go_enter Tryz.func90,Tryz.ntmps90
 go_wp2
 go_loop [3,7] (fun v i=>∃ (j:Nat) (acc:List UInt8),j≤n∧i=.int .i64 j∧v=.string (str acc)∧Hid (acc++zhE j (l.drop j)=za3 l)) (fun _ i=>n-(intOf i).toNat)
 case atStart=>exact ⟨0,[],by omega,rfl,rfl,rfl⟩
 case round=>
  obtain ⟨j,acc,hj,rfl,rfl,HP⟩:=hrel
  by_cases hlt:j<n
  ·have hlt':(j:Int)<(n:Int):=by omega
   obtain ⟨b,o,x,rfl,hx,e1⟩:=zfX HR.out hlt
   have hd:Hid (l.drop j=x::l.drop (j+1)):=by
    show _=_
    obtain ⟨h1,h2⟩:=List.getElem?_eq_some_iff.1 hx
    rw [List.drop_eq_getElem_cons h1,h2]
   clear hx
   by_cases hj0:j=0
   ·have tj:decide (0<j)=false:=by rw [decide_eq_false_iff_not];omega
    have HP2:acc++x++zhE (j+1) (l.drop (j+1))=za3 l:=by rw [← HP.out,hd.out,hj0,zm2];simp
    have hln:=congrArg List.length HP2
    simp only [List.length_append] at hln
    have z1:¬ 9223372036854775807<acc.length+x.length:=by have:=HJL.out;omega
    have hz:=zbg acc x
    have HP3:=hid HP2
    clear hj0 HP2 hln
    go_wp2
    exact ⟨⟨j+1,acc++x,by omega,by go_num,rfl,HP3⟩,by simp [intOf];omega⟩
   ·have tj:decide (0<j)=true:=by rw [decide_eq_true_eq];omega
    have HP2:(acc++[44])++x++zhE (j+1) (l.drop (j+1))=za3 l:=by rw [← HP.out,hd.out,zny hj0];simp
    have hln:=congrArg List.length HP2
    simp only [List.length_append,List.length_cons,List.length_nil] at hln
    have z0:¬ 9223372036854775807<acc.length+1:=by have:=HJL.out;omega
    obtain ⟨ac,hac⟩:∃ ac,ac=acc++[44]:=⟨_,rfl⟩
    have hz0:(str acc++str [44])=str ac:=by rw [hac];exact zbg _ _
    have z1:¬ 9223372036854775807<ac.length+x.length:=by have:=HJL.out;rw [hac,List.length_append,List.length_cons,List.length_nil];omega
    have hz:=zbg ac x
    rw [← hac] at HP2
    have HP3:=hid HP2
    clear hj0 HP2 hln hac
    go_wp2
    exact ⟨⟨j+1,ac++x,by omega,by go_num,rfl,HP3⟩,by simp [intOf];omega⟩
  ·obtain rfl:j=n:=by omega
   have HQ:Hid (za3 l=acc):=by
    show _=_
    rw [← HP.out,List.drop_of_length_le (Nat.le_of_eq HLN.out.symm)]
    have:zhE j []=[]:=by unfold zhE;split <;> rfl
    rw [this,List.append_nil]
   go_wp2
   go_ret
   exact ⟨by rw [HQ.out];rfl,Ext.refl _⟩
theorem zeV (s:ByteArray) (w:World) (hG:Gl w):Calls Tryz.prog 59 #[.string s] w (zbn w (bys s)):=by
 have HG:=hid hG
 have HPR:∀ w,Gl w→Calls Tryz.prog 87 #[.string s] w (zl7 w (bys s)):=fun w hG=>zjq s w hG
 unfold zl7 at HPR
 have HPB:=hid (zeo (bys s))
 have HPF:Hid (∀ l,zbc (bys s)=.ok l→(∀ p∈l,zan p=true)∧l.length≤12):=fun l h=>⟨zek h,zh1 h⟩
 clear hG
 cases hp:zbc (bys s) with
 | error er=>
  have HF:Hid (zac (bys s)=.error er):=by show _=_;rw [HPB.out,hp]
  have hne:(zap (α:=List (List Ava)) (.error er) != 0)=true:=by cases er <;> rfl
  have HC:Hid (zap (α:=List (List Ava)) (.error er)=zap (α:=List (List UInt8)) (.error er)):=by cases er <;> rfl
  rw [hp] at HPR
  generalize zap (α:=List (List Ava)) (.error er)=cd at *
  clear hp HPB HPF
  go_enter Tryz.func59,Tryz.ntmps59
  go_wp2_with (go_at_call 87;(with_reducible refine (HPR _ (HG.out.ext (Ext.refl _))).mono ?_);rintro e w1 ⟨A1,n1,c1,rfl,-,hx1⟩;have HX1:=hid hx1;clear hx1)
  go_ret2
  exact ⟨none,0,0,by rw [HF.out,← HC.out];rfl,by rw [HF.out];exact Row.nil _ _ _,HX1.out⟩
 | ok l=>
  have HF:Hid (zac (bys s)=if 1000<(za3 (l.map zcg)).length then .error .long else .ok (l.map zcg)):=by show _=_;rw [HPB.out,hp]
  have HFL:=hid (HPF.out l hp)
  rw [hp] at HPR
  simp only [okL,zap] at HPR
  clear hp HPB HPF
  go_enter Tryz.func59,Tryz.ntmps59
  go_wp2_with (go_at_call 87;(with_reducible refine (HPR _ (HG.out.ext (Ext.refl _))).mono ?_);rintro e w1 ⟨A1,n1,c1,rfl,hr1,hx1⟩;have HX1:=hid hx1;have HR1:=hid hr1;clear hx1 hr1)
  have HLN:=hid HR1.out.len
  have hl12:n1≤12:=by rw [HR1.out.len];exact HFL.out.2
  go_loopw [6,22] (fun v i wr=>∃ j:Nat,j≤n1∧i=.int .i64 j∧Hid (GrowS w1 wr v (strs ((l.take j).map zcg)))) (fun _ i _=>n1-(intOf i).toNat)
  case atStart=>exact ⟨0,by omega,rfl,GrowS.nil (Ext.refl _)⟩
  case round=>
   obtain ⟨j,hj,rfl,HGR⟩:=hrel
   by_cases hlt:j<n1
   ·have hlt':(j:Int)<(n1:Int):=by omega
    obtain ⟨b,o,vv,p,rfl,hp,-,⟨A2,n2,c2,rfl,hr2⟩,q2⟩:=(HR1.out.ext HGR.out.ext).at_ hlt
    have e2:=q2 0 _ rfl
    simp only [Elem.slc,Nat.add_zero,Nat.mul_one] at e2
    have HR2:=hid hr2
    have hfp:=HFL.out.1 p (List.mem_of_getElem? hp)
    have HTY:=hid (zev hfp)
    have HNP:∀ w',Ext wr w'→Calls Tryz.prog 88 #[.slice A2 n2 c2] w' (ziQ w' p):=fun w' hx=>zl5 (HG.out.ext (HX1.out.trans (HGR.out.ext.trans hx))) (HR2.out.ext hx) (fun a ha=>by have:=HTY.out a ha;omega)
    unfold ziQ at HNP
    rw [hfp] at HNP
    simp only [eq_self,if_true] at HNP
    have HST:Hid (strs ((l.take (j+1)).map zcg)=strs ((l.take j).map zcg)++[str (zcg p)]):=by show _=_;rw [List.take_add_one,hp];simp
    have HTL:Hid (((l.take j).map zcg).length≤12):=by show _≤_;rw [List.length_map];have:=List.length_take_le j l;omega
    clear hp hr2 q2 hfp
    go_wp2_with (first
     | (go_at_call 88;(with_reducible refine (HNP _ (Ext.refl _)).mono ?_);rintro e w3 ⟨A3,n3,c3,rfl,hr3,hx3⟩;have HR3:=hid hr3;have HX3:=hid hx3;clear hr3 hx3)
     | (go_at_call 89;(with_reducible refine (znc (HG.out.ext (HX1.out.trans (HGR.out.ext.trans HX3.out))) HR3.out (zhC p HTY.out)).mono ?_);rintro e w4 ⟨rfl,hx4⟩;have HG4:=hid ((HGR.out.later HX3.out).later hx4);clear hx4)
     | (at_builtin;refine zct rfl _ _ rfl _ _ rfl HG4.out rfl (by have:=HTL.out;rw [List.length_map];omega) ?_;intro v' w5 hg5;have HG5:=hid hg5;clear hg5))
    refine ⟨⟨j+1,by omega,by go_num,?_⟩,by simp [intOf];omega⟩
    rw [HST.out]
    exact HG5
   ·obtain rfl:j=n1:=by omega
    have HTA:Hid (l.take j=l):=by show _=_;rw [List.take_of_length_le (Nat.le_of_eq HLN.out.symm)]
    rw [HTA.out] at HGR
    obtain ⟨A2,c2,rfl,hr2⟩:=HGR.out.row
    rw [List.length_map] at hr2
    have HR2:=hid hr2
    have HTL:=hid (zkD l HFL.out.2)
    clear hr2
    generalize l.map zcg=tx at *
    have HFT:∀ w',Ext wr w'→Calls Tryz.prog 90 #[.slice A2 tx.length c2] w' fun e w''=>e=.returned (.string (str (za3 tx)))∧Ext w' w'':=fun w' hx=>
     zik (HR2.out.ext hx) (by have:=HTL.out;omega)
    generalize za3 tx=jt at *
    by_cases h1k:1000<jt.length
    ·have h1k':1000<(jt.length:Int):=by omega
     have HE:Hid (zac (bys s)=.error .long):=by show _=_;rw [HF.out,if_pos h1k]
     clear h1k
     go_wp2_with (go_at_call 90;(with_reducible refine (HFT _ (Ext.refl _)).mono ?_);rintro e w3 ⟨rfl,hx3⟩;have HX3:=hid hx3;clear hx3)
     go_ret2
     exact ⟨none,0,0,by rw [HE.out];rfl,by rw [HE.out];exact Row.nil _ _ _,HX1.out.trans (HGR.out.ext.trans HX3.out)⟩
    ·have h1k':¬ 1000<(jt.length:Int):=by omega
     have HE:Hid (zac (bys s)=.ok tx):=by show _=_;rw [HF.out,if_neg h1k]
     clear h1k
     go_wp2_with (go_at_call 90;(with_reducible refine (HFT _ (Ext.refl _)).mono ?_);rintro e w3 ⟨rfl,hx3⟩;have HX3:=hid hx3;clear hx3)
     go_ret2
     refine ⟨A2,_,c2,by rw [HE.out];rfl,?_,HX1.out.trans (HGR.out.ext.trans HX3.out)⟩
     rw [HE.out]
     exact (HR2.out.ext HX3.out).mono fun b _ hb=>Nat.le_trans (zaD HX1.out) hb
theorem zjv (s:ByteArray) (w:World) (hG:Gl w):Calls Tryz.prog 84 #[.string s] w (zaM w (bys s)):=by
 have HPA:=zeV s w hG
 unfold zbn at HPA
 have HN:Hid (zaG (bys s)=za3 (okL (zac (bys s)))):=rfl
 have HSM:=hid (zcY (bys s))
 have HCD:Hid (zaM w (bys s)=fun e w'=>e=.returned (.tuple #[.string (str (zaG (bys s))),.int .i64 (zap (zac (bys s)))])∧Ext w w'):=rfl
 generalize okL (zac (bys s))=l at *
 generalize zap (zac (bys s))=cd at *
 go_enter Tryz.func84,Tryz.ntmps84
 go_wp2_with (first
  | (go_at_call 59;(with_reducible refine HPA.mono ?_);rintro e w1 ⟨A1,n1,c1,rfl,hr1,hx1⟩;have HX1:=hid hx1;have HJ:=zik hr1 (by have:=HSM.out.2;omega);rw [← HN.out] at HJ;clear hx1 hr1)
  | (go_at_call 90;(with_reducible refine HJ.mono ?_);rintro e w2 ⟨rfl,hx2⟩;have HX2:=hid hx2;clear hx2))
 go_ret2
 rw [HCD.out]
 exact ⟨rfl,HX1.out.trans HX2.out⟩
end Go.Proofs.YtioglicfndkgiaaGreatDoor
