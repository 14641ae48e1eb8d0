/- Lemmas of the walk. -/
import Derived.Test.YtkjbokhnpphimaaGreatDoorV23
import Derived.Test.YtkjbokhnpphimaaGreatDoorV24
set_option maxHeartbeats 40000000
set_option linter.unusedVariables false
set_option linter.unusedSimpArgs false
namespace Go.Proofs.YtkjbokhnpphimaaGreatDoor
open Go.RowKit
set_option maxRecDepth 100000
def zaT(s:List UInt8):List UInt8×Bool:=match okL (zak s) with|[]=>([],false)|_::t=>(zaY t,true)
def zcj(w:World)(s:List UInt8)(e:Ending)(w':World):Prop:=e=.returned (.tuple #[.string (str (zaT s).1),.bool (zaT s).2])∧Ext w w'
theorem zhd(x:List UInt8)(t:List (List UInt8)):(zaY t).length≤(zaY (x::t)).length:=by
 cases t with
 |nil=>simp[zaY]
 |cons y t=>rw[zel,zel,zlv];simp only[List.length_append,List.length_cons];omega
theorem zqr(A:Option Addr)(n c l:Nat)(hlk:l≤n)(L:Int)(hL:L=l) :
 ∀w,(Instr.sliceAt 53 (.slice A n c) (some (.int .i64 L)) none none).run Tryz.prog w=.ok (.slice (cutA A l c 1) (n-l) (c-l)) w:=by
 subst hL
 exact zmy A n c l hlk
theorem zd6(s:ByteArray)(w:World)(hG:Gl w):Calls Tryz.prog 29 #[.string s] w (zcj w (bys s)):=by
 have HPA:=zeh s w hG
 unfold zbL at HPA
 have HD:Hid (zaT (bys s)=match okL (zak (bys s)) with|[]=>([],false)|_::t=>(zaY t,true)):=rfl
 have HSM:=hid (zcU (bys s))
 have HCD:Hid (zcj w (bys s)=fun e w'=>e=.returned (.tuple #[.string (str (zaT (bys s)).1),.bool (zaT (bys s)).2])∧Ext w w'):=rfl
 generalize okL (zak (bys s))=l at*
 generalize zaJ (zak (bys s))=cd at*
 generalize zaT (bys s)=q at*
 cases l with
 |nil=>
  simp only at HD
  go_enter Tryz.func29,Tryz.ntmps29
  go_wp2_with(go_at_call 63;(with_reducible refine HPA.mono ?_);rintro e w1 ⟨A1,n1,c1,rfl,hr1,hx1⟩;have HX1:=hid hx1;obtain rfl:n1=0:=hr1.len;clear hr1 hx1)
  go_ret2
  rw[HCD.out,HD.out]
  exact⟨rfl,HX1.out⟩
 |cons x t=>
  simp only at HD
  have HJ:∀A n c w',Row Elem.str (fun b=>w.heap.size≤b) w' A n c (strs (x::t))→Calls Tryz.prog 64 #[.slice (cutA A 1 c 1) (n-1) (c-1),.string ⟨#[44]⟩] w' fun e w''=>e=.returned (.string (str (zaY t)))∧Ext w' w'':=fun A n c w' hr=>by
   have hl:n=t.length+1:=by rw[hr.len];simp
   have hr2:=hr.tail (k:=1) (by omega)
   have e:(strs (x::t)).drop 1=strs t:=rfl
   rw[e] at hr2
   have:=zet (strs t) ⟨#[44]⟩ hr2 (by rw[List.length_map];have:=HSM.out.1;simp only[List.length_cons] at this;omega) (by rw[zcX];show(Lib.join t [44]).length≤_;rw[zha];have:=HSM.out.2;have:=zhd x t;omega)
   rwa[zc5,show bys ⟨#[44]⟩=[44] from rfl,zha] at this
  clear HSM
  go_enter Tryz.func29,Tryz.ntmps29
  go_wp2_with (first
   |(go_at_call 63;(with_reducible refine HPA.mono ?_);rintro e w1 ⟨A1,n1,c1,rfl,hr1,hx1⟩;have HX1:=hid hx1;have hl1:n1=t.length+1:=(by rw[hr1.len];simp);have t1:((n1:Int)==0)=false:=(by rw[beq_eq_false_iff_ne];omega);have hs1:=zqr A1 n1 c1 1 (by omega) 1 rfl;have HJ1:=hid (HJ A1 n1 c1 w1 hr1);clear hx1 hr1 hl1)
   | (go_at_call 64;(with_reducible refine HJ1.out.mono ?_);rintro e w2 ⟨rfl,hx2⟩;have HX2:=hid hx2;clear hx2))
  go_ret2
  rw[HCD.out,HD.out]
  exact⟨rfl,HX1.out.trans HX2.out⟩
def valZ(n v:List UInt8):List UInt8×Int:=
 if(zat n).2≠5 then zb2 n v else if v=[]∨200<v.length then([],2) else if zaJ (zak v)≠0 then([],2) else(za3 v,0)
def zcw(w:World)(n v:List UInt8)(e:Ending)(w':World):Prop:=e=.returned (.tuple #[.string (str (valZ n v).1),.int .i64 (valZ n v).2])∧Ext w w'
def zgx(n m x:List UInt8):Bool:=(valZ n x).2==0&&decide ((valZ n x).1=m)
def hasZ(n v:List UInt8)(l:List ByteArray):Bool:=(valZ n v).2==0&&l.any fun x=>zgx n (valZ n v).1 (bys x)
theorem zlJ(s:ByteArray)(w:World)(hG:Gu w)(hs:s.size≤3000000) :
 Calls Tryz.prog 164 #[.int .i64 4,.string s] w fun e w'=>e=.returned (.tuple #[.string s,.bool (zaW (bys s)).isSome])∧Ext w w':=by
 have hP:=zov s w hG hs
 unfold zfx at hP
 rw[←zm6 (bys s)] at hP
 clear hG hs
 cases hb:(zaW (bys s)).isSome
 all_goals
  rw[hb] at hP
  clear hb
  simp only[if_true,if_false,Bool.false_eq_true] at hP
  go_enter Tryz.func164,Tryz.ntmps164
  go_wp2_with(go_at_call 195;(with_reducible refine hP.mono ?_);rintro e w1 ⟨x,y,rfl,hx1⟩;have HX1:=hid hx1;clear hx1)
  go_ret2
  exact⟨rfl,HX1.out⟩
theorem zlf{s:ByteArray}(h:¬200<s.size):s.size≤3000000:=by omega
theorem zlG(n s:ByteArray)(w:World)(hG:Gu w)(hn:n.size≤4000000):Calls Tryz.prog 139 #[.string n,.string s] w (zb7 w (bys n) (bys s)):=by
 by_cases h4:(zat (bys n)).2=4
 ·have HG:=hid hG
  have HT:∀w,Calls Tryz.prog 75 #[.string n] w (zaX w (bys n)):=fun w=>zc3 n w (by simp only[maxLen];omega)
  have HN:Hid (zb2 (bys n) (bys s)=if bys s=[]∨200<(bys s).length then([],2) else if(zaW (bys s)).isSome then(bys s,0) else([],2)):=by show _=_;unfold zb2;rw[if_pos h4]
  have HCD:Hid (zb7 w (bys n) (bys s)=fun e w'=>e=.returned (.tuple #[.string (str (zb2 (bys n) (bys s)).1),.int .i64 (zb2 (bys n) (bys s)).2])∧Ext w w'):=rfl
  unfold zaX at HT
  generalize zb2 (bys n) (bys s)=r at*
  generalize zat (bys n)=p at*
  obtain⟨t,k⟩:=p
  have k4:k=4:=h4
  subst k4
  have k4:=True.intro
  simp only at HT
  clear h4 hG
  by_cases hz:s.size=0
  ·have HE:Hid (r=([],2)):=by show _=_;rw[HN.out,if_pos (.inl (by rw[zb3 hz];rfl))]
   have e1:=zdf hz
   have HS:∀w,Gu w→True:=fun _ _=>trivial
   clear hz
   clear k4 HN
   go_enter Tryz.func139,Tryz.ntmps139
   go_wp2_with (first
    |(go_at_call 75;(with_reducible refine(HT _).mono ?_);rintro e w1 ⟨rfl,hx1⟩;have HX1:=hid hx1;clear hx1)
    | (go_at_call 164;(with_reducible refine (HS _ (HG.out.ext HX1.out)).mono ?_);rintro e w2 ⟨rfl,hx2⟩;have HX2:=hid (HX1.out.trans hx2);clear hx2))
   go_ret2
   rw[HCD.out,HE.out]
   exact⟨rfl,HX1.out⟩
  ·have e1:=zfj hz
   by_cases hl:200<s.size
   ·have HE:Hid (r=([],2)):=by show _=_;rw[HN.out,if_pos (.inr (by rw[zaj];exact hl))]
    have e2:200<(s.size:Int):=by omega
    have HS:∀w,Gu w→True:=fun _ _=>trivial
    clear hz hl
    clear k4 HN
    go_enter Tryz.func139,Tryz.ntmps139
    go_wp2_with (first
     |(go_at_call 75;(with_reducible refine(HT _).mono ?_);rintro e w1 ⟨rfl,hx1⟩;have HX1:=hid hx1;clear hx1)
     | (go_at_call 164;(with_reducible refine (HS _ (HG.out.ext HX1.out)).mono ?_);rintro e w2 ⟨rfl,hx2⟩;have HX2:=hid (HX1.out.trans hx2);clear hx2))
    go_ret2
    rw[HCD.out,HE.out]
    exact⟨rfl,HX1.out⟩
   ·have e2:decide (200<(s.size:Int))=false:=by rw[decide_eq_false_iff_not];omega
    have hbs:¬(bys s=[]∨200<(bys s).length):=by
     rw[zaj]
     rintro(h|h)
     ·exact hz (by rw[←zaj,h];rfl)
     ·exact hl h
    have HS:∀w,Gu w→Calls Tryz.prog 164 #[.int .i64 4,.string s] w fun e w'=>e=.returned (.tuple #[.string s,.bool (zaW (bys s)).isSome])∧Ext w w':=fun w hG=>zlJ s w hG (zlf hl)
    have HE:Hid (r=if(zaW (bys s)).isSome then(bys s,0) else([],2)):=by show _=_;rw[HN.out,if_neg hbs]
    clear hz hl hbs
    cases hb:(zaW (bys s)).isSome
    ·rw[hb] at HS HE
     clear hb
     simp only[if_false,Bool.false_eq_true] at HE
     clear k4 HN
     go_enter Tryz.func139,Tryz.ntmps139
     go_wp2_with (first
      |(go_at_call 75;(with_reducible refine(HT _).mono ?_);rintro e w1 ⟨rfl,hx1⟩;have HX1:=hid hx1;clear hx1)
      | (go_at_call 164;(with_reducible refine (HS _ (HG.out.ext HX1.out)).mono ?_);rintro e w2 ⟨rfl,hx2⟩;have HX2:=hid (HX1.out.trans hx2);clear hx2))
     go_ret2
     rw[HCD.out,HE.out]
     exact⟨rfl,HX2.out⟩
    ·rw[hb] at HS HE
     clear hb
     simp only[if_true] at HE
     clear k4 HN
     go_enter Tryz.func139,Tryz.ntmps139
     go_wp2_with (first
      |(go_at_call 75;(with_reducible refine(HT _).mono ?_);rintro e w1 ⟨rfl,hx1⟩;have HX1:=hid hx1;clear hx1)
      | (go_at_call 164;(with_reducible refine (HS _ (HG.out.ext HX1.out)).mono ?_);rintro e w2 ⟨rfl,hx2⟩;have HX2:=hid (HX1.out.trans hx2);clear hx2))
     go_ret2
     rw[HCD.out,HE.out,zaK]
     exact⟨rfl,HX2.out⟩
 ·refine(zen n s w hG.gl hn h4).mono fun e w' h=>?_
  have hz:zb2 (bys n) (bys s)=zb0 (bys n) (bys s):=by unfold zb2;rw[if_neg h4]
  unfold zb7
  rw[hz]
  exact h
theorem zrk{s:List UInt8}{l:List (List UInt8)}(h:zak s=.ok l)(hs:s≠[]):l≠[]:=by
 unfold zak at h
 by_cases h1:1000<s.length
 ·rw[if_pos h1] at h;cases h
 rw[if_neg h1,if_neg hs] at h
 by_cases h3:12<(splitF 44 [] s).length
 ·rw[if_pos h3] at h;cases h
 rw[if_neg h3] at h
 cases hm:(splitF 44 [] s).mapM zbk with
 |none=>rw[hm] at h;cases h
 |some k=>
  rw[hm] at h
  simp only at h
  by_cases h4:1000<(zaY (k.map fun p=>zb8 (za8 p))).length
  ·rw[if_pos h4] at h;cases h
  rw[if_neg h4] at h
  injection h with h
  obtain⟨hk1,hk2⟩:=zgD hm
  have hlen:=(zbw 44 s.length [] s (Nat.le_refl _)).2.1
  rintro rfl
  have:=congrArg List.length h
  simp at this
  rw[this] at hk2
  simp at hk2
  omega
theorem zpI{s:List UInt8}(hs:s≠[])(hc:zaJ (zak s)=0):za3 s≠[]:=by
 unfold za3
 cases hp:zak s with
 |error e=>rw[hp] at hc;cases e<;>cases hc
 |ok l=>
  show zaY l≠[]
  intro e
  have h1:=zlz hp
  rw[e] at h1
  have h2:zak []=.ok []:=rfl
  rw[h2] at h1
  injection h1 with h1
  exact zrk hp hs h1.symm
theorem zik:za3 []=[]∧zaJ (zak [])=0:=⟨rfl,rfl⟩
theorem zc6(n s:ByteArray)(w:World)(hG:Gu w)(hn:n.size≤4000000):Calls Tryz.prog 103 #[.string n,.string s] w (zcw w (bys n) (bys s)):=by
 have HG:=hid hG
 have HT:∀w,Calls Tryz.prog 75 #[.string n] w (zaX w (bys n)):=fun w=>zc3 n w (by simp only[maxLen];omega)
 have HN:∀w,Gu w→Calls Tryz.prog 139 #[.string n,.string s] w (zb7 w (bys n) (bys s)):=fun w hG=>zlG n s w hG hn
 have HM:∀w,Gl w→Calls Tryz.prog 73 #[.string s] w (zbD w (bys s)):=fun w hG=>zc7 s w hG
 have HD:Hid (valZ (bys n) (bys s)=if(zat (bys n)).2≠5 then zb2 (bys n) (bys s) else if bys s=[]∨200<(bys s).length then([],2) else if zaJ (zak (bys s))≠0 then([],2) else(za3 (bys s),0)):=rfl
 have HCD:Hid (zcw w (bys n) (bys s)=fun e w'=>e=.returned (.tuple #[.string (str (valZ (bys n) (bys s)).1),.int .i64 (valZ (bys n) (bys s)).2])∧Ext w w'):=rfl
 have HNE:=hid (@zpI (bys s))
 unfold zaX at HT
 unfold zb7 at HN
 unfold zbD at HM
 clear hG
 generalize valZ (bys n) (bys s)=r at*
 generalize zat (bys n)=p at*
 obtain⟨t,k⟩:=p
 generalize zb2 (bys n) (bys s)=q at*
 obtain⟨q1,q2⟩:=q
 simp only at HT HD HN
 by_cases h5:k=5
 ·have t5:((k:Int) != 5)=false:=by rw[h5];rfl
  rw[if_neg (fun h=>h h5)] at HD
  by_cases hz:s.size=0
  ·have HE:Hid (r=([],2)):=by show _=_;rw[HD.out,if_pos (.inl (by rw[zb3 hz];rfl))]
   have hs:bys s=[]:=by rw[zb3 hz];rfl
   rw[hs,zik.1,zik.2] at HM
   have e0:(str []).toList.isEmpty=true:=by rw[ByteArray.toList_eq];rfl
   have e1:decide ((200:Int)<(s.size:Int))=false:=by rw[decide_eq_false_iff_not];omega
   clear h5 hz HD HNE
   go_enter Tryz.func103,Tryz.ntmps103
   go_wp2_with (first
    |(go_at_call 75;(with_reducible refine(HT _).mono ?_);rintro e w1 ⟨rfl,hx1⟩;have HX:=hid hx1;clear hx1)
    |(go_at_call 139;(with_reducible refine(HN _ (HG.out.ext HX.out)).mono ?_);rintro e w2 ⟨rfl,hx2⟩;have HX':=hid (HX.out.trans hx2);clear HX hx2;have HX:=HX';clear HX')
    | (go_at_call 73;(with_reducible refine (HM _ (HG.out.gl.ext HX.out)).mono ?_);rintro e w2 ⟨rfl,hx2⟩;have HX':=hid (HX.out.trans hx2);clear HX hx2;have HX:=HX';clear HX'))
   go_ret2
   rw[HCD.out,HE.out]
   first|exact⟨rfl,HX.out⟩|exact⟨by rw[show str (m,(0:Int)).1=ms from HMS.out];rfl,HX.out⟩
  ·have hne:bys s≠[]:=by intro h;exact hz (by rw[←zaj,h];rfl)
   by_cases hc:zaJ (zak (bys s))=0
   ·have hnn:=HNE.out hne hc
    rw[hc] at HM HD
    generalize za3 (bys s)=m at*
    obtain⟨ms,hms⟩:∃ms,str m=ms:=⟨_,rfl⟩
    have e0:ms.toList.isEmpty=false:=zl9 (by rw[←hms,zaI];exact List.length_pos_iff.2 hnn)
    rw[hms] at HM
    have HMS:=hid hms
    clear hms
    by_cases hl:200<s.size
    have HE:Hid (r=([],2)):=by show _=_;rw[HD.out,if_pos (.inr (by rw[zaj];exact hl))]
    have e2:200<(s.size:Int):=by omega
    clear h5 hz hl HD hnn hne hc HNE
    rotate_left
    have e2:decide (200<(s.size:Int))=false:=by rw[decide_eq_false_iff_not];omega
    have hbs:¬(bys s=[]∨200<(bys s).length):=by
     rw[zaj]
     rintro(h|h)
     ·exact hne h
     ·exact hl h
    have HE:Hid (r=(m,0)):=by show _=_;rw[HD.out,if_neg hbs,if_neg (fun h=>h rfl)]
    clear h5 hz hl HD hnn hne hc HNE hbs
    rotate_left
    all_goals
     go_enter Tryz.func103,Tryz.ntmps103
     go_wp2_with (first
      |(go_at_call 75;(with_reducible refine(HT _).mono ?_);rintro e w1 ⟨rfl,hx1⟩;have HX:=hid hx1;clear hx1)
      |(go_at_call 139;(with_reducible refine(HN _ (HG.out.ext HX.out)).mono ?_);rintro e w2 ⟨rfl,hx2⟩;have HX':=hid (HX.out.trans hx2);clear HX hx2;have HX:=HX';clear HX')
      | (go_at_call 73;(with_reducible refine (HM _ (HG.out.gl.ext HX.out)).mono ?_);rintro e w2 ⟨rfl,hx2⟩;have HX':=hid (HX.out.trans hx2);clear HX hx2;have HX:=HX';clear HX'))
     go_ret2
     rw[HCD.out,HE.out]
     first|exact⟨rfl,HX.out⟩|exact⟨by rw[show str (m,(0:Int)).1=ms from HMS.out];rfl,HX.out⟩
   ·have e3:(zaJ (zak (bys s)) != 0)=true:=by rw[bne_iff_ne];exact hc
    have HE:Hid (r=([],2)):=by
     show _=_
     rw[HD.out]
     by_cases hb:bys s=[]∨200<(bys s).length
     ·rw[if_pos hb]
     ·rw[if_neg hb,if_pos hc]
    generalize zaJ (zak (bys s))=cd at*
    generalize za3 (bys s)=m at*
    clear h5 hz HD hne hc HNE
    go_enter Tryz.func103,Tryz.ntmps103
    go_wp2_with (first
     |(go_at_call 75;(with_reducible refine(HT _).mono ?_);rintro e w1 ⟨rfl,hx1⟩;have HX:=hid hx1;clear hx1)
     |(go_at_call 139;(with_reducible refine(HN _ (HG.out.ext HX.out)).mono ?_);rintro e w2 ⟨rfl,hx2⟩;have HX':=hid (HX.out.trans hx2);clear HX hx2;have HX:=HX';clear HX')
     | (go_at_call 73;(with_reducible refine (HM _ (HG.out.gl.ext HX.out)).mono ?_);rintro e w2 ⟨rfl,hx2⟩;have HX':=hid (HX.out.trans hx2);clear HX hx2;have HX:=HX';clear HX'))
    go_ret2
    rw[HCD.out,HE.out]
    first|exact⟨rfl,HX.out⟩|exact⟨by rw[show str (m,(0:Int)).1=ms from HMS.out];rfl,HX.out⟩
 ·have t5:((k:Int) != 5)=true:=by rw[bne_iff_ne];omega
  have HE:Hid (r=(q1,q2)):=by show _=_;rw[HD.out,if_pos h5]
  clear h5 HD HNE HM
  have HM:∀w,Gl w→True:=fun _ _=>trivial
  go_enter Tryz.func103,Tryz.ntmps103
  go_wp2_with (first
   |(go_at_call 75;(with_reducible refine(HT _).mono ?_);rintro e w1 ⟨rfl,hx1⟩;have HX:=hid hx1;clear hx1)
   |(go_at_call 139;(with_reducible refine(HN _ (HG.out.ext HX.out)).mono ?_);rintro e w2 ⟨rfl,hx2⟩;have HX':=hid (HX.out.trans hx2);clear HX hx2;have HX:=HX';clear HX')
   | (go_at_call 73;(with_reducible refine (HM _ (HG.out.gl.ext HX.out)).mono ?_);rintro e w2 ⟨rfl,hx2⟩;have HX':=hid (HX.out.trans hx2);clear HX hx2;have HX:=HX';clear HX'))
  go_ret2
  rw[HCD.out,HE.out]
  first|exact⟨rfl,HX.out⟩|exact⟨by rw[show str (m,(0:Int)).1=ms from HMS.out];rfl,HX.out⟩
end Go.Proofs.YtkjbokhnpphimaaGreatDoor
