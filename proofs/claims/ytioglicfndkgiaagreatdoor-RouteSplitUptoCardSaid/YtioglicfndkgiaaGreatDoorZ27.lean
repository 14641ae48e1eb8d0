/- Lemmas of the walk. -/
import Derived.Test.YtioglicfndkgiaaGreatDoorZ24
import Derived.Test.YtioglicfndkgiaaGreatDoorZ25
import Derived.Test.YtioglicfndkgiaaGreatDoorZ26
import Derived.Test.YtioglicfndkgiaaGreatDoorZ16
set_option maxHeartbeats 40000000
set_option linter.unusedVariables false
set_option linter.unusedSimpArgs false
namespace Go.Proofs.YtioglicfndkgiaaGreatDoor
open Go.RowKit
set_option maxRecDepth 100000
def zaO (s:List UInt8):List UInt8 × Bool:=match okL (zac s) with | []=>([],false) | _::t=>(za3 t,true)
def zck (w:World) (s:List UInt8) (e:Ending) (w':World):Prop:=e=.returned (.tuple #[.string (str (zaO s).1),.bool (zaO s).2])∧Ext w w'
theorem zhx (x:List UInt8) (t:List (List UInt8)):(za3 t).length≤(za3 (x::t)).length:=by
 cases t with
 | nil=>simp [za3]
 | cons y t=>rw [zeZ,zeZ,zlr];simp only [List.length_append,List.length_cons];omega
theorem zq6 (A:Option Addr) (n c l:Nat) (hlk:l≤n) (L:Int) (hL:L=l) :
 ∀ w,(Instr.sliceAt 55 (.slice A n c) (some (.int .i64 L)) none none).run Tryz.prog w=.ok (.slice (cutA A l c 1) (n-l) (c-l)) w:=by
 subst hL
 exact zmm A n c l hlk
theorem zed (s:ByteArray) (w:World) (hG:Gl w):Calls Tryz.prog 24 #[.string s] w (zck w (bys s)):=by
 have HPA:=zej s w hG
 unfold zbn at HPA
 have HD:Hid (zaO (bys s)=match okL (zac (bys s)) with | []=>([],false) | _::t=>(za3 t,true)):=rfl
 have HSM:=hid (zcY (bys s))
 have HCD:Hid (zck w (bys s)=fun e w'=>e=.returned (.tuple #[.string (str (zaO (bys s)).1),.bool (zaO (bys s)).2])∧Ext w w'):=rfl
 generalize okL (zac (bys s))=l at *
 generalize zap (zac (bys s))=cd at *
 generalize zaO (bys s)=q at *
 cases l with
 | nil=>
  simp only at HD
  go_enter Tryz.func24,Tryz.ntmps24
  go_wp2_with (go_at_call 50;(with_reducible refine HPA.mono ?_);rintro e w1 ⟨A1,n1,c1,rfl,hr1,hx1⟩;have HX1:=hid hx1;obtain rfl:n1=0:=hr1.len;clear hr1 hx1)
  go_ret2
  rw [HCD.out,HD.out]
  exact ⟨rfl,HX1.out⟩
 | cons x t=>
  simp only at HD
  have HJ:∀ A n c w',Row Elem.str (fun b=>w.heap.size≤b) w' A n c (strs (x::t))→Calls Tryz.prog 51 #[.slice (cutA A 1 c 1) (n-1) (c-1),.string ⟨#[44]⟩] w' fun e w''=>e=.returned (.string (str (za3 t)))∧Ext w' w'':=fun A n c w' hr=>by
   have hl:n=t.length+1:=by rw [hr.len];simp
   have hr2:=hr.tail (k:=1) (by omega)
   have e:(strs (x::t)).drop 1=strs t:=rfl
   rw [e] at hr2
   have:=zeN (strs t) ⟨#[44]⟩ hr2 (by rw [List.length_map];have:=HSM.out.1;simp only [List.length_cons] at this;omega) (by rw [zcV];show (Lib.join t [44]).length≤_;rw [zhk];have:=HSM.out.2;have:=zhx x t;omega)
   rwa [zde,show bys ⟨#[44]⟩=[44] from rfl,zhk] at this
  clear HSM
  go_enter Tryz.func24,Tryz.ntmps24
  go_wp2_with (first
   | (go_at_call 50;(with_reducible refine HPA.mono ?_);rintro e w1 ⟨A1,n1,c1,rfl,hr1,hx1⟩;have HX1:=hid hx1;have hl1:n1=t.length+1:=(by rw [hr1.len];simp);have t1:((n1:Int)==0)=false:=(by rw [beq_eq_false_iff_ne];omega);have hs1:=zq6 A1 n1 c1 1 (by omega) 1 rfl;have HJ1:=hid (HJ A1 n1 c1 w1 hr1);clear hx1 hr1 hl1)
   | (go_at_call 51;(with_reducible refine HJ1.out.mono ?_);rintro e w2 ⟨rfl,hx2⟩;have HX2:=hid hx2;clear hx2))
  go_ret2
  rw [HCD.out,HD.out]
  exact ⟨rfl,HX1.out.trans HX2.out⟩
def valZ (n v:List UInt8):List UInt8 × Int:=
 if (zar n).2≠5 then zbN n v else if v=[]∨200<v.length then ([],2) else if zap (zac v)≠0 then ([],2) else (zaG v,0)
def zbM (w:World) (n v:List UInt8) (e:Ending) (w':World):Prop:=e=.returned (.tuple #[.string (str (valZ n v).1),.int .i64 (valZ n v).2])∧Ext w w'
theorem zlx (n s:ByteArray) (w:World) (hG:Gl w) (hn:n.size≤4000000):Calls Tryz.prog 54 #[.string n,.string s] w (zbM w (bys n) (bys s)):=by
 have HG:=hid hG
 have HT:∀ w,Calls Tryz.prog 55 #[.string n] w (zaT w (bys n)):=fun w=>zeB n w (by simp only [maxLen];omega)
 have HN:∀ w,Gl w→Calls Tryz.prog 83 #[.string n,.string s] w (zbE w (bys n) (bys s)):=fun w hG=>zfb n s w hG hn
 have HM:∀ w,Gl w→Calls Tryz.prog 84 #[.string s] w (zaM w (bys s)):=fun w hG=>zjv s w hG
 have HD:Hid (valZ (bys n) (bys s)=if (zar (bys n)).2≠5 then zbN (bys n) (bys s) else if bys s=[]∨200<(bys s).length then ([],2) else if zap (zac (bys s))≠0 then ([],2) else (zaG (bys s),0)):=rfl
 have HCD:Hid (zbM w (bys n) (bys s)=fun e w'=>e=.returned (.tuple #[.string (str (valZ (bys n) (bys s)).1),.int .i64 (valZ (bys n) (bys s)).2])∧Ext w w'):=rfl
 unfold zaT at HT
 unfold zbE at HN
 unfold zaM at HM
 clear hG
 generalize valZ (bys n) (bys s)=r at *
 generalize zar (bys n)=p at *
 obtain ⟨t,k⟩:=p
 generalize zbN (bys n) (bys s)=q at *
 obtain ⟨q1,q2⟩:=q
 simp only at HT HD HN
 by_cases h5:k=5
 ·have t5:((k:Int) != 5)=false:=by rw [h5];rfl
  rw [if_neg (fun h=>h h5)] at HD
  by_cases hz:s.size=0
  ·have HE:Hid (r=([],2)):=by show _=_;rw [HD.out,if_pos (.inl (by rw [zbt hz];rfl))]
   have e1:(s.size:Int)<1:=by omega
   clear h5 hz HD
   go_enter Tryz.func54,Tryz.ntmps54
   go_wp2_with (first
    | (go_at_call 55;(with_reducible refine (HT _).mono ?_);rintro e w1 ⟨rfl,hx1⟩;have HX:=hid hx1;clear hx1)
    | (go_at_call 83;(with_reducible refine (HN _ (HG.out.ext HX.out)).mono ?_);rintro e w2 ⟨rfl,hx2⟩;have HX':=hid (HX.out.trans hx2);clear HX hx2;have HX:=HX';clear HX')
    | (go_at_call 84;(with_reducible refine (HM _ (HG.out.ext HX.out)).mono ?_);rintro e w2 ⟨rfl,hx2⟩;have HX':=hid (HX.out.trans hx2);clear HX hx2;have HX:=HX';clear HX'))
   go_ret2
   rw [HCD.out,HE.out]
   exact ⟨rfl,HX.out⟩
  ·have e1:decide ((s.size:Int)<1)=false:=by rw [decide_eq_false_iff_not];omega
   by_cases hl:200<s.size
   ·have HE:Hid (r=([],2)):=by show _=_;rw [HD.out,if_pos (.inr (by rw [zaf];exact hl))]
    have e2:200<(s.size:Int):=by omega
    clear h5 hz hl HD
    go_enter Tryz.func54,Tryz.ntmps54
    go_wp2_with (first
     | (go_at_call 55;(with_reducible refine (HT _).mono ?_);rintro e w1 ⟨rfl,hx1⟩;have HX:=hid hx1;clear hx1)
     | (go_at_call 83;(with_reducible refine (HN _ (HG.out.ext HX.out)).mono ?_);rintro e w2 ⟨rfl,hx2⟩;have HX':=hid (HX.out.trans hx2);clear HX hx2;have HX:=HX';clear HX')
     | (go_at_call 84;(with_reducible refine (HM _ (HG.out.ext HX.out)).mono ?_);rintro e w2 ⟨rfl,hx2⟩;have HX':=hid (HX.out.trans hx2);clear HX hx2;have HX:=HX';clear HX'))
    go_ret2
    rw [HCD.out,HE.out]
    exact ⟨rfl,HX.out⟩
   ·have e2:decide (200<(s.size:Int))=false:=by rw [decide_eq_false_iff_not];omega
    have hbs:¬ (bys s=[]∨200<(bys s).length):=by
     rw [zaf]
     rintro (h | h)
     ·exact hz (by rw [← zaf,h];rfl)
     ·exact hl h
    rw [if_neg hbs] at HD
    clear hbs hz hl h5
    generalize zap (zac (bys s))=cd at *
    by_cases hc:cd=0
    ·have e3:(cd != 0)=false:=by rw [hc];rfl
     have HE:Hid (r=(zaG (bys s),0)):=by show _=_;rw [HD.out,if_neg (fun h=>h hc)]
     clear HD hc
     go_enter Tryz.func54,Tryz.ntmps54
     go_wp2_with (first
      | (go_at_call 55;(with_reducible refine (HT _).mono ?_);rintro e w1 ⟨rfl,hx1⟩;have HX:=hid hx1;clear hx1)
      | (go_at_call 83;(with_reducible refine (HN _ (HG.out.ext HX.out)).mono ?_);rintro e w2 ⟨rfl,hx2⟩;have HX':=hid (HX.out.trans hx2);clear HX hx2;have HX:=HX';clear HX')
      | (go_at_call 84;(with_reducible refine (HM _ (HG.out.ext HX.out)).mono ?_);rintro e w2 ⟨rfl,hx2⟩;have HX':=hid (HX.out.trans hx2);clear HX hx2;have HX:=HX';clear HX'))
     go_ret2
     rw [HCD.out,HE.out]
     exact ⟨rfl,HX.out⟩
    ·have e3:(cd != 0)=true:=by rw [bne_iff_ne];exact hc
     have HE:Hid (r=([],2)):=by show _=_;rw [HD.out,if_pos hc]
     clear HD hc
     go_enter Tryz.func54,Tryz.ntmps54
     go_wp2_with (first
      | (go_at_call 55;(with_reducible refine (HT _).mono ?_);rintro e w1 ⟨rfl,hx1⟩;have HX:=hid hx1;clear hx1)
      | (go_at_call 83;(with_reducible refine (HN _ (HG.out.ext HX.out)).mono ?_);rintro e w2 ⟨rfl,hx2⟩;have HX':=hid (HX.out.trans hx2);clear HX hx2;have HX:=HX';clear HX')
      | (go_at_call 84;(with_reducible refine (HM _ (HG.out.ext HX.out)).mono ?_);rintro e w2 ⟨rfl,hx2⟩;have HX':=hid (HX.out.trans hx2);clear HX hx2;have HX:=HX';clear HX'))
     go_ret2
     rw [HCD.out,HE.out]
     exact ⟨rfl,HX.out⟩
 ·have t5:((k:Int) != 5)=true:=by rw [bne_iff_ne];omega
  have HE:Hid (r=(q1,q2)):=by show _=_;rw [HD.out,if_pos h5]
  clear h5 HD
  go_enter Tryz.func54,Tryz.ntmps54
  go_wp2_with (first
   | (go_at_call 55;(with_reducible refine (HT _).mono ?_);rintro e w1 ⟨rfl,hx1⟩;have HX:=hid hx1;clear hx1)
   | (go_at_call 83;(with_reducible refine (HN _ (HG.out.ext HX.out)).mono ?_);rintro e w2 ⟨rfl,hx2⟩;have HX':=hid (HX.out.trans hx2);clear HX hx2;have HX:=HX';clear HX')
   | (go_at_call 84;(with_reducible refine (HM _ (HG.out.ext HX.out)).mono ?_);rintro e w2 ⟨rfl,hx2⟩;have HX':=hid (HX.out.trans hx2);clear HX hx2;have HX:=HX';clear HX'))
  go_ret2
  rw [HCD.out,HE.out]
  exact ⟨rfl,HX.out⟩
def zfj (n m x:List UInt8):Bool:=(valZ n x).2==0 && decide ((valZ n x).1=m)
def hasZ (n v:List UInt8) (l:List ByteArray):Bool:=(valZ n v).2==0 && l.any fun x=>zfj n (valZ n v).1 (bys x)
theorem zlD {S:Nat→Prop} {A:Option Addr} {n c:Nat} {l:List ByteArray} {w:World} (h:Row Elem.str S w A n c l) (nm v:ByteArray) (hG:Gl w) (hn:nm.size≤4000000) :
 Calls Tryz.prog 27 #[.string nm,.slice A n c,.string v] w fun e w'=>e=.returned (.bool (hasZ (bys nm) (bys v) l))∧Ext w w':=by
 have HG:=hid hG
 have HR:=hid h
 have hl:=hid h.len
 have hnl:n≤9223372036854775807:=by have:=h.cap;have:=h.most;simp only [maxLen] at this;omega
 have HV:∀ x w,Gl w→Calls Tryz.prog 54 #[.string nm,.string x] w (zbM w (bys nm) (bys x)):=fun x w hG=>zlx nm x w hG hn
 unfold zbM at HV
 have HHD:Hid (hasZ (bys nm) (bys v) l=((valZ (bys nm) (bys v)).2==0 && l.any fun x=>zfj (bys nm) (valZ (bys nm) (bys v)).1 (bys x))):=rfl
 have HV0:=HV v
 clear hG h hn
 generalize hasZ (bys nm) (bys v) l=r at *
 generalize valZ (bys nm) (bys v)=q at *
 obtain ⟨q1,q2⟩:=q
 simp only at HV0 HHD
 by_cases k1:q2=0
 ·subst k1
  generalize hP:(fun x:ByteArray=>zfj (bys nm) q1 (bys x))=P at *
  have HP:∀ x:ByteArray,Hid (P x=((valZ (bys nm) (bys x)).2==0 && decide ((valZ (bys nm) (bys x)).1=q1))):=fun x=>by rw [← hP];rfl
  have HF:Hid (r=l.any P):=by show _=_;rw [HHD.out];rfl
  clear HHD hP
  go_enter Tryz.func27,Tryz.ntmps27
  go_wp2_with (go_at_call 54;(with_reducible refine (HV0 _ HG.out).mono ?_);rintro e w1 ⟨rfl,hx1⟩;have HX1:=hid hx1;clear hx1)
  go_loopw [22] (fun i wr=>∃ j:Nat,j≤n∧i=.int .i64 j∧Hid ((l.take j).any P=false)∧Hid (Ext w wr)) (fun i _=>n-(intOf i).toNat)
  case atStart=>exact ⟨0,by omega,rfl,by simp [Hid],HX1.out⟩
  case round=>
   obtain ⟨j,hj,rfl,Htk,hx⟩:=hrel
   by_cases hlt:j<n
   ·obtain ⟨b1,o1,rfl,c1⟩:=(HR.out.ext hx.out).str_cell (by omega)
    have e1:=c1 j hlt
    clear c1
    have g1:l[j]?=some (l[j]?.getD ByteArray.empty):=by have:=hl.out;rw [List.getElem?_eq_getElem (by omega)];simp
    have Hg:=hid g1
    clear g1
    generalize l[j]?.getD ByteArray.empty=x1 at *
    have HV1:=HV x1
    have HP1:=HP x1
    clear HP
    generalize valZ (bys nm) (bys x1)=y at *
    obtain ⟨y1,y2⟩:=y
    simp only at HV1 HP1
    have k1:(y2==0)=true∨(y2==0)=false:=by cases y2==0 <;> simp
    have k2:(y1==q1)=true∧Hid (decide (y1=q1)=true)∨(y1==q1)=false∧Hid (decide (y1=q1)=false):=by
     by_cases h:y1=q1
     ·exact .inl ⟨by rw [h];simp,decide_eq_true h⟩
     ·exact .inr ⟨beq_eq_false_iff_ne.2 h,decide_eq_false h⟩
    rcases k1 with k1 | k1 <;> rcases k2 with ⟨k2,HK2⟩ | ⟨k2,HK2⟩
    all_goals
     rw [k1,HK2.out] at HP1
     go_wp2_with (go_at_call 54;(with_reducible refine (HV1 _ (HG.out.ext hx.out)).mono ?_);rintro e w2 ⟨rfl,hx2⟩;have HX2:=hid (hx.out.trans hx2);clear hx2)
     first
      | (go_ret;exact ⟨by rw [HF.out,ziY Hg.out HP1.out];rfl,HX2.out⟩)
      | exact ⟨⟨j+1,by omega,by go_num,zdE Htk.out Hg.out HP1.out,HX2.out⟩,by simp [intOf];omega⟩
   ·obtain rfl:j=n:=by omega
    have h9:=Htk.out
    rw [List.take_of_length_le (Nat.le_of_eq hl.out.symm)] at h9
    have HF2:Hid (r=false):=by show _=_;rw [HF.out,h9]
    clear h9
    go_wp2
    go_ret
    exact ⟨by rw [HF2.out];rfl,hx.out⟩
 ·have k2:(q2 != 0)=true:=by rw [bne_iff_ne];exact k1
  have HF:Hid (r=false):=by show _=_;rw [HHD.out,show (q2==0)=false from beq_eq_false_iff_ne.2 k1];rfl
  clear HHD k1
  go_enter Tryz.func27,Tryz.ntmps27
  go_wp2_with (go_at_call 54;(with_reducible refine (HV0 _ HG.out).mono ?_);rintro e w1 ⟨rfl,hx1⟩;have HX1:=hid hx1;clear hx1)
  go_ret
  exact ⟨by rw [HF.out];rfl,HX1.out⟩
def zi8 (w:World) (n:List UInt8) (l:List Att) (e:Ending) (w':World):Prop:=∃ v,e=.returned v∧GrowS w w' v (za7 n l)
theorem zl8 {S:Nat→Prop} {A:Option Addr} {n c:Nat} {l:List Att} {w:World} (h:Row Elem.att S w A n c l) (nm dn:ByteArray) (hn:nm.size≤4000000) (hv:∀ a∈l,a.vals.length≤8796093022208) :
 Calls Tryz.prog 28 #[.agg #[.string dn,.slice A n c],.string nm] w (zi8 w (bys nm) l):=by
 have HT:∀ w,Calls Tryz.prog 55 #[.string nm] w (zaT w (bys nm)):=fun w=>zeB nm w (by simp only [maxLen];omega)
 unfold zaT at HT
 have hl:=hid h.len
 have hnl:n≤9223372036854775807:=by have:=h.cap;have:=h.most;simp only [maxLen] at this;omega
 have HV:=hid hv
 have HR:=hid h
 have HD:Hid (za7 (bys nm) l=((l.find? fun a=>decide (bys a.type=(zar (bys nm)).1∧(zar (bys nm)).1≠[])).map (·.vals)).getD []):=rfl
 unfold zi8
 clear h hv hn
 generalize hP:(fun a:Att=>decide (bys a.type=(zar (bys nm)).1∧(zar (bys nm)).1≠[]))=P at *
 have HP:∀ a:Att,Hid (decide (bys a.type=(zar (bys nm)).1∧(zar (bys nm)).1≠[])=P a):=fun a=>by rw [← hP];rfl
 clear hP
 generalize zar (bys nm)=tk at *
 obtain ⟨t,k⟩:=tk
 simp only at HT HP
 have HP2:∀ a:Att,Hid (decide (a.type=str t∧str t≠⟨#[]⟩)=P a):=fun a=>by
  rw [← (HP a).out]
  show _=_
  rw [Bool.eq_iff_iff,decide_eq_true_eq,decide_eq_true_eq]
  constructor
  ·rintro ⟨h1,h2⟩;exact ⟨by rw [h1,zao],fun e=>h2 (by (rw [e];try rfl))⟩
  ·rintro ⟨h1,h2⟩;exact ⟨by (rw [← h1];try rfl),fun e=>h2 (by have:=congrArg bys e;rw [zao] at this;exact this)⟩
 clear HP
 generalize str t=ts at *
 by_cases hts:ts.size=0
 ·have s2:=zcf hts
  have HF:Hid (za7 (bys nm) l=[]):=by
   show _=_
   rw [HD.out,List.find?_eq_none.2 (fun a ha=>by rw [← (HP2 a).out];have:ts=⟨#[]⟩:=(by rw [zbt hts];rfl);simp [this])]
   rfl
  clear hts
  go_enter Tryz.func28,Tryz.ntmps28
  go_wp2_with (go_at_call 55;(with_reducible refine (HT _).mono ?_);rintro e w1 ⟨rfl,hx1⟩;have HX1:=hid (Ext.trans (Ext.alloc _ _) hx1);clear hx1)
  go_ret
  exact ⟨_,rfl,by rw [HF.out];exact GrowS.nil HX1.out⟩
 have s2:=zdn hts
 have HNE:Hid (ts≠⟨#[]⟩):=fun e=>hts (by rw [e];rfl)
 clear hts
 go_enter Tryz.func28,Tryz.ntmps28
 go_wp2_with (go_at_call 55;(with_reducible refine (HT _).mono ?_);rintro e w1 ⟨rfl,hx1⟩;have HX1:=hid (Ext.trans (Ext.alloc _ _) hx1);have HB1:=hid ((Bx.make (Ext.refl w) #[.string dn,.slice A n c] 44).later hx1);have p1:=HB1.out.cell (i:=1) rfl;clear hx1)
 go_loopw [18] (fun i wr=>∃ j:Nat,j≤n∧i=.int .i64 j∧Hid ((l.take j).find? P=none)∧Hid (Bx w wr w.heap.size 44 #[.string dn,.slice A n c])) (fun i _=>n-(intOf i).toNat)
 case atStart=>exact ⟨0,by omega,rfl,by simp [Hid],HB1.out⟩
 case round=>
  obtain ⟨j,hj,rfl,Htk,HB⟩:=hrel
  have p1:=HB.out.cell (i:=1) rfl
  by_cases hlt:j<n
  ·obtain ⟨b1,o1,v1,x1,rfl,g1,-,⟨A1,n1,c1,rfl,r1⟩,q1⟩:=(HR.out.ext HB.out.ext).at_ hlt
   have e10:=q1 0 _ rfl
   have e11:=q1 1 _ rfl
   simp only [Elem.att,Nat.add_zero] at e10 e11
   have R1:=hid r1
   clear q1 r1
   have Hg:=hid g1
   have HL1:=hid (HV.out x1 (List.mem_of_getElem? g1))
   clear g1
   by_cases he:x1.type=ts
   ·have HPT:Hid (P x1=true):=by show _=_;rw [← (HP2 x1).out];exact decide_eq_true ⟨he,HNE.out⟩
    have s1:=zes he
    have HF:Hid (za7 (bys nm) l=x1.vals):=by show _=_;rw [HD.out,zl0 Htk.out Hg.out HPT.out];rfl
    clear he
    have HG7:Hid (GrowS wr (wr.alloc (.cells #[] 9)) (.slice (some ⟨wr.heap.size,0,none⟩) 0 0) []):=⟨zfI wr _ (Nat.le_refl _) _ _,Ext.alloc _ _⟩
    have p1':=zaa p1 _ (Ext.alloc wr (.cells #[] 9))
    have e11':=zaa e11 _ (Ext.alloc wr (.cells #[] 9))
    go_wp2_with (at_builtin;refine zfv rfl _ _ rfl _ [] rfl HG7.out A1 n1 c1 x1.vals rfl R1.out.len ((R1.out.ext HG7.out.ext).str_cells) (by have h1:=R1.out.len;have h2:=HL1.out;simp only [List.length_nil];omega) ?_;intro v8 w8 hg8;have HG8:=hid hg8;clear hg8)
    go_ret
    exact ⟨_,rfl,by rw [HF.out];have h:=HG8.out;rw [List.nil_append] at h;exact ⟨zf1 h.own (zaD HB.out.ext),HB.out.ext.trans h.ext⟩⟩
   ·have HPT:Hid (P x1=false):=by show _=_;rw [← (HP2 x1).out];exact decide_eq_false (fun h=>he h.1)
    have s1:=zd9 he
    clear he
    go_wp2
    exact ⟨⟨j+1,by omega,by go_num,zcB Htk.out Hg.out HPT.out,HB⟩,by simp [intOf];omega⟩
  ·obtain rfl:j=n:=by omega
   have h9:=Htk.out
   rw [List.take_of_length_le (Nat.le_of_eq hl.out.symm)] at h9
   have HF:Hid (za7 (bys nm) l=[]):=by show _=_;rw [HD.out,h9];rfl
   clear h9
   go_wp2
   go_ret
   exact ⟨_,rfl,by rw [HF.out];exact GrowS.nil HB.out.ext⟩
theorem zqF {S:Nat→Prop} {A:Option Addr} {n c:Nat} {l:List Att} {w:World} (h:Row Elem.att S w A n c l) (nm dn v:ByteArray) (hG:Gl w) (hn:nm.size≤4000000) (hv:∀ a∈l,a.vals.length≤8796093022208) :
 Calls Tryz.prog 14 #[.agg #[.string dn,.slice A n c],.string nm,.string v] w fun e w'=>e=.returned (.bool (hasZ (bys nm) (bys v) (za7 (bys nm) l)))∧Ext w w':=by
 have HV:∀ w',Ext w w'→Calls Tryz.prog 28 #[.agg #[.string dn,.slice A n c],.string nm] w' (zi8 w' (bys nm) l):=fun w' hx=>zl8 (h.ext hx) nm dn hn hv
 unfold zi8 at HV
 have HF:∀ (T:Nat→Prop) B m d w',Ext w w'→Row Elem.str T w' B m d (za7 (bys nm) l)→Calls Tryz.prog 27 #[.string nm,.slice B m d,.string v] w' fun e w''=>e=.returned (.bool (hasZ (bys nm) (bys v) (za7 (bys nm) l)))∧Ext w' w'':=
  fun T B m d w' hx hr=>zlD hr nm v (hG.ext hx) hn
 clear hG hn hv h
 generalize hasZ (bys nm) (bys v) (za7 (bys nm) l)=r at *
 generalize za7 (bys nm) l=q at *
 go_enter Tryz.func14,Tryz.ntmps14
 go_wp2_with (first
  | (go_at_call 28;(with_reducible refine (HV _ (Ext.alloc _ _)).mono ?_);rintro e w1 ⟨v1,rfl,hg1⟩;obtain ⟨A1,c1,rfl,hr1⟩:=hg1.row;have HR1:=hid hr1;have HX1:=hid (Ext.trans (Ext.alloc _ _) hg1.ext);clear hr1 hg1)
  | (go_at_call 27;(with_reducible refine (HF _ _ _ _ _ HX1.out HR1.out).mono ?_);rintro e w2 ⟨rfl,hx2⟩;have HX2:=hid hx2;clear hx2))
 go_ret
 exact ⟨rfl,HX1.out.trans HX2.out⟩
end Go.Proofs.YtioglicfndkgiaaGreatDoor
