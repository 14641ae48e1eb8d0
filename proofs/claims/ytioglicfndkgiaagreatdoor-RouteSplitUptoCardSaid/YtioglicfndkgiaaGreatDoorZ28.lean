/- Lemmas of the walk. -/
import Derived.Test.YtioglicfndkgiaaGreatDoorZ14
import Derived.Test.YtioglicfndkgiaaGreatDoorZ25
import Derived.Test.YtioglicfndkgiaaGreatDoorZ27
import Derived.Test.YtioglicfndkgiaaGreatDoorZ15
import Derived.Test.YtioglicfndkgiaaGreatDoorZ26
import Derived.Test.YtioglicfndkgiaaGreatDoorZ11
set_option maxHeartbeats 40000000
set_option linter.unusedVariables false
set_option linter.unusedSimpArgs false
namespace Go.Proofs.YtioglicfndkgiaaGreatDoor
open Go.RowKit
set_option maxRecDepth 100000
theorem zlV (s:ByteArray) (w:World) (hG:Gu w) (hs:s.size≤3000000) :
 Calls Tryz.prog 119 #[.int .i64 4,.string s] w fun e w'=>e=.returned (.tuple #[.string s,.bool (za1 (bys s)).isSome])∧Ext w w':=by
 have hP:=zoG s w hG hs
 unfold zfR at hP
 rw [← zn0 (bys s)] at hP
 clear hG hs
 cases hb:(za1 (bys s)).isSome
 all_goals
  rw [hb] at hP
  clear hb
  simp only [if_true,if_false,Bool.false_eq_true] at hP
  go_enter Tryz.func119,Tryz.ntmps119
  go_wp2_with (go_at_call 152;(with_reducible refine hP.mono ?_);rintro e w1 ⟨x,y,rfl,hx1⟩;have HX1:=hid hx1;clear hx1)
  go_ret2
  exact ⟨rfl,HX1.out⟩
theorem zmg {s:ByteArray} (h:¬ 200<s.size):s.size≤3000000:=by omega
theorem zmf (n s:ByteArray) (w:World) (hG:Gu w) (hn:n.size≤4000000):Calls Tryz.prog 96 #[.string n,.string s] w (zbE w (bys n) (bys s)):=by
 by_cases h4:(zar (bys n)).2=4
 ·have HG:=hid hG
  have HT:∀ w,Calls Tryz.prog 61 #[.string n] w (zaT w (bys n)):=fun w=>zdg n w (by simp only [maxLen];omega)
  have HN:Hid (zbN (bys n) (bys s)=if bys s=[]∨200<(bys s).length then ([],2) else if (za1 (bys s)).isSome then (bys s,0) else ([],2)):=by show _=_;unfold zbN;rw [if_pos h4]
  have HCD:Hid (zbE w (bys n) (bys s)=fun e w'=>e=.returned (.tuple #[.string (str (zbN (bys n) (bys s)).1),.int .i64 (zbN (bys n) (bys s)).2])∧Ext w w'):=rfl
  unfold zaT at HT
  generalize zbN (bys n) (bys s)=r at *
  generalize zar (bys n)=p at *
  obtain ⟨t,k⟩:=p
  have k4:k=4:=h4
  subst k4
  have k4:=True.intro
  simp only at HT
  clear h4 hG
  by_cases hz:s.size=0
  ·have HE:Hid (r=([],2)):=by show _=_;rw [HN.out,if_pos (.inl (by rw [zbt hz];rfl))]
   have e1:=zcf hz
   have HS:∀ w,Gu w→True:=fun _ _=>trivial
   clear hz
   clear k4 HN
   go_enter Tryz.func96,Tryz.ntmps96
   go_wp2_with (first
    | (go_at_call 61;(with_reducible refine (HT _).mono ?_);rintro e w1 ⟨rfl,hx1⟩;have HX1:=hid hx1;clear hx1)
    | (go_at_call 119;(with_reducible refine (HS _ (HG.out.ext HX1.out)).mono ?_);rintro e w2 ⟨rfl,hx2⟩;have HX2:=hid (HX1.out.trans hx2);clear hx2))
   go_ret2
   rw [HCD.out,HE.out]
   exact ⟨rfl,HX1.out⟩
  ·have e1:=zdn hz
   by_cases hl:200<s.size
   ·have HE:Hid (r=([],2)):=by show _=_;rw [HN.out,if_pos (.inr (by rw [zaf];exact hl))]
    have e2:200<(s.size:Int):=by omega
    have HS:∀ w,Gu w→True:=fun _ _=>trivial
    clear hz hl
    clear k4 HN
    go_enter Tryz.func96,Tryz.ntmps96
    go_wp2_with (first
     | (go_at_call 61;(with_reducible refine (HT _).mono ?_);rintro e w1 ⟨rfl,hx1⟩;have HX1:=hid hx1;clear hx1)
     | (go_at_call 119;(with_reducible refine (HS _ (HG.out.ext HX1.out)).mono ?_);rintro e w2 ⟨rfl,hx2⟩;have HX2:=hid (HX1.out.trans hx2);clear hx2))
    go_ret2
    rw [HCD.out,HE.out]
    exact ⟨rfl,HX1.out⟩
   ·have e2:decide (200<(s.size:Int))=false:=by rw [decide_eq_false_iff_not];omega
    have hbs:¬ (bys s=[]∨200<(bys s).length):=by
     rw [zaf]
     rintro (h | h)
     ·exact hz (by rw [← zaf,h];rfl)
     ·exact hl h
    have HS:∀ w,Gu w→Calls Tryz.prog 119 #[.int .i64 4,.string s] w fun e w'=>e=.returned (.tuple #[.string s,.bool (za1 (bys s)).isSome])∧Ext w w':=fun w hG=>zlV s w hG (zmg hl)
    have HE:Hid (r=if (za1 (bys s)).isSome then (bys s,0) else ([],2)):=by show _=_;rw [HN.out,if_neg hbs]
    clear hz hl hbs
    cases hb:(za1 (bys s)).isSome
    ·rw [hb] at HS HE
     clear hb
     simp only [if_false,Bool.false_eq_true] at HE
     clear k4 HN
     go_enter Tryz.func96,Tryz.ntmps96
     go_wp2_with (first
      | (go_at_call 61;(with_reducible refine (HT _).mono ?_);rintro e w1 ⟨rfl,hx1⟩;have HX1:=hid hx1;clear hx1)
      | (go_at_call 119;(with_reducible refine (HS _ (HG.out.ext HX1.out)).mono ?_);rintro e w2 ⟨rfl,hx2⟩;have HX2:=hid (HX1.out.trans hx2);clear hx2))
     go_ret2
     rw [HCD.out,HE.out]
     exact ⟨rfl,HX2.out⟩
    ·rw [hb] at HS HE
     clear hb
     simp only [if_true] at HE
     clear k4 HN
     go_enter Tryz.func96,Tryz.ntmps96
     go_wp2_with (first
      | (go_at_call 61;(with_reducible refine (HT _).mono ?_);rintro e w1 ⟨rfl,hx1⟩;have HX1:=hid hx1;clear hx1)
      | (go_at_call 119;(with_reducible refine (HS _ (HG.out.ext HX1.out)).mono ?_);rintro e w2 ⟨rfl,hx2⟩;have HX2:=hid (HX1.out.trans hx2);clear hx2))
     go_ret2
     rw [HCD.out,HE.out,zaN]
     exact ⟨rfl,HX2.out⟩
 ·refine (zeF n s w hG.gl hn h4).mono fun e w' h=>?_
  have hz:zbN (bys n) (bys s)=zbW (bys n) (bys s):=by unfold zbN;rw [if_neg h4]
  unfold zbE
  rw [hz]
  exact h
theorem zrc {s:List UInt8} {l:List (List UInt8)} (h:zac s=.ok l) (hs:s≠[]):l≠[]:=by
 unfold zac at h
 by_cases h1:1000<s.length
 ·rw [if_pos h1] at h;cases h
 rw [if_neg h1,if_neg hs] at h
 by_cases h3:12<(splitF 44 [] s).length
 ·rw [if_pos h3] at h;cases h
 rw [if_neg h3] at h
 cases hm:(splitF 44 [] s).mapM zbk with
 | none=>rw [hm] at h;cases h
 | some k=>
  rw [hm] at h
  simp only at h
  by_cases h4:1000<(za3 (k.map fun p=>zb7 (zbd p))).length
  ·rw [if_pos h4] at h;cases h
  rw [if_neg h4] at h
  injection h with h
  obtain ⟨hk1,hk2⟩:=zgU hm
  have hlen:=(zbA 44 s.length [] s (Nat.le_refl _)).2.1
  rintro rfl
  have:=congrArg List.length h
  simp at this
  rw [this] at hk2
  simp at hk2
  omega
theorem zo9 {s:List UInt8} (hs:s≠[]) (hc:zap (zac s)=0):zaG s≠[]:=by
 unfold zaG
 cases hp:zac s with
 | error e=>rw [hp] at hc;cases e <;> cases hc
 | ok l=>
  show za3 l≠[]
  intro e
  have h1:=zlO hp
  rw [e] at h1
  have h2:zac []=.ok []:=rfl
  rw [h2] at h1
  injection h1 with h1
  exact zrc hp hs h1.symm
theorem zio:zaG []=[]∧zap (zac [])=0:=⟨rfl,rfl⟩
theorem zdc (n s:ByteArray) (w:World) (hG:Gu w) (hn:n.size≤4000000):Calls Tryz.prog 67 #[.string n,.string s] w (zbM w (bys n) (bys s)):=by
 have HG:=hid hG
 have HT:∀ w,Calls Tryz.prog 61 #[.string n] w (zaT w (bys n)):=fun w=>zdg n w (by simp only [maxLen];omega)
 have HN:∀ w,Gu w→Calls Tryz.prog 96 #[.string n,.string s] w (zbE w (bys n) (bys s)):=fun w hG=>zmf n s w hG hn
 have HM:∀ w,Gl w→Calls Tryz.prog 25 #[.string s] w (zaM w (bys s)):=fun w hG=>zbx s w hG
 have HD:Hid (valZ (bys n) (bys s)=if (zar (bys n)).2≠5 then zbN (bys n) (bys s) else if bys s=[]∨200<(bys s).length then ([],2) else if zap (zac (bys s))≠0 then ([],2) else (zaG (bys s),0)):=rfl
 have HCD:Hid (zbM w (bys n) (bys s)=fun e w'=>e=.returned (.tuple #[.string (str (valZ (bys n) (bys s)).1),.int .i64 (valZ (bys n) (bys s)).2])∧Ext w w'):=rfl
 have HNE:=hid (@zo9 (bys s))
 unfold zaT at HT
 unfold zbE at HN
 unfold zaM at HM
 clear hG
 generalize valZ (bys n) (bys s)=r at *
 generalize zar (bys n)=p at *
 obtain ⟨t,k⟩:=p
 generalize zbN (bys n) (bys s)=q at *
 obtain ⟨q1,q2⟩:=q
 simp only at HT HD HN
 by_cases h5:k=5
 ·have t5:((k:Int) != 5)=false:=by rw [h5];rfl
  rw [if_neg (fun h=>h h5)] at HD
  by_cases hz:s.size=0
  ·have HE:Hid (r=([],2)):=by show _=_;rw [HD.out,if_pos (.inl (by rw [zbt hz];rfl))]
   have hs:bys s=[]:=by rw [zbt hz];rfl
   rw [hs,zio.1,zio.2] at HM
   have e0:(str []).toList.isEmpty=true:=by rw [ByteArray.toList_eq];rfl
   have e1:decide ((200:Int)<(s.size:Int))=false:=by rw [decide_eq_false_iff_not];omega
   clear h5 hz HD HNE
   go_enter Tryz.func67,Tryz.ntmps67
   go_wp2_with (first
    | (go_at_call 61;(with_reducible refine (HT _).mono ?_);rintro e w1 ⟨rfl,hx1⟩;have HX:=hid hx1;clear hx1)
    | (go_at_call 96;(with_reducible refine (HN _ (HG.out.ext HX.out)).mono ?_);rintro e w2 ⟨rfl,hx2⟩;have HX':=hid (HX.out.trans hx2);clear HX hx2;have HX:=HX';clear HX')
    | (go_at_call 25;(with_reducible refine (HM _ (HG.out.gl.ext HX.out)).mono ?_);rintro e w2 ⟨rfl,hx2⟩;have HX':=hid (HX.out.trans hx2);clear HX hx2;have HX:=HX';clear HX'))
   go_ret2
   rw [HCD.out,HE.out]
   first | exact ⟨rfl,HX.out⟩ | exact ⟨by rw [show str (m,(0:Int)).1=ms from HMS.out];rfl,HX.out⟩
  ·have hne:bys s≠[]:=by intro h;exact hz (by rw [← zaf,h];rfl)
   by_cases hc:zap (zac (bys s))=0
   ·have hnn:=HNE.out hne hc
    rw [hc] at HM HD
    generalize zaG (bys s)=m at *
    obtain ⟨ms,hms⟩:∃ ms,str m=ms:=⟨_,rfl⟩
    have e0:ms.toList.isEmpty=false:=zmV (by rw [← hms,zaL];exact List.length_pos_iff.2 hnn)
    rw [hms] at HM
    have HMS:=hid hms
    clear hms
    by_cases hl:200<s.size
    ·have HE:Hid (r=([],2)):=by show _=_;rw [HD.out,if_pos (.inr (by rw [zaf];exact hl))]
     have e2:200<(s.size:Int):=by omega
     clear h5 hz hl HD hnn hne hc HNE
     go_enter Tryz.func67,Tryz.ntmps67
     go_wp2_with (first
      | (go_at_call 61;(with_reducible refine (HT _).mono ?_);rintro e w1 ⟨rfl,hx1⟩;have HX:=hid hx1;clear hx1)
      | (go_at_call 96;(with_reducible refine (HN _ (HG.out.ext HX.out)).mono ?_);rintro e w2 ⟨rfl,hx2⟩;have HX':=hid (HX.out.trans hx2);clear HX hx2;have HX:=HX';clear HX')
      | (go_at_call 25;(with_reducible refine (HM _ (HG.out.gl.ext HX.out)).mono ?_);rintro e w2 ⟨rfl,hx2⟩;have HX':=hid (HX.out.trans hx2);clear HX hx2;have HX:=HX';clear HX'))
     go_ret2
     rw [HCD.out,HE.out]
     first | exact ⟨rfl,HX.out⟩ | exact ⟨by rw [show str (m,(0:Int)).1=ms from HMS.out];rfl,HX.out⟩
    ·have e2:decide (200<(s.size:Int))=false:=by rw [decide_eq_false_iff_not];omega
     have hbs:¬ (bys s=[]∨200<(bys s).length):=by
      rw [zaf]
      rintro (h | h)
      ·exact hne h
      ·exact hl h
     have HE:Hid (r=(m,0)):=by show _=_;rw [HD.out,if_neg hbs,if_neg (fun h=>h rfl)]
     clear h5 hz hl HD hnn hne hc HNE hbs
     go_enter Tryz.func67,Tryz.ntmps67
     go_wp2_with (first
      | (go_at_call 61;(with_reducible refine (HT _).mono ?_);rintro e w1 ⟨rfl,hx1⟩;have HX:=hid hx1;clear hx1)
      | (go_at_call 96;(with_reducible refine (HN _ (HG.out.ext HX.out)).mono ?_);rintro e w2 ⟨rfl,hx2⟩;have HX':=hid (HX.out.trans hx2);clear HX hx2;have HX:=HX';clear HX')
      | (go_at_call 25;(with_reducible refine (HM _ (HG.out.gl.ext HX.out)).mono ?_);rintro e w2 ⟨rfl,hx2⟩;have HX':=hid (HX.out.trans hx2);clear HX hx2;have HX:=HX';clear HX'))
     go_ret2
     rw [HCD.out,HE.out]
     first | exact ⟨rfl,HX.out⟩ | exact ⟨by rw [show str (m,(0:Int)).1=ms from HMS.out];rfl,HX.out⟩
   ·have e3:(zap (zac (bys s)) != 0)=true:=by rw [bne_iff_ne];exact hc
    have HE:Hid (r=([],2)):=by
     show _=_
     rw [HD.out]
     by_cases hb:bys s=[]∨200<(bys s).length
     ·rw [if_pos hb]
     ·rw [if_neg hb,if_pos hc]
    generalize zap (zac (bys s))=cd at *
    generalize zaG (bys s)=m at *
    clear h5 hz HD hne hc HNE
    go_enter Tryz.func67,Tryz.ntmps67
    go_wp2_with (first
     | (go_at_call 61;(with_reducible refine (HT _).mono ?_);rintro e w1 ⟨rfl,hx1⟩;have HX:=hid hx1;clear hx1)
     | (go_at_call 96;(with_reducible refine (HN _ (HG.out.ext HX.out)).mono ?_);rintro e w2 ⟨rfl,hx2⟩;have HX':=hid (HX.out.trans hx2);clear HX hx2;have HX:=HX';clear HX')
     | (go_at_call 25;(with_reducible refine (HM _ (HG.out.gl.ext HX.out)).mono ?_);rintro e w2 ⟨rfl,hx2⟩;have HX':=hid (HX.out.trans hx2);clear HX hx2;have HX:=HX';clear HX'))
    go_ret2
    rw [HCD.out,HE.out]
    first | exact ⟨rfl,HX.out⟩ | exact ⟨by rw [show str (m,(0:Int)).1=ms from HMS.out];rfl,HX.out⟩
 ·have t5:((k:Int) != 5)=true:=by rw [bne_iff_ne];omega
  have HE:Hid (r=(q1,q2)):=by show _=_;rw [HD.out,if_pos h5]
  clear h5 HD HNE HM
  have HM:∀ w,Gl w→True:=fun _ _=>trivial
  go_enter Tryz.func67,Tryz.ntmps67
  go_wp2_with (first
   | (go_at_call 61;(with_reducible refine (HT _).mono ?_);rintro e w1 ⟨rfl,hx1⟩;have HX:=hid hx1;clear hx1)
   | (go_at_call 96;(with_reducible refine (HN _ (HG.out.ext HX.out)).mono ?_);rintro e w2 ⟨rfl,hx2⟩;have HX':=hid (HX.out.trans hx2);clear HX hx2;have HX:=HX';clear HX')
   | (go_at_call 25;(with_reducible refine (HM _ (HG.out.gl.ext HX.out)).mono ?_);rintro e w2 ⟨rfl,hx2⟩;have HX':=hid (HX.out.trans hx2);clear HX hx2;have HX:=HX';clear HX'))
  go_ret2
  rw [HCD.out,HE.out]
  first | exact ⟨rfl,HX.out⟩ | exact ⟨by rw [show str (m,(0:Int)).1=ms from HMS.out];rfl,HX.out⟩
def Idx {α:Type} (P:α→Bool) (l:List α) (r:Int):Prop:=(r = -1∧l.any P=false)∨∃ k:Nat,r=k∧(l.take k).any P=false∧∃ x,l[k]?=some x∧P x=true
def zqk (n v:List UInt8) (x:ByteArray):Bool:=(valZ n v).2==0 && zfj n (valZ n v).1 (bys x)
theorem zst {α:Type} (a:Bool) (p:α→Bool) (l:List α):(l.any fun x=>a && p x)=(a && l.any p):=by
 induction l with
 | nil=>simp
 | cons x t ih=>simp only [List.any_cons,ih];cases a <;> rfl
theorem zjJ (n v:List UInt8) (l:List ByteArray):l.any (zqk n v)=hasZ n v l:=zst _ _ l
theorem Idx.has {α:Type} {P:α→Bool} {l:List α} {r:Int} (h:Idx P l r):decide (0≤r)=l.any P:=by
 rcases h with ⟨rfl,h⟩ | ⟨k,rfl,-,x,hx,hp⟩
 ·rw [h];rfl
 ·rw [ziY hx hp];exact decide_eq_true (by omega)
theorem znG (n m x:ByteArray) (g1 g2:Nat) (w:World) (hG:Gu w) (hn:n.size≤4000000) 
 (hc1:w.cell? ⟨g1,0,none⟩=some (.string n)) (hc2:w.cell? ⟨g2,0,none⟩=some (.string m)) :
 Calls Tryz.prog 82 #[.string x,.pointer (some ⟨g1,0,none⟩),.pointer (some ⟨g2,0,none⟩)] w fun e w'=>e=.returned (.bool (zfj (bys n) (bys m) (bys x)))∧Ext w w':=by
 have HG:=hid hG
 have HV:∀ w,Gu w→Calls Tryz.prog 67 #[.string n,.string x] w (zbM w (bys n) (bys x)):=fun w hG=>zdc n x w hG hn
 unfold zbM at HV
 have HLD:Hid (zfj (bys n) (bys m) (bys x)=((valZ (bys n) (bys x)).2==0 && decide ((valZ (bys n) (bys x)).1=bys m))):=rfl
 have HC2:=hid hc2
 clear hG hn hc2
 generalize zfj (bys n) (bys m) (bys x)=r at *
 generalize valZ (bys n) (bys x)=q at *
 obtain ⟨q1,q2⟩:=q
 simp only at HV HLD
 have k1:(q2==0)=true∨(q2==0)=false:=by cases q2==0 <;> simp
 have k2:((str q1).toList==m.toList)=true∧Hid (decide (q1=bys m)=true)∨((str q1).toList==m.toList)=false∧Hid (decide (q1=bys m)=false):=by
  by_cases h:str q1=m
  ·exact .inl ⟨zes h,decide_eq_true (by rw [← h,zao])⟩
  ·exact .inr ⟨zd9 h,decide_eq_false (fun e=>h (by rw [e,zmr]))⟩
 rcases k1 with k1 | k1 <;> rcases k2 with ⟨k2,HK2⟩ | ⟨k2,HK2⟩
 all_goals
  rw [k1,HK2.out] at HLD
  generalize str q1=qs at *
  go_enter Tryz.func82,Tryz.ntmps82
  go_wp2_with (go_at_call 67;(with_reducible refine (HV _ HG.out).mono ?_);rintro e w1 ⟨rfl,hx1⟩;have HX1:=hid hx1;have hc3:=zaa HC2.out _ hx1;clear hx1)
  go_ret
  exact ⟨by rw [HLD.out];rfl,HX1.out⟩
theorem zh6 {S:Nat→Prop} {A:Option Addr} {n c:Nat} {l:List ByteArray} {w:World} (h:Row Elem.str S w A n c l) (nm m:ByteArray) (g1 g2:Nat) (hG:Gu w) (hn:nm.size≤4000000) 
 (hc1:w.cell? ⟨g1,0,none⟩=some (.string nm)) (hc2:w.cell? ⟨g2,0,none⟩=some (.string m)) :
 Calls Tryz.prog 68 #[.slice A n c,.func (.func 82) #[] #[.pointer (some ⟨g1,0,none⟩),.pointer (some ⟨g2,0,none⟩)]] w fun e w'=>
  ∃ r:Int,e=.returned (.int .i64 r)∧Idx (fun x=>zfj (bys nm) (bys m) (bys x)) l r∧Ext w w':=by
 have hl:=hid h.len
 have hnl:n≤9223372036854775807:=by have:=h.cap;have:=h.most;simp only [maxLen] at this;omega
 have HC:∀ x wr,Ext w wr→Calls Tryz.prog 82 #[.string x,.pointer (some ⟨g1,0,none⟩),.pointer (some ⟨g2,0,none⟩)] wr fun e w'=>e=.returned (.bool (zfj (bys nm) (bys m) (bys x)))∧Ext wr w':=
  fun x wr hx=>znG nm m x g1 g2 wr (hG.ext hx) hn (zaa hc1 _ hx) (zaa hc2 _ hx)
 clear hG hn hc1 hc2
 generalize hP:(fun x:ByteArray=>zfj (bys nm) (bys m) (bys x))=P at *
 have HC2:∀ x wr,Ext w wr→Calls Tryz.prog 82 #[.string x,.pointer (some ⟨g1,0,none⟩),.pointer (some ⟨g2,0,none⟩)] wr fun e w'=>e=.returned (.bool (P x))∧Ext wr w':=fun x wr hx=>by rw [← hP];exact HC x wr hx
 clear hP HC
 go_enter Tryz.func68,Tryz.ntmps68
 go_wp2
 go_loopw [8] (fun i wr=>∃ j:Nat,j≤n∧i=.int .i64 j∧Hid ((l.take j).any P=false)∧Hid (Ext w wr)) (fun i _=>n-(intOf i).toNat)
 case atStart=>exact ⟨0,by omega,rfl,by simp [Hid],Ext.refl w⟩
 case round=>
  obtain ⟨j,hj,rfl,Htk,hx⟩:=hrel
  by_cases hlt:j<n
  ·obtain ⟨b1,o1,rfl,c1⟩:=(h.ext hx.out).str_cell (by omega)
   have e1:=c1 j hlt
   clear c1
   have g1:l[j]?=some (l[j]?.getD ByteArray.empty):=by have:=hl.out;rw [List.getElem?_eq_getElem (by omega)];simp
   have Hg:=hid g1
   clear g1
   generalize l[j]?.getD ByteArray.empty=x1 at *
   cases hp:P x1
   ·have Hp:=hid hp
    clear hp
    go_wp2_with (go_at_call 82;(with_reducible refine (HC2 _ _ hx.out).mono ?_);rintro e w1 ⟨he,hx1⟩;rw [Hp.out] at he;subst he;have HX1:=hid hx1;clear hx1)
    exact ⟨⟨j+1,by omega,by go_num,zdE Htk.out Hg.out Hp.out,hx.out.trans HX1.out⟩,by simp [intOf];omega⟩
   ·have Hp:=hid hp
    clear hp
    go_wp2_with (go_at_call 82;(with_reducible refine (HC2 _ _ hx.out).mono ?_);rintro e w1 ⟨he,hx1⟩;rw [Hp.out] at he;subst he;have HX1:=hid hx1;clear hx1)
    go_ret
    exact ⟨_,rfl,.inr ⟨j,rfl,Htk.out,_,Hg.out,Hp.out⟩,hx.out.trans HX1.out⟩
  ·obtain rfl:j=n:=by omega
   go_wp2
   go_ret
   have h9:=Htk.out
   rw [List.take_of_length_le (Nat.le_of_eq hl.out.symm)] at h9
   exact ⟨_,rfl,.inl ⟨rfl,h9⟩,hx.out⟩
theorem zhZ {S:Nat→Prop} {A:Option Addr} {n c:Nat} {l:List ByteArray} {w:World} (h:Row Elem.str S w A n c l) (nm v:ByteArray) (hG:Gu w) (hn:nm.size≤4000000)  :
 Calls Tryz.prog 52 #[.string nm,.slice A n c,.string v] w fun e w'=>∃ r:Int,e=.returned (.int .i64 r)∧Idx (zqk (bys nm) (bys v)) l r∧Ext w w':=by
 have HG:=hid hG
 have HR:=hid h
 have HV:∀ w,Gu w→Calls Tryz.prog 67 #[.string nm,.string v] w (zbM w (bys nm) (bys v)):=fun w hG=>zdc nm v w hG hn
 unfold zbM at HV
 have HI:∀ (m:ByteArray) g1 g2 w1,Ext w w1→w1.cell? ⟨g1,0,none⟩=some (.string nm)→w1.cell? ⟨g2,0,none⟩=some (.string m) →
  Calls Tryz.prog 68 #[.slice A n c,.func (.func 82) #[] #[.pointer (some ⟨g1,0,none⟩),.pointer (some ⟨g2,0,none⟩)]] w1 fun e w'=>
  ∃ r:Int,e=.returned (.int .i64 r)∧Idx (fun x=>zfj (bys nm) (bys m) (bys x)) l r∧Ext w1 w':=fun m g1 g2 w1 hx a b=>zh6 (h.ext hx) nm m g1 g2 (hG.ext hx) hn a b
 have HHD:Hid (zqk (bys nm) (bys v)=fun x=>((valZ (bys nm) (bys v)).2==0 && zfj (bys nm) (valZ (bys nm) (bys v)).1 (bys x))):=rfl
 have hmf:∀ (fn:Fn) (first cap:Array Value) (w:World),(Instr.makeFunc fn first cap).run Tryz.prog w=.ok (.func fn first cap) w:=fun _ _ _ _=>rfl
 clear hG h hn
 generalize zqk (bys nm) (bys v)=P at *
 generalize valZ (bys nm) (bys v)=q at *
 obtain ⟨q1,q2⟩:=q
 simp only at HV HHD
 have HQ:Hid (P=fun x=>(q2==0) && zfj (bys nm) (bys (str q1)) (bys x)):=by show _=_;rw [zao];exact HHD.out
 clear HHD
 have HHD:=HQ
 clear HQ
 generalize str q1=qs at *
 by_cases k1:q2=0
 ·subst k1
  have HF:Hid (P=fun x=>zfj (bys nm) (bys qs) (bys x)):=by show _=_;rw [HHD.out];rfl
  clear HHD
  go_enter Tryz.func52,Tryz.ntmps52
  go_wp2_with (first
   | (go_at_call 67;(with_reducible refine (HV _ (HG.out.ext (Ext.alloc _ _))).mono ?_);rintro e w1 ⟨rfl,hx1⟩;have HX1:=hid hx1;clear hx1;have HXA:=hid ((Ext.trans (Ext.alloc _ _) HX1.out).trans (Ext.alloc w1 (.cells #[.string qs] 9)));have HCA:=hid ((((Bx.make (Ext.refl w) #[.string nm] 9).later HX1.out).later (Ext.alloc w1 (.cells #[.string qs] 9))).cell (i:=0) rfl);have HCB:=hid ((Bx.make (Ext.refl w1) #[.string qs] 9).cell (i:=0) rfl))
   | (go_at_call 68;(with_reducible refine (HI qs _ _ _ HXA.out HCA.out HCB.out).mono ?_);rintro e w2 ⟨r1,rfl,hr,hx2⟩;have HX2:=hid hx2;have HRR:=hid hr;clear hx2 hr))
  go_ret
  exact ⟨_,rfl,by rw [HF.out];exact HRR.out,((Ext.trans (Ext.alloc _ _) HX1.out).trans (Ext.alloc _ _)).trans HX2.out⟩
 ·have k2:(q2 != 0)=true:=by rw [bne_iff_ne];exact k1
  have HF:Hid (P=fun x=>false):=by show _=_;rw [HHD.out,show (q2==0)=false from beq_eq_false_iff_ne.2 k1];rfl
  clear HHD k1
  go_enter Tryz.func52,Tryz.ntmps52
  go_wp2_with (first
   | (go_at_call 67;(with_reducible refine (HV _ (HG.out.ext (Ext.alloc _ _))).mono ?_);rintro e w1 ⟨rfl,hx1⟩;have HX1:=hid hx1;clear hx1))
  go_ret
  exact ⟨-1,rfl,.inl ⟨rfl,by rw [HF.out];simp⟩,(Ext.trans (Ext.alloc _ _) HX1.out).trans (Ext.alloc _ _)⟩
theorem zoy {S:Nat→Prop} {A:Option Addr} {n c:Nat} {l:List Att} {w:World} (h:Row Elem.att S w A n c l) (nm dn v:ByteArray) (hG:Gu w) (hn:nm.size≤4000000)  (hv:∀ a∈l,a.vals.length≤8796093022208) :
 Calls Tryz.prog 26 #[.agg #[.string dn,.slice A n c],.string nm,.string v] w fun e w'=>e=.returned (.bool (hasZ (bys nm) (bys v) (za7 (bys nm) l)))∧Ext w w':=by
 have HV:∀ w',Ext w w'→Calls Tryz.prog 53 #[.agg #[.string dn,.slice A n c],.string nm] w' (zcI w' (bys nm) l):=fun w' hx=>zeP (h.ext hx) nm dn hn hv
 unfold zcI at HV
 have HF:∀ (T:Nat→Prop) B m d w',Ext w w'→Row Elem.str T w' B m d (za7 (bys nm) l)→Calls Tryz.prog 52 #[.string nm,.slice B m d,.string v] w' fun e w''=>∃ r:Int,e=.returned (.int .i64 r)∧decide (0≤r)=hasZ (bys nm) (bys v) (za7 (bys nm) l)∧Ext w' w'':=
  fun T B m d w' hx hr=>(zhZ hr nm v (hG.ext hx) hn).mono fun e w2 ⟨r,h1,h2,h3⟩=>⟨r,h1,by rw [h2.has,zjJ],h3⟩
 clear hG hn hv h
 generalize hasZ (bys nm) (bys v) (za7 (bys nm) l)=r at *
 generalize za7 (bys nm) l=q at *
 go_enter Tryz.func26,Tryz.ntmps26
 go_wp2_with (first
  | (go_at_call 53;(with_reducible refine (HV _ (Ext.alloc _ _)).mono ?_);rintro e w1 ⟨A1,n1,c1,rfl,hr1,hx1⟩;have HR1:=hid hr1;have HX1:=hid (Ext.trans (Ext.alloc _ _) hx1);clear hr1 hx1)
  | (go_at_call 52;(with_reducible refine (HF _ _ _ _ _ HX1.out HR1.out).mono ?_);rintro e w2 ⟨r1,rfl,hr,hx2⟩;have HRR:=hid hr;have HX2:=hid hx2;clear hr hx2))
 go_ret
 exact ⟨by rw [← HRR.out];rfl,HX1.out.trans HX2.out⟩
def badX (n:List UInt8) (x:ByteArray):Bool:=(valZ n (bys x)).2 != 0
def badV (n:List UInt8) (l:List ByteArray):Bool:=l.any (badX n)
theorem zm1 (n x:ByteArray) (g1:Nat) (w:World) (hG:Gu w) (hn:n.size≤4000000) (hc1:w.cell? ⟨g1,0,none⟩=some (.string n)) :
 Calls Tryz.prog 92 #[.string x,.pointer (some ⟨g1,0,none⟩)] w fun e w'=>e=.returned (.bool (badX (bys n) x))∧Ext w w':=by
 have HV:Calls Tryz.prog 67 #[.string n,.string x] w (zbM w (bys n) (bys x)):=zdc n x w hG hn
 unfold zbM at HV
 have HLD:Hid (badX (bys n) x=((valZ (bys n) (bys x)).2 != 0)):=rfl
 clear hG hn
 generalize badX (bys n) x=r at *
 generalize valZ (bys n) (bys x)=q at *
 obtain ⟨q1,q2⟩:=q
 simp only at HV HLD
 go_enter Tryz.func92,Tryz.ntmps92
 go_wp2_with (go_at_call 67;(with_reducible refine HV.mono ?_);rintro e w1 ⟨rfl,hx1⟩;have HX1:=hid hx1;clear hx1)
 go_ret
 exact ⟨by rw [HLD.out];rfl,HX1.out⟩
theorem zic {S:Nat→Prop} {A:Option Addr} {n c:Nat} {l:List ByteArray} {w:World} (h:Row Elem.str S w A n c l) (nm:ByteArray) (g1:Nat) (hG:Gu w) (hn:nm.size≤4000000)
 (hc1:w.cell? ⟨g1,0,none⟩=some (.string nm)) :
 Calls Tryz.prog 68 #[.slice A n c,.func (.func 92) #[] #[.pointer (some ⟨g1,0,none⟩)]] w fun e w'=>
  ∃ r:Int,e=.returned (.int .i64 r)∧Idx (badX (bys nm)) l r∧Ext w w':=by
 have hl:=hid h.len
 have hnl:n≤9223372036854775807:=by have:=h.cap;have:=h.most;simp only [maxLen] at this;omega
 have HC2:∀ x wr,Ext w wr→Calls Tryz.prog 92 #[.string x,.pointer (some ⟨g1,0,none⟩)] wr fun e w'=>e=.returned (.bool (badX (bys nm) x))∧Ext wr w':=
  fun x wr hx=>zm1 nm x g1 wr (hG.ext hx) hn (zaa hc1 _ hx)
 clear hG hn hc1
 generalize badX (bys nm)=P at *
 go_enter Tryz.func68,Tryz.ntmps68
 go_wp2
 go_loopw [8] (fun i wr=>∃ j:Nat,j≤n∧i=.int .i64 j∧Hid ((l.take j).any P=false)∧Hid (Ext w wr)) (fun i _=>n-(intOf i).toNat)
 case atStart=>exact ⟨0,by omega,rfl,by simp [Hid],Ext.refl w⟩
 case round=>
  obtain ⟨j,hj,rfl,Htk,hx⟩:=hrel
  by_cases hlt:j<n
  ·obtain ⟨b1,o1,rfl,c1⟩:=(h.ext hx.out).str_cell (by omega)
   have e1:=c1 j hlt
   clear c1
   have g1:l[j]?=some (l[j]?.getD ByteArray.empty):=by have:=hl.out;rw [List.getElem?_eq_getElem (by omega)];simp
   have Hg:=hid g1
   clear g1
   generalize l[j]?.getD ByteArray.empty=x1 at *
   cases hp:P x1
   ·have Hp:=hid hp
    clear hp
    go_wp2_with (go_at_call 92;(with_reducible refine (HC2 _ _ hx.out).mono ?_);rintro e w1 ⟨he,hx1⟩;rw [Hp.out] at he;subst he;have HX1:=hid hx1;clear hx1)
    exact ⟨⟨j+1,by omega,by go_num,zdE Htk.out Hg.out Hp.out,hx.out.trans HX1.out⟩,by simp [intOf];omega⟩
   ·have Hp:=hid hp
    clear hp
    go_wp2_with (go_at_call 92;(with_reducible refine (HC2 _ _ hx.out).mono ?_);rintro e w1 ⟨he,hx1⟩;rw [Hp.out] at he;subst he;have HX1:=hid hx1;clear hx1)
    go_ret
    exact ⟨_,rfl,.inr ⟨j,rfl,Htk.out,_,Hg.out,Hp.out⟩,hx.out.trans HX1.out⟩
  ·obtain rfl:j=n:=by omega
   go_wp2
   go_ret
   have h9:=Htk.out
   rw [List.take_of_length_le (Nat.le_of_eq hl.out.symm)] at h9
   exact ⟨_,rfl,.inl ⟨rfl,h9⟩,hx.out⟩
theorem zpn {S:Nat→Prop} {A:Option Addr} {n c:Nat} {l:List ByteArray} {w:World} (h:Row Elem.str S w A n c l) (nm:ByteArray) (hG:Gu w) (hn:nm.size≤4000000) :
 Calls Tryz.prog 62 #[.string nm,.slice A n c] w fun e w'=>e=.returned (.bool (badV (bys nm) l))∧Ext w w':=by
 have HB0:=hid (Bx.make (Ext.refl w) #[.string nm] 9)
 have HI:=zic (h.ext HB0.out.ext) nm w.heap.size (hG.ext HB0.out.ext) hn (HB0.out.cell (i:=0) rfl)
 have hmf:∀ (fn:Fn) (first cap:Array Value) (w:World),(Instr.makeFunc fn first cap).run Tryz.prog w=.ok (.func fn first cap) w:=fun _ _ _ _=>rfl
 have HC:Calls Tryz.prog 42 #[.slice A n c,.func (.func 92) #[] #[.pointer (some ⟨w.heap.size,0,none⟩)]] (w.alloc (.cells #[.string nm] 9)) fun e w'=>e=.returned (.bool (badV (bys nm) l))∧Ext (w.alloc (.cells #[.string nm] 9)) w':=by
  clear HB0 h hG hn hmf
  have HD:Hid (badV (bys nm) l=l.any (badX (bys nm))):=rfl
  generalize badV (bys nm) l=r at *
  generalize badX (bys nm)=P at *
  go_enter Tryz.func42,Tryz.ntmps42
  go_wp2_with (go_at_call 68;(with_reducible refine HI.mono ?_);rintro e w1 ⟨r1,rfl,hr,hx1⟩;have HRR:=hid hr.has;have HX1:=hid hx1;clear hr hx1)
  go_ret
  exact ⟨by rw [HD.out,← HRR.out];rfl,HX1.out⟩
 clear HI h hG hn
 generalize badV (bys nm) l=r at *
 go_enter Tryz.func62,Tryz.ntmps62
 go_wp2_with (go_at_call 42;(with_reducible refine HC.mono ?_);rintro e w2 ⟨rfl,hx2⟩;have HX2:=hid hx2;clear hx2)
 go_ret
 exact ⟨rfl,HB0.out.ext.trans HX2.out⟩
def zdR (n:List UInt8) (l:List ByteArray):Nat→Bool
 | 0=>false
 | k+1=>zdR n l k || hasZ n (bys (l[k]?.getD ByteArray.empty)) (l.take k)
def zgF (n:List UInt8) (l:List ByteArray):Bool:=zdR n l l.length
theorem zmK {n:List UInt8} {l:List ByteArray} {k:Nat}:∀ m,k≤m→zdR n l k=true→zdR n l m=true
 | 0,h,e=>by (obtain rfl:k=0:=(by omega));exact e
 | m+1,h,e=>by
  rcases Nat.lt_or_ge m k with h1 | h1
  ·obtain rfl:k=m+1:=by omega
   exact e
  ·rw [zdR,zmK m h1 e];rfl
theorem ziM {n:List UInt8} {l:List ByteArray} {k:Nat} {x:ByteArray} {b:Bool} (h:zdR n l k=false) (hx:l[k]?=some x) (hb:hasZ n (bys x) (l.take k)=b):zdR n l (k+1)=b:=by
 rw [zdR,h,hx]
 exact hb
theorem zo2 {S:Nat→Prop} {A:Option Addr} {n c:Nat} {l:List ByteArray} {w:World} (h:Row Elem.str S w A n c l) (nm:ByteArray) (hG:Gu w) (hn:nm.size≤4000000) :
 Calls Tryz.prog 63 #[.string nm,.slice A n c] w fun e w'=>e=.returned (.bool (zgF (bys nm) l))∧Ext w w':=by
 have HG:=hid hG
 have HR:=hid h
 have hl:=hid h.len
 have hcap:=h.cap
 have hnl:n≤9223372036854775807:=by have:=h.cap;have:=h.most;simp only [maxLen] at this;omega
 have HN:=hid hn
 clear hG h hn
 go_enter Tryz.func63,Tryz.ntmps63
 go_wp2
 go_loopw [9] (fun i wr=>∃ j:Nat,j≤n∧i=.int .i64 j∧Hid (zdR (bys nm) l j=false)∧Hid (Ext w wr)) (fun i _=>n-(intOf i).toNat)
 case atStart=>exact ⟨0,by omega,rfl,rfl,Ext.refl w⟩
 case round=>
  obtain ⟨j,hj,rfl,Htk,hx⟩:=hrel
  by_cases hlt:j<n
  ·have hrw:=HR.out.ext hx.out
   have hhd:=hid (hrw.head (k:=j) (by omega))
   obtain ⟨b1,o1,rfl,c1⟩:=hrw.str_cell (by omega)
   have e1:=c1 j hlt
   have hs1:=zjn (some ⟨b1,o1,none⟩) n c j (by omega)
   clear c1 hrw
   have g1:l[j]?=some (l[j]?.getD ByteArray.empty):=by have:=hl.out;rw [List.getElem?_eq_getElem (by omega)];simp
   have Hg:=hid g1
   clear g1
   generalize l[j]?.getD ByteArray.empty=x1 at *
   have jj:(j:Int)<(n:Int):=by omega
   have jc:(j:Int)≤(c:Int):=by omega
   have j0:(0:Int)≤(j:Int):=by omega
   cases hb:hasZ (bys nm) (bys x1) (l.take j)
   ·have HF:∀ w',Ext wr w'→Calls Tryz.prog 52 #[.string nm,.slice (cutA (some ⟨b1,o1,none⟩) 0 c 1) j c,.string x1] w' fun e w''=>∃ r:Int,e=.returned (.int .i64 r)∧decide (0≤r)=false∧Ext w' w'':=fun w' hx'=>(zhZ (hhd.out.ext hx') nm x1 (HG.out.ext (hx.out.trans hx')) HN.out).mono fun e w2 ⟨r,h1,h2,h3⟩=>⟨r,h1,by rw [h2.has,zjJ,hb],h3⟩
    have HT:=hid (ziM Htk.out Hg.out hb)
    clear hb
    go_wp2_with (go_at_call 52;(with_reducible refine (HF _ (Ext.refl _)).mono ?_);rintro e w1 ⟨r,rfl,hr,hx1⟩;have HX1:=hid (hx.out.trans hx1);clear hx1)
    exact ⟨⟨j+1,by omega,by go_num,HT.out,HX1.out⟩,by simp [intOf];omega⟩
   ·have HF:∀ w',Ext wr w'→Calls Tryz.prog 52 #[.string nm,.slice (cutA (some ⟨b1,o1,none⟩) 0 c 1) j c,.string x1] w' fun e w''=>∃ r:Int,e=.returned (.int .i64 r)∧decide (0≤r)=true∧Ext w' w'':=fun w' hx'=>(zhZ (hhd.out.ext hx') nm x1 (HG.out.ext (hx.out.trans hx')) HN.out).mono fun e w2 ⟨r,h1,h2,h3⟩=>⟨r,h1,by rw [h2.has,zjJ,hb],h3⟩
    have HT:Hid (zgF (bys nm) l=true):=zmK l.length (by have:=hl.out;omega) (ziM Htk.out Hg.out hb)
    clear hb
    go_wp2_with (go_at_call 52;(with_reducible refine (HF _ (Ext.refl _)).mono ?_);rintro e w1 ⟨r,rfl,hr,hx1⟩;have HX1:=hid (hx.out.trans hx1);clear hx1)
    go_ret
    exact ⟨by rw [HT.out];rfl,HX1.out⟩
  ·obtain rfl:j=n:=by omega
   have HE:Hid (zgF (bys nm) l=false):=by show _=_;unfold zgF;rw [← hl.out];exact Htk.out
   go_wp2
   go_ret
   exact ⟨by rw [HE.out];rfl,hx.out⟩
end Go.Proofs.YtioglicfndkgiaaGreatDoor
