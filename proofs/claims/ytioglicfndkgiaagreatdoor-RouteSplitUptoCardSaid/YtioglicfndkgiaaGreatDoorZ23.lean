/- Lemmas of the walk. -/
import Derived.Test.YtioglicfndkgiaaGreatDoorZ22
set_option maxHeartbeats 40000000
set_option linter.unusedVariables false
set_option linter.unusedSimpArgs false
namespace Go.Proofs.YtioglicfndkgiaaGreatDoor
open Go.RowKit
set_option maxRecDepth 100000
theorem zkr {s:List UInt8} {l:List Ava} (h:zbk s=some l):zan l=true:=by
 unfold zbk at h
 split at h
 ·cases h
 ·split at h
  ·injection h with h;subst h;assumption
  ·cases h
theorem zek {s:List UInt8} {l:List (List Ava)} (h:zbc s=.ok l):∀ p∈l,zan p=true:=by
 unfold zbc at h
 split at h
 ·cases h
 ·split at h
  ·injection h with h;subst h;simp
  ·split at h
   ·cases h
   ·split at h
    ·cases h
    ·rename_i l' hm
     injection h with h
     subst h
     intro p hp
     obtain ⟨x,_,hx⟩:=zgW hm p hp
     exact zkr hx
theorem zh1 {s:List UInt8} {l:List (List Ava)} (h:zbc s=.ok l):l.length≤12:=by
 unfold zbc at h
 split at h
 ·cases h
 ·split at h
  ·injection h with h;subst h;simp
  ·split at h
   ·cases h
   ·split at h
    ·cases h
    ·rename_i l' hm
     injection h with h
     subst h
     have:=zmx hm
     omega
def zcg (p:List Ava):List UInt8:=zb7 (zbd p)
theorem ziK:∀ l:List Ava,(∀ a∈l,zbP a=true)→(za4 l).length≤700 * l.length
 | [],_=>by simp [za4]
 | [a],h=>by
  have h1:=zd0 (h a (by simp))
  have h2:=zcs a.val true
  simp only [za4,List.length_append,List.length_cons,List.length_nil]
  omega
 | a::b::t,h=>by
  have h1:=zd0 (h a (by simp))
  have h2:=zcs a.val true
  have h3:=ziK (b::t) (fun x hx=>h x (by simp [hx]))
  simp only [za4,List.length_append,List.length_cons] at h3 ⊢
  omega
theorem zon (p:List Ava):(zcg p).length≤2100:=by
 unfold zcg zb7
 split
 ·rename_i h
  have h1:=ziK _ (zc4 h)
  have h2:=zdG h
  omega
 ·simp
theorem zmt:∀ ws:List (List UInt8),(za3 ws).length≤(ws.map List.length).sum+ws.length
 | []=>by simp [za3]
 | [x]=>by simp [za3]
 | x::y::t=>by
  have:=zmt (y::t)
  simp only [za3,List.length_append,List.length_cons,List.map_cons,List.sum_cons] at this ⊢
  omega
theorem zrF {c:Nat}:∀ {l:List (List UInt8)},(∀ x∈l,x.length≤c)→(l.map List.length).sum≤c * l.length
 | [],_=>by simp
 | x::t,h=>by
  have h1:=h x (by simp)
  have h2:=zrF (l:=t) (fun y hy=>h y (by simp [hy]))
  simp only [List.map_cons,List.sum_cons,List.length_cons,Nat.mul_succ]
  omega
theorem zkD (l:List (List Ava)) (h:l.length≤12):(za3 (l.map zcg)).length≤30000:=by
 have h1:=zmt (l.map zcg)
 have h2:=zrF (c:=2100) (l:=l.map zcg) (fun x hx=>by obtain ⟨p,_,rfl⟩:=List.mem_map.1 hx;exact zon p)
 rw [List.length_map] at h1 h2
 omega
theorem zeo (s:List UInt8):zac s=match zbc s with | .error e=>.error e | .ok l=>if 1000<(za3 (l.map zcg)).length then .error .long else .ok (l.map zcg):=by
 unfold zac zbc
 by_cases h1:1000<s.length
 ·simp [h1]
 ·rw [if_neg h1,if_neg h1]
  by_cases h2:s=[]
  ·rw [if_pos h2,if_pos h2];rfl
  ·rw [if_neg h2,if_neg h2]
   by_cases h3:12<(splitF 44 [] s).length
   ·rw [if_pos h3,if_pos h3]
   ·rw [if_neg h3,if_neg h3]
    cases (splitF 44 [] s).mapM zbk <;> rfl
def fitB (l:List (List UInt8)):List UInt8 × Int:=if 12<l.length∨1000<(za3 l).length then ([],4) else (za3 l,0)
theorem zsu {S:Nat→Prop} {A:Option Addr} {n c:Nat} {l:List (List UInt8)} {w:World} (h:Row Elem.str S w A n c (strs l)) (hl:l.length≤1000000) (hj:(za3 l).length≤1000000000) :
 Calls Tryz.prog 78 #[.slice A n c] w fun e w'=>e=.returned (.tuple #[.string (str (fitB l).1),.int .i64 (fitB l).2])∧Ext w w':=by
 have hn:n=l.length:=by rw [h.len,List.length_map]
 have HJ:∀ w',Ext w w'→Calls Tryz.prog 51 #[.slice A n c,.string ⟨#[44]⟩] w' fun e w''=>e=.returned (.string (str (za3 l)))∧Ext w' w'':=fun w' hx=>by
  have:=zeN (strs l) ⟨#[44]⟩ (h.ext hx) (by rw [List.length_map];omega) (by rw [zcV];show (Lib.join l [44]).length≤_;rw [zhk];omega)
  rwa [zde,zhk] at this
 have HFB:Hid (fitB l=if 12<l.length∨1000<(za3 l).length then ([],4) else (za3 l,0)):=rfl
 have HJL:=hid hj
 generalize za3 l=m at *
 clear hl h hj
 by_cases h12:12<l.length
 ·have h12':12<(n:Int):=by omega
  have HT:Hid (fitB l=([],4)):=by show _=_;rw [HFB.out,if_pos (.inl h12)]
  clear h12 hn HFB
  go_enter Tryz.func78,Tryz.ntmps78
  go_wp2_with (go_at_call 51;(with_reducible refine (HJ _ (Ext.refl _)).mono ?_);rintro e w1 ⟨rfl,hx1⟩;have HX1:=hid hx1;clear hx1)
  go_ret2
  exact ⟨by rw [HT.out];rfl,HX1.out⟩
 ·have h12':decide (12<(n:Int))=false:=by rw [decide_eq_false_iff_not];omega
  by_cases h1k:1000<m.length
  ·have h1k':1000<(m.length:Int):=by omega
   have HT:Hid (fitB l=([],4)):=by show _=_;rw [HFB.out,if_pos (.inr h1k)]
   clear h12 hn h1k HFB
   go_enter Tryz.func78,Tryz.ntmps78
   go_wp2_with (go_at_call 51;(with_reducible refine (HJ _ (Ext.refl _)).mono ?_);rintro e w1 ⟨rfl,hx1⟩;have HX1:=hid hx1;clear hx1)
   go_ret2
   exact ⟨by rw [HT.out];rfl,HX1.out⟩
  ·have h1k':decide (1000<(m.length:Int))=false:=by rw [decide_eq_false_iff_not];omega
   have HT:Hid (fitB l=(m,0)):=by show _=_;rw [HFB.out,if_neg (fun h=>h.elim h12 h1k)]
   clear h12 hn h1k HFB
   go_enter Tryz.func78,Tryz.ntmps78
   go_wp2_with (go_at_call 51;(with_reducible refine (HJ _ (Ext.refl _)).mono ?_);rintro e w1 ⟨rfl,hx1⟩;have HX1:=hid hx1;clear hx1)
   go_ret2
   exact ⟨by rw [HT.out];rfl,HX1.out⟩
def zbn (w:World) (s:List UInt8) (e:Ending) (w':World):Prop:=
 ∃ A n c,e=.returned (.tuple #[.slice A n c,.int .i64 (zap (zac s))])∧Row Elem.str (fun b=>w.heap.size≤b) w' A n c (strs (okL (zac s)))∧Ext w w'
theorem zhC (p:List Ava) (h:∀ a∈p,a.type.length≤17):∀ a∈zbd p,a.type.length≤4000000:=by
 intro a ha
 unfold zbd at ha
 obtain ⟨b,hb,rfl⟩:=List.mem_map.1 ha
 have:=h b hb
 show b.type.length≤_
 omega
theorem zev {p:List Ava} (h:zan p=true):∀ a∈p,a.type.length≤17:=fun a ha=>(zd0 (zc4 h a ha)).1
def TextsOwn (w:World) (s:List UInt8) (e:Ending) (w':World):Prop:=∃ v,e=.returned (.tuple #[v,.int .i64 (zap (zac s))])∧GrowS w w' v (strs (okL (zac s)))
theorem zhu (s:ByteArray) (w:World) (hG:Gl w):Calls Tryz.prog 50 #[.string s] w (TextsOwn w (bys s)):=by
 have HG:=hid hG
 have HPR:∀ w,Gl w→Calls Tryz.prog 75 #[.string s] w (zmy w (bys s)):=fun w hG=>zhJ s w hG
 unfold zmy at HPR
 have HPB:=hid (zeo (bys s))
 have HPF:Hid (∀ l,zbc (bys s)=.ok l→(∀ p∈l,zan p=true)∧l.length≤12):=fun l h=>⟨zek h,zh1 h⟩
 clear hG
 cases hp:zbc (bys s) with
 | error er=>
  have HF:Hid (zac (bys s)=.error er):=by show _=_;rw [HPB.out,hp]
  have hne:(zap (α:=List (List Ava)) (.error er) != 0)=true:=by cases er <;> rfl
  have HC:Hid (zap (α:=List (List Ava)) (.error er)=zap (α:=List (List UInt8)) (.error er)):=by cases er <;> rfl
  rw [hp] at HPR
  generalize zap (α:=List (List Ava)) (.error er)=cd at *
  clear hp HPB HPF
  go_enter Tryz.func50,Tryz.ntmps50
  go_wp2_with (go_at_call 75;(with_reducible refine (HPR _ (HG.out.ext (Ext.refl _))).mono ?_);rintro e w1 ⟨A1,n1,c1,rfl,-,hx1⟩;have HX1:=hid hx1;clear hx1)
  go_ret2
  exact ⟨.slice none 0 0,by rw [HF.out,← HC.out];rfl,by rw [HF.out];exact GrowS.nil (HX1.out.trans (Ext.alloc _ _))⟩
 | ok l=>
  have HF:Hid (zac (bys s)=if 1000<(za3 (l.map zcg)).length then .error .long else .ok (l.map zcg)):=by show _=_;rw [HPB.out,hp]
  have HFL:=hid (HPF.out l hp)
  rw [hp] at HPR
  simp only [okL,zap] at HPR
  clear hp HPB HPF
  go_enter Tryz.func50,Tryz.ntmps50
  go_wp2_with (go_at_call 75;(with_reducible refine (HPR _ (HG.out.ext (Ext.refl _))).mono ?_);rintro e w1 ⟨A1,n1,c1,rfl,hr1,hx1⟩;have HX1:=hid hx1;have HR1:=hid hr1;clear hx1 hr1)
  have HLN:=hid HR1.out.len
  have hl12:n1≤12:=by rw [HR1.out.len];exact HFL.out.2
  go_loopw [6,26] (fun v i wr=>∃ j:Nat,j≤n1∧i=.int .i64 j∧Hid (GrowS w1 wr v (strs ((l.take j).map zcg)))) (fun _ i _=>n1-(intOf i).toNat)
  case atStart=>exact ⟨0,by omega,rfl,GrowS.nil (Ext.alloc _ _)⟩
  case round=>
   obtain ⟨j,hj,rfl,HGR⟩:=hrel
   by_cases hlt:j<n1
   ·have hlt':(j:Int)<(n1:Int):=by omega
    obtain ⟨b,o,vv,p,rfl,hp,-,⟨A2,n2,c2,rfl,hr2⟩,q2⟩:=(HR1.out.ext HGR.out.ext).at_ hlt
    have e2:=q2 0 _ rfl
    simp only [Elem.slc,Nat.add_zero,Nat.mul_one] at e2
    have HR2:=hid hr2
    have hfp:=HFL.out.1 p (List.mem_of_getElem? hp)
    have HTY:=hid (zev hfp)
    have HNP:∀ w',Ext wr w'→Calls Tryz.prog 76 #[.slice A2 n2 c2] w' (ziQ w' p):=fun w' hx=>znl (HG.out.ext (HX1.out.trans (HGR.out.ext.trans hx))) (HR2.out.ext hx) (fun a ha=>by have:=HTY.out a ha;omega)
    unfold ziQ at HNP
    rw [hfp] at HNP
    simp only [eq_self,if_true] at HNP
    have HST:Hid (strs ((l.take (j+1)).map zcg)=strs ((l.take j).map zcg)++[str (zcg p)]):=by show _=_;rw [List.take_add_one,hp];simp
    have HTL:Hid (((l.take j).map zcg).length≤12):=by show _≤_;rw [List.length_map];have:=List.length_take_le j l;omega
    clear hp hr2 q2 hfp
    go_wp2_with (first
     | (go_at_call 76;(with_reducible refine (HNP _ (Ext.refl _)).mono ?_);rintro e w3 ⟨A3,n3,c3,rfl,hr3,hx3⟩;have HR3:=hid hr3;have HX3:=hid hx3;clear hr3 hx3)
     | (go_at_call 77;(with_reducible refine (zos (HG.out.ext (HX1.out.trans (HGR.out.ext.trans HX3.out))) HR3.out (zhC p HTY.out)).mono ?_);rintro e w4 ⟨rfl,hx4⟩;have HG4:=hid ((HGR.out.later HX3.out).later hx4);clear hx4)
     | (at_builtin;refine zct rfl _ _ rfl _ _ rfl HG4.out rfl (by have:=HTL.out;rw [List.length_map];omega) ?_;intro v' w5 hg5;have HG5:=hid hg5;clear hg5))
    refine ⟨⟨j+1,by omega,by go_num,?_⟩,by simp [intOf];omega⟩
    rw [HST.out]
    exact HG5
   ·obtain rfl:j=n1:=by omega
    have HTA:Hid (l.take j=l):=by show _=_;rw [List.take_of_length_le (Nat.le_of_eq HLN.out.symm)]
    rw [HTA.out] at HGR
    obtain ⟨A2,c2,rfl,hr2⟩:=HGR.out.row
    rw [List.length_map] at hr2
    have HR2:=hid hr2
    have HLT:Hid (¬ 12<(l.map zcg).length):=by show ¬ _;rw [List.length_map];have:=HFL.out.2;omega
    have HFT:∀ w',Ext wr w'→Calls Tryz.prog 78 #[.slice A2 (l.map zcg).length c2] w' fun e w''=>e=.returned (.tuple #[.string (str (fitB (l.map zcg)).1),.int .i64 (fitB (l.map zcg)).2])∧Ext w' w'':=fun w' hx=>
     zsu (HR2.out.ext hx) (by rw [List.length_map];have:=HFL.out.2;omega) (by have:=zkD l HFL.out.2;omega)
    have HFB:Hid (fitB (l.map zcg)=if 12<(l.map zcg).length∨1000<(za3 (l.map zcg)).length then ([],4) else (za3 (l.map zcg),0)):=rfl
    clear hr2
    generalize l.map zcg=tx at *
    by_cases h1k:1000<(za3 tx).length
    ·have HE:Hid (zac (bys s)=.error .long):=by show _=_;rw [HF.out,if_pos h1k]
     rw [if_pos (.inr h1k)] at HFB
     rw [HFB.out] at HFT
     clear h1k HFB
     go_wp2_with (go_at_call 78;(with_reducible refine (HFT _ (Ext.refl _)).mono ?_);rintro e w3 ⟨rfl,hx3⟩;have HX3:=hid hx3;clear hx3)
     go_ret2
     exact ⟨.slice none 0 0,by rw [HE.out];rfl,by rw [HE.out];exact GrowS.nil (HX1.out.trans (HGR.out.ext.trans HX3.out))⟩
    ·have HE:Hid (zac (bys s)=.ok tx):=by show _=_;rw [HF.out,if_neg h1k]
     rw [if_neg (fun h=>h.elim HLT.out h1k)] at HFB
     rw [HFB.out] at HFT
     clear h1k HFB
     go_wp2_with (go_at_call 78;(with_reducible refine (HFT _ (Ext.refl _)).mono ?_);rintro e w3 ⟨rfl,hx3⟩;have HX3:=hid hx3;clear hx3)
     go_ret2
     refine ⟨_,by rw [HE.out];rfl,?_⟩
     rw [HE.out]
     have hz:=(HGR.out.later HX3.out).base HX1.out
     rw [show (strs tx).length=tx.length from List.length_map ..] at hz
     exact hz
theorem TextsOwn.says {w:World} {s:List UInt8} {e:Ending} {w':World} (h:TextsOwn w s e w'):zbn w s e w':=by
 obtain ⟨v,h1,h2⟩:=h
 obtain ⟨A,c,rfl,h3⟩:=h2.row
 exact ⟨A,_,c,h1,h3,h2.ext⟩
theorem zej (s:ByteArray) (w:World) (hG:Gl w):Calls Tryz.prog 50 #[.string s] w (zbn w (bys s)):=
 (zhu s w hG).mono fun _ _ h=>h.says
def zaG (s:List UInt8):List UInt8:=za3 (okL (zac s))
def zaM (w:World) (s:List UInt8) (e:Ending) (w':World):Prop:=e=.returned (.tuple #[.string (str (zaG s)),.int .i64 (zap (zac s))])∧Ext w w'
theorem zcY (s:List UInt8):(okL (zac s)).length≤12∧(za3 (okL (zac s))).length≤1000:=by
 rw [zeo]
 cases hp:zbc s with
 | error e=>simp [okL,za3]
 | ok l=>
  have h:=zh1 hp
  simp only
  split
  ·simp [okL,za3]
  ·simp only [okL]
   rw [List.length_map]
   omega
theorem zbx (s:ByteArray) (w:World) (hG:Gl w):Calls Tryz.prog 25 #[.string s] w (zaM w (bys s)):=by
 have HPA:=zej s w hG
 unfold zbn at HPA
 have HN:Hid (zaG (bys s)=za3 (okL (zac (bys s)))):=rfl
 have HSM:=hid (zcY (bys s))
 have HCD:Hid (zaM w (bys s)=fun e w'=>e=.returned (.tuple #[.string (str (zaG (bys s))),.int .i64 (zap (zac (bys s)))])∧Ext w w'):=rfl
 generalize okL (zac (bys s))=l at *
 generalize zap (zac (bys s))=cd at *
 go_enter Tryz.func25,Tryz.ntmps25
 go_wp2_with (first
  | (go_at_call 50;(with_reducible refine HPA.mono ?_);rintro e w1 ⟨A1,n1,c1,rfl,hr1,hx1⟩;have HX1:=hid hx1;have HJ:=zeN (strs l) ⟨#[44]⟩ hr1 (by rw [List.length_map];have:=HSM.out.1;omega) (by rw [zcV];show (Lib.join l [44]).length≤_;rw [zhk];have:=HSM.out.2;omega);rw [zde,show bys ⟨#[44]⟩=[44] from rfl,zhk,← HN.out] at HJ;clear hx1 hr1)
  | (go_at_call 51;(with_reducible refine HJ.mono ?_);rintro e w2 ⟨rfl,hx2⟩;have HX2:=hid hx2;clear hx2))
 go_ret2
 rw [HCD.out]
 exact ⟨rfl,HX1.out.trans HX2.out⟩
end Go.Proofs.YtioglicfndkgiaaGreatDoor
