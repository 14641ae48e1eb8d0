/- Lemmas of the walk. -/
import Derived.Test.YtioglicfndkgiaaGreatDoorZ29
import Derived.Test.YtioglicfndkgiaaGreatDoorZ38
import Derived.Test.YtioglicfndkgiaaGreatDoorZ44
import Derived.Test.YtioglicfndkgiaaGreatDoorZ15
import Derived.Test.YtioglicfndkgiaaGreatDoorZ22
import Derived.Test.YtioglicfndkgiaaGreatDoorZ11
import Derived.Test.YtioglicfndkgiaaGreatDoorRows
import Derived.Test.YtioglicfndkgiaaGreatDoorZ07
import Derived.Test.YtioglicfndkgiaaGreatDoorZ14
import Derived.Test.YtioglicfndkgiaaGreatDoorShl
import Derived.Lib.LaidU8
import Derived.PinnedBridge
import Derived.Stop.LaidErr
import Derived.Shelf.Vars
import Derived.MakeChecks
import Derived.ProofKit
set_option maxHeartbeats 40000000
set_option linter.unusedVariables false
set_option linter.unusedSimpArgs false
namespace Go.Proofs.YtioglicfndkgiaaGreatDoor
open Go.RowKit
set_option maxRecDepth 100000
theorem zj7 (cs:List CutR) (nm:List UInt8):∀ j,j≤cs.length→za8 nm 0 (-1,-1) (cs.take j)=(-1,-1)∨∃ (k:Nat) (c:CutR),za8 nm 0 (-1,-1) (cs.take j)=((k:Int),zaz (nmQ c))∧cs[k]?=some c:=by
 intro j
 induction j with
 | zero=>intro _;exact .inl rfl
 | succ j ih=>
  intro hj
  have hc:cs[j]?=some cs[j]:=List.getElem?_eq_getElem (by omega)
  rw [zdM hc]
  generalize cs[j]=x at *
  unfold zcr
  split
  ·exact .inr ⟨j,x,rfl,hc⟩
  ·exact ih (by omega)
theorem znZ (s:ByteArray) (w:World) (hG:Gl w):Calls Tryz.prog 35 #[.string s] w fun e w'=>e=.returned (.int .i64 (zaz (bys s)))∧Ext w w':=by
 have HP:=zeV s w hG
 unfold zbn at HP
 have HD:Hid (zaz (bys s)=((okL (zac (bys s))).length:Int)):=rfl
 have HLS:∀ (S:Nat→Prop) w A n c,Row Elem.str S w A n c (strs (okL (zac (bys s))))→n=(okL (zac (bys s))).length:=fun S w A n c h=>by rw [h.len,List.length_map]
 generalize okL (zac (bys s))=l at *
 generalize zap (zac (bys s))=cd at *
 go_enter Tryz.func35,Tryz.ntmps35
 go_wp2_with (go_at_call 59;(with_reducible refine HP.mono ?_);rintro e w1 ⟨A1,n1,c1,rfl,hr1,hx1⟩;have HN:=hid (HLS _ _ _ _ _ hr1);have HX1:=hid hx1;clear hx1 hr1)
 go_ret
 exact ⟨by rw [HD.out,HN.out];(try rfl),HX1.out⟩
theorem zke {S:Nat→Prop} {A:Option Addr} {n c:Nat} {l:List CutR} {w:World} (h:Row Elem.cut S w A n c l) (name:ByteArray) (hG:Gl w) :
 Calls Tryz.prog 19 #[.slice A n c,.string name] w fun e w'=>e=.returned (.int .i64 (zaJ l (bys name)))∧Ext w w':=by
 have HG:=hid hG
 have HR:=hid h
 have HLN:=hid h.len
 have hn:n≤9223372036854775807:=by have:=h.cap;have:=h.most;simp only [maxLen] at this;omega
 have HD:∀ (s:ByteArray) w,Gl w→Calls Tryz.prog 35 #[.string s] w fun e w'=>e=.returned (.int .i64 (zaz (bys s)))∧Ext w w':=fun s w hG=>znZ s w hG
 have HU:∀ (s:ByteArray) w,Gl w→Calls Tryz.prog 34 #[.string name,.string s] w fun e w'=>e=.returned (.bool (zaP (bys name) (bys s)))∧Ext w w':=fun s w hG=>zm8 name s w hG
 clear h hG
 go_enter Tryz.func19,Tryz.ntmps19
 go_wp2
 go_loopw [5,9] (fun b i wr=>∃ (j:Nat),j≤n∧i=.int .i64 j∧b=.int .i64 (za8 (bys name) 0 (-1,-1) (l.take j)).1∧Hid (Ext w wr)) (fun _ i _=>n-(intOf i).toNat)
 case atStart=>exact ⟨0,by omega,rfl,rfl,Ext.refl _⟩
 case round=>
  obtain ⟨j,hj,rfl,rfl,hx⟩:=hrel
  by_cases hlt:j<n
  ·obtain ⟨b1,o1,v1,x1,rfl,g1,-,r1,q1⟩:=(HR.out.ext hx.out).at_ hlt
   have HTK:=hid (zdM (nm:=bys name) g1)
   have HAT:=hid (zj7 l (bys name) j (by rw [← HLN.out];exact hj))
   have HDX:=HD x1.name
   have HUX:=HU x1.name
   have hlt':(j:Int)<(n:Int):=by omega
   have hd0:0≤zaz (bys x1.name):=by unfold zaz;omega
   have HSD:Hid (zcr (bys name) j (za8 (bys name) 0 (-1,-1) (l.take j)) x1=if decide ((za8 (bys name) 0 (-1,-1) (l.take j)).2<zaz (bys x1.name)) && zaP (bys name) (bys x1.name) then ((j:Int),zaz (bys x1.name)) else za8 (bys name) 0 (-1,-1) (l.take j)):=rfl
   clear HU g1
   generalize zaz (bys x1.name)=dx at *
   generalize zaP (bys name) (bys x1.name)=ux at *
   obtain ⟨nm1,sv1⟩:=x1
   cases r1
   have e10:=q1 0 _ rfl
   simp only [Elem.cut,CutR.cells,Nat.add_zero] at e10
   simp only at HDX HUX
   clear q1
   generalize za8 (bys name) 0 (-1,-1) (l.take j)=st at *
   obtain ⟨st2,hst2⟩:∃ x,x=za8 (bys name) 0 (-1,-1) (l.take (j+1)):=⟨_,rfl⟩
   rw [← hst2] at HTK
   have HS2:=hid hst2
   clear hst2
   cases ux
   ·rw [Bool.and_false,if_neg (by decide)] at HSD
    have HE:=hid (HTK.out.trans HSD.out)
    clear HAT HD HDX
    go_wp2
    refine zad (.read 0 (.read 1 (.read 2 (.read 3 (.read 4 (.read 5 (.main 6 (.read 7 (.read 8 (.read 9 (.read 10 (.read 11 (.read 12 (.read 13 (.read 14 (.read 15 (.read 17 (.read 18 (.read 19 (.read 20 (.read 21 (.main 16 (.main 22 (.read 23 (.read 24 (.read 25 .done)))))))))))))))))))))))))) (by kernel_rfl) (by kernel_rfl) ?_
    intro wD hxD
    have XE:Hid (Ext wD wD):=Ext.refl _
    have p0:=zaa (zaa e10 _ hxD)
    repeat' (first
     | ((first | refine zah rfl rfl ?_ | refine zae rfl rfl ?_ | refine zak rfl rfl ?_);simp only [Act.put,Act.eval,evs])
     | (refine zab rfl rfl ?_;simp only [Act.put,evp])
     | (refine zag (v:=?_) rfl rfl (fun w' hE=>?_) ?_;rotate_left 1;(· ((try (have hEx:=Ext.trans (Hid.out XE) hE));go_simp;(try go_bits);with_reducible rfl));simp only [Act.put,evp])
     | (refine walks_alt ?_ ?_)
     | (refine zai rfl rfl (fun K hK=>?_);go_wp2_with ((go_at_call 34;(with_reducible refine (HUX _ (HG.out.ext (hx.out.trans (hxD.trans XE.out)))).mono ?_);rintro e w2 ⟨rfl,hx2⟩;have XE':=hid (Ext.trans (Hid.out XE) hx2);clear XE;have XE:=XE';clear XE'));refine hK _ _ (by first | assumption | exact Ext.alloc _ _ | exact Ext.refl _) ?_;clear hK K;try simp only [Act.put,evp]))
    refine zaj ?_
    go_wp2
    exact ⟨⟨j+1,by omega,by go_num,by rw [← HS2.out,HE.out],hx.out.trans (hxD.trans XE.out)⟩,by simp [intOf];omega⟩
   ·rw [Bool.and_true] at HSD
    rcases HAT.out with e | ⟨k,c2,e,hc2⟩
    ·subst e
     have HE:Hid (st2=((j:Int),dx)):=by
      have h1:=HTK.out.trans HSD.out
      rw [decide_eq_true (show ((-1:Int),(-1:Int)).2<dx by show (-1:Int)<dx;omega),if_pos rfl] at h1
      exact h1
     clear HAT HD HDX HSD HTK
     go_wp2
     refine zad (.read 0 (.read 1 (.read 2 (.read 3 (.read 4 (.read 5 (.main 6 (.read 7 (.read 8 (.read 9 (.read 10 (.read 11 (.read 12 (.read 13 (.read 14 (.read 15 (.read 17 (.read 18 (.read 19 (.read 20 (.read 21 (.main 16 (.main 22 (.read 23 (.read 24 (.read 25 .done)))))))))))))))))))))))))) (by kernel_rfl) (by kernel_rfl) ?_
     intro wD hxD
     have XE:Hid (Ext wD wD):=Ext.refl _
     have p0:=zaa (zaa e10 _ hxD)
     repeat' (first
      | ((first | refine zah rfl rfl ?_ | refine zae rfl rfl ?_ | refine zak rfl rfl ?_);simp only [Act.put,Act.eval,evs])
      | (refine zab rfl rfl ?_;simp only [Act.put,evp])
      | (refine zag (v:=?_) rfl rfl (fun w' hE=>?_) ?_;rotate_left 1;(· ((try (have hEx:=Ext.trans (Hid.out XE) hE));go_simp;(try go_bits);with_reducible rfl));simp only [Act.put,evp])
      | (refine walks_alt ?_ ?_)
      | (refine zai rfl rfl (fun K hK=>?_);go_wp2_with ((go_at_call 34;(with_reducible refine (HUX _ (HG.out.ext (hx.out.trans (hxD.trans XE.out)))).mono ?_);rintro e w2 ⟨rfl,hx2⟩;have XE':=hid (Ext.trans (Hid.out XE) hx2);clear XE;have XE:=XE';clear XE'));refine hK _ _ (by first | assumption | exact Ext.alloc _ _ | exact Ext.refl _) ?_;clear hK K;try simp only [Act.put,evp]))
     refine zaj ?_
     go_wp2
     exact ⟨⟨j+1,by omega,by go_num,by rw [← HS2.out,HE.out],hx.out.trans (hxD.trans XE.out)⟩,by simp [intOf];omega⟩
    ·have hk:k<n:=by rw [HLN.out];exact (List.getElem?_eq_some_iff.1 hc2).1
     obtain ⟨b3,o3,v3,x3,e3,g3,-,r3,q3⟩:=(HR.out.ext hx.out).at_ hk
     cases e3
     rw [hc2] at g3
     injection g3 with g3
     subst g3
     have HDC:=HD c2.name
     have e':st=((k:Int),zaz (bys c2.name)):=e
     clear e
     generalize zaz (bys c2.name)=dc at *
     obtain ⟨nm3,sv3⟩:=c2
     cases r3
     have e30:=q3 0 _ rfl
     simp only [Elem.cut,CutR.cells,Nat.add_zero] at e30
     simp only at HDC
     subst e'
     have hk':(k:Int)<(n:Int):=by omega
     have hk0:¬ (k:Int)<0:=by omega
     have HAD:∀ w',Ext wr w'→Gl w':=fun w' hx'=>HG.out.ext (hx.out.trans hx')
     by_cases hd:dc<dx
     ·have HE:Hid (st2=((j:Int),dx)):=by
       have h1:=HTK.out.trans HSD.out
       rw [decide_eq_true (show ((k:Int),dc).2<dx from hd),if_pos rfl] at h1
       exact h1
      clear HAT HD HSD HTK q3 hc2
      go_wp2
      refine zad (.read 0 (.read 1 (.read 2 (.read 3 (.read 4 (.read 5 (.main 6 (.read 7 (.read 8 (.read 9 (.read 10 (.read 11 (.read 12 (.read 13 (.read 14 (.read 15 (.read 17 (.read 18 (.read 19 (.read 20 (.read 21 (.main 16 (.main 22 (.read 23 (.read 24 (.read 25 .done)))))))))))))))))))))))))) (by kernel_rfl) (by kernel_rfl) ?_
      intro wD hxD
      have XE:Hid (Ext wD wD):=Ext.refl _
      have p0:=zaa (zaa e10 _ hxD)
      have p1:=zaa (zaa e30 _ hxD)
      repeat' (first
       | ((first | refine zah rfl rfl ?_ | refine zae rfl rfl ?_ | refine zak rfl rfl ?_);simp only [Act.put,Act.eval,evs])
       | (refine zab rfl rfl ?_;simp only [Act.put,evp])
       | (refine zag (v:=?_) rfl rfl (fun w' hE=>?_) ?_;rotate_left 1;(· ((try (have hEx:=Ext.trans (Hid.out XE) hE));go_simp;(try go_bits);with_reducible rfl));simp only [Act.put,evp])
       | (refine walks_alt ?_ ?_)
       | (refine zai rfl rfl (fun K hK=>?_);go_wp2_with ((first | (go_at_call 34;(with_reducible refine (HUX _ (HAD _ (hxD.trans XE.out))).mono ?_);rintro e w2 ⟨rfl,hx2⟩;have XE':=hid (Ext.trans (Hid.out XE) hx2);clear XE;have XE:=XE';clear XE') | (go_at_call 35;first | ((with_reducible refine (HDX _ (HAD _ (hxD.trans XE.out))).mono ?_);rintro e w2 ⟨rfl,hx2⟩;have XE':=hid (Ext.trans (Hid.out XE) hx2);clear XE;have XE:=XE';clear XE') | ((with_reducible refine (HDC _ (HAD _ (hxD.trans XE.out))).mono ?_);rintro e w2 ⟨rfl,hx2⟩;have XE':=hid (Ext.trans (Hid.out XE) hx2);clear XE;have XE:=XE';clear XE'))));refine hK _ _ (by first | assumption | exact Ext.alloc _ _ | exact Ext.refl _) ?_;clear hK K;try simp only [Act.put,evp]))
      refine zaj ?_
      go_wp2
      exact ⟨⟨j+1,by omega,by go_num,by rw [← HS2.out,HE.out],hx.out.trans (hxD.trans XE.out)⟩,by simp [intOf];omega⟩
     ·have HE:Hid (st2=((k:Int),dc)):=by
       have h1:=HTK.out.trans HSD.out
       rw [decide_eq_false (show ¬ ((k:Int),dc).2<dx from hd),if_neg (by decide)] at h1
       exact h1
      clear HAT HD HSD HTK q3 hc2
      go_wp2
      refine zad (.read 0 (.read 1 (.read 2 (.read 3 (.read 4 (.read 5 (.main 6 (.read 7 (.read 8 (.read 9 (.read 10 (.read 11 (.read 12 (.read 13 (.read 14 (.read 15 (.read 17 (.read 18 (.read 19 (.read 20 (.read 21 (.main 16 (.main 22 (.read 23 (.read 24 (.read 25 .done)))))))))))))))))))))))))) (by kernel_rfl) (by kernel_rfl) ?_
      intro wD hxD
      have XE:Hid (Ext wD wD):=Ext.refl _
      have p0:=zaa (zaa e10 _ hxD)
      have p1:=zaa (zaa e30 _ hxD)
      repeat' (first
       | ((first | refine zah rfl rfl ?_ | refine zae rfl rfl ?_ | refine zak rfl rfl ?_);simp only [Act.put,Act.eval,evs])
       | (refine zab rfl rfl ?_;simp only [Act.put,evp])
       | (refine zag (v:=?_) rfl rfl (fun w' hE=>?_) ?_;rotate_left 1;(· ((try (have hEx:=Ext.trans (Hid.out XE) hE));go_simp;(try go_bits);with_reducible rfl));simp only [Act.put,evp])
       | (refine walks_alt ?_ ?_)
       | (refine zai rfl rfl (fun K hK=>?_);go_wp2_with ((first | (go_at_call 34;(with_reducible refine (HUX _ (HAD _ (hxD.trans XE.out))).mono ?_);rintro e w2 ⟨rfl,hx2⟩;have XE':=hid (Ext.trans (Hid.out XE) hx2);clear XE;have XE:=XE';clear XE') | (go_at_call 35;first | ((with_reducible refine (HDX _ (HAD _ (hxD.trans XE.out))).mono ?_);rintro e w2 ⟨rfl,hx2⟩;have XE':=hid (Ext.trans (Hid.out XE) hx2);clear XE;have XE:=XE';clear XE') | ((with_reducible refine (HDC _ (HAD _ (hxD.trans XE.out))).mono ?_);rintro e w2 ⟨rfl,hx2⟩;have XE':=hid (Ext.trans (Hid.out XE) hx2);clear XE;have XE:=XE';clear XE'))));refine hK _ _ (by first | assumption | exact Ext.alloc _ _ | exact Ext.refl _) ?_;clear hK K;try simp only [Act.put,evp]))
      refine zaj ?_
      go_wp2
      exact ⟨⟨j+1,by omega,by go_num,by rw [← HS2.out,HE.out],hx.out.trans (hxD.trans XE.out)⟩,by simp [intOf];omega⟩
  ·obtain rfl:j=n:=by omega
   have hlt':¬ (j:Int)<(j:Int):=by omega
   have HF:Hid (zaJ l (bys name)=(za8 (bys name) 0 (-1,-1) (l.take j)).1):=by show _=_;rw [List.take_of_length_le (Nat.le_of_eq HLN.out.symm)];rfl
   go_wp2
   go_ret
   exact ⟨by rw [HF.out];(try rfl),hx.out⟩
def zeG (l:List CutR) (nm:ByteArray) (w:World) (e:Ending) (w':World):Prop:=e=.returned (.tuple #[.int .i64 (max (zaJ l (bys nm)) 0),.bool (decide (0≤zaJ l (bys nm)))])∧Ext w w'
theorem zrC {S:Nat→Prop} {A:Option Addr} {n c:Nat} {l:List CutR} {w:World} (h:Row Elem.cut S w A n c l) (name:ByteArray) (hG:Gl w) :
 Calls Tryz.prog 8 #[.slice A n c,.string name] w (zeG l name w):=by
 have HD:=zcS h name hG
 show Calls _ _ _ _ (fun e w'=>zeG l name w e w')
 unfold zeG
 clear h hG
 generalize zaJ l (bys name)=d at *
 by_cases h0:0≤d
 ·have h1:max d 0=d:=by omega
  rw [decide_eq_true h0,h1]
  go_enter Tryz.func8,Tryz.ntmps8
  go_wp2_with (go_at_call 18;(with_reducible refine HD.mono ?_);rintro e w1 ⟨rfl,hx1⟩;have HX1:=hid hx1;clear hx1)
  go_ret2
  exact ⟨rfl,HX1.out⟩
 ·have h1:max d 0=0:=by omega
  rw [h1]
  go_enter Tryz.func8,Tryz.ntmps8
  go_wp2_with (go_at_call 18;(with_reducible refine HD.mono ?_);rintro e w1 ⟨rfl,hx1⟩;have HX1:=hid hx1;clear hx1)
  go_ret2
  exact ⟨rfl,HX1.out⟩
theorem zjs {S:Nat→Prop} {A:Option Addr} {n c:Nat} {l:List CutR} {w:World} (h:Row Elem.cut S w A n c l) (name:ByteArray) (hG:Gl w) :
 Calls Tryz.prog 10 #[.slice A n c,.string name] w (zeG l name w):=by
 have HD:=zke h name hG
 show Calls _ _ _ _ (fun e w'=>zeG l name w e w')
 unfold zeG
 clear h hG
 generalize zaJ l (bys name)=d at *
 by_cases h0:0≤d
 ·have h1:max d 0=d:=by omega
  rw [decide_eq_true h0,h1]
  go_enter Tryz.func10,Tryz.ntmps10
  go_wp2_with (go_at_call 19;(with_reducible refine HD.mono ?_);rintro e w1 ⟨rfl,hx1⟩;have HX1:=hid hx1;clear hx1)
  go_ret2
  exact ⟨rfl,HX1.out⟩
 ·have h1:max d 0=0:=by omega
  rw [h1]
  go_enter Tryz.func10,Tryz.ntmps10
  go_wp2_with (go_at_call 19;(with_reducible refine HD.mono ?_);rintro e w1 ⟨rfl,hx1⟩;have HX1:=hid hx1;clear hx1)
  go_ret2
  exact ⟨rfl,HX1.out⟩
end Go.Proofs.YtioglicfndkgiaaGreatDoor
namespace Go.Proofs.YtioglicfndkgiaaGreatDoor
theorem zhw {a b c:List UInt8} (h1:zaP a b=true) (h2:zaP b c=true):zaP a c=true:=by
 obtain ⟨p1,p2,p3,p4⟩:=zbF.1 h1
 obtain ⟨-,q2,q3,q4⟩:=zbF.1 h2
 refine zbF.2 ⟨p1,q2,by omega,?_⟩
 generalize okL (zac a)=x at *
 generalize okL (zac b)=y at *
 generalize okL (zac c)=z at *
 have:x.drop (x.length-z.length)=(x.drop (x.length-y.length)).drop (y.length-z.length):=by
  rw [List.drop_drop]
  congr 1
  omega
 rw [this,p4,q4]
theorem zjt {a b c:List UInt8} (h1:zaP a b=true) (h2:zaP a c=true) (hd:zaz c<zaz b):zaP (zaO b).1 c=true:=by
 obtain ⟨-,p2,p3,p4⟩:=zbF.1 h1
 obtain ⟨-,q2,q3,q4⟩:=zbF.1 h2
 unfold zaz at hd
 have e:=zdo p2
 refine zbF.2 ⟨by rw [e];rfl,q2,?_,?_⟩
 ·rw [e]
  change _≤(okL (zac b)).tail.length
  rw [List.length_tail]
  omega
 ·rw [e]
  change (okL (zac b)).tail.drop ((okL (zac b)).tail.length-_)=_
  generalize okL (zac a)=x at *
  generalize okL (zac b)=y at *
  generalize okL (zac c)=z at *
  have e1:y.tail.drop (y.tail.length-z.length)=y.drop (y.length-z.length):=by
   rw [List.length_tail,← List.drop_one,List.drop_drop]
   congr 1
   omega
  have e2:x.drop (x.length-z.length)=(x.drop (x.length-y.length)).drop (y.length-z.length):=by
   rw [List.drop_drop]
   congr 1
   omega
  exact e1.trans ((by rw [e2,p4]:x.drop (x.length-z.length)=y.drop (y.length-z.length)).symm.trans q4)
theorem zod {Q:List CutR} (ha:Apart nmQ Q) {i j:Nat} {c:CutR} (hi:Q[i]?=some c) (hj:Q[j]?=some c):i=j:=by
 obtain ⟨hi1,hi2⟩:=List.getElem?_eq_some_iff.1 hi
 obtain ⟨hj1,hj2⟩:=List.getElem?_eq_some_iff.1 hj
 have h:=List.pairwise_iff_getElem.1 ha
 rcases Nat.lt_trichotomy i j with h1 | h1 | h1
 ·exact absurd (by rw [hi2,hj2]) (h i j hi1 hj1 h1)
 ·exact h1
 ·exact absurd (by rw [hi2,hj2]) (h j i hj1 hi1 h1)
section
variable {Q:List CutR} {nm:List UInt8}
theorem znA (hs:∀ c∈Q,zbD (nmQ c)=true) (ha:Apart nmQ Q) {i:Nat} {c:CutR} (hi:Q[i]?=some c) (hc:zaP nm (nmQ c)=true):∀ (k:Nat) (d:CutR),d∈Q→zaP nm (nmQ d)=true→zaz (nmQ c)<zaz (nmQ d)→zaz (nmQ d)≤k→∃ e∈ctxS Q i,zaP nm (nmQ e)=true:=by
 intro k
 induction k with
 | zero=>
  intro d _ _ h1 h2
  have:0≤zaz (nmQ c):=by unfold zaz;omega
  omega
 | succ k ih=>
  intro d hd hu hlt hk
  have hcm:c∈Q:=List.mem_of_getElem? hi
  have hpc:=zjt hu hc hlt
  obtain ⟨hd1,-,-⟩:=za2 (hs d hd)
  rcases zbJ Q (zaO (nmQ d)).1 with ⟨-,h⟩ | ⟨k1,e,h1,g1,u1,m1⟩
  ·rw [h c hcm] at hpc;cases hpc
  ·have hem:=List.mem_of_getElem? g1
   have hce:=m1 c hcm hpc
   have hue:=zhw hu (zep hd1 u1)
   by_cases he:zaz (nmQ c)<zaz (nmQ e)
   ·exact ih e hem hue he (by have:=zcz hd1 (zfV (hs d hd)) u1;omega)
   ·have e1:=ha.one hem hcm (zhe (hs e hem) (hs c hcm) hue hc (by omega))
    subst e1
    have:=zod ha hi g1
    subst this
    exact ⟨d,List.mem_filter.2 ⟨hd,decide_eq_true (show upC Q d=(i:Int) from h1)⟩,hu⟩
theorem znx (hs:∀ c∈Q,zbD (nmQ c)=true):∀ (k:Nat) (d:CutR),d∈Q→zaP nm (nmQ d)=true→zaz (nmQ d)≤k→∃ e∈topS Q,zaP nm (nmQ e)=true:=by
 intro k
 induction k with
 | zero=>
  intro d hd _ h2
  have:=zfV (hs d hd)
  unfold zaz at h2
  exact absurd (List.eq_nil_of_length_eq_zero (by omega)) this
 | succ k ih=>
  intro d hd hu hk
  obtain ⟨hd1,-,-⟩:=za2 (hs d hd)
  rcases zbJ Q (zaO (nmQ d)).1 with ⟨h1,-⟩ | ⟨k1,e,h1,g1,u1,m1⟩
  ·exact ⟨d,List.mem_filter.2 ⟨hd,by simp [upC,h1]⟩,hu⟩
  ·exact ih e (List.mem_of_getElem? g1) (zhw hu (zep hd1 u1)) (by have:=zcz hd1 (zfV (hs d hd)) u1;omega)
theorem znI (hs:∀ c∈Q,zbD (nmQ c)=true) {i:Nat} {c e:CutR} (hi:Q[i]?=some c) (he:e∈ctxS Q i):e∈Q∧zaz (nmQ c)<zaz (nmQ e):=by
 obtain ⟨h1,h2⟩:=List.mem_filter.1 he
 refine ⟨h1,?_⟩
 have h3:zaJ Q (zaO (nmQ e)).1=(i:Int):=of_decide_eq_true h2
 obtain ⟨hd1,-,-⟩:=za2 (hs e h1)
 rcases zbJ Q (zaO (nmQ e)).1 with ⟨h4,-⟩ | ⟨k1,c1,h4,g1,u1,-⟩
 ·omega
 ·obtain rfl:k1=i:=by omega
  rw [hi] at g1
  injection g1 with g1
  subst g1
  exact zcz hd1 (zfV (hs e h1)) u1
end
theorem zs0 (cs:List CutR) (nm:List UInt8):(zaJ cs nm = -1∧(za8 nm 0 (-1,-1) cs).2 = -1∧∀ c∈cs,zaP nm (nmQ c)=false) ∨
 ∃ (k:Nat) (c:CutR),zaJ cs nm=k∧cs[k]?=some c∧(za8 nm 0 (-1,-1) cs).2=zaz (nmQ c)∧zaP nm (nmQ c)=true∧∀ c'∈cs,zaP nm (nmQ c')=true→zaz (nmQ c')≤zaz (nmQ c):=by
 have h0:=zj7 cs nm cs.length (Nat.le_refl _)
 rw [List.take_length] at h0
 have e0:zaJ cs nm=(za8 nm 0 (-1,-1) cs).1:=rfl
 rcases h0 with e | ⟨k,c,e,hk⟩
 ·rcases zbJ cs nm with ⟨h1,h2⟩ | ⟨k1,c1,h1,g1,u1,m1⟩
  ·exact .inl ⟨h1,by rw [e],h2⟩
  ·rw [e0,e] at h1
   have:(-1:Int)=(k1:Int):=h1
   omega
 ·rcases zbJ cs nm with ⟨h1,h2⟩ | ⟨k1,c1,h1,g1,u1,m1⟩
  ·rw [e0,e] at h1
   have:(k:Int)=(-1:Int):=h1
   omega
  ·rw [e0,e] at h1
   have h3:(k:Int)=(k1:Int):=h1
   obtain rfl:k1=k:=by omega
   rw [hk] at g1
   injection g1 with g1
   subst g1
   exact .inr ⟨k1,c,by rw [e0,e],hk,by rw [e],u1,m1⟩
def idxS (Q:List CutR) (s:Int):List Nat:=(List.range Q.length).filter fun i=>decide (((Q[i]?).map (·.server)).getD (-1)=s)
theorem zrj {Q:List CutR} {s:Int} {i:Nat} (h:i∈idxS Q s):∃ c,Q[i]?=some c∧c.server=s:=by
 obtain ⟨h1,h2⟩:=List.mem_filter.1 h
 have h3:=List.mem_range.1 h1
 rw [List.getElem?_eq_getElem h3] at h2
 exact ⟨_,List.getElem?_eq_getElem h3,by simpa using h2⟩
theorem zrr {Q:List CutR} {i:Nat} {c:CutR} (h:Q[i]?=some c):i∈idxS Q c.server:=
 List.mem_filter.2 ⟨List.mem_range.2 (List.getElem?_eq_some_iff.1 h).1,by rw [h];simp⟩
abbrev rtS (L:List Ent) (Q:List CutR) (N:Nat):RtC:=rtOf (zaZ L Q N) (topS Q)
theorem zqY {L:List Ent} {Q:List CutR} {N:Nat} {s:Int} (h0:0≤s) (h1:s<N):zcH (rtS L Q N) s=(idxS Q s).map fun i=>(nmAt Q i,ctxS Q i):=by
 obtain ⟨t,rfl⟩:∃ t:Nat,s=t:=⟨s.toNat,by omega⟩
 have ht:t<N:=by omega
 unfold zcH rtS rtOf zaZ
 simp only [List.map_map,Int.toNat_natCast]
 rw [List.getElem?_map,List.getElem?_range ht]
 simp only [Option.map_some,Option.getD_some,Function.comp_apply]
 unfold srvF
 rw [List.map_map]
 rfl
def depF (c:RtC) (nm:List UInt8) (s:Int):Int:=(za8 nm 0 (-1,-1) (zb5 (zcH c s))).2
theorem zhm {L:List Ent} {Q:List CutR} {N:Nat} {nm:List UInt8} {s:Int} (h0:0≤s) (h1:s<N) :
 (zaJ (zb5 (zcH (rtS L Q N) s)) nm = -1∧depF (rtS L Q N) nm s = -1∧∀ d∈Q,d.server=s→zaP nm (nmQ d)=false) ∨
 ∃ (i:Nat) (d:CutR) (k:Nat),Q[i]?=some d∧d.server=s∧zaP nm (nmQ d)=true∧depF (rtS L Q N) nm s=zaz (nmQ d)∧zaJ (zb5 (zcH (rtS L Q N) s)) nm=k∧(zcH (rtS L Q N) s)[k]?=some (d.name,ctxS Q i) ∧
  ∀ d'∈Q,d'.server=s→zaP nm (nmQ d')=true→zaz (nmQ d')≤zaz (nmQ d):=by
 have e:=zqY (L:=L) (Q:=Q) h0 h1
 have hin:∀ d∈Q,d.server=s→(⟨d.name,0⟩:CutR)∈zb5 (zcH (rtS L Q N) s):=fun d hd hds=>by
  obtain ⟨i,hi⟩:=List.getElem?_of_mem hd
  rw [e]
  unfold zb5
  rw [List.map_map]
  refine List.mem_map.2 ⟨i,hds ▸ zrr hi,?_⟩
  show (⟨nmAt Q i,0⟩:CutR)=_
  unfold nmAt
  rw [hi]
  rfl
 rcases zs0 (zb5 (zcH (rtS L Q N) s)) nm with ⟨d1,d2,d3⟩ | ⟨k,c,d1,d2,d3,d4,d5⟩
 ·exact .inl ⟨d1,d2,fun d hd hds=>d3 ⟨d.name,0⟩ (hin d hd hds)⟩
 ·have d2':=d2
  rw [e] at d2'
  unfold zb5 at d2'
  rw [List.map_map,List.getElem?_map] at d2'
  obtain ⟨i,hi,hc⟩:=Option.map_eq_some_iff.1 d2'
  obtain ⟨d,hd,hds⟩:=zrj (List.mem_of_getElem? hi)
  have hn:nmAt Q i=d.name:=by unfold nmAt;rw [hd];rfl
  have hc':c=⟨d.name,0⟩:=by rw [← hc,← hn];rfl
  have hq:nmQ c=nmQ d:=by rw [hc']
  rw [hq] at d3 d4
  refine .inr ⟨i,d,k,hd,hds,d4,d3,d1,?_,fun d' hd' hds' hu=>?_⟩
  ·rw [e,List.getElem?_map,hi,Option.map_some,hn]
  ·have:=d5 _ (hin d' hd' hds') hu
   rw [hq] at this
   exact this
theorem zq2 {N:Nat} {path:List Int} (hd:path.Nodup) (hr:∀ x∈path,0≤x∧x<(N:Int)):path.length≤N:=by
 have hsub:path.map Int.toNat ⊆ List.range N:=by
  intro x hx
  obtain ⟨y,hy,rfl⟩:=List.mem_map.1 hx
  have:=hr y hy
  rw [List.mem_range]
  omega
 have hnd:(path.map Int.toNat).Nodup:=by
  unfold List.Nodup at hd ⊢
  rw [List.pairwise_map]
  exact List.Pairwise.imp_of_mem (fun ha hb hab e=>hab (by have:=hr _ ha;have:=hr _ hb;omega)) hd
 have h2:=List.Nodup.length_le_of_subset hnd hsub
 rw [List.length_map,List.length_range] at h2
 exact h2
theorem znm {path:List Int} {t:Int} (h:path.Nodup) (ht:t ∉ path):(path++[t]).Nodup:=by
 rw [List.nodup_append]
 exact ⟨h,by simp,fun a ha b hb=>by simp at hb;subst hb;rintro rfl;exact ht ha⟩
theorem zoC {held:Int→Bool} {near:Int→Int × Bool} {n:Int} {path:List Int} {s:Int} (h:held s=true):zcN held near n path s=.inl 0:=by
 unfold zcN
 rw [if_pos h]
theorem zpF {held:Int→Bool} {near:Int→Int × Bool} {n:Int} {path:List Int} {s a:Int} (h:held s=false) (h2:near s=(a,false)):zcN held near n path s=.inl 32:=by
 unfold zcN
 rw [if_neg (by rw [h];decide),h2,if_pos rfl]
theorem zme {held:Int→Bool} {near:Int→Int × Bool} {n:Int} {path:List Int} {s t:Int} (h:held s=false) (h2:near s=(t,true)) (h3:0≤t) (h4:t<n) (h5:t ∉ path):zcN held near n path s=.inr t:=by
 unfold zcN
 rw [if_neg (by rw [h];decide),h2,if_neg (by simp),if_neg (by simp only [];omega),if_neg h5]
def zmT (Q:List CutR) (nm:List UInt8) (p:List Int) (code:Int):Prop:=
 (0≤zaJ Q nm→code=0∧∃ d,Q[(zaJ Q nm).toNat]?=some d∧p.getLast?=some d.server)∧(zaJ Q nm<0→code=32∧p.getLast?=some 0)
theorem znr {L:List Ent} {Q:List CutR} {N:Nat} {nm:List UInt8} (hs:∀ c∈Q,zbD (nmQ c)=true) (ha:Apart nmQ Q) (hv:∀ c∈Q,0≤c.server∧c.server<(N:Int)) (h1N:1≤N) (hcd:zap (zac nm)=0):∀ (f:Nat) (path:List Int) (s:Int),path.getLast?=some s→path.Nodup→(∀ x∈path,0≤x∧x<(N:Int))→N+1≤f+path.length →
 (∀ x∈path,depF (rtS L Q N) nm x≤depF (rtS L Q N) nm s∨depF (rtS L Q N) nm x = -1)→(depF (rtS L Q N) nm s = -1→s=0∨path=[s]) →
 ∃ q code,walkF (fun s=>(zd5 (rtS L Q N) s nm).2) (fun s=>zc5 (rtS L Q N) s nm) N f path s=(path++q,code)∧zmT Q nm (path++q) code:=by
 have hlen:(rtS L Q N).servers.length=N:=by
  show ((zaZ L Q N).map _).length=N
  unfold zaZ
  simp
 intro f
 induction f with
 | zero=>
  intro path s hl hd hr hf _ _
  have:=zq2 hd hr
  omega
 | succ f ih=>
  intro path s hl hd hr hf hdep hone
  have hsm:s∈path:=List.mem_of_getLast? hl
  obtain ⟨hs0,hs1⟩:=hr s hsm
  have hrng:¬ (zap (zac nm)≠0∨s<0∨((rtS L Q N).servers.length:Int)≤s):=by rw [hlen];omega
  -- going on to a server that is deeper than all before
  have go:∀ t:Int,0≤t→t<N→t ∉ path→zcN (fun s=>(zd5 (rtS L Q N) s nm).2) (fun s=>zc5 (rtS L Q N) s nm) N path s=.inr t→(∀ x∈path,depF (rtS L Q N) nm x≤depF (rtS L Q N) nm t∨depF (rtS L Q N) nm x = -1)→(depF (rtS L Q N) nm t = -1→t=0) →
   ∃ q code,walkF (fun s=>(zd5 (rtS L Q N) s nm).2) (fun s=>zc5 (rtS L Q N) s nm) N (f+1) path s=(path++q,code)∧zmT Q nm (path++q) code:=fun t ht0 ht1 htp hst hd2 ho2=>by
   obtain ⟨q,code,h1,h2⟩:=ih (path++[t]) t (by simp) (znm hd htp) (fun x hx=>by
    rcases List.mem_append.1 hx with h | h
    ·exact hr x h
    ·simp at h;subst h;exact ⟨ht0,ht1⟩) (by simp;omega) (fun x hx=>by
    rcases List.mem_append.1 hx with h | h
    ·exact hd2 x h
    ·simp at h;subst h;exact .inl (Int.le_refl _)) (fun h=>.inl (ho2 h))
   refine ⟨t::q,code,?_,?_⟩
   ·rw [zkT hst,h1];simp
   ·have e:path++t::q=(path++[t])++q:=by simp
    rw [e];exact h2
  -- a server that holds a cut that the name is under
  have deeper:∀ e∈Q,zaP nm (nmQ e)=true→zaz (nmQ e)≤depF (rtS L Q N) nm e.server:=fun e he hu=>by
   obtain ⟨h1,h2⟩:=hv e he
   rcases zhm (L:=L) (Q:=Q) (nm:=nm) h1 h2 with ⟨-,-,h3⟩ | ⟨i,d,k,h3,h4,h5,h6,-,-,h7⟩
   ·rw [h3 e he rfl] at hu;cases hu
   ·rw [h6];exact h7 e he rfl hu
  have dnn:∀ x:List UInt8,0≤zaz x:=fun x=>by unfold zaz;omega
  rcases zhm (L:=L) (Q:=Q) (nm:=nm) hs0 hs1 with ⟨d1,d2,d3⟩ | ⟨i,d,k,g1,g2,g3,g4,g5,g6,g7⟩
  ·-- none here
   have hfind:zca (rtS L Q N) s nm=(-1,-1):=by
    unfold zca
    rw [if_neg hrng,if_pos (by omega)]
   have hheld:(zd5 (rtS L Q N) s nm).2=false:=by
    unfold zd5
    rw [hfind,if_pos (.inl (by decide))]
   by_cases hz:s=0
   ·by_cases ht:0≤zaJ (topS Q) nm
    ·rcases zbJ (topS Q) nm with ⟨h,-⟩ | ⟨k,e,h1,h2,h3,-⟩
     ·omega
     have heQ:e∈Q:=(List.mem_filter.1 (List.mem_of_getElem? h2)).1
     have hnear:zc5 (rtS L Q N) s nm=(e.server,true):=by
      unfold zc5
      rw [if_neg hrng,hfind,if_neg (by decide),if_neg (by decide),if_neg (by simp [hz]),if_pos (show 0≤zaJ (rtS L Q N).top nm from ht)]
      show (((((topS Q)[(zaJ (topS Q) nm).toNat]?).map (·.server)).getD 0),true)=_
      rw [h1,Int.toNat_natCast,h2]
      rfl
     have hdt:=deeper e heQ h3
     have hp:=dnn (nmQ e)
     have hmax:∀ x∈path,depF (rtS L Q N) nm x = -1:=fun x hx=>by
      rcases hdep x hx with h | h
      ·rcases zhm (L:=L) (Q:=Q) (nm:=nm) (hr x hx).1 (hr x hx).2 with ⟨-,h5,-⟩ | ⟨-,d,-,-,-,-,h5,-⟩
       ·exact h5
       ·have:=dnn (nmQ d);omega
      ·exact h
     obtain ⟨t0,t1⟩:=hv e heQ
     have htp:e.server ∉ path:=fun hm=>by have:=hmax _ hm;omega
     exact go e.server t0 t1 htp (zme hheld hnear t0 t1 htp) (fun x hx=>.inr (hmax x hx)) (fun h=>by omega)
    ·have hnear:zc5 (rtS L Q N) s nm=(0,false):=by
      unfold zc5
      rw [if_neg hrng,hfind,if_neg (by decide),if_neg (by decide),if_neg (by simp [hz]),if_neg (show ¬ 0≤zaJ (rtS L Q N).top nm from ht)]
     have hst:zcN (fun s=>(zd5 (rtS L Q N) s nm).2) (fun s=>zc5 (rtS L Q N) s nm) N path s=.inl 32:=zpF hheld hnear
     refine ⟨[],32,by rw [zc8 hst];simp,fun h=>?_,fun _=>⟨rfl,by rw [List.append_nil,hl,hz]⟩⟩
     rcases zbJ Q nm with ⟨h5,-⟩ | ⟨k,e,h5,h6,h7,-⟩
     ·omega
     ·obtain ⟨x,hx,hu⟩:=znx hs (zaz (nmQ e)).toNat e (List.mem_of_getElem? h6) h7 (by have:=dnn (nmQ e);omega)
      obtain ⟨k',y,hk,-,-⟩:=zfC hx hu
      omega
   ·have hnear:zc5 (rtS L Q N) s nm=(0,true):=by
     unfold zc5
     rw [if_neg hrng,hfind,if_neg (by decide),if_neg (by decide),if_pos hz]
    have hp:path=[s]:=by
     rcases hone d2 with h | h
     ·exact absurd h hz
     ·exact h
    have htp:(0:Int) ∉ path:=by rw [hp];simp;exact fun h=>hz h.symm
    exact go 0 (by omega) (by omega) htp (zme hheld hnear (by omega) (by omega) htp) (fun x hx=>.inr (by rw [hp] at hx;simp at hx;rw [hx];exact d2)) (fun _=>rfl)
  ·-- one here
   have hfind:zca (rtS L Q N) s nm=((k:Int),zaJ (ctxS Q i) nm):=by
    unfold zca
    rw [if_neg hrng,g5,if_neg (by omega),Int.toNat_natCast,g6]
    rfl
   by_cases hsub:0≤zaJ (ctxS Q i) nm
   ·rcases zbJ (ctxS Q i) nm with ⟨h,-⟩ | ⟨k2,e,h1,h2,h3,-⟩
    ·omega
    obtain ⟨heQ,hde⟩:=znI hs g1 (List.mem_of_getElem? h2)
    have hheld:(zd5 (rtS L Q N) s nm).2=false:=by
     unfold zd5
     rw [hfind,if_pos (.inr hsub)]
    have hnear:zc5 (rtS L Q N) s nm=(e.server,true):=by
     unfold zc5
     rw [if_neg hrng,hfind,if_pos hsub]
     show ((((((zcH (rtS L Q N) s)[((k:Int)).toNat]?.map (·.2)).getD [])[(zaJ (ctxS Q i) nm).toNat]?).map (·.server)).getD 0,true)=_
     rw [Int.toNat_natCast,g6,h1,Int.toNat_natCast]
     show (((((ctxS Q i)[k2]?).map (·.server)).getD 0),true)=_
     rw [h2]
     rfl
    have hdt:=deeper e heQ h3
    have hmax:∀ x∈path,depF (rtS L Q N) nm x<depF (rtS L Q N) nm e.server:=fun x hx=>by
     have:=dnn (nmQ e)
     rcases hdep x hx with h | h <;> omega
    obtain ⟨t0,t1⟩:=hv e heQ
    have htp:e.server ∉ path:=fun hm=>by have:=hmax _ hm;omega
    exact go e.server t0 t1 htp (zme hheld hnear t0 t1 htp) (fun x hx=>.inl (Int.le_of_lt (hmax x hx))) (fun h=>by have:=dnn (nmQ e);omega)
   ·have hheld:(zd5 (rtS L Q N) s nm).2=true:=by
     unfold zd5
     rw [hfind,if_neg (by show ¬ ((k:Int)<0∨_);omega)]
    have hst:zcN (fun s=>(zd5 (rtS L Q N) s nm).2) (fun s=>zc5 (rtS L Q N) s nm) N path s=.inl 0:=zoC hheld
    have hdm:d∈Q:=List.mem_of_getElem? g1
    rcases zbJ Q nm with ⟨-,h⟩ | ⟨k2,e,h1,h2,h3,h4⟩
    ·rw [h d hdm] at g3;cases g3
    have hem:=List.mem_of_getElem? h2
    have hle:=h4 d hdm g3
    have hed:e=d:=by
     by_cases hlt:zaz (nmQ d)<zaz (nmQ e)
     ·obtain ⟨x,hx,hu⟩:=znA hs ha g1 g3 (zaz (nmQ e)).toNat e hem h3 hlt (by have:=dnn (nmQ e);omega)
      obtain ⟨k',y,hk,-,-⟩:=zfC hx hu
      omega
     ·exact ha.one hem hdm (zhe (hs e hem) (hs d hdm) h3 g3 (by omega))
    subst hed
    refine ⟨[],0,by rw [zc8 hst];simp,fun _=>⟨rfl,e,by rw [h1,Int.toNat_natCast];exact h2,by rw [List.append_nil,hl,g2]⟩,fun h=>by omega⟩
theorem znJ {L:List Ent} {Q:List CutR} {N:Nat} {nm:List UInt8} (hs:∀ c∈Q,zbD (nmQ c)=true) (ha:Apart nmQ Q) (hv:∀ c∈Q,0≤c.server∧c.server<(N:Int)) (h1N:1≤N) {s:Int} (h0:0≤s) (h1:s<N) :
 (zap (zac nm)≠0∧zcX (rtS L Q N) s nm=([],34))∨(zap (zac nm)=0∧∃ q code,zcX (rtS L Q N) s nm=(s::q,code)∧zmT Q nm (s::q) code):=by
 have hlen:(rtS L Q N).servers.length=N:=by
  show ((zaZ L Q N).map _).length=N
  unfold zaZ
  simp
 by_cases hcd:zap (zac nm)≠0
 ·exact .inl ⟨hcd,by unfold zcX;rw [if_pos hcd]⟩
 ·refine .inr ⟨by omega,?_⟩
  obtain ⟨q,code,e1,e2⟩:=znr (L:=L) hs ha hv h1N (by omega:zap (zac nm)=0) (N+1) [s] s rfl (by simp) (fun x hx=>by simp at hx;subst hx;exact ⟨h0,h1⟩) (by rw [List.length_singleton];omega) (fun x hx=>by simp at hx;subst hx;exact .inl (Int.le_refl _)) (fun _=>.inr rfl)
  refine ⟨q,code,?_,e2⟩
  unfold zcX
  rw [if_neg hcd,if_neg (by rw [hlen];omega),hlen]
  exact e1
end Go.Proofs.YtioglicfndkgiaaGreatDoor
namespace Go.Proofs.YtioglicfndkgiaaGreatDoor
open Go.RowKit
set_option maxRecDepth 100000
theorem znn {s:List (List Cxt)} {t:List CutR} {k:Nat} {l:List Cxt} {nm:List UInt8} (hc:zap (zac nm)=0) (hk:s[k]?=some l) :
 zca (rtOf s t) (k:Int) nm=(-1,-1)∨∃ (q:Nat) (x:Cxt),l[q]?=some x∧zca (rtOf s t) (k:Int) nm=((q:Int),zaJ x.subs nm):=by
 have hlt:=(List.getElem?_eq_some_iff.1 hk).1
 have hlen:(rtOf s t).servers.length=s.length:=by simp [rtOf]
 have hb:¬ (zap (zac nm)≠0∨(k:Int)<0∨((rtOf s t).servers.length:Int)≤(k:Int)):=by
  rw [hlen]
  rintro (h | h | h)
  ·exact h hc
  ·omega
  ·omega
 by_cases hd:zaJ (zbw l) nm<0
 ·exact .inl (zkc (by rw [zgr hk];exact hd))
 ·right
  have hr:=zc3 (zbw l) nm
  have hcl:(zbw l).length=l.length:=by simp [zbw]
  obtain ⟨q,hq⟩:∃ q:Nat,zaJ (zbw l) nm=(q:Int):=⟨(zaJ (zbw l) nm).toNat,by omega⟩
  have hql:q<l.length:=by omega
  refine ⟨q,l[q],List.getElem?_eq_getElem hql,?_⟩
  rw [zkh hb (by rw [zgr hk];exact hd),zgr hk,hq]
  simp only [Int.toNat_natCast]
  rw [zlS hk (List.getElem?_eq_getElem hql)]
def zdY (w:World) (r:Int × Bool) (e:Ending) (w':World):Prop:=e=.returned (.tuple #[.int .i64 r.1,.bool r.2])∧Ext w w'
theorem zjA {c:RtC} {s:Int} {nm:List UInt8} (h:zap (zac nm)≠0∨s<0∨(c.servers.length:Int)≤s):zc5 c s nm=(0,false):=by unfold zc5;rw [if_pos h]
theorem zpq {c:RtC} {s:Int} {nm:List UInt8} (h:¬ (zap (zac nm)≠0∨s<0∨(c.servers.length:Int)≤s)):zc5 c s nm =
 if 0≤(zca c s nm).2 then ((((((zcH c s)[(zca c s nm).1.toNat]?.map (·.2)).getD [])[(zca c s nm).2.toNat]?).map (·.server)).getD 0,true)
 else if 0≤(zca c s nm).1 then (0,false) else if s≠0 then (0,true)
 else if 0≤zaJ c.top nm then (((c.top[(zaJ c.top nm).toNat]?).map (·.server)).getD 0,true) else (0,false):=by unfold zc5;rw [if_neg h]
theorem zmZ {S:Nat→Prop} {w:World} {A:Option Addr} {n c:Nat} {B:Option Addr} {m d:Nat} {s:List (List Cxt)} {t:List CutR} (h:CfgAt S w A n c B m d s t) (hG:Gl w) (server:Int) (name:ByteArray) (hs:∀ l∈s,l.length≤4000000) :
 Calls Tryz.prog 30 #[.agg #[.slice A n c,.slice B m d],.int .i64 server,.string name] w (zdY w (zc5 (rtOf s t) server (bys name))):=by
 have HG:=hid hG
 have HR:=hid h.srv
 have HT:=hid h.top
 have hn:n≤9223372036854775807:=by have:=h.srv.cap;have:=h.srv.most;simp only [maxLen] at this;omega
 have HN:∀ w,Gl w→Calls Tryz.prog 25 #[.string name] w (zaM w (bys name)):=fun w hG=>zbx name w hG
 have HFI:∀ w',Ext w w'→Calls Tryz.prog 56 #[.agg #[.slice A n c,.slice B m d],.int .i64 server,.string name] w' (zcJ w' (zca (rtOf s t) server (bys name))):=fun w' hx=>ze1 (h.ext hx) (hG.ext hx) server name hs
 have HTP:∀ w',Ext w w'→Calls Tryz.prog 18 #[.slice B m d,.string name] w' fun e w''=>e=.returned (.int .i64 (zaJ t (bys name)))∧Ext w' w'':=fun w' hx=>zcS (h.top.ext hx) name (hG.ext hx)
 have HB0:=hid (Bx.make (Ext.refl w) #[.slice A n c,.slice B m d] 33)
 have HCL:Hid ((rtOf s t).servers.length=n):=by show _=_;rw [h.srv.len];simp [rtOf]
 unfold zaM at HN
 unfold zcJ at HFI
 clear hG h hs
 by_cases hc:zap (zac (bys name))=0
 case neg=>
  have HF:=hid (zjA (c:=rtOf s t) (s:=server) (nm:=bys name) (.inl hc))
  have e0:(zap (zac (bys name)) != 0)=true:=by rw [bne_iff_ne];exact hc
  unfold zdY
  rw [HF.out]
  clear hc
  generalize zap (zac (bys name))=cd at *
  go_enter Tryz.func30,Tryz.ntmps30
  go_wp2_with
   (go_at_call 25;(with_reducible refine (HN _ (HG.out.ext (Ext.alloc _ _))).mono ?_);rintro e w1 ⟨rfl,hx1⟩;have HB1:=hid (HB0.out.later hx1);have a0:=HB1.out.cell (i:=0) rfl;have a1:=HB1.out.cell (i:=1) rfl;clear hx1)
  go_ret2
  exact ⟨rfl,HB1.out.ext⟩
 have HCD:=hid hc
 have e0:(zap (zac (bys name)) != 0)=false:=by rw [hc];rfl
 by_cases hneg:server<0
 ·have HF:=hid (zjA (c:=rtOf s t) (s:=server) (nm:=bys name) (.inr (.inl hneg)))
  unfold zdY
  rw [HF.out]
  clear hc HCD
  generalize zap (zac (bys name))=cd at *
  go_enter Tryz.func30,Tryz.ntmps30
  go_wp2_with
   (go_at_call 25;(with_reducible refine (HN _ (HG.out.ext (Ext.alloc _ _))).mono ?_);rintro e w1 ⟨rfl,hx1⟩;have HB1:=hid (HB0.out.later hx1);have a0:=HB1.out.cell (i:=0) rfl;have a1:=HB1.out.cell (i:=1) rfl;clear hx1)
  go_ret2
  exact ⟨rfl,HB1.out.ext⟩
 obtain ⟨k,rfl⟩:∃ k:Nat,server=(k:Int):=⟨server.toNat,by omega⟩
 by_cases hge:n≤k
 ·have hge':(n:Int)≤(k:Int):=by omega
  have HF:=hid (zjA (c:=rtOf s t) (s:=(k:Int)) (nm:=bys name) (.inr (.inr (by rw [HCL.out];exact hge'))))
  unfold zdY
  rw [HF.out]
  clear hc HCD hge
  generalize zap (zac (bys name))=cd at *
  go_enter Tryz.func30,Tryz.ntmps30
  go_wp2_with
   (go_at_call 25;(with_reducible refine (HN _ (HG.out.ext (Ext.alloc _ _))).mono ?_);rintro e w1 ⟨rfl,hx1⟩;have HB1:=hid (HB0.out.later hx1);have a0:=HB1.out.cell (i:=0) rfl;have a1:=HB1.out.cell (i:=1) rfl;clear hx1)
  go_ret2
  exact ⟨rfl,HB1.out.ext⟩
 have hlt:k<n:=by omega
 have hge':¬ (n:Int)≤(k:Int):=by omega
 have hk0:decide ((k:Int)<0)=false:=decide_eq_false (by omega)
 have hk1:decide (n≤k)=false:=decide_eq_false (by omega)
 obtain ⟨b1,o1,v1,x1,rfl,g1,-,⟨A1,n1,c1,rfl,r1⟩,q1⟩:=HR.out.at_ hlt
 have HF:=hid (zpq (c:=rtOf s t) (s:=(k:Int)) (nm:=bys name) (by rw [HCL.out];rintro (h | h | h);exact h hc;omega;omega))
 have E1:=hid (q1 0 _ rfl)
 have R1:=hid r1
 have Hg1:=hid g1
 have hn1:n1≤9223372036854775807:=by have:=r1.cap;have:=r1.most;simp only [maxLen] at this;omega
 rw [show (rtOf s t).top=t from rfl] at HF
 have hdt:=zc3 t (bys name)
 rw [← HT.out.len] at hdt
 unfold zdY
 rcases znn (t:=t) hc g1 with hf | ⟨q,x,hx,hf⟩
 ·rw [hf] at HFI HF
  rw [if_neg (by decide),if_neg (by decide)] at HF
  by_cases hk:k=0
  ·subst hk
   rw [if_neg (by simp)] at HF
   rw [show ((0:Nat):Int)=0 from rfl] at HFI
   by_cases hd:0≤zaJ t (bys name)
   ·obtain ⟨q,hq⟩:∃ q:Nat,zaJ t (bys name)=(q:Int):=⟨(zaJ t (bys name)).toNat,by omega⟩
    have hqm:q<m:=by omega
    rw [if_pos hd,hq] at HF
    rw [hq] at HTP
    obtain ⟨b5,o5,v5,x5,rfl,g5,-,r5,q5⟩:=HT.out.at_ hqm
    have E5:=hid (q5 1 (.int .i64 x5.server) (by rw [show v5=x5.cells from r5];rfl))
    simp only [Int.toNat_natCast,g5,Option.map_some,Option.getD_some] at HF
    rw [HF.out]
    have tq:(0:Int)≤(q:Int):=by omega
    have hm9:m≤9223372036854775807:=by have:=HT.out.cap;have:=HT.out.most;simp only [maxLen] at this;omega
    clear hc HCD hge hd hq hdt g5 r5 q5 g1 r1 q1 hf hneg
    generalize zap (zac (bys name))=cd at *
    generalize x5.server=sv at *
    go_enter Tryz.func30,Tryz.ntmps30
    go_wp2_with
     (first
       | (go_at_call 25;(with_reducible refine (HN _ (HG.out.ext (Ext.alloc _ _))).mono ?_);rintro e w1 ⟨rfl,hx1⟩;have HB1:=hid (HB0.out.later hx1);have a0:=HB1.out.cell (i:=0) rfl;have a1:=HB1.out.cell (i:=1) rfl;clear hx1)
       | (go_at_call 56;(with_reducible refine (HFI _ HB1.out.ext).mono ?_);rintro e w2 ⟨rfl,hx2⟩;have HB2:=hid (HB1.out.later hx2);have b0:=HB2.out.cell (i:=0) rfl;have b1':=HB2.out.cell (i:=1) rfl;skip;clear hx2 a0 a1)
       | (go_at_call 18;(with_reducible refine (HTP _ HB2.out.ext).mono ?_);rintro e w3 ⟨rfl,hx3⟩;have HB3:=hid (HB2.out.later hx3);have d0:=HB3.out.cell (i:=0) rfl;have d1:=HB3.out.cell (i:=1) rfl;have d5:=zaa E5.out _ HB3.out.ext;simp only [Elem.cut] at d5;clear hx3 b0 b1'))
    go_ret2
    exact ⟨rfl,HB3.out.ext⟩
   ·rw [if_neg hd] at HF
    rw [HF.out]
    clear hc HCD hge hdt g1 r1 q1 hf hneg
    generalize zap (zac (bys name))=cd at *
    generalize zaJ t (bys name)=dt at *
    go_enter Tryz.func30,Tryz.ntmps30
    go_wp2_with
     (first
       | (go_at_call 25;(with_reducible refine (HN _ (HG.out.ext (Ext.alloc _ _))).mono ?_);rintro e w1 ⟨rfl,hx1⟩;have HB1:=hid (HB0.out.later hx1);have a0:=HB1.out.cell (i:=0) rfl;have a1:=HB1.out.cell (i:=1) rfl;clear hx1)
       | (go_at_call 56;(with_reducible refine (HFI _ HB1.out.ext).mono ?_);rintro e w2 ⟨rfl,hx2⟩;have HB2:=hid (HB1.out.later hx2);have b0:=HB2.out.cell (i:=0) rfl;have b1':=HB2.out.cell (i:=1) rfl;skip;clear hx2 a0 a1)
       | (go_at_call 18;(with_reducible refine (HTP _ HB2.out.ext).mono ?_);rintro e w3 ⟨rfl,hx3⟩;have HB3:=hid (HB2.out.later hx3);have d0:=HB3.out.cell (i:=0) rfl;have d1:=HB3.out.cell (i:=1) rfl;skip;clear hx3 b0 b1'))
    go_ret2
    exact ⟨rfl,HB3.out.ext⟩
  ·rw [if_pos (by omega)] at HF
   rw [HF.out]
   have hk9:((k:Int) != 0)=true:=by rw [bne_iff_ne];omega
   clear hc HCD hge hdt g1 r1 q1 hf hneg hk
   generalize zap (zac (bys name))=cd at *
   go_enter Tryz.func30,Tryz.ntmps30
   go_wp2_with
    (first
      | (go_at_call 25;(with_reducible refine (HN _ (HG.out.ext (Ext.alloc _ _))).mono ?_);rintro e w1 ⟨rfl,hx1⟩;have HB1:=hid (HB0.out.later hx1);have a0:=HB1.out.cell (i:=0) rfl;have a1:=HB1.out.cell (i:=1) rfl;clear hx1)
      | (go_at_call 56;(with_reducible refine (HFI _ HB1.out.ext).mono ?_);rintro e w2 ⟨rfl,hx2⟩;have HB2:=hid (HB1.out.later hx2);have b0:=HB2.out.cell (i:=0) rfl;have b1':=HB2.out.cell (i:=1) rfl;skip;clear hx2 a0 a1)
      | (go_at_call 18;(with_reducible refine (HTP _ HB2.out.ext).mono ?_);rintro e w3 ⟨rfl,hx3⟩;have HB3:=hid (HB2.out.later hx3);have d0:=HB3.out.cell (i:=0) rfl;have d1:=HB3.out.cell (i:=1) rfl;skip;clear hx3 b0 b1'))
   go_ret2
   exact ⟨rfl,HB2.out.ext⟩
 ·rw [hf] at HFI HF
  simp only [Int.toNat_natCast] at HF
  rw [zlS g1 hx] at HF
  have tq:(0:Int)≤(q:Int):=by omega
  by_cases hd:0≤zaJ x.subs (bys name)
  ·obtain ⟨r,hr⟩:∃ r:Nat,zaJ x.subs (bys name)=(r:Int):=⟨(zaJ x.subs (bys name)).toNat,by omega⟩
   have hdr:=zc3 x.subs (bys name)
   have hqn:q<n1:=by rw [r1.len];exact (List.getElem?_eq_some_iff.1 hx).1
   obtain ⟨b5,o5,v5,x5,rfl,g5,-,⟨A5,n5,c5,B5,m5,d5,rfl,r5,s5⟩,q5⟩:=R1.out.at_ hqn
   obtain rfl:x5=x:=by rw [hx] at g5;injection g5 with g5;exact g5.symm
   have hrm:r<m5:=by rw [s5.len];omega
   obtain ⟨b6,o6,v6,x6,rfl,g6,-,r6,q6⟩:=s5.at_ hrm
   have E5:=hid (q5 2 _ rfl)
   have E6:=hid (q6 1 (.int .i64 x6.server) (by rw [show v6=x6.cells from r6];rfl))
   rw [if_pos hd,hr] at HF
   rw [hr] at HFI
   simp only [Int.toNat_natCast,g6,Option.map_some,Option.getD_some] at HF
   rw [HF.out]
   have tr:(0:Int)≤(r:Int):=by omega
   have hm9:m5≤9223372036854775807:=by have:=s5.cap;have:=s5.most;simp only [maxLen] at this;omega
   clear hc HCD hge hd hr hdt hdr g5 r5 q5 g6 r6 q6 g1 r1 q1 hf hneg hx s5
   generalize zap (zac (bys name))=cd at *
   generalize x6.server=sv at *
   go_enter Tryz.func30,Tryz.ntmps30
   go_wp2_with
    (first
      | (go_at_call 25;(with_reducible refine (HN _ (HG.out.ext (Ext.alloc _ _))).mono ?_);rintro e w1 ⟨rfl,hx1⟩;have HB1:=hid (HB0.out.later hx1);have a0:=HB1.out.cell (i:=0) rfl;have a1:=HB1.out.cell (i:=1) rfl;clear hx1)
      | (go_at_call 56;(with_reducible refine (HFI _ HB1.out.ext).mono ?_);rintro e w2 ⟨rfl,hx2⟩;have HB2:=hid (HB1.out.later hx2);have b0:=HB2.out.cell (i:=0) rfl;have b1':=HB2.out.cell (i:=1) rfl;have c1':=zaa E1.out _ HB2.out.ext;have c5':=zaa E5.out _ HB2.out.ext;have c6':=zaa E6.out _ HB2.out.ext;simp only [Elem.srw,Elem.slc,Elem.cxt,Elem.cut,Nat.add_zero,Nat.mul_one] at c1' c5' c6';clear hx2 a0 a1)
      | (go_at_call 18;(with_reducible refine (HTP _ HB2.out.ext).mono ?_);rintro e w3 ⟨rfl,hx3⟩;have HB3:=hid (HB2.out.later hx3);have d0:=HB3.out.cell (i:=0) rfl;have d1:=HB3.out.cell (i:=1) rfl;skip;clear hx3 b0 b1'))
   go_ret2
   exact ⟨rfl,HB2.out.ext⟩
  ·rw [if_neg hd,if_pos tq] at HF
   rw [HF.out]
   clear hc HCD hge hdt g1 r1 q1 hf hneg hx
   generalize zap (zac (bys name))=cd at *
   generalize zaJ x.subs (bys name)=dt at *
   go_enter Tryz.func30,Tryz.ntmps30
   go_wp2_with
    (first
      | (go_at_call 25;(with_reducible refine (HN _ (HG.out.ext (Ext.alloc _ _))).mono ?_);rintro e w1 ⟨rfl,hx1⟩;have HB1:=hid (HB0.out.later hx1);have a0:=HB1.out.cell (i:=0) rfl;have a1:=HB1.out.cell (i:=1) rfl;clear hx1)
      | (go_at_call 56;(with_reducible refine (HFI _ HB1.out.ext).mono ?_);rintro e w2 ⟨rfl,hx2⟩;have HB2:=hid (HB1.out.later hx2);have b0:=HB2.out.cell (i:=0) rfl;have b1':=HB2.out.cell (i:=1) rfl;skip;clear hx2 a0 a1)
      | (go_at_call 18;(with_reducible refine (HTP _ HB2.out.ext).mono ?_);rintro e w3 ⟨rfl,hx3⟩;have HB3:=hid (HB2.out.later hx3);have d0:=HB3.out.cell (i:=0) rfl;have d1:=HB3.out.cell (i:=1) rfl;skip;clear hx3 b0 b1'))
   go_ret2
   exact ⟨rfl,HB2.out.ext⟩
def Elem.i64:Elem Int:=⟨1,by decide,fun _ _ v x=>v=[.int .i64 x],fun h=>by rw [h];rfl,fun h _=>h,fun h _=>h⟩
theorem Row.int_cell {S:Nat→Prop} {w:World} {A:Option Addr} {n c:Nat} {l:List Int} (h:Row Elem.i64 S w A n c l) {i:Nat} (hi:i<n):∃ b off x,A=some ⟨b,off,none⟩∧l[i]?=some x∧w.cell? ⟨b,off+i,none⟩=some (.int .i64 x):=by
 obtain ⟨b,off,v,x,hA,hx,_,hR,hc⟩:=h.at_ hi
 have hv:v=[.int .i64 x]:=hR
 subst hv
 exact ⟨b,off,x,hA,hx,by simpa [Elem.i64] using hc 0 _ rfl⟩
theorem zki {S:Nat→Prop} {A:Option Addr} {n c:Nat} {l:List Int} {w:World} (h:Row Elem.i64 S w A n c l) (y:Int) :
 Calls Tryz.prog 57 #[.slice A n c,.int .i64 y] w fun e w'=>∃ r:Int,e=.returned (.int .i64 r)∧decide (0≤r)=decide (y∈l)∧Ext w w':=by
 have HR:=hid h
 have hl:=hid h.len
 have hnl:n≤9223372036854775807:=by have:=h.cap;have:=h.most;simp only [maxLen] at this;omega
 clear h
 go_enter Tryz.func57,Tryz.ntmps57
 go_wp2
 go_loopw [8] (fun i wr=>∃ j:Nat,j≤n∧i=.int .i64 j∧Hid (y ∉ l.take j)∧Hid (Ext w wr)) (fun i _=>n-(intOf i).toNat)
 case atStart=>exact ⟨0,by omega,rfl,by simp [Hid],Ext.refl w⟩
 case round=>
  obtain ⟨j,hj,rfl,Htk,hx⟩:=hrel
  by_cases hlt:j<n
  ·obtain ⟨b1,o1,x1,rfl,g1,e1⟩:=(HR.out.ext hx.out).int_cell hlt
   have Hg:=hid g1
   clear g1
   by_cases he:y=x1
   ·have He:=hid he
    have hb:(y==x1)=true:=beq_iff_eq.2 he
    clear he
    go_wp2
    go_ret
    exact ⟨_,rfl,by rw [decide_eq_true (show y∈l by rw [He.out];exact List.mem_of_getElem? Hg.out)];exact decide_eq_true (by omega),hx.out⟩
   ·have He:=hid he
    have hb:(y==x1)=false:=beq_eq_false_iff_ne.2 he
    clear he
    go_wp2
    exact ⟨⟨j+1,by omega,by go_num,by (show ¬ y∈l.take (j+1));rw [List.take_add_one,Hg.out];intro hm;rcases List.mem_append.1 hm with hm | hm;exact Htk.out hm;simp at hm;exact He.out hm,hx.out⟩,by simp [intOf];omega⟩
  ·obtain rfl:j=n:=by omega
   go_wp2
   go_ret
   have h9:=Htk.out
   rw [List.take_of_length_le (Nat.le_of_eq hl.out.symm)] at h9
   exact ⟨_,rfl,by rw [decide_eq_false h9];rfl,hx.out⟩
theorem zhz {S:Nat→Prop} {A:Option Addr} {n c:Nat} {l:List Int} {w:World} (h:Row Elem.i64 S w A n c l) (y:Int) :
 Calls Tryz.prog 31 #[.slice A n c,.int .i64 y] w fun e w'=>e=.returned (.bool (decide (y∈l)))∧Ext w w':=by
 have HI:=zki h y
 cases hb:decide (y∈l)
 all_goals
  have Hb:=hid hb
  clear hb
  go_enter Tryz.func31,Tryz.ntmps31
  go_wp2_with (go_at_call 57;(with_reducible refine HI.mono ?_);rintro e w1 ⟨r,rfl,hr,hx1⟩;rw [Hb.out] at hr;have Hr:=hid hr;clear hr)
  go_ret
  refine ⟨?_,hx1⟩
  have h9:=Hr.out
  simpa using h9
theorem zsk:(Tryz.prog.info? 3).map (fun i=>(i.zero,i.size,i.bytes))=some (some (.int .i64 0),Elem.i64.k,8):=by kernel_rfl
theorem GrowR.lit1 (w:World) (y:Int) (T:TypeId):GrowR Elem.i64 T none w (w.alloc (.cells #[.int .i64 y] T)) (.slice (some ⟨w.heap.size,0,none⟩) 1 1) [y]:=
 ⟨⟨[[.int .i64 y]],rfl,⟨by rfl,.inr ⟨w.heap.size,1,_,rfl,Nat.le_refl _,heap_alloc_new w _,Nat.le_refl _,by simp [maxLen],by rfl,by rfl⟩⟩,fun i u x hi hx=>by
  cases i with
  | zero=>simp at hi hx;subst hi hx;rfl
  | succ i=>simp at hi⟩,Ext.alloc _ _,fun g hg=>by cases hg⟩
def lenOf:Value→Nat
 | .slice _ n _=>n
 | _=>0
theorem zoW {n:Nat} {l:List Int} (hd:l.Nodup) (hr:∀ x∈l,0≤x∧x<n):l.length≤n:=by
 have hsub:l.map Int.toNat ⊆ List.range n:=by
  intro x hx
  obtain ⟨y,hy,rfl⟩:=List.mem_map.1 hx
  have:=hr y hy
  rw [List.mem_range]
  omega
 have hnd:(l.map Int.toNat).Nodup:=by
  unfold List.Nodup at hd ⊢
  rw [List.pairwise_map]
  exact List.Pairwise.imp_of_mem (fun ha hb hab e=>hab (by have:=hr _ ha;have:=hr _ hb;omega)) hd
 have h2:=List.Nodup.length_le_of_subset hnd hsub
 rwa [List.length_map,List.length_range] at h2
def zce (w:World) (r:List Int × Int) (e:Ending) (w':World):Prop:=∃ A n c,e=.returned (.tuple #[.slice A n c,.int .i64 r.2])∧Row Elem.i64 (fun b=>w.heap.size≤b) w' A n c r.1∧Ext w w'
theorem zmR {S:Nat→Prop} {w:World} {A:Option Addr} {n c:Nat} {B:Option Addr} {m d:Nat} {s:List (List Cxt)} {t:List CutR} (h:CfgAt S w A n c B m d s t) (hG:Gl w) (server:Int) (name:ByteArray) (hs:∀ l∈s,l.length≤4000000) (hn4:s.length≤2000000) :
 Calls Tryz.prog 16 #[.agg #[.slice A n c,.slice B m d],.int .i64 server,.string name] w (zce w (zcX (rtOf s t) server (bys name))):=by
 have HG:=hid hG
 have hn:n≤9223372036854775807:=by have:=h.srv.cap;have:=h.srv.most;simp only [maxLen] at this;omega
 have HN4:Hid (n≤2000000):=by show _≤_;rw [h.srv.len];exact hn4
 have HN:∀ w,Gl w→Calls Tryz.prog 25 #[.string name] w (zaM w (bys name)):=fun w hG=>zbx name w hG
 have HHL:∀ (k:Int) w',Ext w w'→Calls Tryz.prog 29 #[.agg #[.slice A n c,.slice B m d],.int .i64 k,.string name] w' (zgX w' (zd5 (rtOf s t) k (bys name))):=fun k w' hx=>zqO (h.ext hx) (hG.ext hx) k name hs
 have HNL:∀ (k:Int) w',Ext w w'→Calls Tryz.prog 30 #[.agg #[.slice A n c,.slice B m d],.int .i64 k,.string name] w' (zdY w' (zc5 (rtOf s t) k (bys name))):=fun k w' hx=>zmZ (h.ext hx) (hG.ext hx) k name hs
 have HB0:=hid (Bx.make (Ext.refl w) #[.slice A n c,.slice B m d] 33)
 have HCL:Hid ((rtOf s t).servers.length=n):=by show _=_;rw [h.srv.len];simp [rtOf]
 unfold zaM at HN
 unfold zgX at HHL
 unfold zdY at HNL
 clear hG h hs hn4
 by_cases hc:zap (zac (bys name))=0
 case neg=>
  have HF:Hid (zcX (rtOf s t) server (bys name)=([],34)):=by show _=_;unfold zcX;rw [if_pos hc]
  have e0:(zap (zac (bys name)) != 0)=true:=by rw [bne_iff_ne];exact hc
  show Calls _ _ _ _ (fun e w'=>zce w (zcX (rtOf s t) server (bys name)) e w')
  unfold zce
  rw [HF.out]
  clear hc
  generalize zap (zac (bys name))=cd at *
  go_enter Tryz.func16,Tryz.ntmps16
  go_wp2_with
   (go_at_call 25;(with_reducible refine (HN _ (HG.out.ext (Ext.alloc _ _))).mono ?_);rintro e w1 ⟨rfl,hx1⟩;have HB1:=hid (HB0.out.later hx1);have a0:=HB1.out.cell (i:=0) rfl;clear hx1)
  go_ret2
  exact ⟨none,0,0,rfl,Row.nil _ _ _,HB1.out.ext⟩
 have e0:(zap (zac (bys name)) != 0)=false:=by rw [hc];rfl
 by_cases hneg:server<0
 ·have HF:Hid (zcX (rtOf s t) server (bys name)=([],1)):=by show _=_;unfold zcX;rw [if_neg (by rw [hc];simp),if_pos (.inl hneg)]
  show Calls _ _ _ _ (fun e w'=>zce w (zcX (rtOf s t) server (bys name)) e w')
  unfold zce
  rw [HF.out]
  clear hc
  generalize zap (zac (bys name))=cd at *
  go_enter Tryz.func16,Tryz.ntmps16
  go_wp2_with
   (go_at_call 25;(with_reducible refine (HN _ (HG.out.ext (Ext.alloc _ _))).mono ?_);rintro e w1 ⟨rfl,hx1⟩;have HB1:=hid (HB0.out.later hx1);have a0:=HB1.out.cell (i:=0) rfl;clear hx1)
  go_ret2
  exact ⟨none,0,0,rfl,Row.nil _ _ _,HB1.out.ext⟩
 obtain ⟨k0,rfl⟩:∃ k:Nat,server=(k:Int):=⟨server.toNat,by omega⟩
 by_cases hge:n≤k0
 ·have hge':(n:Int)≤(k0:Int):=by omega
  have HF:Hid (zcX (rtOf s t) (k0:Int) (bys name)=([],1)):=by show _=_;unfold zcX;rw [if_neg (by rw [hc];simp),if_pos (.inr (by rw [HCL.out];exact hge'))]
  show Calls _ _ _ _ (fun e w'=>zce w (zcX (rtOf s t) (k0:Int) (bys name)) e w')
  unfold zce
  rw [HF.out]
  clear hc hge
  generalize zap (zac (bys name))=cd at *
  go_enter Tryz.func16,Tryz.ntmps16
  go_wp2_with
   (go_at_call 25;(with_reducible refine (HN _ (HG.out.ext (Ext.alloc _ _))).mono ?_);rintro e w1 ⟨rfl,hx1⟩;have HB1:=hid (HB0.out.later hx1);have a0:=HB1.out.cell (i:=0) rfl;clear hx1)
  go_ret2
  exact ⟨none,0,0,rfl,Row.nil _ _ _,HB1.out.ext⟩
 have hlt:k0<n:=by omega
 have hge':¬ (n:Int)≤(k0:Int):=by omega
 have hk0:decide ((k0:Int)<0)=false:=decide_eq_false (by omega)
 have hk1:decide (n≤k0)=false:=decide_eq_false (by omega)
 have HPF:Hid (zcX (rtOf s t) (k0:Int) (bys name)=walkF (fun s'=>(zd5 (rtOf s t) s' (bys name)).2) (fun s'=>zc5 (rtOf s t) s' (bys name)) n (n+1) [(k0:Int)] (k0:Int)):=by
  show _=_
  unfold zcX
  rw [if_neg (by rw [hc];simp),if_neg (by rw [HCL.out];rintro (h | h);omega;omega),HCL.out]
 show Calls _ _ _ _ (fun e w'=>zce w (zcX (rtOf s t) (k0:Int) (bys name)) e w')
 unfold zce
 rw [HPF.out]
 clear HPF hc hge hneg HCL
 obtain ⟨held,hheld⟩:∃ f,f=fun s'=>(zd5 (rtOf s t) s' (bys name)).2:=⟨_,rfl⟩
 obtain ⟨near,hnear⟩:∃ f,f=fun s'=>zc5 (rtOf s t) s' (bys name):=⟨_,rfl⟩
 have HHH:∀ k:Int,Hid ((zd5 (rtOf s t) k (bys name)).2=held k):=fun k=>by rw [hheld];rfl
 have HNN:∀ k:Int,Hid (zc5 (rtOf s t) k (bys name)=near k):=fun k=>by rw [hnear];rfl
 rw [← hheld,← hnear]
 clear hheld hnear
 generalize zap (zac (bys name))=cd at *
 generalize hR:walkF held near n (n+1) [(k0:Int)] (k0:Int)=R at *
 go_enter Tryz.func16,Tryz.ntmps16
 go_wp2_with
  (go_at_call 25;(with_reducible refine (HN _ (HG.out.ext (Ext.alloc _ _))).mono ?_);rintro e w1 ⟨rfl,hx1⟩;have HB1:=hid (HB0.out.later hx1);have a0:=HB1.out.cell (i:=0) rfl;clear hx1)
 clear a0 HN
 have HWK0:=hid hR
 clear hR
 go_loopw [1,10] (fun sv pv wr=>∃ (path pre:List Int) (k f:Nat),sv=.int .i64 k∧k<n∧Hid (path=pre++[(k:Int)])∧Hid (path.Nodup)∧Hid (∀ x∈path,0≤x∧x<n)∧Hid (f+path.length=n+2)∧Hid (walkF held near n f path k=R)∧lenOf pv=path.length∧Hid (GrowR Elem.i64 3 none w1 wr pv path)) (fun _ pv _=>n+1-lenOf pv)
 case atStart=>exact ⟨[(k0:Int)],[],k0,n+1,rfl,hlt,rfl,by simp [Hid],by simp [Hid];omega,by (show _=_);simp,HWK0.out,rfl,GrowR.lit1 w1 _ _⟩
 case round=>
  obtain ⟨path,pre,k,f,rfl,hkn,HPE,HND,HRG,HFU,HWK,hlen,HGR⟩:=hrel
  have HLE:Hid (path.length≤n):=zoW HND.out HRG.out
  obtain ⟨f,rfl⟩:∃ g,f=g+1:=⟨f-1,by have:=HLE.out;have:=HFU.out;omega⟩
  have HBR:=hid (HB1.out.later HGR.out.ext)
  have a0:=HBR.out.cell (i:=0) rfl
  have a1:=HBR.out.cell (i:=1) rfl
  have HZ:=hid (zaD HB1.out.ext)
  have HHE:=HHL (k:Int)
  have HNE:=HNL (k:Int)
  rw [(HNN (k:Int)).out] at HNE
  rw [(HHH (k:Int)).out] at HHE
  obtain ⟨A5,c5,rfl,hr5⟩:=HGR.out.row
  have HR5:=hid hr5
  clear hr5 HHL HNL HHH HNN
  cases hh:held (k:Int)
  case true=>
   rw [hh] at HHE
   have HF:=hid (HWK.out.symm.trans (zc8 (show zcN held near n path (k:Int)=.inl 0 by (unfold zcN;rw [if_pos hh]))))
   clear hh
   go_wp2_with
    (first
      | (go_at_call 29;(with_reducible refine (HHE _ HBR.out.ext).mono ?_);rintro e w2 ⟨rfl,hx2⟩;have HB2:=hid (HBR.out.later hx2);have HXE:=hid hx2;have b0:=HB2.out.cell (i:=0) rfl;have b1:=HB2.out.cell (i:=1) rfl;clear hx2 a0 a1)
      | (go_at_call 30;(with_reducible refine (HNE _ HB2.out.ext).mono ?_);rintro e w3 ⟨rfl,hx3⟩;have HB3:=hid (HB2.out.later hx3);have HXE':=hid (HXE.out.trans hx3);clear HXE;have HXE:=HXE';clear HXE';have d0:=HB3.out.cell (i:=0) rfl;have d1:=HB3.out.cell (i:=1) rfl;clear hx3 b0 b1)
      | (go_at_call 31;(with_reducible refine (HCO _ _ _ _ _ (HR5.out.ext HXE.out)).mono ?_);rintro e w4 ⟨rfl,hx4⟩;have HXE':=hid (HXE.out.trans hx4);clear HXE;have HXE:=HXE';clear HXE';clear hx4))
   go_ret2
   exact ⟨A5,_,c5,by rw [HF.out];(try rfl),by rw [HF.out];exact (HR5.out.ext HXE.out).mono fun b _ hb=>Nat.le_trans HZ.out hb,HBR.out.ext.trans HXE.out⟩
  rw [hh] at HHE
  rcases hnk:near (k:Int) with ⟨nx,ok⟩
  rw [hnk] at HNE
  simp only at HNE
  have HCO:=fun (T:Nat→Prop) B1 m1 d1 w' (hr:Row Elem.i64 T w' B1 m1 d1 path)=>zhz hr nx
  cases ok
  case false=>
   have HF:=hid (HWK.out.symm.trans (zc8 (show zcN held near n path (k:Int)=.inl 32 by (unfold zcN;rw [if_neg (by rw [hh];decide),if_pos (by rw [hnk])]))))
   clear hh hnk HCO
   go_wp2_with
    (first
      | (go_at_call 29;(with_reducible refine (HHE _ HBR.out.ext).mono ?_);rintro e w2 ⟨rfl,hx2⟩;have HB2:=hid (HBR.out.later hx2);have HXE:=hid hx2;have b0:=HB2.out.cell (i:=0) rfl;have b1:=HB2.out.cell (i:=1) rfl;clear hx2 a0 a1)
      | (go_at_call 30;(with_reducible refine (HNE _ HB2.out.ext).mono ?_);rintro e w3 ⟨rfl,hx3⟩;have HB3:=hid (HB2.out.later hx3);have HXE':=hid (HXE.out.trans hx3);clear HXE;have HXE:=HXE';clear HXE';have d0:=HB3.out.cell (i:=0) rfl;have d1:=HB3.out.cell (i:=1) rfl;clear hx3 b0 b1)
      | (go_at_call 31;(with_reducible refine (HCO _ _ _ _ _ (HR5.out.ext HXE.out)).mono ?_);rintro e w4 ⟨rfl,hx4⟩;have HXE':=hid (HXE.out.trans hx4);clear HXE;have HXE:=HXE';clear HXE';clear hx4))
   go_ret2
   exact ⟨A5,_,c5,by rw [HF.out];(try rfl),by rw [HF.out];exact (HR5.out.ext HXE.out).mono fun b _ hb=>Nat.le_trans HZ.out hb,HBR.out.ext.trans HXE.out⟩
  by_cases hneg:nx<0
  ·have HF:=hid (HWK.out.symm.trans (zc8 (show zcN held near n path (k:Int)=.inl 52 by (unfold zcN;rw [if_neg (by rw [hh];decide),if_neg (by rw [hnk];simp),if_pos (by rw [hnk];exact .inl hneg)]))))
   clear hh hnk HCO
   go_wp2_with
    (first
      | (go_at_call 29;(with_reducible refine (HHE _ HBR.out.ext).mono ?_);rintro e w2 ⟨rfl,hx2⟩;have HB2:=hid (HBR.out.later hx2);have HXE:=hid hx2;have b0:=HB2.out.cell (i:=0) rfl;have b1:=HB2.out.cell (i:=1) rfl;clear hx2 a0 a1)
      | (go_at_call 30;(with_reducible refine (HNE _ HB2.out.ext).mono ?_);rintro e w3 ⟨rfl,hx3⟩;have HB3:=hid (HB2.out.later hx3);have HXE':=hid (HXE.out.trans hx3);clear HXE;have HXE:=HXE';clear HXE';have d0:=HB3.out.cell (i:=0) rfl;have d1:=HB3.out.cell (i:=1) rfl;clear hx3 b0 b1)
      | (go_at_call 31;(with_reducible refine (HCO _ _ _ _ _ (HR5.out.ext HXE.out)).mono ?_);rintro e w4 ⟨rfl,hx4⟩;have HXE':=hid (HXE.out.trans hx4);clear HXE;have HXE:=HXE';clear HXE';clear hx4))
   go_ret2
   exact ⟨A5,_,c5,by rw [HF.out];(try rfl),by rw [HF.out];exact (HR5.out.ext HXE.out).mono fun b _ hb=>Nat.le_trans HZ.out hb,HBR.out.ext.trans HXE.out⟩
  by_cases hbig:(n:Int)≤nx
  ·have HF:=hid (HWK.out.symm.trans (zc8 (show zcN held near n path (k:Int)=.inl 52 by (unfold zcN;rw [if_neg (by rw [hh];decide),if_neg (by rw [hnk];simp),if_pos (by rw [hnk];exact .inr hbig)]))))
   clear hh hnk HCO
   go_wp2_with
    (first
      | (go_at_call 29;(with_reducible refine (HHE _ HBR.out.ext).mono ?_);rintro e w2 ⟨rfl,hx2⟩;have HB2:=hid (HBR.out.later hx2);have HXE:=hid hx2;have b0:=HB2.out.cell (i:=0) rfl;have b1:=HB2.out.cell (i:=1) rfl;clear hx2 a0 a1)
      | (go_at_call 30;(with_reducible refine (HNE _ HB2.out.ext).mono ?_);rintro e w3 ⟨rfl,hx3⟩;have HB3:=hid (HB2.out.later hx3);have HXE':=hid (HXE.out.trans hx3);clear HXE;have HXE:=HXE';clear HXE';have d0:=HB3.out.cell (i:=0) rfl;have d1:=HB3.out.cell (i:=1) rfl;clear hx3 b0 b1)
      | (go_at_call 31;(with_reducible refine (HCO _ _ _ _ _ (HR5.out.ext HXE.out)).mono ?_);rintro e w4 ⟨rfl,hx4⟩;have HXE':=hid (HXE.out.trans hx4);clear HXE;have HXE:=HXE';clear HXE';clear hx4))
   go_ret2
   exact ⟨A5,_,c5,by rw [HF.out];(try rfl),by rw [HF.out];exact (HR5.out.ext HXE.out).mono fun b _ hb=>Nat.le_trans HZ.out hb,HBR.out.ext.trans HXE.out⟩
  by_cases hm:nx∈path
  ·rw [decide_eq_true hm] at HCO
   have HF:=hid (HWK.out.symm.trans (zc8 (show zcN held near n path (k:Int)=.inl 54 by (unfold zcN;rw [if_neg (by rw [hh];decide),if_neg (by rw [hnk];simp),if_neg (by rw [hnk];rintro (h | h);exact hneg h;exact hbig h),if_pos (by rw [hnk];exact hm)]))))
   clear hh hnk hm
   go_wp2_with
    (first
      | (go_at_call 29;(with_reducible refine (HHE _ HBR.out.ext).mono ?_);rintro e w2 ⟨rfl,hx2⟩;have HB2:=hid (HBR.out.later hx2);have HXE:=hid hx2;have b0:=HB2.out.cell (i:=0) rfl;have b1:=HB2.out.cell (i:=1) rfl;clear hx2 a0 a1)
      | (go_at_call 30;(with_reducible refine (HNE _ HB2.out.ext).mono ?_);rintro e w3 ⟨rfl,hx3⟩;have HB3:=hid (HB2.out.later hx3);have HXE':=hid (HXE.out.trans hx3);clear HXE;have HXE:=HXE';clear HXE';have d0:=HB3.out.cell (i:=0) rfl;have d1:=HB3.out.cell (i:=1) rfl;clear hx3 b0 b1)
      | (go_at_call 31;(with_reducible refine (HCO _ _ _ _ _ (HR5.out.ext HXE.out)).mono ?_);rintro e w4 ⟨rfl,hx4⟩;have HXE':=hid (HXE.out.trans hx4);clear HXE;have HXE:=HXE';clear HXE';clear hx4))
   go_ret2
   exact ⟨A5,_,c5,by rw [HF.out];(try rfl),by rw [HF.out];exact (HR5.out.ext HXE.out).mono fun b _ hb=>Nat.le_trans HZ.out hb,HBR.out.ext.trans HXE.out⟩
  rw [decide_eq_false hm] at HCO
  have HST:Hid (zcN held near n path (k:Int)=.inr nx):=by
   show _=_
   unfold zcN
   rw [if_neg (by rw [hh];decide),if_neg (by rw [hnk];simp),if_neg (by rw [hnk];rintro (h | h);exact hneg h;exact hbig h),if_neg (by rw [hnk];exact hm),hnk]
  have HWN:=hid ((zkT HST.out).symm.trans HWK.out)
  obtain ⟨k2,rfl⟩:∃ k2:Nat,nx=(k2:Int):=⟨nx.toNat,by omega⟩
  have hk2:k2<n:=by omega
  have HND2:Hid ((path++[(k2:Int)]).Nodup):=by
   show _
   rw [List.nodup_append]
   exact ⟨HND.out,by simp,fun a ha b hb=>by simp at hb;subst hb;rintro rfl;exact hm ha⟩
  have HRG2:Hid (∀ x∈path++[(k2:Int)],0≤x∧x<n):=by
   intro x hx
   rcases List.mem_append.1 hx with hx | hx
   ·exact HRG.out x hx
   ·simp at hx;subst hx;omega
  have HFU2:Hid (f+(path++[(k2:Int)]).length=n+2):=by show _=_;have:=HFU.out;simp;omega
  have tk0:decide ((k2:Int)<0)=false:=decide_eq_false (by omega)
  have tk1:decide (n≤k2)=false:=decide_eq_false (by omega)
  clear hh hnk hm hneg HST
  go_wp2_with (first
   | (go_at_call 29;(with_reducible refine (HHE _ HBR.out.ext).mono ?_);rintro e w2 ⟨rfl,hx2⟩;have HB2:=hid (HBR.out.later hx2);have HXE:=hid hx2;have b0:=HB2.out.cell (i:=0) rfl;have b1:=HB2.out.cell (i:=1) rfl;clear hx2 a0 a1)
   | (go_at_call 30;(with_reducible refine (HNE _ HB2.out.ext).mono ?_);rintro e w3 ⟨rfl,hx3⟩;have HB3:=hid (HB2.out.later hx3);have HXE':=hid (HXE.out.trans hx3);clear HXE;have HXE:=HXE';clear HXE';have d0:=HB3.out.cell (i:=0) rfl;have d1:=HB3.out.cell (i:=1) rfl;clear hx3 b0 b1)
   | (go_at_call 31;(with_reducible refine (HCO _ _ _ _ _ (HR5.out.ext HXE.out)).mono ?_);rintro e w4 ⟨rfl,hx4⟩;have HXE':=hid (HXE.out.trans hx4);clear HXE;have HXE:=HXE';clear HXE';clear hx4)
   | (at_builtin;refine zhh Tryz.underlying52 zsk rfl (by decide) rfl _ _ rfl _ _ rfl (HGR.out.later HXE.out) (u:=[.int .i64 (k2:Int)]) (k2:Int) rfl (by intro c hc;simp at hc;subst hc;rfl) rfl rfl (by have:=HLE.out;have:=HN4.out;omega) ?_;intro v' w5 hg5 _ _;obtain ⟨A6,c6,rfl,-⟩:=hg5.row;simp only [List.length_append,List.length_cons,List.length_nil,Nat.zero_add] at hg5;have HG5:=hid hg5;clear hg5))
  exact ⟨⟨path++[(k2:Int)],path,k2,f,rfl,hk2,rfl,HND2,HRG2,HFU2,HWN,by simp [lenOf],HG5⟩,by simp [lenOf];have:=HLE.out;omega⟩
def zsU:Cxt:=⟨⟨#[100,99,61,120]⟩,[],[]⟩
def zkJ:List (List Cxt):=[[],[zsU]]
def zpP:List CutR:=[⟨⟨#[100,99,61,120]⟩,1⟩]
theorem zqe:zcX (rtOf zkJ zpP) 0 [99,110,61,97,44,100,99,61,120]=([0,1],0):=by decide +kernel
theorem Row.lit {α:Type} {E:Elem α} {w:World} {vss:List (List Value)} {l:List α} (h:∀ (i:Nat) v x,vss[i]?=some v→l[i]?=some x→E.R (fun _=>True) w v x) (hl:vss.length=l.length) (hm:l.length≤maxLen) (t:TypeId) :
 Row E (fun _=>True) (w.alloc (.cells vss.flatten.toArray t)) (some ⟨w.heap.size,0,none⟩) l.length l.length l:=by
 have hx:Ext w (w.alloc (.cells vss.flatten.toArray t)):=Ext.alloc _ _
 refine ⟨rfl,Nat.le_refl _,hm,vss,hl,.inr ⟨w.heap.size,0,rfl,trivial,fun j u hj=>?_⟩,fun i v x hi hxx=>?_⟩
 ·rw [Nat.zero_add,cell_of_row _ _ j vss.flatten.toArray t (0,0) (heap_alloc_new w _)]
  simpa using hj
 ·exact (E.same (E.mono (h i v x hi hxx) (T:=fun b=>True∧b<w.heap.size) (fun b hb _=>⟨trivial,hb⟩)) fun b hb=>hx.block b hb.2) |> fun q=>E.mono q fun _ _ _=>trivial
theorem zmv {w w1 w2 w3:World} (e1:w1=w.alloc (.cells #[.string ⟨#[100,99,61,120]⟩,.slice none 0 0,.slice none 0 0] 41))
 (e2:w2=w1.alloc (.cells #[.slice none 0 0,.slice (some ⟨w.heap.size,0,none⟩) 1 1] 39)) (e3:w3=w2.alloc (.cells #[.string ⟨#[100,99,61,120]⟩,.int .i64 1] 58)) :
 Ext w w3∧CfgAt (fun _=>True) w3 (some ⟨w.heap.size+1,0,none⟩) 2 2 (some ⟨w.heap.size+1+1,0,none⟩) 1 1 zkJ zpP:=by
 have s1:w1.heap.size=w.heap.size+1:=by rw [e1];simp
 have x1:Ext w w1:=by rw [e1];exact Ext.alloc _ _
 have s2:w2.heap.size=w.heap.size+1+1:=by rw [e2];simp [s1]
 have x2:Ext w1 w2:=by rw [e2];exact Ext.alloc _ _
 have x3:Ext w2 w3:=by rw [e3];exact Ext.alloc _ _
 have r1:Row Elem.cxt (fun _=>True) w1 (some ⟨w.heap.size,0,none⟩) 1 1 [zsU]:=by
  rw [e1]
  exact Row.one (E:=Elem.cxt) (S:=fun _=>True) (v:=[.string ⟨#[100,99,61,120]⟩,.slice none 0 0,.slice none 0 0]) ⟨_,_,_,_,_,_,rfl,Row.nil _ _ _,Row.nil _ _ _⟩ _
 have r2:Row Elem.srw (fun _=>True) w2 (some ⟨w.heap.size+1,0,none⟩) 2 2 zkJ:=by
  rw [e2,← s1]
  refine Row.lit (E:=Elem.srw) (vss:=[[.slice none 0 0],[.slice (some ⟨w.heap.size,0,none⟩) 1 1]]) (l:=zkJ) (fun i v x hv hx=>?_) rfl (by decide) _
  rcases i with _ | _ | i
  ·simp [zkJ] at hv hx;subst hv hx;exact ⟨_,_,_,rfl,Row.nil _ _ _⟩
  ·simp [zkJ] at hv hx;subst hv hx;exact ⟨_,_,_,rfl,r1⟩
  ·simp at hv
 have r3:Row Elem.cut (fun _=>True) w3 (some ⟨w.heap.size+1+1,0,none⟩) 1 1 zpP:=by
  rw [e3,← s2]
  exact Row.one (E:=Elem.cut) (S:=fun _=>True) (x:=(⟨⟨#[100,99,61,120]⟩,1⟩:CutR)) (v:=[.string ⟨#[100,99,61,120]⟩,.int .i64 1]) rfl _
 exact ⟨x1.trans (x2.trans x3),r2.ext x3,r3⟩
theorem zlB (w:World) (hG:Gl w):Calls Tryz.prog 15 #[] w fun e w'=>e=.returned (.bool true)∧Ext w w':=by
 have HP:∀ (A B:Option Addr) w3,Ext w w3∧CfgAt (fun _=>True) w3 A 2 2 B 1 1 zkJ zpP→∀ w4,Ext w3 w4→Calls Tryz.prog 16 #[.agg #[.slice A 2 2,.slice B 1 1],.int .i64 0,.string ⟨#[99,110,61,97,44,100,99,61,120]⟩] w4 fun e w'=>
  ∃ g o c,e=.returned (.tuple #[.slice (some ⟨g,o,none⟩) 2 c,.int .i64 0])∧w'.cell? ⟨g,o+1,none⟩=some (.int .i64 1)∧Ext w4 w':=fun A B w3 h w4 hx=>by
  refine (zmR (h.2.ext hx) (hG.ext (h.1.trans hx)) 0 ⟨#[99,110,61,97,44,100,99,61,120]⟩ (by decide) (by decide)).mono ?_
  unfold zce
  rw [show zcX (rtOf zkJ zpP) 0 (bys ⟨#[99,110,61,97,44,100,99,61,120]⟩)=([0,1],0) from zqe]
  rintro e w' ⟨A',n',c',rfl,hr,hx'⟩
  obtain rfl:n'=2:=hr.len
  obtain ⟨b,o,x,rfl,g,hc⟩:=hr.int_cell (i:=1) (by decide)
  simp at g
  subst g
  exact ⟨b,o,c',rfl,hc,hx'⟩
 clear hG
 go_enter Tryz.func15,Tryz.ntmps15
 go_wp2_with (go_at_call 16;(with_reducible refine (HP _ _ _ (zmv rfl rfl rfl) _ (Ext.alloc _ _)).mono ?_);rintro e w9 ⟨g9,o9,c9,rfl,hc9,hx9⟩;have HX9:=hid ((zmv rfl rfl rfl).1.trans ((Ext.alloc _ _).trans hx9));clear hx9)
 go_ret
 exact ⟨rfl,HX9.out⟩
theorem zg6 : "*" ++ "errors.errorString" = "*errors.errorString" := by decide
theorem zkq (u:TypeId) (h:Tryz.prog.typeName? 3 u=some "*errors.errorString"):u=269:=
 typeName_ptr_named (nm := "errors.errorString") (by rw [zg6];kernel_rfl) (by kernel_rfl) (by decide) u (by rw [zg6];exact h)
theorem zp6:(Rows.laid_internal_strconv_uint64pow10:DataW Unit)=Lib.tabData .u64 Lib.pow10Tab:=by kernel_rfl
theorem zga {W:World} (h:laidMetH Tryz.prog Rows.routeSplitUptoRow.laid W) (hs:W.ShapedOpen Tryz.prog):Gl W:=by
 rw [MakeChecks.laidMetH_plain _ _ _ (by kernel_rfl)] at h
 have h2:laidMet Tryz.prog (("internal/strconv.uint64pow10", Lib.tabData .u64 Lib.pow10Tab)::Rows.routeSplitUptoRow.laid.drop 3) W:=by
  have:=h.tail.tail
  rw [← zp6]
  exact this
 have h4:laidMet Tryz.prog (("strconv.ErrRange", .iface "*errors.errorString" (.ptr (.agg [.lit (.string [118,97,108,117,101,32,111,117,116,32,111,102,32,114,97,110,103,101])])))::Rows.routeSplitUptoRow.laid.drop 5) W:=h2.tail.tail
 have h5:laidMet Tryz.prog (("strconv.ErrSyntax", .iface "*errors.errorString" (.ptr (.agg [.lit (.string [105,110,118,97,108,105,100,32,115,121,110,116,97,120])])))::Rows.routeSplitUptoRow.laid.drop 6) W:=h4.tail
 obtain ⟨a0,s0,hv0,-,-,-⟩:=laid_sentinel h4 gRng (by kernel_rfl) Tryz.underlying134 zkq Tryz.underlying269 Tryz.underlying271 rfl rfl Tryz.underlying9 (by kernel_rfl) (by kernel_rfl)
 obtain ⟨a1,s1,hv1,-,-,-⟩:=laid_sentinel h5 gSyn (by kernel_rfl) Tryz.underlying134 zkq Tryz.underlying269 Tryz.underlying271 rfl rfl Tryz.underlying9 (by kernel_rfl) (by kernel_rfl)
 refine ⟨?_,⟨_,_,hv1⟩,⟨_,_,hv0⟩,?_⟩
 ·exact cell_of_shapedOpen_int (t:=3) (k:=.i64) (zero:=#[.int .i64 0]) hs (of_decide_eq_true (by kernel_rfl)) (by kernel_rfl) rfl (by kernel_rfl) (by kernel_rfl) Tryz.underlying3
 ·exact Lib.tabIs_of_head gPow (by kernel_rfl) Tryz.underlying262 Tryz.underlying188 (by kernel_rfl) (by kernel_rfl) h2
theorem zqc:(Rows.laid_unicode_utf8_acceptRanges:DataW Unit)=Lib.acceptData:=by kernel_rfl
theorem zgl {W:World} (h:laidMetH Tryz.prog Rows.routeSplitUptoRow.laid W):Ug W:=by
 rw [MakeChecks.laidMetH_plain _ _ _ (by kernel_rfl)] at h
 have h3:Lib.VarReads Tryz.prog W "unicode/utf8.first" Lib.firstData:=by
  rw [← Pinned.utf8First_eq]
  exact Lib.laidMet.reads h (show (("unicode/utf8.first", Rows.laid_unicode_utf8_first):String × DataW Unit)∈Rows.routeSplitUptoRow.laid from .tail _ (.tail _ (.tail _ (.tail _ (.tail _ (.tail _ (.head _)))))))
 have h4:Lib.VarReads Tryz.prog W "unicode/utf8.acceptRanges" Lib.acceptData:=by
  rw [← zqc]
  exact Lib.laidMet.reads h (show (("unicode/utf8.acceptRanges", Rows.laid_unicode_utf8_acceptRanges):String × DataW Unit)∈Rows.routeSplitUptoRow.laid from .tail _ (.tail _ (.tail _ (.head _))))
 exact utf8Tabs_of_reads Tryz.lays260 ⟨by kernel_rfl,by kernel_rfl,by kernel_rfl,by kernel_rfl,by kernel_rfl,by kernel_rfl,by kernel_rfl⟩ h3 h4
theorem zgo {W:World} (h:laidMetH Tryz.prog Rows.routeSplitUptoRow.laid W) (hs:W.ShapedOpen Tryz.prog):Gu W:=⟨zga h hs,zgl h⟩
theorem zkN {n:Int} (h:(Lit.int .i64 n).wf=true):-9223372036854775808≤n∧n≤9223372036854775807:=by
 rw [show (Lit.int .i64 n).wf=(decide (IntKind.i64.min≤n) && decide (n≤IntKind.i64.max)) from rfl,Bool.and_eq_true,decide_eq_true_iff,decide_eq_true_iff] at h
 have e1:IntKind.i64.min = -9223372036854775808:=by decide +kernel
 have e2:IntKind.i64.max=9223372036854775807:=by decide +kernel
 rw [e1,e2] at h
 exact h
end Go.Proofs.YtioglicfndkgiaaGreatDoor
