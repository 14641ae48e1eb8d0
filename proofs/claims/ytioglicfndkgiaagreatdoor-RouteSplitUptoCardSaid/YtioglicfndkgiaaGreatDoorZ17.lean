/- Lemmas of the walk. -/
import Derived.Test.YtioglicfndkgiaaGreatDoorZ12
import Derived.Test.YtioglicfndkgiaaGreatDoorZ11
import Derived.Test.YtioglicfndkgiaaGreatDoorZ13
import Derived.Test.YtioglicfndkgiaaGreatDoorZ09
import Derived.Lib.AppendZeros
set_option maxHeartbeats 40000000
set_option linter.unusedVariables false
set_option linter.unusedSimpArgs false
namespace Go.Proofs.YtioglicfndkgiaaGreatDoor
open Go.RowKit
set_option maxRecDepth 100000
def zbN (n v:List UInt8):List UInt8 × Int:=
 if (zar n).2=4 then (if v=[]∨200<v.length then ([],2) else if (za1 v).isSome then (v,0) else ([],2)) else zbW n v
def zbE (w:World) (n v:List UInt8) (e:Ending) (w':World):Prop:=e=.returned (.tuple #[.string (str (zbN n v).1),.int .i64 (zbN n v).2])∧Ext w w'
def zsc (k:Nat) (v:List UInt8):List UInt8 × Int:=
 if k=0 then ([],5) else if k=5 then ([],1) else if v=[]∨200<v.length then ([],2)
 else if k=1 then (if zeb v=[] then ([],2) else (zeb v,0)) else if k=3 then (if intB v then (v,0) else ([],2)) else if k=4 then (if (za1 v).isSome then (v,0) else ([],2)) else (v,0)
theorem zss (n v:List UInt8):zbN n v=zsc (zar n).2 v:=by
 unfold zbN zbW zsc
 generalize (zar n).2=k
 by_cases h4:k=4
 ·subst h4;simp
 ·rw [if_neg h4]
  by_cases h0:k=0
  ·simp [h0]
  ·rw [if_neg h0,if_neg h0]
   by_cases h5:k=5
   ·simp [h5]
   ·rw [if_neg h5,if_neg h5]
    by_cases hv:v=[]∨200<v.length
    ·rw [if_pos hv,if_pos hv]
    ·rw [if_neg hv,if_neg hv]
     by_cases h1:k=1
     ·subst h1
      have h:=znS v
      simp only [zdq,zhU] at h ⊢
      by_cases ht:zaE (zaY (zat v))=[]∨(0:UInt8)∈zaE (zaY (zat v))
      ·rw [if_pos ht] at h
       have h2:¬ (zaE (zaY (zat v))≠[]∧(0:UInt8) ∉ zaE (zaY (zat v))):=by
        rintro ⟨h3,h4⟩
        rcases ht with ht | ht
        ·exact h3 ht
        ·exact h4 ht
       have h3:zeb v=[]:=by
        by_cases h4:zeb v=[]
        ·exact h4
        ·rw [if_neg h4] at h;cases h
       simp [h2,h3]
      ·rw [if_neg ht] at h
       have h2:zaE (zaY (zat v))≠[]∧(0:UInt8) ∉ zaE (zaY (zat v)):=⟨fun e=>ht (.inl e),fun e=>ht (.inr e)⟩
       by_cases h3:zeb v=[]
       ·rw [if_pos h3] at h;cases h
       ·rw [if_neg h3] at h
        injection h with h
        simp [h2,← h]
     ·by_cases h3:k=3
      ·subst h3
       simp [zdq]
      ·have i1:¬ (k:Int)=1:=by omega
       have i3:¬ (k:Int)=3:=by omega
       simp [zdq,i1,i3];simp [h1,h3,h4]
theorem zfb (n s:ByteArray) (w:World) (hG:Gl w) (hn:n.size≤4000000) :
 Calls Tryz.prog 83 #[.string n,.string s] w (zbE w (bys n) (bys s)):=by
 have HG:=hid hG
 have HT:∀ w,Calls Tryz.prog 55 #[.string n] w (zaT w (bys n)):=fun w=>zeB n w (by simp only [maxLen];omega)
 have HN:=hid (zss (bys n) (bys s))
 unfold zaT at HT
 obtain ⟨p,hp⟩:∃ p,p=zar (bys n):=⟨_,rfl⟩
 rw [← hp] at HN HT
 clear hp hG
 obtain ⟨t,k⟩:=p
 simp only at HN HT
 have HK:Hid (zsc k (bys s)=if k=0 then ([],5) else if k=5 then ([],1) else if bys s=[]∨200<(bys s).length then ([],2)
  else if k=1 then (if zeb (bys s)=[] then ([],2) else (zeb (bys s),0)) else if k=3 then (if intB (bys s) then (bys s,0) else ([],2)) else if k=4 then (if (za1 (bys s)).isSome then (bys s,0) else ([],2)) else (bys s,0)):=rfl
 by_cases k0:k=0
 ·have HE:Hid (zbN (bys n) (bys s)=([],5)):=by show _=_;rw [HN.out,HK.out,if_pos k0]
  have t0:((k:Int)==0)=true:=by rw [k0];rfl
  clear k0 HN HK
  go_enter Tryz.func83,Tryz.ntmps83
  go_wp2_with (first
   | (go_at_call 55;(with_reducible refine (HT _).mono ?_);rintro e w1 ⟨rfl,hx1⟩;have HX1:=hid hx1;clear hx1)
   | (go_at_call 111;(with_reducible refine (zbU s _ Hs.out).mono ?_);rintro e w2 ⟨rfl,hx2⟩;have HX1':=hid (HX1.out.trans hx2);clear HX1 hx2;have HX1:=HX1';clear HX1')
   | (go_at_call 112;(with_reducible refine (HI _ Hs.out).mono ?_);rintro e w2 ⟨rfl,hx2⟩;have HX1':=hid (HX1.out.trans hx2);clear HX1 hx2;have HX1:=HX1';clear HX1')
   | (go_at_call 113;(with_reducible refine (HPS _ (HG.out.ext HX1.out) Hs.out).mono ?_);rintro e w2 ⟨rfl,hx2⟩;have HX1':=hid (HX1.out.trans hx2);clear HX1 hx2;have HX1:=HX1';clear HX1'))
  go_ret2
  exact ⟨by rw [HE.out];first | rfl | (rw [zaN];rfl),by first | exact HX1.out | exact HX1.out.trans (Ext.alloc _ _)⟩
 ·have t0:((k:Int)==0)=false:=by rw [beq_eq_false_iff_ne];omega
  by_cases k5:k=5
  ·have HE:Hid (zbN (bys n) (bys s)=([],1)):=by show _=_;rw [HN.out,HK.out,if_neg k0,if_pos k5]
   have t5:((k:Int)==5)=true:=by rw [k5];rfl
   clear k0 k5 HN HK
   go_enter Tryz.func83,Tryz.ntmps83
   go_wp2_with (first
    | (go_at_call 55;(with_reducible refine (HT _).mono ?_);rintro e w1 ⟨rfl,hx1⟩;have HX1:=hid hx1;clear hx1)
    | (go_at_call 111;(with_reducible refine (zbU s _ Hs.out).mono ?_);rintro e w2 ⟨rfl,hx2⟩;have HX1':=hid (HX1.out.trans hx2);clear HX1 hx2;have HX1:=HX1';clear HX1')
    | (go_at_call 112;(with_reducible refine (HI _ Hs.out).mono ?_);rintro e w2 ⟨rfl,hx2⟩;have HX1':=hid (HX1.out.trans hx2);clear HX1 hx2;have HX1:=HX1';clear HX1')
    | (go_at_call 113;(with_reducible refine (HPS _ (HG.out.ext HX1.out) Hs.out).mono ?_);rintro e w2 ⟨rfl,hx2⟩;have HX1':=hid (HX1.out.trans hx2);clear HX1 hx2;have HX1:=HX1';clear HX1'))
   go_ret2
   exact ⟨by rw [HE.out];first | rfl | (rw [zaN];rfl),by first | exact HX1.out | exact HX1.out.trans (Ext.alloc _ _)⟩
  ·have t5:((k:Int)==5)=false:=by rw [beq_eq_false_iff_ne];omega
   by_cases hz:s.size=0
   ·have HE:Hid (zbN (bys n) (bys s)=([],2)):=by show _=_;rw [HN.out,HK.out,if_neg k0,if_neg k5,if_pos (.inl (by rw [zbt hz];rfl))]
    have e1:(s.size:Int)<1:=by omega
    clear k0 k5 HN HK hz
    go_enter Tryz.func83,Tryz.ntmps83
    go_wp2_with (first
     | (go_at_call 55;(with_reducible refine (HT _).mono ?_);rintro e w1 ⟨rfl,hx1⟩;have HX1:=hid hx1;clear hx1)
     | (go_at_call 111;(with_reducible refine (zbU s _ Hs.out).mono ?_);rintro e w2 ⟨rfl,hx2⟩;have HX1':=hid (HX1.out.trans hx2);clear HX1 hx2;have HX1:=HX1';clear HX1')
     | (go_at_call 112;(with_reducible refine (HI _ Hs.out).mono ?_);rintro e w2 ⟨rfl,hx2⟩;have HX1':=hid (HX1.out.trans hx2);clear HX1 hx2;have HX1:=HX1';clear HX1')
     | (go_at_call 113;(with_reducible refine (HPS _ (HG.out.ext HX1.out) Hs.out).mono ?_);rintro e w2 ⟨rfl,hx2⟩;have HX1':=hid (HX1.out.trans hx2);clear HX1 hx2;have HX1:=HX1';clear HX1'))
    go_ret2
    exact ⟨by rw [HE.out];first | rfl | (rw [zaN];rfl),by first | exact HX1.out | exact HX1.out.trans (Ext.alloc _ _)⟩
   ·have e1:decide ((s.size:Int)<1)=false:=by rw [decide_eq_false_iff_not];omega
    by_cases hl:200<s.size
    ·have HE:Hid (zbN (bys n) (bys s)=([],2)):=by show _=_;rw [HN.out,HK.out,if_neg k0,if_neg k5,if_pos (.inr (by rw [zaf];exact hl))]
     have e2:200<(s.size:Int):=by omega
     clear k0 k5 HN HK hz hl
     go_enter Tryz.func83,Tryz.ntmps83
     go_wp2_with (first
      | (go_at_call 55;(with_reducible refine (HT _).mono ?_);rintro e w1 ⟨rfl,hx1⟩;have HX1:=hid hx1;clear hx1)
      | (go_at_call 111;(with_reducible refine (zbU s _ Hs.out).mono ?_);rintro e w2 ⟨rfl,hx2⟩;have HX1':=hid (HX1.out.trans hx2);clear HX1 hx2;have HX1:=HX1';clear HX1')
      | (go_at_call 112;(with_reducible refine (HI _ Hs.out).mono ?_);rintro e w2 ⟨rfl,hx2⟩;have HX1':=hid (HX1.out.trans hx2);clear HX1 hx2;have HX1:=HX1';clear HX1')
      | (go_at_call 113;(with_reducible refine (HPS _ (HG.out.ext HX1.out) Hs.out).mono ?_);rintro e w2 ⟨rfl,hx2⟩;have HX1':=hid (HX1.out.trans hx2);clear HX1 hx2;have HX1:=HX1';clear HX1'))
     go_ret2
     exact ⟨by rw [HE.out];first | rfl | (rw [zaN];rfl),by first | exact HX1.out | exact HX1.out.trans (Ext.alloc _ _)⟩
    ·have e2:decide (200<(s.size:Int))=false:=by rw [decide_eq_false_iff_not];omega
     have Hs:Hid (s.size≤4000000):=by show _≤_;omega
     have hbs:¬ (bys s=[]∨200<(bys s).length):=by
      rw [zaf]
      rintro (h | h)
      ·exact hz (by rw [← zaf,h];rfl)
      ·exact hl h
     rw [if_neg k0,if_neg k5,if_neg hbs] at HK
     clear hbs hz hl k0 k5
     by_cases k1:k=1
     ·have t1:((k:Int)==1)=true:=by rw [k1];rfl
      rw [if_pos k1] at HK
      by_cases hr:zeb (bys s)=[]
      ·have r0:(zeb (bys s) == [])=true:=by rw [hr];rfl
       have HE:Hid (zbN (bys n) (bys s)=([],2)):=by show _=_;rw [HN.out,HK.out,if_pos hr]
       clear k1 hr HN HK
       go_enter Tryz.func83,Tryz.ntmps83
       go_wp2_with (first
        | (go_at_call 55;(with_reducible refine (HT _).mono ?_);rintro e w1 ⟨rfl,hx1⟩;have HX1:=hid hx1;clear hx1)
        | (go_at_call 111;(with_reducible refine (zbU s _ Hs.out).mono ?_);rintro e w2 ⟨rfl,hx2⟩;have HX1':=hid (HX1.out.trans hx2);clear HX1 hx2;have HX1:=HX1';clear HX1')
        | (go_at_call 112;(with_reducible refine (HI _ Hs.out).mono ?_);rintro e w2 ⟨rfl,hx2⟩;have HX1':=hid (HX1.out.trans hx2);clear HX1 hx2;have HX1:=HX1';clear HX1')
        | (go_at_call 113;(with_reducible refine (HPS _ (HG.out.ext HX1.out) Hs.out).mono ?_);rintro e w2 ⟨rfl,hx2⟩;have HX1':=hid (HX1.out.trans hx2);clear HX1 hx2;have HX1:=HX1';clear HX1'))
       go_ret2
       exact ⟨by rw [HE.out];first | rfl | (rw [zaN];rfl),by first | exact HX1.out | exact HX1.out.trans (Ext.alloc _ _)⟩
      ·have r0:(zeb (bys s) == [])=false:=by rw [beq_eq_false_iff_ne];exact hr
       have HE:Hid (zbN (bys n) (bys s)=(zeb (bys s),0)):=by show _=_;rw [HN.out,HK.out,if_neg hr]
       clear k1 hr HN HK
       go_enter Tryz.func83,Tryz.ntmps83
       go_wp2_with (first
        | (go_at_call 55;(with_reducible refine (HT _).mono ?_);rintro e w1 ⟨rfl,hx1⟩;have HX1:=hid hx1;clear hx1)
        | (go_at_call 111;(with_reducible refine (zbU s _ Hs.out).mono ?_);rintro e w2 ⟨rfl,hx2⟩;have HX1':=hid (HX1.out.trans hx2);clear HX1 hx2;have HX1:=HX1';clear HX1')
        | (go_at_call 112;(with_reducible refine (HI _ Hs.out).mono ?_);rintro e w2 ⟨rfl,hx2⟩;have HX1':=hid (HX1.out.trans hx2);clear HX1 hx2;have HX1:=HX1';clear HX1')
        | (go_at_call 113;(with_reducible refine (HPS _ (HG.out.ext HX1.out) Hs.out).mono ?_);rintro e w2 ⟨rfl,hx2⟩;have HX1':=hid (HX1.out.trans hx2);clear HX1 hx2;have HX1:=HX1';clear HX1'))
       go_ret2
       exact ⟨by rw [HE.out];first | rfl | (rw [zaN];rfl),by first | exact HX1.out | exact HX1.out.trans (Ext.alloc _ _)⟩
     ·have t1:((k:Int)==1)=false:=by rw [beq_eq_false_iff_ne];omega
      rw [if_neg k1] at HK
      by_cases k3:k=3
      ·have t3:((k:Int)==3)=true:=by rw [k3];rfl
       rw [if_pos k3] at HK
       have HI:=zjS s
       unfold zpg at HI
       cases hi:intB (bys s) with
       | true=>
        have HE:Hid (zbN (bys n) (bys s)=(bys s,0)):=by show _=_;rw [HN.out,HK.out,hi];rfl
        rw [hi] at HI
        clear k1 k3 hi HN HK
        go_enter Tryz.func83,Tryz.ntmps83
        go_wp2_with (first
         | (go_at_call 55;(with_reducible refine (HT _).mono ?_);rintro e w1 ⟨rfl,hx1⟩;have HX1:=hid hx1;clear hx1)
         | (go_at_call 111;(with_reducible refine (zbU s _ Hs.out).mono ?_);rintro e w2 ⟨rfl,hx2⟩;have HX1':=hid (HX1.out.trans hx2);clear HX1 hx2;have HX1:=HX1';clear HX1')
         | (go_at_call 112;(with_reducible refine (HI _ Hs.out).mono ?_);rintro e w2 ⟨rfl,hx2⟩;have HX1':=hid (HX1.out.trans hx2);clear HX1 hx2;have HX1:=HX1';clear HX1')
         | (go_at_call 113;(with_reducible refine (HPS _ (HG.out.ext HX1.out) Hs.out).mono ?_);rintro e w2 ⟨rfl,hx2⟩;have HX1':=hid (HX1.out.trans hx2);clear HX1 hx2;have HX1:=HX1';clear HX1'))
        go_ret2
        exact ⟨by rw [HE.out];first | rfl | (rw [zaN];rfl),by first | exact HX1.out | exact HX1.out.trans (Ext.alloc _ _)⟩
       | false=>
        have HE:Hid (zbN (bys n) (bys s)=([],2)):=by show _=_;rw [HN.out,HK.out,hi];rfl
        rw [hi] at HI
        clear k1 k3 hi HN HK
        go_enter Tryz.func83,Tryz.ntmps83
        go_wp2_with (first
         | (go_at_call 55;(with_reducible refine (HT _).mono ?_);rintro e w1 ⟨rfl,hx1⟩;have HX1:=hid hx1;clear hx1)
         | (go_at_call 111;(with_reducible refine (zbU s _ Hs.out).mono ?_);rintro e w2 ⟨rfl,hx2⟩;have HX1':=hid (HX1.out.trans hx2);clear HX1 hx2;have HX1:=HX1';clear HX1')
         | (go_at_call 112;(with_reducible refine (HI _ Hs.out).mono ?_);rintro e w2 ⟨rfl,hx2⟩;have HX1':=hid (HX1.out.trans hx2);clear HX1 hx2;have HX1:=HX1';clear HX1')
         | (go_at_call 113;(with_reducible refine (HPS _ (HG.out.ext HX1.out) Hs.out).mono ?_);rintro e w2 ⟨rfl,hx2⟩;have HX1':=hid (HX1.out.trans hx2);clear HX1 hx2;have HX1:=HX1';clear HX1'))
        go_ret2
        exact ⟨by rw [HE.out];first | rfl | (rw [zaN];rfl),by first | exact HX1.out | exact HX1.out.trans (Ext.alloc _ _)⟩
      ·have t3:((k:Int)==3)=false:=by rw [beq_eq_false_iff_ne];omega
       rw [if_neg k3] at HK
       by_cases k4:k=4
       ·have t4:((k:Int)==4)=true:=by rw [k4];rfl
        rw [if_pos k4] at HK
        have HPS:=znL s
        unfold zks at HPS
        generalize za1 (bys s)=q at *
        cases q with
        | none=>
         have HE:Hid (zbN (bys n) (bys s)=([],2)):=by show _=_;rw [HN.out,HK.out];rfl
         clear k1 k3 k4 HN HK
         go_enter Tryz.func83,Tryz.ntmps83
         go_wp2_with (first
          | (go_at_call 55;(with_reducible refine (HT _).mono ?_);rintro e w1 ⟨rfl,hx1⟩;have HX1:=hid hx1;clear hx1)
          | (go_at_call 111;(with_reducible refine (zbU s _ Hs.out).mono ?_);rintro e w2 ⟨rfl,hx2⟩;have HX1':=hid (HX1.out.trans hx2);clear HX1 hx2;have HX1:=HX1';clear HX1')
          | (go_at_call 112;(with_reducible refine (HI _ Hs.out).mono ?_);rintro e w2 ⟨rfl,hx2⟩;have HX1':=hid (HX1.out.trans hx2);clear HX1 hx2;have HX1:=HX1';clear HX1')
          | (go_at_call 113;(with_reducible refine (HPS _ (HG.out.ext HX1.out) Hs.out).mono ?_);rintro e w2 ⟨rfl,hx2⟩;have HX1':=hid (HX1.out.trans hx2);clear HX1 hx2;have HX1:=HX1';clear HX1'))
         go_ret2
         exact ⟨by rw [HE.out];first | rfl | (rw [zaN];rfl),by first | exact HX1.out | exact HX1.out.trans (Ext.alloc _ _)⟩
        | some q=>
         have HE:Hid (zbN (bys n) (bys s)=(bys s,0)):=by show _=_;rw [HN.out,HK.out];rfl
         clear k1 k3 k4 HN HK
         go_enter Tryz.func83,Tryz.ntmps83
         go_wp2_with (first
          | (go_at_call 55;(with_reducible refine (HT _).mono ?_);rintro e w1 ⟨rfl,hx1⟩;have HX1:=hid hx1;clear hx1)
          | (go_at_call 111;(with_reducible refine (zbU s _ Hs.out).mono ?_);rintro e w2 ⟨rfl,hx2⟩;have HX1':=hid (HX1.out.trans hx2);clear HX1 hx2;have HX1:=HX1';clear HX1')
          | (go_at_call 112;(with_reducible refine (HI _ Hs.out).mono ?_);rintro e w2 ⟨rfl,hx2⟩;have HX1':=hid (HX1.out.trans hx2);clear HX1 hx2;have HX1:=HX1';clear HX1')
          | (go_at_call 113;(with_reducible refine (HPS _ (HG.out.ext HX1.out) Hs.out).mono ?_);rintro e w2 ⟨rfl,hx2⟩;have HX1':=hid (HX1.out.trans hx2);clear HX1 hx2;have HX1:=HX1';clear HX1'))
         go_ret2
         exact ⟨by rw [HE.out];first | rfl | (rw [zaN];rfl),by first | exact HX1.out | exact HX1.out.trans (Ext.alloc _ _)⟩
       ·have t4:((k:Int)==4)=false:=by rw [beq_eq_false_iff_ne];omega
        have HE:Hid (zbN (bys n) (bys s)=(bys s,0)):=by show _=_;rw [HN.out,HK.out,if_neg k4]
        clear k1 k3 k4 HN HK
        go_enter Tryz.func83,Tryz.ntmps83
        go_wp2_with (first
         | (go_at_call 55;(with_reducible refine (HT _).mono ?_);rintro e w1 ⟨rfl,hx1⟩;have HX1:=hid hx1;clear hx1)
         | (go_at_call 111;(with_reducible refine (zbU s _ Hs.out).mono ?_);rintro e w2 ⟨rfl,hx2⟩;have HX1':=hid (HX1.out.trans hx2);clear HX1 hx2;have HX1:=HX1';clear HX1')
         | (go_at_call 112;(with_reducible refine (HI _ Hs.out).mono ?_);rintro e w2 ⟨rfl,hx2⟩;have HX1':=hid (HX1.out.trans hx2);clear HX1 hx2;have HX1:=HX1';clear HX1')
         | (go_at_call 113;(with_reducible refine (HPS _ (HG.out.ext HX1.out) Hs.out).mono ?_);rintro e w2 ⟨rfl,hx2⟩;have HX1':=hid (HX1.out.trans hx2);clear HX1 hx2;have HX1:=HX1';clear HX1'))
        go_ret2
        exact ⟨by rw [HE.out];first | rfl | (rw [zaN];rfl),by first | exact HX1.out | exact HX1.out.trans (Ext.alloc _ _)⟩
theorem znh {n v:List UInt8} (h:(zar n).2=1∨(zar n).2=3):(zbN n v).2=if (zcv (zar n).2 v).isSome then 0 else 2:=by
 unfold zbN
 rw [if_neg (by omega)]
 exact ziv h
def zh2 (l:List Ava) (j:Nat):List UInt8:=if j=0 then [] else (l[j-1]?.map (·.type)).getD []
theorem znR {l:List Ava} {j:Nat} {x:Ava} (h:l[j]?=some x):zh2 l (j+1)=x.type:=by unfold zh2;rw [if_neg (by omega),Nat.add_sub_cancel,h];rfl
theorem zrA {a b:List UInt8} (h:ltB a b=true):Op.bytesLess a b=true:=by rw [zgk];exact h
theorem zp4 {a b:List UInt8} (h:ltB a b=false):Op.bytesLess a b=false:=by rw [zgk];exact h
theorem ze8 {S:Nat→Prop} {A:Option Addr} {n c:Nat} {l:List Ava} {w:World} (hG:Gl w) (h:Row Elem.ava S w A n c l) (hb:∀ a∈l,a.type.length≤4000000) :
 Calls Tryz.prog 116 #[.slice A n c] w fun e w'=>e=.returned (.bool (zan l))∧Ext w w':=by
 have HG:=hid hG
 have HR:=hid h
 have HB:=hid hb
 have hl:=h.len
 have HF:=hid (ziC l)
 clear hG h hb
 by_cases h0:n=0
 ·have HE:Hid (zan l=false):=by show _=_;rw [HF.out,← hl,h0];rfl
  have t0:(n:Int)<1:=by omega
  clear hl HF
  go_enter Tryz.func116,Tryz.ntmps116
  go_wp2
  go_ret
  exact ⟨by rw [HE.out];rfl,Ext.refl _⟩
 ·have t0:decide ((n:Int)<1)=false:=by rw [decide_eq_false_iff_not];omega
  by_cases h3:3<n
  ·have HE:Hid (zan l=false):=by show _=_;rw [HF.out,← hl,decide_eq_false (show ¬ n≤3 by omega)];simp
   have t3:3<(n:Int):=by omega
   clear h0 hl h3 HF
   go_enter Tryz.func116,Tryz.ntmps116
   go_wp2
   go_ret
   exact ⟨by rw [HE.out];rfl,Ext.refl _⟩
  ·have t3:decide (3<(n:Int))=false:=by rw [decide_eq_false_iff_not];omega
   have HE:Hid (zan l=zbb [] l):=by show _=_;rw [HF.out,← hl,decide_eq_true (show 1≤n by omega),decide_eq_true (show n≤3 by omega)];rfl
   have hn:n≤3:=by omega
   clear h3 HF hl
   go_enter Tryz.func116,Tryz.ntmps116
   go_wp2
   go_loopw [18] (fun i wr=>∃ (j:Nat),j≤n∧i=.int .i64 j∧Hid (zbb (zh2 l j) (l.drop j)=zbb [] l)∧Hid (Ext w wr)) (fun i _=>n-(intOf i).toNat)
   case atStart=>exact ⟨0,by omega,rfl,rfl,Ext.refl _⟩
   case round=>
    obtain ⟨j,hj,rfl,HO,HX⟩:=hrel
    by_cases hlt:j<n
    ·have hlt':(j:Int)<(n:Int):=by omega
     obtain ⟨b,o,x,rfl,hx,e1,e2⟩:=zgM (HR.out.ext HX.out) hlt
     have hd:Hid (l.drop j=x::l.drop (j+1)):=by
      show _=_
      obtain ⟨h1,h2⟩:=List.getElem?_eq_some_iff.1 hx
      rw [List.drop_eq_getElem_cons h1,h2]
     have hxs:=hid (HB.out x (List.mem_of_getElem? hx))
     have HL1:=hid (znR hx)
     have HT:∀ w,Calls Tryz.prog 55 #[.string (str x.type)] w (zaT w x.type):=fun w=>by
      have:=zeB (str x.type) w (by have:=hxs.out;rw [zaL];simp only [maxLen];omega)
      rwa [zao] at this
     have HNA:∀ w,Gl w→Calls Tryz.prog 83 #[.string (str x.type),.string (str x.val)] w (zbE w x.type x.val):=fun w hG=>by
      have:=zfb (str x.type) (str x.val) w hG (by have:=hxs.out;rw [zaL];exact this)
      rwa [zao,zao] at this
     have HAV:Hid (zbP x=(decide ((zar x.type).1=x.type) && (decide ((zar x.type).2=1) || decide ((zar x.type).2=3)) && (zcv (zar x.type).2 x.val).isSome)):=rfl
     have HNE:Hid ((zar x.type).2=1∨(zar x.type).2=3→(zbN x.type x.val).2=if (zcv (zar x.type).2 x.val).isSome then 0 else 2):=znh
     have HST:Hid (zbb (zh2 l j) (x::l.drop (j+1))=(zbP x && ltB (zh2 l j) x.type && zbb x.type (l.drop (j+1)))):=rfl
     rw [← hd.out,HO.out] at HST
     unfold zaT at HT
     unfold zbE at HNA
     obtain ⟨p,hp⟩:∃ p,p=zar x.type:=⟨_,rfl⟩
     rw [← hp] at HT HAV HNE
     clear hp
     obtain ⟨t,k⟩:=p
     generalize zbN x.type x.val=q at *
     obtain ⟨nv,ne⟩:=q
     simp only at HT HAV HNE HNA
     by_cases hj0:j=0
     ·have tj:decide (0<j)=false:=by rw [decide_eq_false_iff_not];omega
      have HLT:Hid (zh2 l j=[]):=by show _=_;rw [hj0];rfl
      clear hj0 hx
      by_cases ht:t=x.type
      ·subst ht
       have te:(x.type==x.type)=true:=beq_self_eq_true _
       by_cases hk:k=1∨k=3
       ·have hne:=HNE.out hk
        have hk2:((k:Int) != 1)=false∨(((k:Int) != 1)=true∧((k:Int) != 3)=false):=by
         rcases hk with h | h
         ·left;rw [h];rfl
         ·right;rw [h];exact ⟨rfl,rfl⟩
        cases hnb:(zcv k x.val).isSome with
        | false=>
         have e3:(ne != 0)=true:=by rw [hne,hnb];rfl
         have HF:Hid (zbb [] l=false):=by show _=_;rw [HST.out,HAV.out,hnb,Bool.and_false,Bool.false_and,Bool.false_and]
         clear hnb hne HNE HAV HST hk
         rcases hk2 with k1 | ⟨k1,k2⟩
         all_goals
          go_wp2_with (first
           | (go_at_call 55;(with_reducible refine (HT _).mono ?_);rintro e w1 ⟨rfl,hx1⟩;have HX1:=hid (HX.out.trans hx1);have HXR:=hid hx1;clear hx1))
          refine zad (.read 0 (.read 1 (.read 2 (.read 3 (.read 4 (.read 5 (.read 6 (.read 7 (.read 8 (.read 9 (.main 10 (.read 11 (.read 12 (.read 13 (.read 14 (.read 15 .done)))))))))))))))) (by kernel_rfl) (by kernel_rfl) ?_
          intro wD hxD
          have XE:Hid (Ext wD wD):=Ext.refl _
          have HXD:=hid (HX1.out.trans hxD)
          have p1:=zaa (zaa e1 _ (HXR.out.trans hxD))
          have p2:=zaa (zaa e2 _ (HXR.out.trans hxD))
          skip
          repeat' (first
           | ((first | refine zah rfl rfl ?_ | refine zae rfl rfl ?_ | refine zak rfl rfl ?_);simp only [Act.put,Act.eval,evs])
           | (refine zab rfl rfl ?_;simp only [Act.put,evp])
           | (refine zag (v:=?_) rfl rfl (fun w' hE=>?_) ?_;rotate_left 1;(· ((try (have hEx:=Ext.trans (Hid.out XE) hE));go_simp;(try go_bits);with_reducible rfl));simp only [Act.put,evp])
           | (refine walks_alt ?_ ?_)
           | (refine zai rfl rfl (fun K hK=>?_);go_wp2_with ((go_at_call 83;(with_reducible refine (HNA _ (HG.out.ext (HXD.out.trans XE.out))).mono ?_);rintro e w2 ⟨rfl,hx2⟩;have XE':=hid (Ext.trans (Hid.out XE) hx2);clear XE;have XE:=XE';clear XE'));refine hK _ _ (by first | assumption | exact Ext.alloc _ _ | exact Ext.refl _) ?_;clear hK K;try simp only [Act.put,evp]))
          refine zaj ?_
          have q1:=p1 _ XE.out
          clear p1 p2
          skip
          go_wp2
          go_ret
          exact ⟨by rw [HE.out,HF.out];rfl,HXD.out.trans XE.out⟩
        | true=>
         have e3:(ne != 0)=false:=by rw [hne,hnb];rfl
         have HAV1:Hid (zbP x=true):=by show _=_;rw [HAV.out,hnb,decide_eq_true rfl];rcases hk with h | h <;> simp [h]
         clear hnb hne HNE HAV hk
         have HF:Hid (zbb (zh2 l (j+1)) (l.drop (j+1))=zbb [] l):=by show _=_;rw [HST.out,HAV1.out,HL1.out,HLT.out,zrL (zsE HAV1.out)];rfl
         clear HST
         rcases hk2 with k1 | ⟨k1,k2⟩
         all_goals
          go_wp2_with (first
           | (go_at_call 55;(with_reducible refine (HT _).mono ?_);rintro e w1 ⟨rfl,hx1⟩;have HX1:=hid (HX.out.trans hx1);have HXR:=hid hx1;clear hx1))
          refine zad (.read 0 (.read 1 (.read 2 (.read 3 (.read 4 (.read 5 (.read 6 (.read 7 (.read 8 (.read 9 (.main 10 (.read 11 (.read 12 (.read 13 (.read 14 (.read 15 .done)))))))))))))))) (by kernel_rfl) (by kernel_rfl) ?_
          intro wD hxD
          have XE:Hid (Ext wD wD):=Ext.refl _
          have HXD:=hid (HX1.out.trans hxD)
          have p1:=zaa (zaa e1 _ (HXR.out.trans hxD))
          have p2:=zaa (zaa e2 _ (HXR.out.trans hxD))
          skip
          repeat' (first
           | ((first | refine zah rfl rfl ?_ | refine zae rfl rfl ?_ | refine zak rfl rfl ?_);simp only [Act.put,Act.eval,evs])
           | (refine zab rfl rfl ?_;simp only [Act.put,evp])
           | (refine zag (v:=?_) rfl rfl (fun w' hE=>?_) ?_;rotate_left 1;(· ((try (have hEx:=Ext.trans (Hid.out XE) hE));go_simp;(try go_bits);with_reducible rfl));simp only [Act.put,evp])
           | (refine walks_alt ?_ ?_)
           | (refine zai rfl rfl (fun K hK=>?_);go_wp2_with ((go_at_call 83;(with_reducible refine (HNA _ (HG.out.ext (HXD.out.trans XE.out))).mono ?_);rintro e w2 ⟨rfl,hx2⟩;have XE':=hid (Ext.trans (Hid.out XE) hx2);clear XE;have XE:=XE';clear XE'));refine hK _ _ (by first | assumption | exact Ext.alloc _ _ | exact Ext.refl _) ?_;clear hK K;try simp only [Act.put,evp]))
          refine zaj ?_
          have q1:=p1 _ XE.out
          clear p1 p2
          skip
          go_wp2
          exact ⟨⟨j+1,by omega,by go_num,HF,HXD.out.trans XE.out⟩,by simp [intOf];omega⟩
       ·have hk1:((k:Int) != 1)=true:=by rw [bne_iff_ne];omega
        have hk2:((k:Int) != 3)=true:=by rw [bne_iff_ne];omega
        have HF:Hid (zbb [] l=false):=by
         show _=_
         rw [HST.out,HAV.out,decide_eq_false (show ¬ k=1 by omega),decide_eq_false (show ¬ k=3 by omega)]
         simp
        clear hk HNE HAV HST
        go_wp2_with (first
         | (go_at_call 55;(with_reducible refine (HT _).mono ?_);rintro e w1 ⟨rfl,hx1⟩;have HX1:=hid (HX.out.trans hx1);have HXR:=hid hx1;clear hx1))
        refine zad (.read 0 (.read 1 (.read 2 (.read 3 (.read 4 (.read 5 (.read 6 (.read 7 (.read 8 (.read 9 (.main 10 (.read 11 (.read 12 (.read 13 (.read 14 (.read 15 .done)))))))))))))))) (by kernel_rfl) (by kernel_rfl) ?_
        intro wD hxD
        have XE:Hid (Ext wD wD):=Ext.refl _
        have HXD:=hid (HX1.out.trans hxD)
        have p1:=zaa (zaa e1 _ (HXR.out.trans hxD))
        have p2:=zaa (zaa e2 _ (HXR.out.trans hxD))
        skip
        repeat' (first
         | ((first | refine zah rfl rfl ?_ | refine zae rfl rfl ?_ | refine zak rfl rfl ?_);simp only [Act.put,Act.eval,evs])
         | (refine zab rfl rfl ?_;simp only [Act.put,evp])
         | (refine zag (v:=?_) rfl rfl (fun w' hE=>?_) ?_;rotate_left 1;(· ((try (have hEx:=Ext.trans (Hid.out XE) hE));go_simp;(try go_bits);with_reducible rfl));simp only [Act.put,evp])
         | (refine walks_alt ?_ ?_)
         | (refine zai rfl rfl (fun K hK=>?_);go_wp2_with ((go_at_call 83;(with_reducible refine (HNA _ (HG.out.ext (HXD.out.trans XE.out))).mono ?_);rintro e w2 ⟨rfl,hx2⟩;have XE':=hid (Ext.trans (Hid.out XE) hx2);clear XE;have XE:=XE';clear XE'));refine hK _ _ (by first | assumption | exact Ext.alloc _ _ | exact Ext.refl _) ?_;clear hK K;try simp only [Act.put,evp]))
        refine zaj ?_
        have q1:=p1 _ XE.out
        clear p1 p2
        skip
        go_wp2
        go_ret
        exact ⟨by rw [HE.out,HF.out];rfl,HXD.out.trans XE.out⟩
      ·have te:(t==x.type)=false:=by rw [beq_eq_false_iff_ne];exact ht
       have HF:Hid (zbb [] l=false):=by show _=_;rw [HST.out,HAV.out,decide_eq_false ht];simp
       clear ht HNE HAV HST
       go_wp2_with (first
        | (go_at_call 55;(with_reducible refine (HT _).mono ?_);rintro e w1 ⟨rfl,hx1⟩;have HX1:=hid (HX.out.trans hx1);have HXR:=hid hx1;clear hx1))
       refine zad (.read 0 (.read 1 (.read 2 (.read 3 (.read 4 (.read 5 (.read 6 (.read 7 (.read 8 (.read 9 (.main 10 (.read 11 (.read 12 (.read 13 (.read 14 (.read 15 .done)))))))))))))))) (by kernel_rfl) (by kernel_rfl) ?_
       intro wD hxD
       have XE:Hid (Ext wD wD):=Ext.refl _
       have HXD:=hid (HX1.out.trans hxD)
       have p1:=zaa (zaa e1 _ (HXR.out.trans hxD))
       have p2:=zaa (zaa e2 _ (HXR.out.trans hxD))
       skip
       repeat' (first
        | ((first | refine zah rfl rfl ?_ | refine zae rfl rfl ?_ | refine zak rfl rfl ?_);simp only [Act.put,Act.eval,evs])
        | (refine zab rfl rfl ?_;simp only [Act.put,evp])
        | (refine zag (v:=?_) rfl rfl (fun w' hE=>?_) ?_;rotate_left 1;(· ((try (have hEx:=Ext.trans (Hid.out XE) hE));go_simp;(try go_bits);with_reducible rfl));simp only [Act.put,evp])
        | (refine walks_alt ?_ ?_)
        | (refine zai rfl rfl (fun K hK=>?_);go_wp2_with ((go_at_call 83;(with_reducible refine (HNA _ (HG.out.ext (HXD.out.trans XE.out))).mono ?_);rintro e w2 ⟨rfl,hx2⟩;have XE':=hid (Ext.trans (Hid.out XE) hx2);clear XE;have XE:=XE';clear XE'));refine hK _ _ (by first | assumption | exact Ext.alloc _ _ | exact Ext.refl _) ?_;clear hK K;try simp only [Act.put,evp]))
       refine zaj ?_
       have q1:=p1 _ XE.out
       clear p1 p2
       skip
       go_wp2
       go_ret
       exact ⟨by rw [HE.out,HF.out];rfl,HXD.out.trans XE.out⟩
     ·have tj:0<(j:Int):=by omega
      obtain ⟨b',o',y,hA,hy,e0,-⟩:=zgM (HR.out.ext HX.out) (show j-1<n by omega)
      injection hA with hA
      injection hA with hA1 hA2
      subst hA1 hA2
      have z1:((j:Int)-1).toNat=j-1:=by omega
      have z2:0≤(j:Int)-1:=by omega
      have z3:(j:Int)-1<(n:Int):=by omega
      have HLT:Hid (zh2 l j=y.type):=by show _=_;unfold zh2;rw [if_neg hj0,hy];rfl
      clear hj0 hx hy
      by_cases ht:t=x.type
      ·subst ht
       have te:(x.type==x.type)=true:=beq_self_eq_true _
       by_cases hk:k=1∨k=3
       ·have hne:=HNE.out hk
        have hk2:((k:Int) != 1)=false∨(((k:Int) != 1)=true∧((k:Int) != 3)=false):=by
         rcases hk with h | h
         ·left;rw [h];rfl
         ·right;rw [h];exact ⟨rfl,rfl⟩
        cases hnb:(zcv k x.val).isSome with
        | false=>
         have e3:(ne != 0)=true:=by rw [hne,hnb];rfl
         have HF:Hid (zbb [] l=false):=by show _=_;rw [HST.out,HAV.out,hnb,Bool.and_false,Bool.false_and,Bool.false_and]
         clear hnb hne HNE HAV HST hk
         rcases hk2 with k1 | ⟨k1,k2⟩
         all_goals
          go_wp2_with (first
           | (go_at_call 55;(with_reducible refine (HT _).mono ?_);rintro e w1 ⟨rfl,hx1⟩;have HX1:=hid (HX.out.trans hx1);have HXR:=hid hx1;clear hx1))
          refine zad (.read 0 (.read 1 (.read 2 (.read 3 (.read 4 (.read 5 (.read 6 (.read 7 (.read 8 (.read 9 (.main 10 (.read 11 (.read 12 (.read 13 (.read 14 (.read 15 .done)))))))))))))))) (by kernel_rfl) (by kernel_rfl) ?_
          intro wD hxD
          have XE:Hid (Ext wD wD):=Ext.refl _
          have HXD:=hid (HX1.out.trans hxD)
          have p1:=zaa (zaa e1 _ (HXR.out.trans hxD))
          have p2:=zaa (zaa e2 _ (HXR.out.trans hxD))
          skip
          repeat' (first
           | ((first | refine zah rfl rfl ?_ | refine zae rfl rfl ?_ | refine zak rfl rfl ?_);simp only [Act.put,Act.eval,evs])
           | (refine zab rfl rfl ?_;simp only [Act.put,evp])
           | (refine zag (v:=?_) rfl rfl (fun w' hE=>?_) ?_;rotate_left 1;(· ((try (have hEx:=Ext.trans (Hid.out XE) hE));go_simp;(try go_bits);with_reducible rfl));simp only [Act.put,evp])
           | (refine walks_alt ?_ ?_)
           | (refine zai rfl rfl (fun K hK=>?_);go_wp2_with ((go_at_call 83;(with_reducible refine (HNA _ (HG.out.ext (HXD.out.trans XE.out))).mono ?_);rintro e w2 ⟨rfl,hx2⟩;have XE':=hid (Ext.trans (Hid.out XE) hx2);clear XE;have XE:=XE';clear XE'));refine hK _ _ (by first | assumption | exact Ext.alloc _ _ | exact Ext.refl _) ?_;clear hK K;try simp only [Act.put,evp]))
          refine zaj ?_
          have q1:=p1 _ XE.out
          clear p1 p2
          have q0:=(zaa (zaa e0 _ (HXR.out.trans hxD))) _ XE.out
          go_wp2
          go_ret
          exact ⟨by rw [HE.out,HF.out];rfl,HXD.out.trans XE.out⟩
        | true=>
         have e3:(ne != 0)=false:=by rw [hne,hnb];rfl
         have HAV1:Hid (zbP x=true):=by show _=_;rw [HAV.out,hnb,decide_eq_true rfl];rcases hk with h | h <;> simp [h]
         clear hnb hne HNE HAV hk
         cases hlt2:ltB y.type x.type with
         | false=>
          have q9:=zp4 hlt2
          have HF:Hid (zbb [] l=false):=by show _=_;rw [HST.out,HLT.out,hlt2,Bool.and_false,Bool.false_and]
          clear hlt2 HST
          rcases hk2 with k1 | ⟨k1,k2⟩
          all_goals
           go_wp2_with (first
            | (go_at_call 55;(with_reducible refine (HT _).mono ?_);rintro e w1 ⟨rfl,hx1⟩;have HX1:=hid (HX.out.trans hx1);have HXR:=hid hx1;clear hx1))
           refine zad (.read 0 (.read 1 (.read 2 (.read 3 (.read 4 (.read 5 (.read 6 (.read 7 (.read 8 (.read 9 (.main 10 (.read 11 (.read 12 (.read 13 (.read 14 (.read 15 .done)))))))))))))))) (by kernel_rfl) (by kernel_rfl) ?_
           intro wD hxD
           have XE:Hid (Ext wD wD):=Ext.refl _
           have HXD:=hid (HX1.out.trans hxD)
           have p1:=zaa (zaa e1 _ (HXR.out.trans hxD))
           have p2:=zaa (zaa e2 _ (HXR.out.trans hxD))
           skip
           repeat' (first
            | ((first | refine zah rfl rfl ?_ | refine zae rfl rfl ?_ | refine zak rfl rfl ?_);simp only [Act.put,Act.eval,evs])
            | (refine zab rfl rfl ?_;simp only [Act.put,evp])
            | (refine zag (v:=?_) rfl rfl (fun w' hE=>?_) ?_;rotate_left 1;(· ((try (have hEx:=Ext.trans (Hid.out XE) hE));go_simp;(try go_bits);with_reducible rfl));simp only [Act.put,evp])
            | (refine walks_alt ?_ ?_)
            | (refine zai rfl rfl (fun K hK=>?_);go_wp2_with ((go_at_call 83;(with_reducible refine (HNA _ (HG.out.ext (HXD.out.trans XE.out))).mono ?_);rintro e w2 ⟨rfl,hx2⟩;have XE':=hid (Ext.trans (Hid.out XE) hx2);clear XE;have XE:=XE';clear XE'));refine hK _ _ (by first | assumption | exact Ext.alloc _ _ | exact Ext.refl _) ?_;clear hK K;try simp only [Act.put,evp]))
           refine zaj ?_
           have q1:=p1 _ XE.out
           clear p1 p2
           have q0:=(zaa (zaa e0 _ (HXR.out.trans hxD))) _ XE.out
           go_wp2
           go_ret
           exact ⟨by rw [HE.out,HF.out];rfl,HXD.out.trans XE.out⟩
         | true=>
          have q9:=zrA hlt2
          have HF:Hid (zbb (zh2 l (j+1)) (l.drop (j+1))=zbb [] l):=by show _=_;rw [HST.out,HAV1.out,HL1.out,HLT.out,hlt2];rfl
          clear hlt2 HST
          rcases hk2 with k1 | ⟨k1,k2⟩
          all_goals
           go_wp2_with (first
            | (go_at_call 55;(with_reducible refine (HT _).mono ?_);rintro e w1 ⟨rfl,hx1⟩;have HX1:=hid (HX.out.trans hx1);have HXR:=hid hx1;clear hx1))
           refine zad (.read 0 (.read 1 (.read 2 (.read 3 (.read 4 (.read 5 (.read 6 (.read 7 (.read 8 (.read 9 (.main 10 (.read 11 (.read 12 (.read 13 (.read 14 (.read 15 .done)))))))))))))))) (by kernel_rfl) (by kernel_rfl) ?_
           intro wD hxD
           have XE:Hid (Ext wD wD):=Ext.refl _
           have HXD:=hid (HX1.out.trans hxD)
           have p1:=zaa (zaa e1 _ (HXR.out.trans hxD))
           have p2:=zaa (zaa e2 _ (HXR.out.trans hxD))
           skip
           repeat' (first
            | ((first | refine zah rfl rfl ?_ | refine zae rfl rfl ?_ | refine zak rfl rfl ?_);simp only [Act.put,Act.eval,evs])
            | (refine zab rfl rfl ?_;simp only [Act.put,evp])
            | (refine zag (v:=?_) rfl rfl (fun w' hE=>?_) ?_;rotate_left 1;(· ((try (have hEx:=Ext.trans (Hid.out XE) hE));go_simp;(try go_bits);with_reducible rfl));simp only [Act.put,evp])
            | (refine walks_alt ?_ ?_)
            | (refine zai rfl rfl (fun K hK=>?_);go_wp2_with ((go_at_call 83;(with_reducible refine (HNA _ (HG.out.ext (HXD.out.trans XE.out))).mono ?_);rintro e w2 ⟨rfl,hx2⟩;have XE':=hid (Ext.trans (Hid.out XE) hx2);clear XE;have XE:=XE';clear XE'));refine hK _ _ (by first | assumption | exact Ext.alloc _ _ | exact Ext.refl _) ?_;clear hK K;try simp only [Act.put,evp]))
           refine zaj ?_
           have q1:=p1 _ XE.out
           clear p1 p2
           have q0:=(zaa (zaa e0 _ (HXR.out.trans hxD))) _ XE.out
           go_wp2
           exact ⟨⟨j+1,by omega,by go_num,HF,HXD.out.trans XE.out⟩,by simp [intOf];omega⟩
       ·have hk1:((k:Int) != 1)=true:=by rw [bne_iff_ne];omega
        have hk2:((k:Int) != 3)=true:=by rw [bne_iff_ne];omega
        have HF:Hid (zbb [] l=false):=by
         show _=_
         rw [HST.out,HAV.out,decide_eq_false (show ¬ k=1 by omega),decide_eq_false (show ¬ k=3 by omega)]
         simp
        clear hk HNE HAV HST
        go_wp2_with (first
         | (go_at_call 55;(with_reducible refine (HT _).mono ?_);rintro e w1 ⟨rfl,hx1⟩;have HX1:=hid (HX.out.trans hx1);have HXR:=hid hx1;clear hx1))
        refine zad (.read 0 (.read 1 (.read 2 (.read 3 (.read 4 (.read 5 (.read 6 (.read 7 (.read 8 (.read 9 (.main 10 (.read 11 (.read 12 (.read 13 (.read 14 (.read 15 .done)))))))))))))))) (by kernel_rfl) (by kernel_rfl) ?_
        intro wD hxD
        have XE:Hid (Ext wD wD):=Ext.refl _
        have HXD:=hid (HX1.out.trans hxD)
        have p1:=zaa (zaa e1 _ (HXR.out.trans hxD))
        have p2:=zaa (zaa e2 _ (HXR.out.trans hxD))
        skip
        repeat' (first
         | ((first | refine zah rfl rfl ?_ | refine zae rfl rfl ?_ | refine zak rfl rfl ?_);simp only [Act.put,Act.eval,evs])
         | (refine zab rfl rfl ?_;simp only [Act.put,evp])
         | (refine zag (v:=?_) rfl rfl (fun w' hE=>?_) ?_;rotate_left 1;(· ((try (have hEx:=Ext.trans (Hid.out XE) hE));go_simp;(try go_bits);with_reducible rfl));simp only [Act.put,evp])
         | (refine walks_alt ?_ ?_)
         | (refine zai rfl rfl (fun K hK=>?_);go_wp2_with ((go_at_call 83;(with_reducible refine (HNA _ (HG.out.ext (HXD.out.trans XE.out))).mono ?_);rintro e w2 ⟨rfl,hx2⟩;have XE':=hid (Ext.trans (Hid.out XE) hx2);clear XE;have XE:=XE';clear XE'));refine hK _ _ (by first | assumption | exact Ext.alloc _ _ | exact Ext.refl _) ?_;clear hK K;try simp only [Act.put,evp]))
        refine zaj ?_
        have q1:=p1 _ XE.out
        clear p1 p2
        have q0:=(zaa (zaa e0 _ (HXR.out.trans hxD))) _ XE.out
        go_wp2
        go_ret
        exact ⟨by rw [HE.out,HF.out];rfl,HXD.out.trans XE.out⟩
      ·have te:(t==x.type)=false:=by rw [beq_eq_false_iff_ne];exact ht
       have HF:Hid (zbb [] l=false):=by show _=_;rw [HST.out,HAV.out,decide_eq_false ht];simp
       clear ht HNE HAV HST
       go_wp2_with (first
        | (go_at_call 55;(with_reducible refine (HT _).mono ?_);rintro e w1 ⟨rfl,hx1⟩;have HX1:=hid (HX.out.trans hx1);have HXR:=hid hx1;clear hx1))
       refine zad (.read 0 (.read 1 (.read 2 (.read 3 (.read 4 (.read 5 (.read 6 (.read 7 (.read 8 (.read 9 (.main 10 (.read 11 (.read 12 (.read 13 (.read 14 (.read 15 .done)))))))))))))))) (by kernel_rfl) (by kernel_rfl) ?_
       intro wD hxD
       have XE:Hid (Ext wD wD):=Ext.refl _
       have HXD:=hid (HX1.out.trans hxD)
       have p1:=zaa (zaa e1 _ (HXR.out.trans hxD))
       have p2:=zaa (zaa e2 _ (HXR.out.trans hxD))
       skip
       repeat' (first
        | ((first | refine zah rfl rfl ?_ | refine zae rfl rfl ?_ | refine zak rfl rfl ?_);simp only [Act.put,Act.eval,evs])
        | (refine zab rfl rfl ?_;simp only [Act.put,evp])
        | (refine zag (v:=?_) rfl rfl (fun w' hE=>?_) ?_;rotate_left 1;(· ((try (have hEx:=Ext.trans (Hid.out XE) hE));go_simp;(try go_bits);with_reducible rfl));simp only [Act.put,evp])
        | (refine walks_alt ?_ ?_)
        | (refine zai rfl rfl (fun K hK=>?_);go_wp2_with ((go_at_call 83;(with_reducible refine (HNA _ (HG.out.ext (HXD.out.trans XE.out))).mono ?_);rintro e w2 ⟨rfl,hx2⟩;have XE':=hid (Ext.trans (Hid.out XE) hx2);clear XE;have XE:=XE';clear XE'));refine hK _ _ (by first | assumption | exact Ext.alloc _ _ | exact Ext.refl _) ?_;clear hK K;try simp only [Act.put,evp]))
       refine zaj ?_
       have q1:=p1 _ XE.out
       clear p1 p2
       have q0:=(zaa (zaa e0 _ (HXR.out.trans hxD))) _ XE.out
       go_wp2
       go_ret
       exact ⟨by rw [HE.out,HF.out];rfl,HXD.out.trans XE.out⟩
    ·obtain rfl:j=n:=by omega
     have HF:Hid (zbb [] l=true):=by show _=_;rw [← HO.out,List.drop_of_length_le (Nat.le_of_eq HR.out.len.symm)];rfl
     go_wp2
     go_ret
     exact ⟨by rw [HE.out,HF.out];rfl,HX.out⟩
def znX:List Ava→List UInt8
 | []=>[]
 | a::t=>43::(a.type++61::zaA true a.val++znX t)
theorem zhv:∀ (a:Ava) (t:List Ava),za4 (a::t)=a.type++61::zaA true a.val++znX t
 | a,[]=>by simp [za4,znX]
 | a,b::t=>by
  have h:=zhv b t
  rw [za4,h,znX]
def ze0 (j:Nat) (l:List Ava):List UInt8:=if j=0 then za4 l else znX l
theorem zjW (x:Ava) (t:List Ava):ze0 0 (x::t)=(x.type++[61])++zaA true x.val++ze0 1 t:=by
 unfold ze0;rw [if_pos rfl,if_neg (by decide),zhv];simp
theorem zkw {j:Nat} (h:¬ j=0) (x:Ava) (t:List Ava):ze0 j (x::t)=[43]++(x.type++[61])++zaA true x.val++ze0 (j+1) t:=by
 unfold ze0;rw [if_neg h,if_neg (by omega),znX];simp
theorem ziL (n:List UInt8):(zar n).1.length≤17:=by
 unfold zar
 cases h:typTab.find? (fun p=>zat p.1==zat n) with
 | none=>simp
 | some p=>
  have hm:=List.mem_of_find?_eq_some h
  have hall:∀ p∈typTab,p.1.length≤17:=by decide
  exact hall p hm
theorem zne {k:Nat} {v:List UInt8} (h:(zcv k v).isSome=true):v.length≤200:=by
 unfold zcv at h
 by_cases hv:v=[]∨200<v.length
 ·rw [if_pos hv] at h;cases h
 ·have:¬ 200<v.length:=fun e=>hv (.inr e)
  omega
theorem zd0 {a:Ava} (h:zbP a=true):a.type.length≤17∧a.val.length≤200:=by
 unfold zbP at h
 simp only [Bool.and_eq_true,Bool.or_eq_true,decide_eq_true_eq] at h
 exact ⟨by have:=ziL a.type;rw [h.1.1] at this;exact this,zne h.2⟩
theorem zc4 {l:List Ava} (h:zan l=true):∀ a∈l,zbP a=true:=by
 unfold zan at h
 simp only [Bool.and_eq_true,List.all_eq_true] at h
 exact h.1.2
theorem zdG {l:List Ava} (h:zan l=true):l.length≤3:=by
 unfold zan at h
 simp only [Bool.and_eq_true,decide_eq_true_eq] at h
 exact h.1.1.2
theorem zo7 {B b:Nat} {xs:List UInt8} {w:World} (h:IsB B b xs w) (hl:xs.length+1≤140737488355328) :
 Calls Tryz.prog 107 #[.pointer (some ⟨b,0,none⟩),.int .u8 43] w fun e w'=>e=.returned .nilIface∧IsB B b (xs++[43]) w'∧Kept B b w w':=zdt 43 h hl
def zkE (w:World) (l:List Ava) (e:Ending) (w':World):Prop:=e=.returned (.tuple #[.string (str (zb7 l)),.int .i64 (if zan l then 0 else 1)])∧Ext w w'
theorem zos {S:Nat→Prop} {A:Option Addr} {n c:Nat} {l:List Ava} {w:World} (hG:Gl w) (h:Row Elem.ava S w A n c l) (hb:∀ a∈l,a.type.length≤4000000) :
 Calls Tryz.prog 77 #[.slice A n c] w (zkE w l):=by
 have HR:=hid h
 have HF:=hid (fun w' hx=>zf4 (hG.ext hx) (h.ext hx) hb:∀ w',Ext w w'→Calls Tryz.prog 105 #[.slice A n c] w' fun e w''=>e=.returned (.bool (zan l))∧Ext w' w'')
 clear hG h hb
 cases hf:zan l with
 | false=>
  have HE:Hid (zb7 l=[]∧zan l=false):=⟨by unfold zb7;rw [hf];rfl,hf⟩
  rw [hf] at HF
  clear hf
  go_enter Tryz.func77,Tryz.ntmps77
  go_wp2_with (go_at_call 105;(with_reducible refine (HF.out _ (Ext.refl _)).mono ?_);rintro e w1 ⟨rfl,hx1⟩;have HX1:=hid hx1;clear hx1)
  go_ret2
  exact ⟨by rw [HE.out.1,HE.out.2];rfl,HX1.out⟩
 | true=>
  have HE:Hid (zb7 l=za4 l∧zan l=true):=⟨by unfold zb7;rw [hf];rfl,hf⟩
  have HO:=hid (zc4 hf)
  have hn3:n≤3:=by rw [HR.out.len];exact zdG hf
  rw [hf] at HF
  clear hf
  go_enter Tryz.func77,Tryz.ntmps77
  go_wp2_with (go_at_call 105;(with_reducible refine (HF.out _ (Ext.refl _)).mono ?_);rintro e w1 ⟨rfl,hx1⟩;have HX1:=hid hx1;clear hx1)
  go_loopw [12] (fun i wr=>∃ (j:Nat) (acc:List UInt8),j≤n∧i=.int .i64 j∧acc.length≤1000 * j∧Hid (IsB w1.heap.size w1.heap.size acc wr∧Below w1.heap.size w1 wr)∧Hid (acc++ze0 j (l.drop j)=za4 l)) (fun i _=>n-(intOf i).toNat)
  case atStart=>exact ⟨0,[],by omega,rfl,by simp,⟨zlH w1,Ext.alloc _ _⟩,rfl⟩
  case round=>
   obtain ⟨j,acc,hj,rfl,hacc,HI,HP⟩:=hrel
   by_cases hlt:j<n
   ·obtain ⟨b,o,x,rfl,hx,e1,e2⟩:=zgM ((HR.out.ext HX1.out).ext HI.out.2) hlt
    obtain ⟨hs1,hs2⟩:=zd0 (HO.out x (List.mem_of_getElem? hx))
    have hd:Hid (l.drop j=x::l.drop (j+1)):=by
     show _=_
     obtain ⟨h1,h2⟩:=List.getElem?_eq_some_iff.1 hx
     rw [List.drop_eq_getElem_cons h1,h2]
    have hw3:=zcs x.val true
    have hz1:(str x.type++str [61])=str (x.type++[61]):=zbg _ _
    have z1:¬ 9223372036854775807<x.type.length+1:=by omega
    have hgB:Hid (wr.heap.size≠w1.heap.size):=by show _≠_;have:=HI.out.1.lt;omega
    clear hx
    by_cases hj0:j=0
    ·have tj:decide (0<j)=false:=by rw [decide_eq_false_iff_not];omega
     have HP2:Hid (acc++(x.type++[61])++zaA true x.val++ze0 (j+1) (l.drop (j+1))=za4 l):=by show _=_;rw [← HP.out,hd.out,hj0,zjW];simp
     clear hj0
     go_wp2_with (first
      | (go_at_call 80;(with_reducible refine (zd8 (str (x.type++[61])) (HI.out.1.ext (Ext.alloc _ _)) (by rw [zaL];simp;omega)).mono ?_);rintro e w3 ⟨rfl,hi3,hk3⟩;rw [zao] at hi3;have HI3:=hid hi3;have HK3:=hid (Kept.trans (zdP (Ext.alloc _ _) HI.out.1.le) hk3);have c1:=hk3.cell (j:=1) (heap_alloc_new wr _) (by decide) hgB.out rfl;clear hi3 hk3)
      | (go_at_call 108;(with_reducible refine (zfT (str x.val) _ HI3.out (by rw [zaL];omega) (by simp;omega)).mono ?_);rintro e w4 ⟨rfl,hi4,hk4⟩;rw [zao] at hi4;have HI4:=hid hi4;have HK4:=hid (HK3.out.trans hk4);clear hi4 hk4))
     exact ⟨⟨j+1,_,by omega,by go_num,by simp;omega,⟨HI4.out,Below.trans HI.out.2 HK4.out.below⟩,HP2⟩,by simp [intOf];omega⟩
    ·have tj:decide (0<j)=true:=by rw [decide_eq_true_eq];omega
     have HP2:Hid (acc++[43]++(x.type++[61])++zaA true x.val++ze0 (j+1) (l.drop (j+1))=za4 l):=by show _=_;rw [← HP.out,hd.out,zkw hj0];simp
     clear hj0
     go_wp2_with (first
      | (go_at_call 107;(with_reducible refine (zo7 (HI.out.1.ext (Ext.alloc _ _)) (by omega)).mono ?_);rintro e w2 ⟨rfl,hi2,hk2⟩;have HI2:=hid hi2;have HK2:=hid (Kept.trans (zdP (Ext.alloc _ _) HI.out.1.le) hk2);have HKA:=hid hk2;have c0:=hk2.cell (j:=0) (heap_alloc_new wr _) (by decide) hgB.out rfl;clear hi2 hk2)
      | (go_at_call 80;(with_reducible refine (zd8 (str (x.type++[61])) HI2.out (by rw [zaL];simp;omega)).mono ?_);rintro e w3 ⟨rfl,hi3,hk3⟩;rw [zao] at hi3;have HI3:=hid hi3;have HK3:=hid (HK2.out.trans hk3);have c1:=(HKA.out.trans hk3).cell (j:=1) (heap_alloc_new wr _) (by decide) hgB.out rfl;clear hi3 hk3)
      | (go_at_call 108;(with_reducible refine (zfT (str x.val) _ HI3.out (by rw [zaL];omega) (by simp;omega)).mono ?_);rintro e w4 ⟨rfl,hi4,hk4⟩;rw [zao] at hi4;have HI4:=hid hi4;have HK4:=hid (HK3.out.trans hk4);clear hi4 hk4))
     exact ⟨⟨j+1,_,by omega,by go_num,by simp;omega,⟨HI4.out,Below.trans HI.out.2 HK4.out.below⟩,HP2⟩,by simp [intOf];omega⟩
   ·obtain rfl:j=n:=by omega
    have HQ:Hid (za4 l=acc):=by
     show _=_
     rw [← HP.out,List.drop_of_length_le (Nat.le_of_eq HR.out.len.symm)]
     have:ze0 j []=[]:=by unfold ze0;split <;> rfl
     rw [this,List.append_nil]
    go_wp2_with (go_at_call 81;(with_reducible refine (zgz HI.out.1).mono ?_);rintro e w4 ⟨rfl,hx4⟩;have HX4:=hid hx4;clear hx4)
    go_ret2
    exact ⟨by rw [HE.out.1,HE.out.2,HQ.out];rfl,HX1.out.trans (Below.trans HI.out.2 HX4.out)⟩
theorem znc {S:Nat→Prop} {A:Option Addr} {n c:Nat} {l:List Ava} {w:World} (hG:Gl w) (h:Row Elem.ava S w A n c l) (hb:∀ a∈l,a.type.length≤4000000) :
 Calls Tryz.prog 89 #[.slice A n c] w (zkE w l):=by
 have HR:=hid h
 have HF:=hid (fun w' hx=>ze8 (hG.ext hx) (h.ext hx) hb:∀ w',Ext w w'→Calls Tryz.prog 116 #[.slice A n c] w' fun e w''=>e=.returned (.bool (zan l))∧Ext w' w'')
 clear hG h hb
 cases hf:zan l with
 | false=>
  have HE:Hid (zb7 l=[]∧zan l=false):=⟨by unfold zb7;rw [hf];rfl,hf⟩
  rw [hf] at HF
  clear hf
  go_enter Tryz.func89,Tryz.ntmps89
  go_wp2_with (go_at_call 116;(with_reducible refine (HF.out _ (Ext.refl _)).mono ?_);rintro e w1 ⟨rfl,hx1⟩;have HX1:=hid hx1;clear hx1)
  go_ret2
  exact ⟨by rw [HE.out.1,HE.out.2];rfl,HX1.out⟩
 | true=>
  have HE:Hid (zb7 l=za4 l∧zan l=true):=⟨by unfold zb7;rw [hf];rfl,hf⟩
  have HO:=hid (zc4 hf)
  have hn3:n≤3:=by rw [HR.out.len];exact zdG hf
  rw [hf] at HF
  clear hf
  go_enter Tryz.func89,Tryz.ntmps89
  go_wp2_with (go_at_call 116;(with_reducible refine (HF.out _ (Ext.refl _)).mono ?_);rintro e w1 ⟨rfl,hx1⟩;have HX1:=hid hx1;clear hx1)
  go_loopw [4,11] (fun v i wr=>∃ (j:Nat) (acc:List UInt8),j≤n∧i=.int .i64 j∧v=.string (str acc)∧acc.length≤1000 * j∧Hid (Ext w1 wr)∧Hid (acc++ze0 j (l.drop j)=za4 l)) (fun _ i _=>n-(intOf i).toNat)
  case atStart=>exact ⟨0,[],by omega,rfl,rfl,by simp,Ext.refl _,rfl⟩
  case round=>
   obtain ⟨j,acc,hj,rfl,rfl,hacc,HX,HP⟩:=hrel
   by_cases hlt:j<n
   ·have hlt':(j:Int)<(n:Int):=by omega
    obtain ⟨b,o,x,rfl,hx,e1,e2⟩:=zgM ((HR.out.ext HX1.out).ext HX.out) hlt
    obtain ⟨hs1,hs2⟩:=zd0 (HO.out x (List.mem_of_getElem? hx))
    have hd:Hid (l.drop j=x::l.drop (j+1)):=by
     show _=_
     obtain ⟨h1,h2⟩:=List.getElem?_eq_some_iff.1 hx
     rw [List.drop_eq_getElem_cons h1,h2]
    have hw3:=zcs x.val true
    have HW:∀ w,Calls Tryz.prog 117 #[.string (str x.val)] w fun e w'=>e=.returned (.string (str (zaA true x.val)))∧Ext w w':=fun w=>by
     have:=znV (str x.val) w (by rw [zaL];omega)
     rwa [zao] at this
    obtain ⟨wv,hgw⟩:∃ wv,wv=zaA true x.val:=⟨_,rfl⟩
    rw [← hgw] at HW hw3
    have HGW:=hid hgw
    clear hgw hx
    by_cases hj0:j=0
    ·have tj:decide (0<j)=false:=by rw [decide_eq_false_iff_not];omega
     have HP2:Hid (acc++x.type++[61]++wv++ze0 (j+1) (l.drop (j+1))=za4 l):=by show _=_;rw [← HP.out,hd.out,hj0,zjW,← HGW.out];simp
     clear hj0
     have z1:¬ 9223372036854775807<acc.length+x.type.length:=by (try simp);omega
     have z2:¬ 9223372036854775807<acc.length+x.type.length+1:=by (try simp);omega
     have z3:¬ 9223372036854775807<acc.length+x.type.length+1+wv.length:=by (try simp);omega
     go_wp2
     refine zad (.read 0 (.read 1 (.read 2 (.read 3 (.read 4 (.read 5 (.read 6 (.read 7 (.read 8 (.read 9 (.read 10 (.read 11 (.read 12 (.main 13 (.read 14 (.read 15 .done)))))))))))))))) (by kernel_rfl) (by kernel_rfl) ?_
     intro wD hxD
     have XE:Hid (Ext wD wD):=Ext.refl _
     have p1:=zaa (zaa e1 _ hxD)
     have p2:=zaa (zaa e2 _ hxD)
     repeat' (first
      | ((first | refine zah rfl rfl ?_ | refine zae rfl rfl ?_ | refine zak rfl rfl ?_);simp only [Act.put,Act.eval,evs])
      | (refine zab rfl rfl ?_;simp only [Act.put,evp])
      | (refine zag (v:=?_) rfl rfl (fun w' hE=>?_) ?_;rotate_left 1;(· ((try (have hEx:=Ext.trans (Hid.out XE) hE));go_simp;(try go_bits);with_reducible rfl));simp only [Act.put,evp])
      | (refine walks_alt ?_ ?_)
      | (refine zai rfl rfl (fun K hK=>?_);go_wp2_with ((go_at_call 117;(with_reducible refine (HW _).mono ?_);rintro e w2 ⟨rfl,hx2⟩;have XE':=hid (Ext.trans (Hid.out XE) hx2);clear XE;have XE:=XE';clear XE'));refine hK _ _ (by first | assumption | exact Ext.alloc _ _ | exact Ext.refl _) ?_;clear hK K;try simp only [Act.put,evp]))
     refine zaj ?_
     go_wp2
     exact ⟨⟨j+1,_,by omega,by go_num,rfl,by simp;omega,HX.out.trans (hxD.trans XE.out),HP2⟩,by simp [intOf];omega⟩
    ·have tj:decide (0<j)=true:=by rw [decide_eq_true_eq];omega
     have HP2:Hid (acc++[43]++x.type++[61]++wv++ze0 (j+1) (l.drop (j+1))=za4 l):=by show _=_;rw [← HP.out,hd.out,zkw hj0,← HGW.out];simp
     have z0:¬ 9223372036854775807<acc.length+1:=by omega
     obtain ⟨ac,hac⟩:∃ ac,ac=acc++[43]:=⟨_,rfl⟩
     have hz0:(str acc++str [43])=str ac:=by rw [hac];exact zbg _ _
     have hacl:ac.length≤1000 * j+1:=by rw [hac];simp;omega
     rw [← hac] at HP2
     clear hj0 hac
     have z1:¬ 9223372036854775807<ac.length+x.type.length:=by (try simp);omega
     have z2:¬ 9223372036854775807<ac.length+x.type.length+1:=by (try simp);omega
     have z3:¬ 9223372036854775807<ac.length+x.type.length+1+wv.length:=by (try simp);omega
     go_wp2
     refine zad (.read 0 (.read 1 (.read 2 (.read 3 (.read 4 (.read 5 (.read 6 (.read 7 (.read 8 (.read 9 (.read 10 (.read 11 (.read 12 (.main 13 (.read 14 (.read 15 .done)))))))))))))))) (by kernel_rfl) (by kernel_rfl) ?_
     intro wD hxD
     have XE:Hid (Ext wD wD):=Ext.refl _
     have p1:=zaa (zaa e1 _ hxD)
     have p2:=zaa (zaa e2 _ hxD)
     repeat' (first
      | ((first | refine zah rfl rfl ?_ | refine zae rfl rfl ?_ | refine zak rfl rfl ?_);simp only [Act.put,Act.eval,evs])
      | (refine zab rfl rfl ?_;simp only [Act.put,evp])
      | (refine zag (v:=?_) rfl rfl (fun w' hE=>?_) ?_;rotate_left 1;(· ((try (have hEx:=Ext.trans (Hid.out XE) hE));go_simp;(try go_bits);with_reducible rfl));simp only [Act.put,evp])
      | (refine walks_alt ?_ ?_)
      | (refine zai rfl rfl (fun K hK=>?_);go_wp2_with ((go_at_call 117;(with_reducible refine (HW _).mono ?_);rintro e w2 ⟨rfl,hx2⟩;have XE':=hid (Ext.trans (Hid.out XE) hx2);clear XE;have XE:=XE';clear XE'));refine hK _ _ (by first | assumption | exact Ext.alloc _ _ | exact Ext.refl _) ?_;clear hK K;try simp only [Act.put,evp]))
     refine zaj ?_
     go_wp2
     exact ⟨⟨j+1,_,by omega,by go_num,rfl,by simp;omega,HX.out.trans (hxD.trans XE.out),HP2⟩,by simp [intOf];omega⟩
   ·obtain rfl:j=n:=by omega
    have HQ:Hid (za4 l=acc):=by
     show _=_
     rw [← HP.out,List.drop_of_length_le (Nat.le_of_eq HR.out.len.symm)]
     have:ze0 j []=[]:=by unfold ze0;split <;> rfl
     rw [this,List.append_nil]
    go_wp2
    go_ret2
    exact ⟨by rw [HE.out.1,HE.out.2,HQ.out];rfl,HX1.out.trans HX.out⟩
theorem GrowA.empty (w:World) (T:TypeId):GrowA T w (w.alloc (.cells #[] T)) (.slice (some ⟨w.heap.size,0,none⟩) 0 0) []:=
 ⟨zfI w _ (Nat.le_refl _) _ _,Ext.alloc _ _⟩
theorem znD {S:Nat→Prop} {A:Option Addr} {n c:Nat} {l:List Ava} {w:World} (h:Row Elem.ava S w A n c l) (hl:l.length≤4000000) :
 Calls Tryz.prog 106 #[.slice A n c] w fun e w'=>∃ v,e=.returned v∧GrowA 151 w w' v l:=by
 have HR:=hid h
 have HL:=hid hl
 have HN:=hid h.len
 clear h hl
 rcases A with _ | ⟨b,o,sp⟩
 ·have hnil:l=[]:=by
   rcases Nat.eq_zero_or_pos n with h0 | h0
   ·exact HR.out.nil_iff.1 h0
   ·obtain ⟨b,off,v,x,hA,_⟩:=HR.out.at_ h0
    cases hA
  have HNL:=hid hnil
  clear hnil
  have hz:=fun W=>Lib.run_eql_slice_nil (P:=Tryz.prog) W 123 151 none n c 0 0 Tryz.underlying123
  go_enter Tryz.func106,Tryz.ntmps106
  go_wp2
  go_ret
  exact ⟨_,rfl,by rw [HNL.out];exact GrowA.nil (Ext.refl _)⟩
 ·have hz:=fun W=>Lib.run_eql_slice_nil (P:=Tryz.prog) W 123 151 (some ⟨b,o,sp⟩) n c 0 0 Tryz.underlying123
  go_enter Tryz.func106,Tryz.ntmps106
  go_wp2_with (at_builtin;refine zhb rfl _ _ rfl _ [] rfl (GrowA.empty w 151) _ n c l rfl HN.out ((zhM HR.out).below (Ext.alloc _ _)) (by have:=HN.out;have:=HL.out;simp;omega) ?_;intro v' w3 hg3;have HG3:=hid hg3;clear hg3)
  go_ret
  exact ⟨_,rfl,by simpa using HG3.out⟩
def mixA (j:Nat) (l:List Ava):List Ava:=zbd (l.take j)++l.drop j
theorem zpt (l:List Ava):mixA 0 l=l:=by simp [mixA,zbd]
theorem zri (l:List Ava):mixA l.length l=zbd l:=by simp [mixA]
theorem zlu {j:Nat} {l:List Ava} {x:Ava} (h:l[j]?=some x):(mixA j l)[j]?=some x:=by
 have hl:=(List.getElem?_eq_some_iff.1 h).1
 unfold mixA
 rw [List.getElem?_append_right (by simp [zbd];omega)]
 have:j-(zbd (l.take j)).length=0:=by simp [zbd];omega
 rw [this,List.getElem?_drop]
 simpa using h
theorem zoa {j:Nat} {l:List Ava} {x:Ava} (h:l[j]?=some x):(mixA j l).set j ⟨x.type,(zcv (zar x.type).2 x.val).getD []⟩=mixA (j+1) l:=by
 obtain ⟨h1,h2⟩:=List.getElem?_eq_some_iff.1 h
 have hj:(zbd (l.take j)).length=j:=by simp [zbd];omega
 unfold mixA
 rw [List.set_append_right _ _ (by omega),hj,Nat.sub_self,List.drop_eq_getElem_cons h1,List.set_cons_zero,List.take_add_one,h]
 simp [zbd]
theorem zmI {a:Ava} (h:zbP a=true):(zbW a.type a.val).1=(zcv (zar a.type).2 a.val).getD []∧(zbN a.type a.val).1=(zcv (zar a.type).2 a.val).getD []:=by
 unfold zbP at h
 simp only [Bool.and_eq_true,Bool.or_eq_true,decide_eq_true_eq] at h
 have hz:zbN a.type a.val=zbW a.type a.val:=by unfold zbN;rw [if_neg (by omega)]
 rw [hz]
 have hE:(zbW a.type a.val).1=(zcv (zar a.type).2 a.val).getD []:=by
  have hs:=h.2
  unfold zbW zcv at *
  rw [if_neg (by omega),if_neg (by omega)]
  by_cases hv:a.val=[]∨200<a.val.length
  ·rw [if_pos hv] at hs;cases hs
  ·rw [if_neg hv] at hs
   rw [if_neg hv,if_neg hv]
   rcases h.1.2 with h1 | h1
   ·rw [h1] at hs ⊢
    simp only [zdq,zhU,if_true] at hs ⊢
    by_cases ht:zaE (zaY (zat a.val))=[]∨(0:UInt8)∈zaE (zaY (zat a.val))
    ·rw [if_pos ht] at hs;cases hs
    ·have h2:zaE (zaY (zat a.val))≠[]∧(0:UInt8) ∉ zaE (zaY (zat a.val)):=⟨fun e=>ht (.inl e),fun e=>ht (.inr e)⟩
     simp [h2]
   ·rw [h1] at hs ⊢
    cases hb:intB a.val with
    | false=>simp [hb] at hs
    | true=>simp [zdq,hb]
 exact ⟨hE,hE⟩
def ziQ (w:World) (l:List Ava) (e:Ending) (w':World):Prop:=
 ∃ A n c,e=.returned (.tuple #[.slice A n c,.int .i64 (if zan l then 0 else 1)])∧Row Elem.ava (fun b=>w.heap.size≤b) w' A n c (if zan l then zbd l else [])∧Ext w w'
theorem znl {S:Nat→Prop} {A:Option Addr} {n c:Nat} {l:List Ava} {w:World} (hG:Gl w) (h:Row Elem.ava S w A n c l) (hb:∀ a∈l,a.type.length≤4000000) :
 Calls Tryz.prog 76 #[.slice A n c] w (ziQ w l):=by
 have HG:=hid hG
 have HR:=hid h
 have HF:=hid (fun w' hx=>zf4 (hG.ext hx) (h.ext hx) hb:∀ w',Ext w w'→Calls Tryz.prog 105 #[.slice A n c] w' fun e w''=>e=.returned (.bool (zan l))∧Ext w' w'')
 clear hG h hb
 cases hf:zan l with
 | false=>
  have HE:Hid (zan l=false):=hf
  rw [hf] at HF
  clear hf
  go_enter Tryz.func76,Tryz.ntmps76
  go_wp2_with (go_at_call 105;(with_reducible refine (HF.out _ (Ext.refl _)).mono ?_);rintro e w1 ⟨rfl,hx1⟩;have HX1:=hid hx1;clear hx1)
  go_ret2
  exact ⟨none,0,0,by rw [HE.out];rfl,by rw [HE.out];exact Row.nil _ _ _,HX1.out⟩
 | true=>
  have HE:Hid (zan l=true):=hf
  have HO:=hid (zc4 hf)
  have hl3:=zdG hf
  have hn3:n≤3:=by rw [HR.out.len];exact hl3
  have HLN:=hid HR.out.len
  have hne:0<l.length:=by
   unfold zan at hf
   simp only [Bool.and_eq_true,decide_eq_true_eq] at hf
   exact hf.1.1.1
  rw [hf] at HF
  have HL3:=hid hl3
  have HNE:=hid hne
  clear hf hl3 hne
  go_enter Tryz.func76,Tryz.ntmps76
  go_wp2_with (first
   | (go_at_call 105;(with_reducible refine (HF.out _ (Ext.refl _)).mono ?_);rintro e w1 ⟨rfl,hx1⟩;have HX1:=hid hx1;clear hx1)
   | (go_at_call 106;(with_reducible refine (znD (HR.out.ext HX1.out) (by have:=HL3.out;omega)).mono ?_);rintro e w2 ⟨v2,rfl,hg2⟩;obtain ⟨g,cap,rfl,hc1,hc2⟩:=hg2.form HNE.out;have HG2:=hid hg2;clear hg2))
  have hl4:l.length≤3:=HL3.out
  go_loopw [14] (fun i wr=>∃ (j:Nat),j≤l.length∧i=.int .i64 j∧Hid (GrowA 151 w1 wr (.slice (some ⟨g,0,none⟩) l.length cap) (mixA j l))) (fun i _=>l.length-(intOf i).toNat)
  case atStart=>exact ⟨0,by omega,rfl,by rw [zpt];exact HG2⟩
  case round=>
   obtain ⟨j,hj,rfl,HGR⟩:=hrel
   by_cases hlt:j<l.length
   ·obtain ⟨x,hx⟩:∃ x,l[j]?=some x:=⟨_,List.getElem?_eq_getElem hlt⟩
    have e1:=HGR.out.at0 (zlu hx)
    have e2:=HGR.out.at1 (zlu hx)
    have hox:=HO.out x (List.mem_of_getElem? hx)
    have hxs:=zd0 hox
    have HST:=hid (zoa hx)
    have HMX:=hid (zlu hx)
    have HNC:∀ w,Gl w→Calls Tryz.prog 96 #[.string (str x.type),.string (str x.val)] w (zb3 w x.type x.val):=fun w hG=>by
     have h4:(zar x.type).2≠4:=by
      unfold zbP at hox
      simp only [Bool.and_eq_true,Bool.or_eq_true,decide_eq_true_eq] at hox
      omega
     have:=zeF (str x.type) (str x.val) w hG (by rw [zaL];omega) (by rw [zao];exact h4)
     rwa [zao,zao] at this
    have HNV:=hid (zmI hox).1
    unfold zb3 at HNC
    generalize zbW x.type x.val=q at *
    obtain ⟨nv,ne⟩:=q
    simp only at HNC HNV
    clear hx hox
    go_wp2_with (first
     | (go_at_call 96;(with_reducible refine (HNC _ (HG.out.ext (HX1.out.trans (HGR.out.ext.trans (Ext.alloc _ _))))).mono ?_);rintro e w3 ⟨rfl,hx3⟩;have HG4:=hid ((HGR.out.later (Ext.alloc _ _)).later hx3);have e3:=HG4.out.at1 HMX.out;have e4:=HG4.out.thaw (j * 2+1);clear hx3))
    refine ⟨⟨j+1,by omega,by go_num,?_⟩,by simp [intOf];omega⟩
    have:=HG4.out.set1 HMX.out nv
    rw [← HST.out,← HNV.out]
    exact this
   ·obtain rfl:j=l.length:=by omega
    rw [zri] at HGR
    obtain ⟨A',c',hv,hr⟩:=HGR.out.row
    injection hv with hv1 hv2 hv3
    subst hv1 hv3
    have HRR:=hid hr
    have HNL:Hid (l.length=(zbd l).length):=by show _=_;simp [zbd]
    clear hr hv2
    go_wp2
    go_ret2
    refine ⟨some ⟨g,0,none⟩,l.length,cap,by rw [HE.out];rfl,?_,HX1.out.trans HGR.out.ext⟩
    rw [HE.out,if_pos rfl,HNL.out]
    exact HRR.out.mono fun _ _ hs=>Nat.le_trans (zaD HX1.out) hs
theorem zl5 {S:Nat→Prop} {A:Option Addr} {n c:Nat} {l:List Ava} {w:World} (hG:Gl w) (h:Row Elem.ava S w A n c l) (hb:∀ a∈l,a.type.length≤4000000) :
 Calls Tryz.prog 88 #[.slice A n c] w (ziQ w l):=by
 have HG:=hid hG
 have HR:=hid h
 have HF:=hid (fun w' hx=>ze8 (hG.ext hx) (h.ext hx) hb:∀ w',Ext w w'→Calls Tryz.prog 116 #[.slice A n c] w' fun e w''=>e=.returned (.bool (zan l))∧Ext w' w'')
 clear hG h hb
 cases hf:zan l with
 | false=>
  have HE:Hid (zan l=false):=hf
  rw [hf] at HF
  clear hf
  go_enter Tryz.func88,Tryz.ntmps88
  go_wp2_with (go_at_call 116;(with_reducible refine (HF.out _ (Ext.refl _)).mono ?_);rintro e w1 ⟨rfl,hx1⟩;have HX1:=hid hx1;clear hx1)
  go_ret2
  exact ⟨none,0,0,by rw [HE.out];rfl,by rw [HE.out];exact Row.nil _ _ _,HX1.out⟩
 | true=>
  have HE:Hid (zan l=true):=hf
  have HO:=hid (zc4 hf)
  have hl3:=zdG hf
  have hn3:n≤3:=by rw [HR.out.len];exact hl3
  have HL3:=hid hl3
  rw [hf] at HF
  clear hf hl3
  go_enter Tryz.func88,Tryz.ntmps88
  go_wp2_with (first
   | (go_at_call 116;(with_reducible refine (HF.out _ (Ext.refl _)).mono ?_);rintro e w1 ⟨rfl,hx1⟩;have HX1:=hid hx1;clear hx1))
  go_loopw [4,13] (fun v i wr=>∃ (j:Nat),j≤n∧i=.int .i64 j∧Hid (GrowA 175 w1 wr v (zbd (l.take j)))) (fun _ i _=>n-(intOf i).toNat)
  case atStart=>exact ⟨0,by omega,rfl,GrowA.nil (Ext.refl _)⟩
  case round=>
   obtain ⟨j,hj,rfl,HGR⟩:=hrel
   by_cases hlt:j<n
   ·have hlt':(j:Int)<(n:Int):=by omega
    obtain ⟨b,o,x,rfl,hx,e1,e2⟩:=zgM (HR.out.ext (HX1.out.trans HGR.out.ext)) hlt
    have hox:=HO.out x (List.mem_of_getElem? hx)
    have hxs:=zd0 hox
    have HNC:∀ w,Gl w→Calls Tryz.prog 83 #[.string (str x.type),.string (str x.val)] w (zbE w x.type x.val):=fun w hG=>by
     have:=zfb (str x.type) (str x.val) w hG (by rw [zaL];omega)
     rwa [zao,zao] at this
    have HNV:=hid (zmI hox).2
    have HST:Hid (zbd (l.take (j+1))=zbd (l.take j)++[⟨x.type,(zcv (zar x.type).2 x.val).getD []⟩]):=by show _=_;unfold zbd;rw [List.take_add_one,hx];simp
    unfold zbE at HNC
    generalize zbN x.type x.val=q at *
    obtain ⟨nv,ne⟩:=q
    simp only at HNC HNV
    rw [← HNV.out] at HST
    clear hx hox HNV
    go_wp2
    refine zad (.read 0 (.read 1 (.read 2 (.read 3 (.read 4 (.read 5 (.read 6 (.read 7 (.read 8 (.read 9 (.main 10 (.read 11 (.read 12 (.read 13 (.read 14 (.read 15 .done)))))))))))))))) (by kernel_rfl) (by kernel_rfl) ?_
    intro wD hxD
    have XE:Hid (Ext wD wD):=Ext.refl _
    have HGD:=hid (HGR.out.later hxD)
    have p1:=zaa (zaa e1 _ hxD)
    have p2:=zaa (zaa e2 _ hxD)
    repeat' (first
     | ((first | refine zah rfl rfl ?_ | refine zae rfl rfl ?_ | refine zak rfl rfl ?_);simp only [Act.put,Act.eval,evs])
     | (refine zab rfl rfl ?_;simp only [Act.put,evp])
     | (refine zag (v:=?_) rfl rfl (fun w' hE=>?_) ?_;rotate_left 1;(· ((try (have hEx:=Ext.trans (Hid.out XE) hE));go_simp;(try go_bits);with_reducible rfl));simp only [Act.put,evp])
     | (refine walks_alt ?_ ?_)
     | (refine zai rfl rfl (fun K hK=>?_);go_wp2_with ((go_at_call 83;(with_reducible refine (HNC _ (HG.out.ext (HX1.out.trans (HGD.out.ext.trans XE.out)))).mono ?_);rintro e w2 ⟨rfl,hx2⟩;have XE':=hid (Ext.trans (Hid.out XE) hx2);clear XE;have XE:=XE';clear XE'));refine hK _ _ (by first | assumption | exact Ext.alloc _ _ | exact Ext.refl _) ?_;clear hK K;try simp only [Act.put,evp]))
    refine zaj ?_
    have q1:=p1 _ XE.out
    have HG2:=hid (HGD.out.later XE.out)
    clear p1 p2
    go_wp2_with (at_builtin;refine zbX rfl _ _ rfl _ _ rfl (HG2.out.later (Ext.alloc _ _)) _ 1 1 [⟨x.type,nv⟩] rfl rfl (zg4 _ ⟨x.type,nv⟩ _) (by have:=List.length_take_le j l;have:=HL3.out;simp [zbd];omega) ?_;intro v' w5 hg5;have HG5:=hid hg5;clear hg5)
    refine ⟨⟨j+1,by omega,by go_num,?_⟩,by simp [intOf];omega⟩
    rw [HST.out]
    exact HG5
   ·obtain rfl:j=n:=by omega
    have HT:Hid (zbd (l.take j)=zbd l):=by show _=_;rw [List.take_of_length_le (Nat.le_of_eq HR.out.len.symm)]
    rw [HT.out] at HGR
    obtain ⟨A',c',rfl,hr⟩:=HGR.out.row
    have HRR:=hid hr
    clear hr
    go_wp2
    go_ret2
    refine ⟨_,_,c',by rw [HE.out];rfl,?_,HX1.out.trans HGR.out.ext⟩
    rw [HE.out,if_pos rfl]
    exact HRR.out.mono fun _ _ hs=>Nat.le_trans (zaD HX1.out) hs
end Go.Proofs.YtioglicfndkgiaaGreatDoor
