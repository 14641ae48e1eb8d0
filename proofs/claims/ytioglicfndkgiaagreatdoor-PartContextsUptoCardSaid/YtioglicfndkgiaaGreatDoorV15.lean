/- Lemmas of the walk. -/
import Derived.Test.YtioglicfndkgiaaGreatDoorV10
import Derived.Test.YtioglicfndkgiaaGreatDoorV09
import Derived.Test.YtioglicfndkgiaaGreatDoorV11
import Derived.Test.YtioglicfndkgiaaGreatDoorV07
import Derived.Lib.AppendZeros
set_option maxHeartbeats 40000000
set_option linter.unusedVariables false
set_option linter.unusedSimpArgs false
namespace Go.Proofs.YtioglicfndkgiaaGreatDoor
open Go.RowKit
set_option maxRecDepth 100000
def zbU (n v : List UInt8) : List UInt8 × Int:=
 if (zas n).2 = 4 then (if v = [] ∨ 200 < v.length then ([],2) else if (zaU v).isSome then (v,0) else ([],2)) else zbP n v
def zb0 (w : World) (n v : List UInt8) (e : Ending) (w' : World) : Prop:=e = .returned (.tuple #[.string (str (zbU n v).1),.int .i64 (zbU n v).2]) ∧ Ext w w'
def zrj (k : Nat) (v : List UInt8) : List UInt8 × Int:=
 if k = 0 then ([],5) else if k = 5 then ([],1) else if v = [] ∨ 200 < v.length then ([],2)
 else if k = 1 then (if zdN v = [] then ([],2) else (zdN v,0)) else if k = 3 then (if intB v then (v,0) else ([],2)) else if k = 4 then (if (zaU v).isSome then (v,0) else ([],2)) else (v,0)
theorem zrq (n v : List UInt8) : zbU n v = zrj (zas n).2 v:=by
 unfold zbU zbP zrj
 generalize (zas n).2 = k
 by_cases h4 : k = 4
 ·subst h4;simp
 ·rw [if_neg h4]
  by_cases h0 : k = 0
  ·simp [h0]
  ·rw [if_neg h0,if_neg h0]
   by_cases h5 : k = 5
   ·simp [h5]
   ·rw [if_neg h5,if_neg h5]
    by_cases hv : v = [] ∨ 200 < v.length
    ·rw [if_pos hv,if_pos hv]
    ·rw [if_neg hv,if_neg hv]
     by_cases h1 : k = 1
     ·subst h1
      have h:=zl4 v
      simp only [zc9,zha] at h ⊢
      by_cases ht : zaB (zaS (zar v)) = [] ∨ (0 : UInt8) ∈ zaB (zaS (zar v))
      ·rw [if_pos ht] at h
       have h2 : ¬ (zaB (zaS (zar v)) ≠ [] ∧ (0 : UInt8) ∉ zaB (zaS (zar v))):=by
        rintro ⟨h3,h4⟩
        rcases ht with ht | ht
        ·exact h3 ht
        ·exact h4 ht
       have h3 : zdN v = []:=by
        by_cases h4 : zdN v = []
        ·exact h4
        ·rw [if_neg h4] at h;cases h
       simp [h2,h3]
      ·rw [if_neg ht] at h
       have h2 : zaB (zaS (zar v)) ≠ [] ∧ (0 : UInt8) ∉ zaB (zaS (zar v)):=⟨fun e=>ht (.inl e),fun e=>ht (.inr e)⟩
       by_cases h3 : zdN v = []
       ·rw [if_pos h3] at h;cases h
       ·rw [if_neg h3] at h
        injection h with h
        simp [h2,← h]
     ·by_cases h3 : k = 3
      ·subst h3
       simp [zc9]
      ·have i1 : ¬ (k : Int) = 1:=by omega
       have i3 : ¬ (k : Int) = 3:=by omega
       simp [zc9,i1,i3];simp [h1,h3,h4]
theorem zg5 (n s : ByteArray) (w : World) (hG : Gl w) (hn : n.size ≤ 4000000) :
 Calls Tryz.prog 83 #[.string n,.string s] w (zb0 w (bys n) (bys s)):=by
 have HG:=hid hG
 have HT : ∀ w,Calls Tryz.prog 55 #[.string n] w (zaV w (bys n)):=fun w=>zgX n w (by simp only [maxLen];omega)
 have HN:=hid (zrq (bys n) (bys s))
 unfold zaV at HT
 obtain ⟨p,hp⟩ : ∃ p,p = zas (bys n):=⟨_,rfl⟩
 rw [← hp] at HN HT
 clear hp hG
 obtain ⟨t,k⟩:=p
 simp only at HN HT
 have HK : Hid (zrj k (bys s) = if k = 0 then ([],5) else if k = 5 then ([],1) else if bys s = [] ∨ 200 < (bys s).length then ([],2)
  else if k = 1 then (if zdN (bys s) = [] then ([],2) else (zdN (bys s),0)) else if k = 3 then (if intB (bys s) then (bys s,0) else ([],2)) else if k = 4 then (if (zaU (bys s)).isSome then (bys s,0) else ([],2)) else (bys s,0)):=rfl
 by_cases k0 : k = 0
 ·have HE : Hid (zbU (bys n) (bys s) = ([],5)):=by show _ = _;rw [HN.out,HK.out,if_pos k0]
  have t0 : ((k : Int) == 0) = true:=by rw [k0];rfl
  clear k0 HN HK
  go_enter Tryz.func83,Tryz.ntmps83
  go_wp2_with (first
   | (go_at_call 55;(with_reducible refine (HT _).mono ?_);rintro e w1 ⟨rfl,hx1⟩;have HX1:=hid hx1;clear hx1)
   | (go_at_call 111;(with_reducible refine (zbE s _ Hs.out).mono ?_);rintro e w2 ⟨rfl,hx2⟩;have HX1':=hid (HX1.out.trans hx2);clear HX1 hx2;have HX1:=HX1';clear HX1')
   | (go_at_call 112;(with_reducible refine (HI _ Hs.out).mono ?_);rintro e w2 ⟨rfl,hx2⟩;have HX1':=hid (HX1.out.trans hx2);clear HX1 hx2;have HX1:=HX1';clear HX1')
   | (go_at_call 113;(with_reducible refine (HPS _ (HG.out.ext HX1.out) Hs.out).mono ?_);rintro e w2 ⟨rfl,hx2⟩;have HX1':=hid (HX1.out.trans hx2);clear HX1 hx2;have HX1:=HX1';clear HX1'))
  go_ret2
  exact ⟨by rw [HE.out];first | rfl | (rw [zaK];rfl),by first | exact HX1.out | exact HX1.out.trans (Ext.alloc _ _)⟩
 ·have t0 : ((k : Int) == 0) = false:=by rw [beq_eq_false_iff_ne];omega
  by_cases k5 : k = 5
  ·have HE : Hid (zbU (bys n) (bys s) = ([],1)):=by show _ = _;rw [HN.out,HK.out,if_neg k0,if_pos k5]
   have t5 : ((k : Int) == 5) = true:=by rw [k5];rfl
   clear k0 k5 HN HK
   go_enter Tryz.func83,Tryz.ntmps83
   go_wp2_with (first
    | (go_at_call 55;(with_reducible refine (HT _).mono ?_);rintro e w1 ⟨rfl,hx1⟩;have HX1:=hid hx1;clear hx1)
    | (go_at_call 111;(with_reducible refine (zbE s _ Hs.out).mono ?_);rintro e w2 ⟨rfl,hx2⟩;have HX1':=hid (HX1.out.trans hx2);clear HX1 hx2;have HX1:=HX1';clear HX1')
    | (go_at_call 112;(with_reducible refine (HI _ Hs.out).mono ?_);rintro e w2 ⟨rfl,hx2⟩;have HX1':=hid (HX1.out.trans hx2);clear HX1 hx2;have HX1:=HX1';clear HX1')
    | (go_at_call 113;(with_reducible refine (HPS _ (HG.out.ext HX1.out) Hs.out).mono ?_);rintro e w2 ⟨rfl,hx2⟩;have HX1':=hid (HX1.out.trans hx2);clear HX1 hx2;have HX1:=HX1';clear HX1'))
   go_ret2
   exact ⟨by rw [HE.out];first | rfl | (rw [zaK];rfl),by first | exact HX1.out | exact HX1.out.trans (Ext.alloc _ _)⟩
  ·have t5 : ((k : Int) == 5) = false:=by rw [beq_eq_false_iff_ne];omega
   by_cases hz : s.size = 0
   ·have HE : Hid (zbU (bys n) (bys s) = ([],2)):=by show _ = _;rw [HN.out,HK.out,if_neg k0,if_neg k5,if_pos (.inl (by rw [zbW hz];rfl))]
    have e1 : (s.size : Int) < 1:=by omega
    clear k0 k5 HN HK hz
    go_enter Tryz.func83,Tryz.ntmps83
    go_wp2_with (first
     | (go_at_call 55;(with_reducible refine (HT _).mono ?_);rintro e w1 ⟨rfl,hx1⟩;have HX1:=hid hx1;clear hx1)
     | (go_at_call 111;(with_reducible refine (zbE s _ Hs.out).mono ?_);rintro e w2 ⟨rfl,hx2⟩;have HX1':=hid (HX1.out.trans hx2);clear HX1 hx2;have HX1:=HX1';clear HX1')
     | (go_at_call 112;(with_reducible refine (HI _ Hs.out).mono ?_);rintro e w2 ⟨rfl,hx2⟩;have HX1':=hid (HX1.out.trans hx2);clear HX1 hx2;have HX1:=HX1';clear HX1')
     | (go_at_call 113;(with_reducible refine (HPS _ (HG.out.ext HX1.out) Hs.out).mono ?_);rintro e w2 ⟨rfl,hx2⟩;have HX1':=hid (HX1.out.trans hx2);clear HX1 hx2;have HX1:=HX1';clear HX1'))
    go_ret2
    exact ⟨by rw [HE.out];first | rfl | (rw [zaK];rfl),by first | exact HX1.out | exact HX1.out.trans (Ext.alloc _ _)⟩
   ·have e1 : decide ((s.size : Int) < 1) = false:=by rw [decide_eq_false_iff_not];omega
    by_cases hl : 200 < s.size
    ·have HE : Hid (zbU (bys n) (bys s) = ([],2)):=by show _ = _;rw [HN.out,HK.out,if_neg k0,if_neg k5,if_pos (.inr (by rw [zae];exact hl))]
     have e2 : 200 < (s.size : Int):=by omega
     clear k0 k5 HN HK hz hl
     go_enter Tryz.func83,Tryz.ntmps83
     go_wp2_with (first
      | (go_at_call 55;(with_reducible refine (HT _).mono ?_);rintro e w1 ⟨rfl,hx1⟩;have HX1:=hid hx1;clear hx1)
      | (go_at_call 111;(with_reducible refine (zbE s _ Hs.out).mono ?_);rintro e w2 ⟨rfl,hx2⟩;have HX1':=hid (HX1.out.trans hx2);clear HX1 hx2;have HX1:=HX1';clear HX1')
      | (go_at_call 112;(with_reducible refine (HI _ Hs.out).mono ?_);rintro e w2 ⟨rfl,hx2⟩;have HX1':=hid (HX1.out.trans hx2);clear HX1 hx2;have HX1:=HX1';clear HX1')
      | (go_at_call 113;(with_reducible refine (HPS _ (HG.out.ext HX1.out) Hs.out).mono ?_);rintro e w2 ⟨rfl,hx2⟩;have HX1':=hid (HX1.out.trans hx2);clear HX1 hx2;have HX1:=HX1';clear HX1'))
     go_ret2
     exact ⟨by rw [HE.out];first | rfl | (rw [zaK];rfl),by first | exact HX1.out | exact HX1.out.trans (Ext.alloc _ _)⟩
    ·have e2 : decide (200 < (s.size : Int)) = false:=by rw [decide_eq_false_iff_not];omega
     have Hs : Hid (s.size ≤ 4000000):=by show _ ≤ _;omega
     have hbs : ¬ (bys s = [] ∨ 200 < (bys s).length):=by
      rw [zae]
      rintro (h | h)
      ·exact hz (by rw [← zae,h];rfl)
      ·exact hl h
     rw [if_neg k0,if_neg k5,if_neg hbs] at HK
     clear hbs hz hl k0 k5
     by_cases k1 : k = 1
     ·have t1 : ((k : Int) == 1) = true:=by rw [k1];rfl
      rw [if_pos k1] at HK
      by_cases hr : zdN (bys s) = []
      ·have r0 : (zdN (bys s) == []) = true:=by rw [hr];rfl
       have HE : Hid (zbU (bys n) (bys s) = ([],2)):=by show _ = _;rw [HN.out,HK.out,if_pos hr]
       clear k1 hr HN HK
       go_enter Tryz.func83,Tryz.ntmps83
       go_wp2_with (first
        | (go_at_call 55;(with_reducible refine (HT _).mono ?_);rintro e w1 ⟨rfl,hx1⟩;have HX1:=hid hx1;clear hx1)
        | (go_at_call 111;(with_reducible refine (zbE s _ Hs.out).mono ?_);rintro e w2 ⟨rfl,hx2⟩;have HX1':=hid (HX1.out.trans hx2);clear HX1 hx2;have HX1:=HX1';clear HX1')
        | (go_at_call 112;(with_reducible refine (HI _ Hs.out).mono ?_);rintro e w2 ⟨rfl,hx2⟩;have HX1':=hid (HX1.out.trans hx2);clear HX1 hx2;have HX1:=HX1';clear HX1')
        | (go_at_call 113;(with_reducible refine (HPS _ (HG.out.ext HX1.out) Hs.out).mono ?_);rintro e w2 ⟨rfl,hx2⟩;have HX1':=hid (HX1.out.trans hx2);clear HX1 hx2;have HX1:=HX1';clear HX1'))
       go_ret2
       exact ⟨by rw [HE.out];first | rfl | (rw [zaK];rfl),by first | exact HX1.out | exact HX1.out.trans (Ext.alloc _ _)⟩
      ·have r0 : (zdN (bys s) == []) = false:=by rw [beq_eq_false_iff_ne];exact hr
       have HE : Hid (zbU (bys n) (bys s) = (zdN (bys s),0)):=by show _ = _;rw [HN.out,HK.out,if_neg hr]
       clear k1 hr HN HK
       go_enter Tryz.func83,Tryz.ntmps83
       go_wp2_with (first
        | (go_at_call 55;(with_reducible refine (HT _).mono ?_);rintro e w1 ⟨rfl,hx1⟩;have HX1:=hid hx1;clear hx1)
        | (go_at_call 111;(with_reducible refine (zbE s _ Hs.out).mono ?_);rintro e w2 ⟨rfl,hx2⟩;have HX1':=hid (HX1.out.trans hx2);clear HX1 hx2;have HX1:=HX1';clear HX1')
        | (go_at_call 112;(with_reducible refine (HI _ Hs.out).mono ?_);rintro e w2 ⟨rfl,hx2⟩;have HX1':=hid (HX1.out.trans hx2);clear HX1 hx2;have HX1:=HX1';clear HX1')
        | (go_at_call 113;(with_reducible refine (HPS _ (HG.out.ext HX1.out) Hs.out).mono ?_);rintro e w2 ⟨rfl,hx2⟩;have HX1':=hid (HX1.out.trans hx2);clear HX1 hx2;have HX1:=HX1';clear HX1'))
       go_ret2
       exact ⟨by rw [HE.out];first | rfl | (rw [zaK];rfl),by first | exact HX1.out | exact HX1.out.trans (Ext.alloc _ _)⟩
     ·have t1 : ((k : Int) == 1) = false:=by rw [beq_eq_false_iff_ne];omega
      rw [if_neg k1] at HK
      by_cases k3 : k = 3
      ·have t3 : ((k : Int) == 3) = true:=by rw [k3];rfl
       rw [if_pos k3] at HK
       have HI:=zj1 s
       unfold znB at HI
       cases hi : intB (bys s) with
       | true=>
        have HE : Hid (zbU (bys n) (bys s) = (bys s,0)):=by show _ = _;rw [HN.out,HK.out,hi];rfl
        rw [hi] at HI
        clear k1 k3 hi HN HK
        go_enter Tryz.func83,Tryz.ntmps83
        go_wp2_with (first
         | (go_at_call 55;(with_reducible refine (HT _).mono ?_);rintro e w1 ⟨rfl,hx1⟩;have HX1:=hid hx1;clear hx1)
         | (go_at_call 111;(with_reducible refine (zbE s _ Hs.out).mono ?_);rintro e w2 ⟨rfl,hx2⟩;have HX1':=hid (HX1.out.trans hx2);clear HX1 hx2;have HX1:=HX1';clear HX1')
         | (go_at_call 112;(with_reducible refine (HI _ Hs.out).mono ?_);rintro e w2 ⟨rfl,hx2⟩;have HX1':=hid (HX1.out.trans hx2);clear HX1 hx2;have HX1:=HX1';clear HX1')
         | (go_at_call 113;(with_reducible refine (HPS _ (HG.out.ext HX1.out) Hs.out).mono ?_);rintro e w2 ⟨rfl,hx2⟩;have HX1':=hid (HX1.out.trans hx2);clear HX1 hx2;have HX1:=HX1';clear HX1'))
        go_ret2
        exact ⟨by rw [HE.out];first | rfl | (rw [zaK];rfl),by first | exact HX1.out | exact HX1.out.trans (Ext.alloc _ _)⟩
       | false=>
        have HE : Hid (zbU (bys n) (bys s) = ([],2)):=by show _ = _;rw [HN.out,HK.out,hi];rfl
        rw [hi] at HI
        clear k1 k3 hi HN HK
        go_enter Tryz.func83,Tryz.ntmps83
        go_wp2_with (first
         | (go_at_call 55;(with_reducible refine (HT _).mono ?_);rintro e w1 ⟨rfl,hx1⟩;have HX1:=hid hx1;clear hx1)
         | (go_at_call 111;(with_reducible refine (zbE s _ Hs.out).mono ?_);rintro e w2 ⟨rfl,hx2⟩;have HX1':=hid (HX1.out.trans hx2);clear HX1 hx2;have HX1:=HX1';clear HX1')
         | (go_at_call 112;(with_reducible refine (HI _ Hs.out).mono ?_);rintro e w2 ⟨rfl,hx2⟩;have HX1':=hid (HX1.out.trans hx2);clear HX1 hx2;have HX1:=HX1';clear HX1')
         | (go_at_call 113;(with_reducible refine (HPS _ (HG.out.ext HX1.out) Hs.out).mono ?_);rintro e w2 ⟨rfl,hx2⟩;have HX1':=hid (HX1.out.trans hx2);clear HX1 hx2;have HX1:=HX1';clear HX1'))
        go_ret2
        exact ⟨by rw [HE.out];first | rfl | (rw [zaK];rfl),by first | exact HX1.out | exact HX1.out.trans (Ext.alloc _ _)⟩
      ·have t3 : ((k : Int) == 3) = false:=by rw [beq_eq_false_iff_ne];omega
       rw [if_neg k3] at HK
       by_cases k4 : k = 4
       ·have t4 : ((k : Int) == 4) = true:=by rw [k4];rfl
        rw [if_pos k4] at HK
        have HPS:=zl9 s
        unfold zke at HPS
        generalize zaU (bys s) = q at *
        cases q with
        | none=>
         have HE : Hid (zbU (bys n) (bys s) = ([],2)):=by show _ = _;rw [HN.out,HK.out];rfl
         clear k1 k3 k4 HN HK
         go_enter Tryz.func83,Tryz.ntmps83
         go_wp2_with (first
          | (go_at_call 55;(with_reducible refine (HT _).mono ?_);rintro e w1 ⟨rfl,hx1⟩;have HX1:=hid hx1;clear hx1)
          | (go_at_call 111;(with_reducible refine (zbE s _ Hs.out).mono ?_);rintro e w2 ⟨rfl,hx2⟩;have HX1':=hid (HX1.out.trans hx2);clear HX1 hx2;have HX1:=HX1';clear HX1')
          | (go_at_call 112;(with_reducible refine (HI _ Hs.out).mono ?_);rintro e w2 ⟨rfl,hx2⟩;have HX1':=hid (HX1.out.trans hx2);clear HX1 hx2;have HX1:=HX1';clear HX1')
          | (go_at_call 113;(with_reducible refine (HPS _ (HG.out.ext HX1.out) Hs.out).mono ?_);rintro e w2 ⟨rfl,hx2⟩;have HX1':=hid (HX1.out.trans hx2);clear HX1 hx2;have HX1:=HX1';clear HX1'))
         go_ret2
         exact ⟨by rw [HE.out];first | rfl | (rw [zaK];rfl),by first | exact HX1.out | exact HX1.out.trans (Ext.alloc _ _)⟩
        | some q=>
         have HE : Hid (zbU (bys n) (bys s) = (bys s,0)):=by show _ = _;rw [HN.out,HK.out];rfl
         clear k1 k3 k4 HN HK
         go_enter Tryz.func83,Tryz.ntmps83
         go_wp2_with (first
          | (go_at_call 55;(with_reducible refine (HT _).mono ?_);rintro e w1 ⟨rfl,hx1⟩;have HX1:=hid hx1;clear hx1)
          | (go_at_call 111;(with_reducible refine (zbE s _ Hs.out).mono ?_);rintro e w2 ⟨rfl,hx2⟩;have HX1':=hid (HX1.out.trans hx2);clear HX1 hx2;have HX1:=HX1';clear HX1')
          | (go_at_call 112;(with_reducible refine (HI _ Hs.out).mono ?_);rintro e w2 ⟨rfl,hx2⟩;have HX1':=hid (HX1.out.trans hx2);clear HX1 hx2;have HX1:=HX1';clear HX1')
          | (go_at_call 113;(with_reducible refine (HPS _ (HG.out.ext HX1.out) Hs.out).mono ?_);rintro e w2 ⟨rfl,hx2⟩;have HX1':=hid (HX1.out.trans hx2);clear HX1 hx2;have HX1:=HX1';clear HX1'))
         go_ret2
         exact ⟨by rw [HE.out];first | rfl | (rw [zaK];rfl),by first | exact HX1.out | exact HX1.out.trans (Ext.alloc _ _)⟩
       ·have t4 : ((k : Int) == 4) = false:=by rw [beq_eq_false_iff_ne];omega
        have HE : Hid (zbU (bys n) (bys s) = (bys s,0)):=by show _ = _;rw [HN.out,HK.out,if_neg k4]
        clear k1 k3 k4 HN HK
        go_enter Tryz.func83,Tryz.ntmps83
        go_wp2_with (first
         | (go_at_call 55;(with_reducible refine (HT _).mono ?_);rintro e w1 ⟨rfl,hx1⟩;have HX1:=hid hx1;clear hx1)
         | (go_at_call 111;(with_reducible refine (zbE s _ Hs.out).mono ?_);rintro e w2 ⟨rfl,hx2⟩;have HX1':=hid (HX1.out.trans hx2);clear HX1 hx2;have HX1:=HX1';clear HX1')
         | (go_at_call 112;(with_reducible refine (HI _ Hs.out).mono ?_);rintro e w2 ⟨rfl,hx2⟩;have HX1':=hid (HX1.out.trans hx2);clear HX1 hx2;have HX1:=HX1';clear HX1')
         | (go_at_call 113;(with_reducible refine (HPS _ (HG.out.ext HX1.out) Hs.out).mono ?_);rintro e w2 ⟨rfl,hx2⟩;have HX1':=hid (HX1.out.trans hx2);clear HX1 hx2;have HX1:=HX1';clear HX1'))
        go_ret2
        exact ⟨by rw [HE.out];first | rfl | (rw [zaK];rfl),by first | exact HX1.out | exact HX1.out.trans (Ext.alloc _ _)⟩
theorem zmR {n v : List UInt8} (h : (zas n).2 = 1 ∨ (zas n).2 = 3) : (zbU n v).2 = if (zcl (zas n).2 v).isSome then 0 else 2:=by
 unfold zbU
 rw [if_neg (by omega)]
 exact zhX h
def zhA (l : List Ava) (j : Nat) : List UInt8:=if j = 0 then [] else (l[j - 1]?.map (·.type)).getD []
theorem zmW {l : List Ava} {j : Nat} {x : Ava} (h : l[j]? = some x) : zhA l (j + 1) = x.type:=by unfold zhA;rw [if_neg (by omega),Nat.add_sub_cancel,h];rfl
theorem zqv {a b : List UInt8} (h : ltB a b = true) : Op.bytesLess a b = true:=by rw [zfC];exact h
theorem zn6 {a b : List UInt8} (h : ltB a b = false) : Op.bytesLess a b = false:=by rw [zfC];exact h
theorem zeU {S : Nat → Prop} {A : Option Addr} {n c : Nat} {l : List Ava} {w : World} (hG : Gl w) (h : Row Elem.ava S w A n c l) (hb : ∀ a ∈ l,a.type.length ≤ 4000000) :
 Calls Tryz.prog 116 #[.slice A n c] w fun e w'=>e = .returned (.bool (zan l)) ∧ Ext w w':=by
 have HG:=hid hG
 have HR:=hid h
 have HB:=hid hb
 have hl:=h.len
 have HF:=hid (zhN l)
 clear hG h hb
 by_cases h0 : n = 0
 ·have HE : Hid (zan l = false):=by show _ = _;rw [HF.out,← hl,h0];rfl
  have t0 : (n : Int) < 1:=by omega
  clear hl HF
  go_enter Tryz.func116,Tryz.ntmps116
  go_wp2
  go_ret
  exact ⟨by rw [HE.out];rfl,Ext.refl _⟩
 ·have t0 : decide ((n : Int) < 1) = false:=by rw [decide_eq_false_iff_not];omega
  by_cases h3 : 3 < n
  ·have HE : Hid (zan l = false):=by show _ = _;rw [HF.out,← hl,decide_eq_false (show ¬ n ≤ 3 by omega)];simp
   have t3 : 3 < (n : Int):=by omega
   clear h0 hl h3 HF
   go_enter Tryz.func116,Tryz.ntmps116
   go_wp2
   go_ret
   exact ⟨by rw [HE.out];rfl,Ext.refl _⟩
  ·have t3 : decide (3 < (n : Int)) = false:=by rw [decide_eq_false_iff_not];omega
   have HE : Hid (zan l = za5 [] l):=by show _ = _;rw [HF.out,← hl,decide_eq_true (show 1 ≤ n by omega),decide_eq_true (show n ≤ 3 by omega)];rfl
   have hn : n ≤ 3:=by omega
   clear h3 HF hl
   go_enter Tryz.func116,Tryz.ntmps116
   go_wp2
   go_loopw [18] (fun i wr=>∃ (j : Nat),j ≤ n ∧ i = .int .i64 j ∧ Hid (za5 (zhA l j) (l.drop j) = za5 [] l) ∧ Hid (Ext w wr)) (fun i _=>n - (intOf i).toNat)
   case atStart=>exact ⟨0,by omega,rfl,rfl,Ext.refl _⟩
   case round=>
    obtain ⟨j,hj,rfl,HO,HX⟩:=hrel
    by_cases hlt : j < n
    ·have hlt' : (j : Int) < (n : Int):=by omega
     obtain ⟨b,o,x,rfl,hx,e1,e2⟩:=zgb (HR.out.ext HX.out) hlt
     have hd : Hid (l.drop j = x :: l.drop (j + 1)):=by
      show _ = _
      obtain ⟨h1,h2⟩:=List.getElem?_eq_some_iff.1 hx
      rw [List.drop_eq_getElem_cons h1,h2]
     have hxs:=hid (HB.out x (List.mem_of_getElem? hx))
     have HL1:=hid (zmW hx)
     have HT : ∀ w,Calls Tryz.prog 55 #[.string (str x.type)] w (zaV w x.type):=fun w=>by
      have:=zgX (str x.type) w (by have:=hxs.out;rw [zaI];simp only [maxLen];omega)
      rwa [zao] at this
     have HNA : ∀ w,Gl w → Calls Tryz.prog 83 #[.string (str x.type),.string (str x.val)] w (zb0 w x.type x.val):=fun w hG=>by
      have:=zg5 (str x.type) (str x.val) w hG (by have:=hxs.out;rw [zaI];exact this)
      rwa [zao,zao] at this
     have HAV : Hid (zbD x = (decide ((zas x.type).1 = x.type) && (decide ((zas x.type).2 = 1) || decide ((zas x.type).2 = 3)) && (zcl (zas x.type).2 x.val).isSome)):=rfl
     have HNE : Hid ((zas x.type).2 = 1 ∨ (zas x.type).2 = 3 → (zbU x.type x.val).2 = if (zcl (zas x.type).2 x.val).isSome then 0 else 2):=zmR
     have HST : Hid (za5 (zhA l j) (x :: l.drop (j + 1)) = (zbD x && ltB (zhA l j) x.type && za5 x.type (l.drop (j + 1)))):=rfl
     rw [← hd.out,HO.out] at HST
     unfold zaV at HT
     unfold zb0 at HNA
     obtain ⟨p,hp⟩ : ∃ p,p = zas x.type:=⟨_,rfl⟩
     rw [← hp] at HT HAV HNE
     clear hp
     obtain ⟨t,k⟩:=p
     generalize zbU x.type x.val = q at *
     obtain ⟨nv,ne⟩:=q
     simp only at HT HAV HNE HNA
     by_cases hj0 : j = 0
     ·have tj : decide (0 < j) = false:=by rw [decide_eq_false_iff_not];omega
      have HLT : Hid (zhA l j = []):=by show _ = _;rw [hj0];rfl
      clear hj0 hx
      by_cases ht : t = x.type
      ·subst ht
       have te : (x.type == x.type) = true:=beq_self_eq_true _
       by_cases hk : k = 1 ∨ k = 3
       ·have hne:=HNE.out hk
        have hk2 : ((k : Int) != 1) = false ∨ (((k : Int) != 1) = true ∧ ((k : Int) != 3) = false):=by
         rcases hk with h | h
         ·left;rw [h];rfl
         ·right;rw [h];exact ⟨rfl,rfl⟩
        cases hnb : (zcl k x.val).isSome with
        | false=>
         have e3 : (ne != 0) = true:=by rw [hne,hnb];rfl
         have HF : Hid (za5 [] l = false):=by show _ = _;rw [HST.out,HAV.out,hnb,Bool.and_false,Bool.false_and,Bool.false_and]
         clear hnb hne HNE HAV HST hk
         rcases hk2 with k1 | ⟨k1,k2⟩
         all_goals
          go_wp2_with (first
           | (go_at_call 55;(with_reducible refine (HT _).mono ?_);rintro e w1 ⟨rfl,hx1⟩;have HX1:=hid (HX.out.trans hx1);have HXR:=hid hx1;clear hx1))
          refine zac (.read 0 (.read 1 (.read 2 (.read 3 (.read 4 (.read 5 (.read 6 (.read 7 (.read 8 (.read 9 (.main 10 (.read 11 (.read 12 (.read 13 (.read 14 (.read 15 .done)))))))))))))))) (by kernel_rfl) (by kernel_rfl) ?_
          intro wD hxD
          have XE : Hid (Ext wD wD):=Ext.refl _
          have HXD:=hid (HX1.out.trans hxD)
          have p1:=zaa (zaa e1 _ (HXR.out.trans hxD))
          have p2:=zaa (zaa e2 _ (HXR.out.trans hxD))
          skip
          repeat' (first
           | ((first | refine zak rfl rfl ?_ | refine zad rfl rfl ?_ | refine zaj rfl rfl ?_);simp only [Act.put,Act.eval,evs])
           | (refine zab rfl rfl ?_;simp only [Act.put,evp])
           | (refine zag (v:=?_) rfl rfl (fun w' hE=>?_) ?_;rotate_left 1;(· ((try (have hEx:=Ext.trans (Hid.out XE) hE));go_simp;(try go_bits);with_reducible rfl));simp only [Act.put,evp])
           | (refine walks_alt ?_ ?_)
           | (refine zai rfl rfl (fun K hK=>?_);go_wp2_with ((go_at_call 83;(with_reducible refine (HNA _ (HG.out.ext (HXD.out.trans XE.out))).mono ?_);rintro e w2 ⟨rfl,hx2⟩;have XE':=hid (Ext.trans (Hid.out XE) hx2);clear XE;have XE:=XE';clear XE'));refine hK _ _ (by first | assumption | exact Ext.alloc _ _ | exact Ext.refl _) ?_;clear hK K;try simp only [Act.put,evp]))
          refine zah ?_
          have q1:=p1 _ XE.out
          clear p1 p2
          skip
          go_wp2
          go_ret
          exact ⟨by rw [HE.out,HF.out];rfl,HXD.out.trans XE.out⟩
        | true=>
         have e3 : (ne != 0) = false:=by rw [hne,hnb];rfl
         have HAV1 : Hid (zbD x = true):=by show _ = _;rw [HAV.out,hnb,decide_eq_true rfl];rcases hk with h | h <;> simp [h]
         clear hnb hne HNE HAV hk
         have HF : Hid (za5 (zhA l (j + 1)) (l.drop (j + 1)) = za5 [] l):=by show _ = _;rw [HST.out,HAV1.out,HL1.out,HLT.out,zqm (zrw HAV1.out)];rfl
         clear HST
         rcases hk2 with k1 | ⟨k1,k2⟩
         all_goals
          go_wp2_with (first
           | (go_at_call 55;(with_reducible refine (HT _).mono ?_);rintro e w1 ⟨rfl,hx1⟩;have HX1:=hid (HX.out.trans hx1);have HXR:=hid hx1;clear hx1))
          refine zac (.read 0 (.read 1 (.read 2 (.read 3 (.read 4 (.read 5 (.read 6 (.read 7 (.read 8 (.read 9 (.main 10 (.read 11 (.read 12 (.read 13 (.read 14 (.read 15 .done)))))))))))))))) (by kernel_rfl) (by kernel_rfl) ?_
          intro wD hxD
          have XE : Hid (Ext wD wD):=Ext.refl _
          have HXD:=hid (HX1.out.trans hxD)
          have p1:=zaa (zaa e1 _ (HXR.out.trans hxD))
          have p2:=zaa (zaa e2 _ (HXR.out.trans hxD))
          skip
          repeat' (first
           | ((first | refine zak rfl rfl ?_ | refine zad rfl rfl ?_ | refine zaj rfl rfl ?_);simp only [Act.put,Act.eval,evs])
           | (refine zab rfl rfl ?_;simp only [Act.put,evp])
           | (refine zag (v:=?_) rfl rfl (fun w' hE=>?_) ?_;rotate_left 1;(· ((try (have hEx:=Ext.trans (Hid.out XE) hE));go_simp;(try go_bits);with_reducible rfl));simp only [Act.put,evp])
           | (refine walks_alt ?_ ?_)
           | (refine zai rfl rfl (fun K hK=>?_);go_wp2_with ((go_at_call 83;(with_reducible refine (HNA _ (HG.out.ext (HXD.out.trans XE.out))).mono ?_);rintro e w2 ⟨rfl,hx2⟩;have XE':=hid (Ext.trans (Hid.out XE) hx2);clear XE;have XE:=XE';clear XE'));refine hK _ _ (by first | assumption | exact Ext.alloc _ _ | exact Ext.refl _) ?_;clear hK K;try simp only [Act.put,evp]))
          refine zah ?_
          have q1:=p1 _ XE.out
          clear p1 p2
          skip
          go_wp2
          exact ⟨⟨j + 1,by omega,by go_num,HF,HXD.out.trans XE.out⟩,by simp [intOf];omega⟩
       ·have hk1 : ((k : Int) != 1) = true:=by rw [bne_iff_ne];omega
        have hk2 : ((k : Int) != 3) = true:=by rw [bne_iff_ne];omega
        have HF : Hid (za5 [] l = false):=by
         show _ = _
         rw [HST.out,HAV.out,decide_eq_false (show ¬ k = 1 by omega),decide_eq_false (show ¬ k = 3 by omega)]
         simp
        clear hk HNE HAV HST
        go_wp2_with (first
         | (go_at_call 55;(with_reducible refine (HT _).mono ?_);rintro e w1 ⟨rfl,hx1⟩;have HX1:=hid (HX.out.trans hx1);have HXR:=hid hx1;clear hx1))
        refine zac (.read 0 (.read 1 (.read 2 (.read 3 (.read 4 (.read 5 (.read 6 (.read 7 (.read 8 (.read 9 (.main 10 (.read 11 (.read 12 (.read 13 (.read 14 (.read 15 .done)))))))))))))))) (by kernel_rfl) (by kernel_rfl) ?_
        intro wD hxD
        have XE : Hid (Ext wD wD):=Ext.refl _
        have HXD:=hid (HX1.out.trans hxD)
        have p1:=zaa (zaa e1 _ (HXR.out.trans hxD))
        have p2:=zaa (zaa e2 _ (HXR.out.trans hxD))
        skip
        repeat' (first
         | ((first | refine zak rfl rfl ?_ | refine zad rfl rfl ?_ | refine zaj rfl rfl ?_);simp only [Act.put,Act.eval,evs])
         | (refine zab rfl rfl ?_;simp only [Act.put,evp])
         | (refine zag (v:=?_) rfl rfl (fun w' hE=>?_) ?_;rotate_left 1;(· ((try (have hEx:=Ext.trans (Hid.out XE) hE));go_simp;(try go_bits);with_reducible rfl));simp only [Act.put,evp])
         | (refine walks_alt ?_ ?_)
         | (refine zai rfl rfl (fun K hK=>?_);go_wp2_with ((go_at_call 83;(with_reducible refine (HNA _ (HG.out.ext (HXD.out.trans XE.out))).mono ?_);rintro e w2 ⟨rfl,hx2⟩;have XE':=hid (Ext.trans (Hid.out XE) hx2);clear XE;have XE:=XE';clear XE'));refine hK _ _ (by first | assumption | exact Ext.alloc _ _ | exact Ext.refl _) ?_;clear hK K;try simp only [Act.put,evp]))
        refine zah ?_
        have q1:=p1 _ XE.out
        clear p1 p2
        skip
        go_wp2
        go_ret
        exact ⟨by rw [HE.out,HF.out];rfl,HXD.out.trans XE.out⟩
      ·have te : (t == x.type) = false:=by rw [beq_eq_false_iff_ne];exact ht
       have HF : Hid (za5 [] l = false):=by show _ = _;rw [HST.out,HAV.out,decide_eq_false ht];simp
       clear ht HNE HAV HST
       go_wp2_with (first
        | (go_at_call 55;(with_reducible refine (HT _).mono ?_);rintro e w1 ⟨rfl,hx1⟩;have HX1:=hid (HX.out.trans hx1);have HXR:=hid hx1;clear hx1))
       refine zac (.read 0 (.read 1 (.read 2 (.read 3 (.read 4 (.read 5 (.read 6 (.read 7 (.read 8 (.read 9 (.main 10 (.read 11 (.read 12 (.read 13 (.read 14 (.read 15 .done)))))))))))))))) (by kernel_rfl) (by kernel_rfl) ?_
       intro wD hxD
       have XE : Hid (Ext wD wD):=Ext.refl _
       have HXD:=hid (HX1.out.trans hxD)
       have p1:=zaa (zaa e1 _ (HXR.out.trans hxD))
       have p2:=zaa (zaa e2 _ (HXR.out.trans hxD))
       skip
       repeat' (first
        | ((first | refine zak rfl rfl ?_ | refine zad rfl rfl ?_ | refine zaj rfl rfl ?_);simp only [Act.put,Act.eval,evs])
        | (refine zab rfl rfl ?_;simp only [Act.put,evp])
        | (refine zag (v:=?_) rfl rfl (fun w' hE=>?_) ?_;rotate_left 1;(· ((try (have hEx:=Ext.trans (Hid.out XE) hE));go_simp;(try go_bits);with_reducible rfl));simp only [Act.put,evp])
        | (refine walks_alt ?_ ?_)
        | (refine zai rfl rfl (fun K hK=>?_);go_wp2_with ((go_at_call 83;(with_reducible refine (HNA _ (HG.out.ext (HXD.out.trans XE.out))).mono ?_);rintro e w2 ⟨rfl,hx2⟩;have XE':=hid (Ext.trans (Hid.out XE) hx2);clear XE;have XE:=XE';clear XE'));refine hK _ _ (by first | assumption | exact Ext.alloc _ _ | exact Ext.refl _) ?_;clear hK K;try simp only [Act.put,evp]))
       refine zah ?_
       have q1:=p1 _ XE.out
       clear p1 p2
       skip
       go_wp2
       go_ret
       exact ⟨by rw [HE.out,HF.out];rfl,HXD.out.trans XE.out⟩
     ·have tj : 0 < (j : Int):=by omega
      obtain ⟨b',o',y,hA,hy,e0,-⟩:=zgb (HR.out.ext HX.out) (show j - 1 < n by omega)
      injection hA with hA
      injection hA with hA1 hA2
      subst hA1 hA2
      have z1 : ((j : Int) - 1).toNat = j - 1:=by omega
      have z2 : 0 ≤ (j : Int) - 1:=by omega
      have z3 : (j : Int) - 1 < (n : Int):=by omega
      have HLT : Hid (zhA l j = y.type):=by show _ = _;unfold zhA;rw [if_neg hj0,hy];rfl
      clear hj0 hx hy
      by_cases ht : t = x.type
      ·subst ht
       have te : (x.type == x.type) = true:=beq_self_eq_true _
       by_cases hk : k = 1 ∨ k = 3
       ·have hne:=HNE.out hk
        have hk2 : ((k : Int) != 1) = false ∨ (((k : Int) != 1) = true ∧ ((k : Int) != 3) = false):=by
         rcases hk with h | h
         ·left;rw [h];rfl
         ·right;rw [h];exact ⟨rfl,rfl⟩
        cases hnb : (zcl k x.val).isSome with
        | false=>
         have e3 : (ne != 0) = true:=by rw [hne,hnb];rfl
         have HF : Hid (za5 [] l = false):=by show _ = _;rw [HST.out,HAV.out,hnb,Bool.and_false,Bool.false_and,Bool.false_and]
         clear hnb hne HNE HAV HST hk
         rcases hk2 with k1 | ⟨k1,k2⟩
         all_goals
          go_wp2_with (first
           | (go_at_call 55;(with_reducible refine (HT _).mono ?_);rintro e w1 ⟨rfl,hx1⟩;have HX1:=hid (HX.out.trans hx1);have HXR:=hid hx1;clear hx1))
          refine zac (.read 0 (.read 1 (.read 2 (.read 3 (.read 4 (.read 5 (.read 6 (.read 7 (.read 8 (.read 9 (.main 10 (.read 11 (.read 12 (.read 13 (.read 14 (.read 15 .done)))))))))))))))) (by kernel_rfl) (by kernel_rfl) ?_
          intro wD hxD
          have XE : Hid (Ext wD wD):=Ext.refl _
          have HXD:=hid (HX1.out.trans hxD)
          have p1:=zaa (zaa e1 _ (HXR.out.trans hxD))
          have p2:=zaa (zaa e2 _ (HXR.out.trans hxD))
          skip
          repeat' (first
           | ((first | refine zak rfl rfl ?_ | refine zad rfl rfl ?_ | refine zaj rfl rfl ?_);simp only [Act.put,Act.eval,evs])
           | (refine zab rfl rfl ?_;simp only [Act.put,evp])
           | (refine zag (v:=?_) rfl rfl (fun w' hE=>?_) ?_;rotate_left 1;(· ((try (have hEx:=Ext.trans (Hid.out XE) hE));go_simp;(try go_bits);with_reducible rfl));simp only [Act.put,evp])
           | (refine walks_alt ?_ ?_)
           | (refine zai rfl rfl (fun K hK=>?_);go_wp2_with ((go_at_call 83;(with_reducible refine (HNA _ (HG.out.ext (HXD.out.trans XE.out))).mono ?_);rintro e w2 ⟨rfl,hx2⟩;have XE':=hid (Ext.trans (Hid.out XE) hx2);clear XE;have XE:=XE';clear XE'));refine hK _ _ (by first | assumption | exact Ext.alloc _ _ | exact Ext.refl _) ?_;clear hK K;try simp only [Act.put,evp]))
          refine zah ?_
          have q1:=p1 _ XE.out
          clear p1 p2
          have q0:=(zaa (zaa e0 _ (HXR.out.trans hxD))) _ XE.out
          go_wp2
          go_ret
          exact ⟨by rw [HE.out,HF.out];rfl,HXD.out.trans XE.out⟩
        | true=>
         have e3 : (ne != 0) = false:=by rw [hne,hnb];rfl
         have HAV1 : Hid (zbD x = true):=by show _ = _;rw [HAV.out,hnb,decide_eq_true rfl];rcases hk with h | h <;> simp [h]
         clear hnb hne HNE HAV hk
         cases hlt2 : ltB y.type x.type with
         | false=>
          have q9:=zn6 hlt2
          have HF : Hid (za5 [] l = false):=by show _ = _;rw [HST.out,HLT.out,hlt2,Bool.and_false,Bool.false_and]
          clear hlt2 HST
          rcases hk2 with k1 | ⟨k1,k2⟩
          all_goals
           go_wp2_with (first
            | (go_at_call 55;(with_reducible refine (HT _).mono ?_);rintro e w1 ⟨rfl,hx1⟩;have HX1:=hid (HX.out.trans hx1);have HXR:=hid hx1;clear hx1))
           refine zac (.read 0 (.read 1 (.read 2 (.read 3 (.read 4 (.read 5 (.read 6 (.read 7 (.read 8 (.read 9 (.main 10 (.read 11 (.read 12 (.read 13 (.read 14 (.read 15 .done)))))))))))))))) (by kernel_rfl) (by kernel_rfl) ?_
           intro wD hxD
           have XE : Hid (Ext wD wD):=Ext.refl _
           have HXD:=hid (HX1.out.trans hxD)
           have p1:=zaa (zaa e1 _ (HXR.out.trans hxD))
           have p2:=zaa (zaa e2 _ (HXR.out.trans hxD))
           skip
           repeat' (first
            | ((first | refine zak rfl rfl ?_ | refine zad rfl rfl ?_ | refine zaj rfl rfl ?_);simp only [Act.put,Act.eval,evs])
            | (refine zab rfl rfl ?_;simp only [Act.put,evp])
            | (refine zag (v:=?_) rfl rfl (fun w' hE=>?_) ?_;rotate_left 1;(· ((try (have hEx:=Ext.trans (Hid.out XE) hE));go_simp;(try go_bits);with_reducible rfl));simp only [Act.put,evp])
            | (refine walks_alt ?_ ?_)
            | (refine zai rfl rfl (fun K hK=>?_);go_wp2_with ((go_at_call 83;(with_reducible refine (HNA _ (HG.out.ext (HXD.out.trans XE.out))).mono ?_);rintro e w2 ⟨rfl,hx2⟩;have XE':=hid (Ext.trans (Hid.out XE) hx2);clear XE;have XE:=XE';clear XE'));refine hK _ _ (by first | assumption | exact Ext.alloc _ _ | exact Ext.refl _) ?_;clear hK K;try simp only [Act.put,evp]))
           refine zah ?_
           have q1:=p1 _ XE.out
           clear p1 p2
           have q0:=(zaa (zaa e0 _ (HXR.out.trans hxD))) _ XE.out
           go_wp2
           go_ret
           exact ⟨by rw [HE.out,HF.out];rfl,HXD.out.trans XE.out⟩
         | true=>
          have q9:=zqv hlt2
          have HF : Hid (za5 (zhA l (j + 1)) (l.drop (j + 1)) = za5 [] l):=by show _ = _;rw [HST.out,HAV1.out,HL1.out,HLT.out,hlt2];rfl
          clear hlt2 HST
          rcases hk2 with k1 | ⟨k1,k2⟩
          all_goals
           go_wp2_with (first
            | (go_at_call 55;(with_reducible refine (HT _).mono ?_);rintro e w1 ⟨rfl,hx1⟩;have HX1:=hid (HX.out.trans hx1);have HXR:=hid hx1;clear hx1))
           refine zac (.read 0 (.read 1 (.read 2 (.read 3 (.read 4 (.read 5 (.read 6 (.read 7 (.read 8 (.read 9 (.main 10 (.read 11 (.read 12 (.read 13 (.read 14 (.read 15 .done)))))))))))))))) (by kernel_rfl) (by kernel_rfl) ?_
           intro wD hxD
           have XE : Hid (Ext wD wD):=Ext.refl _
           have HXD:=hid (HX1.out.trans hxD)
           have p1:=zaa (zaa e1 _ (HXR.out.trans hxD))
           have p2:=zaa (zaa e2 _ (HXR.out.trans hxD))
           skip
           repeat' (first
            | ((first | refine zak rfl rfl ?_ | refine zad rfl rfl ?_ | refine zaj rfl rfl ?_);simp only [Act.put,Act.eval,evs])
            | (refine zab rfl rfl ?_;simp only [Act.put,evp])
            | (refine zag (v:=?_) rfl rfl (fun w' hE=>?_) ?_;rotate_left 1;(· ((try (have hEx:=Ext.trans (Hid.out XE) hE));go_simp;(try go_bits);with_reducible rfl));simp only [Act.put,evp])
            | (refine walks_alt ?_ ?_)
            | (refine zai rfl rfl (fun K hK=>?_);go_wp2_with ((go_at_call 83;(with_reducible refine (HNA _ (HG.out.ext (HXD.out.trans XE.out))).mono ?_);rintro e w2 ⟨rfl,hx2⟩;have XE':=hid (Ext.trans (Hid.out XE) hx2);clear XE;have XE:=XE';clear XE'));refine hK _ _ (by first | assumption | exact Ext.alloc _ _ | exact Ext.refl _) ?_;clear hK K;try simp only [Act.put,evp]))
           refine zah ?_
           have q1:=p1 _ XE.out
           clear p1 p2
           have q0:=(zaa (zaa e0 _ (HXR.out.trans hxD))) _ XE.out
           go_wp2
           exact ⟨⟨j + 1,by omega,by go_num,HF,HXD.out.trans XE.out⟩,by simp [intOf];omega⟩
       ·have hk1 : ((k : Int) != 1) = true:=by rw [bne_iff_ne];omega
        have hk2 : ((k : Int) != 3) = true:=by rw [bne_iff_ne];omega
        have HF : Hid (za5 [] l = false):=by
         show _ = _
         rw [HST.out,HAV.out,decide_eq_false (show ¬ k = 1 by omega),decide_eq_false (show ¬ k = 3 by omega)]
         simp
        clear hk HNE HAV HST
        go_wp2_with (first
         | (go_at_call 55;(with_reducible refine (HT _).mono ?_);rintro e w1 ⟨rfl,hx1⟩;have HX1:=hid (HX.out.trans hx1);have HXR:=hid hx1;clear hx1))
        refine zac (.read 0 (.read 1 (.read 2 (.read 3 (.read 4 (.read 5 (.read 6 (.read 7 (.read 8 (.read 9 (.main 10 (.read 11 (.read 12 (.read 13 (.read 14 (.read 15 .done)))))))))))))))) (by kernel_rfl) (by kernel_rfl) ?_
        intro wD hxD
        have XE : Hid (Ext wD wD):=Ext.refl _
        have HXD:=hid (HX1.out.trans hxD)
        have p1:=zaa (zaa e1 _ (HXR.out.trans hxD))
        have p2:=zaa (zaa e2 _ (HXR.out.trans hxD))
        skip
        repeat' (first
         | ((first | refine zak rfl rfl ?_ | refine zad rfl rfl ?_ | refine zaj rfl rfl ?_);simp only [Act.put,Act.eval,evs])
         | (refine zab rfl rfl ?_;simp only [Act.put,evp])
         | (refine zag (v:=?_) rfl rfl (fun w' hE=>?_) ?_;rotate_left 1;(· ((try (have hEx:=Ext.trans (Hid.out XE) hE));go_simp;(try go_bits);with_reducible rfl));simp only [Act.put,evp])
         | (refine walks_alt ?_ ?_)
         | (refine zai rfl rfl (fun K hK=>?_);go_wp2_with ((go_at_call 83;(with_reducible refine (HNA _ (HG.out.ext (HXD.out.trans XE.out))).mono ?_);rintro e w2 ⟨rfl,hx2⟩;have XE':=hid (Ext.trans (Hid.out XE) hx2);clear XE;have XE:=XE';clear XE'));refine hK _ _ (by first | assumption | exact Ext.alloc _ _ | exact Ext.refl _) ?_;clear hK K;try simp only [Act.put,evp]))
        refine zah ?_
        have q1:=p1 _ XE.out
        clear p1 p2
        have q0:=(zaa (zaa e0 _ (HXR.out.trans hxD))) _ XE.out
        go_wp2
        go_ret
        exact ⟨by rw [HE.out,HF.out];rfl,HXD.out.trans XE.out⟩
      ·have te : (t == x.type) = false:=by rw [beq_eq_false_iff_ne];exact ht
       have HF : Hid (za5 [] l = false):=by show _ = _;rw [HST.out,HAV.out,decide_eq_false ht];simp
       clear ht HNE HAV HST
       go_wp2_with (first
        | (go_at_call 55;(with_reducible refine (HT _).mono ?_);rintro e w1 ⟨rfl,hx1⟩;have HX1:=hid (HX.out.trans hx1);have HXR:=hid hx1;clear hx1))
       refine zac (.read 0 (.read 1 (.read 2 (.read 3 (.read 4 (.read 5 (.read 6 (.read 7 (.read 8 (.read 9 (.main 10 (.read 11 (.read 12 (.read 13 (.read 14 (.read 15 .done)))))))))))))))) (by kernel_rfl) (by kernel_rfl) ?_
       intro wD hxD
       have XE : Hid (Ext wD wD):=Ext.refl _
       have HXD:=hid (HX1.out.trans hxD)
       have p1:=zaa (zaa e1 _ (HXR.out.trans hxD))
       have p2:=zaa (zaa e2 _ (HXR.out.trans hxD))
       skip
       repeat' (first
        | ((first | refine zak rfl rfl ?_ | refine zad rfl rfl ?_ | refine zaj rfl rfl ?_);simp only [Act.put,Act.eval,evs])
        | (refine zab rfl rfl ?_;simp only [Act.put,evp])
        | (refine zag (v:=?_) rfl rfl (fun w' hE=>?_) ?_;rotate_left 1;(· ((try (have hEx:=Ext.trans (Hid.out XE) hE));go_simp;(try go_bits);with_reducible rfl));simp only [Act.put,evp])
        | (refine walks_alt ?_ ?_)
        | (refine zai rfl rfl (fun K hK=>?_);go_wp2_with ((go_at_call 83;(with_reducible refine (HNA _ (HG.out.ext (HXD.out.trans XE.out))).mono ?_);rintro e w2 ⟨rfl,hx2⟩;have XE':=hid (Ext.trans (Hid.out XE) hx2);clear XE;have XE:=XE';clear XE'));refine hK _ _ (by first | assumption | exact Ext.alloc _ _ | exact Ext.refl _) ?_;clear hK K;try simp only [Act.put,evp]))
       refine zah ?_
       have q1:=p1 _ XE.out
       clear p1 p2
       have q0:=(zaa (zaa e0 _ (HXR.out.trans hxD))) _ XE.out
       go_wp2
       go_ret
       exact ⟨by rw [HE.out,HF.out];rfl,HXD.out.trans XE.out⟩
    ·obtain rfl : j = n:=by omega
     have HF : Hid (za5 [] l = true):=by show _ = _;rw [← HO.out,List.drop_of_length_le (Nat.le_of_eq HR.out.len.symm)];rfl
     go_wp2
     go_ret
     exact ⟨by rw [HE.out,HF.out];rfl,HX.out⟩
def zl7 : List Ava → List UInt8
 | []=>[]
 | a :: t=>43 :: (a.type ++ 61 :: zay true a.val ++ zl7 t)
theorem zgR : ∀ (a : Ava) (t : List Ava),zaX (a :: t) = a.type ++ 61 :: zay true a.val ++ zl7 t
 | a,[]=>by simp [zaX,zl7]
 | a,b :: t=>by
  have h:=zgR b t
  rw [zaX,h,zl7]
def zev (j : Nat) (l : List Ava) : List UInt8:=if j = 0 then zaX l else zl7 l
theorem zjM (x : Ava) (t : List Ava) : zev 0 (x :: t) = (x.type ++ [61]) ++ zay true x.val ++ zev 1 t:=by
 unfold zev;rw [if_pos rfl,if_neg (by decide),zgR];simp
theorem zjL {j : Nat} (h : ¬ j = 0) (x : Ava) (t : List Ava) : zev j (x :: t) = [43] ++ (x.type ++ [61]) ++ zay true x.val ++ zev (j + 1) t:=by
 unfold zev;rw [if_neg h,if_neg (by omega),zl7];simp
theorem zhM (n : List UInt8) : (zas n).1.length ≤ 17:=by
 unfold zas
 cases h : typTab.find? (fun p=>zar p.1 == zar n) with
 | none=>simp
 | some p=>
  have hm:=List.mem_of_find?_eq_some h
  have hall : ∀ p ∈ typTab,p.1.length ≤ 17:=by decide
  exact hall p hm
theorem zmx {k : Nat} {v : List UInt8} (h : (zcl k v).isSome = true) : v.length ≤ 200:=by
 unfold zcl at h
 by_cases hv : v = [] ∨ 200 < v.length
 ·rw [if_pos hv] at h;cases h
 ·have : ¬ 200 < v.length:=fun e=>hv (.inr e)
  omega
theorem zdG {a : Ava} (h : zbD a = true) : a.type.length ≤ 17 ∧ a.val.length ≤ 200:=by
 unfold zbD at h
 simp only [Bool.and_eq_true,Bool.or_eq_true,decide_eq_true_eq] at h
 exact ⟨by have:=zhM a.type;rw [h.1.1] at this;exact this,zmx h.2⟩
theorem zcK {l : List Ava} (h : zan l = true) : ∀ a ∈ l,zbD a = true:=by
 unfold zan at h
 simp only [Bool.and_eq_true,List.all_eq_true] at h
 exact h.1.2
theorem zdl {l : List Ava} (h : zan l = true) : l.length ≤ 3:=by
 unfold zan at h
 simp only [Bool.and_eq_true,decide_eq_true_eq] at h
 exact h.1.1.2
theorem zoz {B b : Nat} {xs : List UInt8} {w : World} (h : IsB B b xs w) (hl : xs.length + 1 ≤ 140737488355328) :
 Calls Tryz.prog 107 #[.pointer (some ⟨b,0,none⟩),.int .u8 43] w fun e w'=>e = .returned .nilIface ∧ IsB B b (xs ++ [43]) w' ∧ Kept B b w w':=zc4 43 h hl
def zkf (w : World) (l : List Ava) (e : Ending) (w' : World) : Prop:=e = .returned (.tuple #[.string (str (zbY l)),.int .i64 (if zan l then 0 else 1)]) ∧ Ext w w'
theorem zoq {S : Nat → Prop} {A : Option Addr} {n c : Nat} {l : List Ava} {w : World} (hG : Gl w) (h : Row Elem.ava S w A n c l) (hb : ∀ a ∈ l,a.type.length ≤ 4000000) :
 Calls Tryz.prog 77 #[.slice A n c] w (zkf w l):=by
 have HR:=hid h
 have HF:=hid (fun w' hx=>zfW (hG.ext hx) (h.ext hx) hb : ∀ w',Ext w w' → Calls Tryz.prog 105 #[.slice A n c] w' fun e w''=>e = .returned (.bool (zan l)) ∧ Ext w' w'')
 clear hG h hb
 cases hf : zan l with
 | false=>
  have HE : Hid (zbY l = [] ∧ zan l = false):=⟨by unfold zbY;rw [hf];rfl,hf⟩
  rw [hf] at HF
  clear hf
  go_enter Tryz.func77,Tryz.ntmps77
  go_wp2_with (go_at_call 105;(with_reducible refine (HF.out _ (Ext.refl _)).mono ?_);rintro e w1 ⟨rfl,hx1⟩;have HX1:=hid hx1;clear hx1)
  go_ret2
  exact ⟨by rw [HE.out.1,HE.out.2];rfl,HX1.out⟩
 | true=>
  have HE : Hid (zbY l = zaX l ∧ zan l = true):=⟨by unfold zbY;rw [hf];rfl,hf⟩
  have HO:=hid (zcK hf)
  have hn3 : n ≤ 3:=by rw [HR.out.len];exact zdl hf
  rw [hf] at HF
  clear hf
  go_enter Tryz.func77,Tryz.ntmps77
  go_wp2_with (go_at_call 105;(with_reducible refine (HF.out _ (Ext.refl _)).mono ?_);rintro e w1 ⟨rfl,hx1⟩;have HX1:=hid hx1;clear hx1)
  go_loopw [12] (fun i wr=>∃ (j : Nat) (acc : List UInt8),j ≤ n ∧ i = .int .i64 j ∧ acc.length ≤ 1000 * j ∧ Hid (IsB w1.heap.size w1.heap.size acc wr ∧ Below w1.heap.size w1 wr) ∧ Hid (acc ++ zev j (l.drop j) = zaX l)) (fun i _=>n - (intOf i).toNat)
  case atStart=>exact ⟨0,[],by omega,rfl,by simp,⟨zkT w1,Ext.alloc _ _⟩,rfl⟩
  case round=>
   obtain ⟨j,acc,hj,rfl,hacc,HI,HP⟩:=hrel
   by_cases hlt : j < n
   ·obtain ⟨b,o,x,rfl,hx,e1,e2⟩:=zgb ((HR.out.ext HX1.out).ext HI.out.2) hlt
    obtain ⟨hs1,hs2⟩:=zdG (HO.out x (List.mem_of_getElem? hx))
    have hd : Hid (l.drop j = x :: l.drop (j + 1)):=by
     show _ = _
     obtain ⟨h1,h2⟩:=List.getElem?_eq_some_iff.1 hx
     rw [List.drop_eq_getElem_cons h1,h2]
    have hw3:=zch x.val true
    have hz1 : (str x.type ++ str [61]) = str (x.type ++ [61]):=zbd _ _
    have z1 : ¬ 9223372036854775807 < x.type.length + 1:=by omega
    have hgB : Hid (wr.heap.size ≠ w1.heap.size):=by show _ ≠ _;have:=HI.out.1.lt;omega
    clear hx
    by_cases hj0 : j = 0
    ·have tj : decide (0 < j) = false:=by rw [decide_eq_false_iff_not];omega
     have HP2 : Hid (acc ++ (x.type ++ [61]) ++ zay true x.val ++ zev (j + 1) (l.drop (j + 1)) = zaX l):=by show _ = _;rw [← HP.out,hd.out,hj0,zjM];simp
     clear hj0
     go_wp2_with (first
      | (go_at_call 80;(with_reducible refine (zdK (str (x.type ++ [61])) (HI.out.1.ext (Ext.alloc _ _)) (by rw [zaI];simp;omega)).mono ?_);rintro e w3 ⟨rfl,hi3,hk3⟩;rw [zao] at hi3;have HI3:=hid hi3;have HK3:=hid (Kept.trans (zdB (Ext.alloc _ _) HI.out.1.le) hk3);have c1:=hk3.cell (j:=1) (heap_alloc_new wr _) (by decide) hgB.out rfl;clear hi3 hk3)
      | (go_at_call 108;(with_reducible refine (zft (str x.val) _ HI3.out (by rw [zaI];omega) (by simp;omega)).mono ?_);rintro e w4 ⟨rfl,hi4,hk4⟩;rw [zao] at hi4;have HI4:=hid hi4;have HK4:=hid (HK3.out.trans hk4);clear hi4 hk4))
     exact ⟨⟨j + 1,_,by omega,by go_num,by simp;omega,⟨HI4.out,Below.trans HI.out.2 HK4.out.below⟩,HP2⟩,by simp [intOf];omega⟩
    ·have tj : decide (0 < j) = true:=by rw [decide_eq_true_eq];omega
     have HP2 : Hid (acc ++ [43] ++ (x.type ++ [61]) ++ zay true x.val ++ zev (j + 1) (l.drop (j + 1)) = zaX l):=by show _ = _;rw [← HP.out,hd.out,zjL hj0];simp
     clear hj0
     go_wp2_with (first
      | (go_at_call 107;(with_reducible refine (zoz (HI.out.1.ext (Ext.alloc _ _)) (by omega)).mono ?_);rintro e w2 ⟨rfl,hi2,hk2⟩;have HI2:=hid hi2;have HK2:=hid (Kept.trans (zdB (Ext.alloc _ _) HI.out.1.le) hk2);have HKA:=hid hk2;have c0:=hk2.cell (j:=0) (heap_alloc_new wr _) (by decide) hgB.out rfl;clear hi2 hk2)
      | (go_at_call 80;(with_reducible refine (zdK (str (x.type ++ [61])) HI2.out (by rw [zaI];simp;omega)).mono ?_);rintro e w3 ⟨rfl,hi3,hk3⟩;rw [zao] at hi3;have HI3:=hid hi3;have HK3:=hid (HK2.out.trans hk3);have c1:=(HKA.out.trans hk3).cell (j:=1) (heap_alloc_new wr _) (by decide) hgB.out rfl;clear hi3 hk3)
      | (go_at_call 108;(with_reducible refine (zft (str x.val) _ HI3.out (by rw [zaI];omega) (by simp;omega)).mono ?_);rintro e w4 ⟨rfl,hi4,hk4⟩;rw [zao] at hi4;have HI4:=hid hi4;have HK4:=hid (HK3.out.trans hk4);clear hi4 hk4))
     exact ⟨⟨j + 1,_,by omega,by go_num,by simp;omega,⟨HI4.out,Below.trans HI.out.2 HK4.out.below⟩,HP2⟩,by simp [intOf];omega⟩
   ·obtain rfl : j = n:=by omega
    have HQ : Hid (zaX l = acc):=by
     show _ = _
     rw [← HP.out,List.drop_of_length_le (Nat.le_of_eq HR.out.len.symm)]
     have : zev j [] = []:=by unfold zev;split <;> rfl
     rw [this,List.append_nil]
    go_wp2_with (go_at_call 81;(with_reducible refine (zfV HI.out.1).mono ?_);rintro e w4 ⟨rfl,hx4⟩;have HX4:=hid hx4;clear hx4)
    go_ret2
    exact ⟨by rw [HE.out.1,HE.out.2,HQ.out];rfl,HX1.out.trans (Below.trans HI.out.2 HX4.out)⟩
theorem zmu {S : Nat → Prop} {A : Option Addr} {n c : Nat} {l : List Ava} {w : World} (hG : Gl w) (h : Row Elem.ava S w A n c l) (hb : ∀ a ∈ l,a.type.length ≤ 4000000) :
 Calls Tryz.prog 89 #[.slice A n c] w (zkf w l):=by
 have HR:=hid h
 have HF:=hid (fun w' hx=>zeU (hG.ext hx) (h.ext hx) hb : ∀ w',Ext w w' → Calls Tryz.prog 116 #[.slice A n c] w' fun e w''=>e = .returned (.bool (zan l)) ∧ Ext w' w'')
 clear hG h hb
 cases hf : zan l with
 | false=>
  have HE : Hid (zbY l = [] ∧ zan l = false):=⟨by unfold zbY;rw [hf];rfl,hf⟩
  rw [hf] at HF
  clear hf
  go_enter Tryz.func89,Tryz.ntmps89
  go_wp2_with (go_at_call 116;(with_reducible refine (HF.out _ (Ext.refl _)).mono ?_);rintro e w1 ⟨rfl,hx1⟩;have HX1:=hid hx1;clear hx1)
  go_ret2
  exact ⟨by rw [HE.out.1,HE.out.2];rfl,HX1.out⟩
 | true=>
  have HE : Hid (zbY l = zaX l ∧ zan l = true):=⟨by unfold zbY;rw [hf];rfl,hf⟩
  have HO:=hid (zcK hf)
  have hn3 : n ≤ 3:=by rw [HR.out.len];exact zdl hf
  rw [hf] at HF
  clear hf
  go_enter Tryz.func89,Tryz.ntmps89
  go_wp2_with (go_at_call 116;(with_reducible refine (HF.out _ (Ext.refl _)).mono ?_);rintro e w1 ⟨rfl,hx1⟩;have HX1:=hid hx1;clear hx1)
  go_loopw [4,11] (fun v i wr=>∃ (j : Nat) (acc : List UInt8),j ≤ n ∧ i = .int .i64 j ∧ v = .string (str acc) ∧ acc.length ≤ 1000 * j ∧ Hid (Ext w1 wr) ∧ Hid (acc ++ zev j (l.drop j) = zaX l)) (fun _ i _=>n - (intOf i).toNat)
  case atStart=>exact ⟨0,[],by omega,rfl,rfl,by simp,Ext.refl _,rfl⟩
  case round=>
   obtain ⟨j,acc,hj,rfl,rfl,hacc,HX,HP⟩:=hrel
   by_cases hlt : j < n
   ·have hlt' : (j : Int) < (n : Int):=by omega
    obtain ⟨b,o,x,rfl,hx,e1,e2⟩:=zgb ((HR.out.ext HX1.out).ext HX.out) hlt
    obtain ⟨hs1,hs2⟩:=zdG (HO.out x (List.mem_of_getElem? hx))
    have hd : Hid (l.drop j = x :: l.drop (j + 1)):=by
     show _ = _
     obtain ⟨h1,h2⟩:=List.getElem?_eq_some_iff.1 hx
     rw [List.drop_eq_getElem_cons h1,h2]
    have hw3:=zch x.val true
    have HW : ∀ w,Calls Tryz.prog 117 #[.string (str x.val)] w fun e w'=>e = .returned (.string (str (zay true x.val))) ∧ Ext w w':=fun w=>by
     have:=zmr (str x.val) w (by rw [zaI];omega)
     rwa [zao] at this
    obtain ⟨wv,hgw⟩ : ∃ wv,wv = zay true x.val:=⟨_,rfl⟩
    rw [← hgw] at HW hw3
    have HGW:=hid hgw
    clear hgw hx
    by_cases hj0 : j = 0
    ·have tj : decide (0 < j) = false:=by rw [decide_eq_false_iff_not];omega
     have HP2 : Hid (acc ++ x.type ++ [61] ++ wv ++ zev (j + 1) (l.drop (j + 1)) = zaX l):=by show _ = _;rw [← HP.out,hd.out,hj0,zjM,← HGW.out];simp
     clear hj0
     have z1 : ¬ 9223372036854775807 < acc.length + x.type.length:=by (try simp);omega
     have z2 : ¬ 9223372036854775807 < acc.length + x.type.length + 1:=by (try simp);omega
     have z3 : ¬ 9223372036854775807 < acc.length + x.type.length + 1 + wv.length:=by (try simp);omega
     go_wp2
     refine zac (.read 0 (.read 1 (.read 2 (.read 3 (.read 4 (.read 5 (.read 6 (.read 7 (.read 8 (.read 9 (.read 10 (.read 11 (.read 12 (.main 13 (.read 14 (.read 15 .done)))))))))))))))) (by kernel_rfl) (by kernel_rfl) ?_
     intro wD hxD
     have XE : Hid (Ext wD wD):=Ext.refl _
     have p1:=zaa (zaa e1 _ hxD)
     have p2:=zaa (zaa e2 _ hxD)
     repeat' (first
      | ((first | refine zak rfl rfl ?_ | refine zad rfl rfl ?_ | refine zaj rfl rfl ?_);simp only [Act.put,Act.eval,evs])
      | (refine zab rfl rfl ?_;simp only [Act.put,evp])
      | (refine zag (v:=?_) rfl rfl (fun w' hE=>?_) ?_;rotate_left 1;(· ((try (have hEx:=Ext.trans (Hid.out XE) hE));go_simp;(try go_bits);with_reducible rfl));simp only [Act.put,evp])
      | (refine walks_alt ?_ ?_)
      | (refine zai rfl rfl (fun K hK=>?_);go_wp2_with ((go_at_call 117;(with_reducible refine (HW _).mono ?_);rintro e w2 ⟨rfl,hx2⟩;have XE':=hid (Ext.trans (Hid.out XE) hx2);clear XE;have XE:=XE';clear XE'));refine hK _ _ (by first | assumption | exact Ext.alloc _ _ | exact Ext.refl _) ?_;clear hK K;try simp only [Act.put,evp]))
     refine zah ?_
     go_wp2
     exact ⟨⟨j + 1,_,by omega,by go_num,rfl,by simp;omega,HX.out.trans (hxD.trans XE.out),HP2⟩,by simp [intOf];omega⟩
    ·have tj : decide (0 < j) = true:=by rw [decide_eq_true_eq];omega
     have HP2 : Hid (acc ++ [43] ++ x.type ++ [61] ++ wv ++ zev (j + 1) (l.drop (j + 1)) = zaX l):=by show _ = _;rw [← HP.out,hd.out,zjL hj0,← HGW.out];simp
     have z0 : ¬ 9223372036854775807 < acc.length + 1:=by omega
     obtain ⟨ac,hac⟩ : ∃ ac,ac = acc ++ [43]:=⟨_,rfl⟩
     have hz0 : (str acc ++ str [43]) = str ac:=by rw [hac];exact zbd _ _
     have hacl : ac.length ≤ 1000 * j + 1:=by rw [hac];simp;omega
     rw [← hac] at HP2
     clear hj0 hac
     have z1 : ¬ 9223372036854775807 < ac.length + x.type.length:=by (try simp);omega
     have z2 : ¬ 9223372036854775807 < ac.length + x.type.length + 1:=by (try simp);omega
     have z3 : ¬ 9223372036854775807 < ac.length + x.type.length + 1 + wv.length:=by (try simp);omega
     go_wp2
     refine zac (.read 0 (.read 1 (.read 2 (.read 3 (.read 4 (.read 5 (.read 6 (.read 7 (.read 8 (.read 9 (.read 10 (.read 11 (.read 12 (.main 13 (.read 14 (.read 15 .done)))))))))))))))) (by kernel_rfl) (by kernel_rfl) ?_
     intro wD hxD
     have XE : Hid (Ext wD wD):=Ext.refl _
     have p1:=zaa (zaa e1 _ hxD)
     have p2:=zaa (zaa e2 _ hxD)
     repeat' (first
      | ((first | refine zak rfl rfl ?_ | refine zad rfl rfl ?_ | refine zaj rfl rfl ?_);simp only [Act.put,Act.eval,evs])
      | (refine zab rfl rfl ?_;simp only [Act.put,evp])
      | (refine zag (v:=?_) rfl rfl (fun w' hE=>?_) ?_;rotate_left 1;(· ((try (have hEx:=Ext.trans (Hid.out XE) hE));go_simp;(try go_bits);with_reducible rfl));simp only [Act.put,evp])
      | (refine walks_alt ?_ ?_)
      | (refine zai rfl rfl (fun K hK=>?_);go_wp2_with ((go_at_call 117;(with_reducible refine (HW _).mono ?_);rintro e w2 ⟨rfl,hx2⟩;have XE':=hid (Ext.trans (Hid.out XE) hx2);clear XE;have XE:=XE';clear XE'));refine hK _ _ (by first | assumption | exact Ext.alloc _ _ | exact Ext.refl _) ?_;clear hK K;try simp only [Act.put,evp]))
     refine zah ?_
     go_wp2
     exact ⟨⟨j + 1,_,by omega,by go_num,rfl,by simp;omega,HX.out.trans (hxD.trans XE.out),HP2⟩,by simp [intOf];omega⟩
   ·obtain rfl : j = n:=by omega
    have HQ : Hid (zaX l = acc):=by
     show _ = _
     rw [← HP.out,List.drop_of_length_le (Nat.le_of_eq HR.out.len.symm)]
     have : zev j [] = []:=by unfold zev;split <;> rfl
     rw [this,List.append_nil]
    go_wp2
    go_ret2
    exact ⟨by rw [HE.out.1,HE.out.2,HQ.out];rfl,HX1.out.trans HX.out⟩
theorem GrowA.empty (w : World) (T : TypeId) : GrowA T w (w.alloc (.cells #[] T)) (.slice (some ⟨w.heap.size,0,none⟩) 0 0) []:=
 ⟨zgO w _ (Nat.le_refl _) _ _,Ext.alloc _ _⟩
theorem zmL {S : Nat → Prop} {A : Option Addr} {n c : Nat} {l : List Ava} {w : World} (h : Row Elem.ava S w A n c l) (hl : l.length ≤ 4000000) :
 Calls Tryz.prog 106 #[.slice A n c] w fun e w'=>∃ v,e = .returned v ∧ GrowA 151 w w' v l:=by
 have HR:=hid h
 have HL:=hid hl
 have HN:=hid h.len
 clear h hl
 rcases A with _ | ⟨b,o,sp⟩
 ·have hnil : l = []:=by
   rcases Nat.eq_zero_or_pos n with h0 | h0
   ·exact HR.out.nil_iff.1 h0
   ·obtain ⟨b,off,v,x,hA,_⟩:=HR.out.at_ h0
    cases hA
  have HNL:=hid hnil
  clear hnil
  have hz:=fun W=>Lib.run_eql_slice_nil (P:=Tryz.prog) W 123 151 none n c 0 0 Tryz.underlying123
  go_enter Tryz.func106,Tryz.ntmps106
  go_wp2
  go_ret
  exact ⟨_,rfl,by rw [HNL.out];exact GrowA.nil (Ext.refl _)⟩
 ·have hz:=fun W=>Lib.run_eql_slice_nil (P:=Tryz.prog) W 123 151 (some ⟨b,o,sp⟩) n c 0 0 Tryz.underlying123
  go_enter Tryz.func106,Tryz.ntmps106
  go_wp2_with (at_builtin;refine zgQ rfl _ _ rfl _ [] rfl (GrowA.empty w 151) _ n c l rfl HN.out ((zht HR.out).below (Ext.alloc _ _)) (by have:=HN.out;have:=HL.out;simp;omega) ?_;intro v' w3 hg3;have HG3:=hid hg3;clear hg3)
  go_ret
  exact ⟨_,rfl,by simpa using HG3.out⟩
def mixA (j : Nat) (l : List Ava) : List Ava:=za6 (l.take j) ++ l.drop j
theorem znI (l : List Ava) : mixA 0 l = l:=by simp [mixA,za6]
theorem zpf (l : List Ava) : mixA l.length l = za6 l:=by simp [mixA]
theorem zls {j : Nat} {l : List Ava} {x : Ava} (h : l[j]? = some x) : (mixA j l)[j]? = some x:=by
 have hl:=(List.getElem?_eq_some_iff.1 h).1
 unfold mixA
 rw [List.getElem?_append_right (by simp [za6];omega)]
 have : j - (za6 (l.take j)).length = 0:=by simp [za6];omega
 rw [this,List.getElem?_drop]
 simpa using h
theorem zoU {j : Nat} {l : List Ava} {x : Ava} (h : l[j]? = some x) : (mixA j l).set j ⟨x.type,(zcl (zas x.type).2 x.val).getD []⟩ = mixA (j + 1) l:=by
 obtain ⟨h1,h2⟩:=List.getElem?_eq_some_iff.1 h
 have hj : (za6 (l.take j)).length = j:=by simp [za6];omega
 unfold mixA
 rw [List.set_append_right _ _ (by omega),hj,Nat.sub_self,List.drop_eq_getElem_cons h1,List.set_cons_zero,List.take_add_one,h]
 simp [za6]
theorem zlu {a : Ava} (h : zbD a = true) : (zbP a.type a.val).1 = (zcl (zas a.type).2 a.val).getD [] ∧ (zbU a.type a.val).1 = (zcl (zas a.type).2 a.val).getD []:=by
 unfold zbD at h
 simp only [Bool.and_eq_true,Bool.or_eq_true,decide_eq_true_eq] at h
 have hz : zbU a.type a.val = zbP a.type a.val:=by unfold zbU;rw [if_neg (by omega)]
 rw [hz]
 have hE : (zbP a.type a.val).1 = (zcl (zas a.type).2 a.val).getD []:=by
  have hs:=h.2
  unfold zbP zcl at *
  rw [if_neg (by omega),if_neg (by omega)]
  by_cases hv : a.val = [] ∨ 200 < a.val.length
  ·rw [if_pos hv] at hs;cases hs
  ·rw [if_neg hv] at hs
   rw [if_neg hv,if_neg hv]
   rcases h.1.2 with h1 | h1
   ·rw [h1] at hs ⊢
    simp only [zc9,zha,if_true] at hs ⊢
    by_cases ht : zaB (zaS (zar a.val)) = [] ∨ (0 : UInt8) ∈ zaB (zaS (zar a.val))
    ·rw [if_pos ht] at hs;cases hs
    ·have h2 : zaB (zaS (zar a.val)) ≠ [] ∧ (0 : UInt8) ∉ zaB (zaS (zar a.val)):=⟨fun e=>ht (.inl e),fun e=>ht (.inr e)⟩
     simp [h2]
   ·rw [h1] at hs ⊢
    cases hb : intB a.val with
    | false=>simp [hb] at hs
    | true=>simp [zc9,hb]
 exact ⟨hE,hE⟩
def zh1 (w : World) (l : List Ava) (e : Ending) (w' : World) : Prop:=
 ∃ A n c,e = .returned (.tuple #[.slice A n c,.int .i64 (if zan l then 0 else 1)]) ∧ Row Elem.ava (fun b=>w.heap.size ≤ b) w' A n c (if zan l then za6 l else []) ∧ Ext w w'
theorem zm1 {S : Nat → Prop} {A : Option Addr} {n c : Nat} {l : List Ava} {w : World} (hG : Gl w) (h : Row Elem.ava S w A n c l) (hb : ∀ a ∈ l,a.type.length ≤ 4000000) :
 Calls Tryz.prog 76 #[.slice A n c] w (zh1 w l):=by
 have HG:=hid hG
 have HR:=hid h
 have HF:=hid (fun w' hx=>zfW (hG.ext hx) (h.ext hx) hb : ∀ w',Ext w w' → Calls Tryz.prog 105 #[.slice A n c] w' fun e w''=>e = .returned (.bool (zan l)) ∧ Ext w' w'')
 clear hG h hb
 cases hf : zan l with
 | false=>
  have HE : Hid (zan l = false):=hf
  rw [hf] at HF
  clear hf
  go_enter Tryz.func76,Tryz.ntmps76
  go_wp2_with (go_at_call 105;(with_reducible refine (HF.out _ (Ext.refl _)).mono ?_);rintro e w1 ⟨rfl,hx1⟩;have HX1:=hid hx1;clear hx1)
  go_ret2
  exact ⟨none,0,0,by rw [HE.out];rfl,by rw [HE.out];exact Row.nil _ _ _,HX1.out⟩
 | true=>
  have HE : Hid (zan l = true):=hf
  have HO:=hid (zcK hf)
  have hl3:=zdl hf
  have hn3 : n ≤ 3:=by rw [HR.out.len];exact hl3
  have HLN:=hid HR.out.len
  have hne : 0 < l.length:=by
   unfold zan at hf
   simp only [Bool.and_eq_true,decide_eq_true_eq] at hf
   exact hf.1.1.1
  rw [hf] at HF
  have HL3:=hid hl3
  have HNE:=hid hne
  clear hf hl3 hne
  go_enter Tryz.func76,Tryz.ntmps76
  go_wp2_with (first
   | (go_at_call 105;(with_reducible refine (HF.out _ (Ext.refl _)).mono ?_);rintro e w1 ⟨rfl,hx1⟩;have HX1:=hid hx1;clear hx1)
   | (go_at_call 106;(with_reducible refine (zmL (HR.out.ext HX1.out) (by have:=HL3.out;omega)).mono ?_);rintro e w2 ⟨v2,rfl,hg2⟩;obtain ⟨g,cap,rfl,hc1,hc2⟩:=hg2.form HNE.out;have HG2:=hid hg2;clear hg2))
  have hl4 : l.length ≤ 3:=HL3.out
  go_loopw [14] (fun i wr=>∃ (j : Nat),j ≤ l.length ∧ i = .int .i64 j ∧ Hid (GrowA 151 w1 wr (.slice (some ⟨g,0,none⟩) l.length cap) (mixA j l))) (fun i _=>l.length - (intOf i).toNat)
  case atStart=>exact ⟨0,by omega,rfl,by rw [znI];exact HG2⟩
  case round=>
   obtain ⟨j,hj,rfl,HGR⟩:=hrel
   by_cases hlt : j < l.length
   ·obtain ⟨x,hx⟩ : ∃ x,l[j]? = some x:=⟨_,List.getElem?_eq_getElem hlt⟩
    have e1:=HGR.out.at0 (zls hx)
    have e2:=HGR.out.at1 (zls hx)
    have hox:=HO.out x (List.mem_of_getElem? hx)
    have hxs:=zdG hox
    have HST:=hid (zoU hx)
    have HMX:=hid (zls hx)
    have HNC : ∀ w,Gl w → Calls Tryz.prog 96 #[.string (str x.type),.string (str x.val)] w (zbQ w x.type x.val):=fun w hG=>by
     have h4 : (zas x.type).2 ≠ 4:=by
      unfold zbD at hox
      simp only [Bool.and_eq_true,Bool.or_eq_true,decide_eq_true_eq] at hox
      omega
     have:=zes (str x.type) (str x.val) w hG (by rw [zaI];omega) (by rw [zao];exact h4)
     rwa [zao,zao] at this
    have HNV:=hid (zlu hox).1
    unfold zbQ at HNC
    generalize zbP x.type x.val = q at *
    obtain ⟨nv,ne⟩:=q
    simp only at HNC HNV
    clear hx hox
    go_wp2_with (first
     | (go_at_call 96;(with_reducible refine (HNC _ (HG.out.ext (HX1.out.trans (HGR.out.ext.trans (Ext.alloc _ _))))).mono ?_);rintro e w3 ⟨rfl,hx3⟩;have HG4:=hid ((HGR.out.later (Ext.alloc _ _)).later hx3);have e3:=HG4.out.at1 HMX.out;have e4:=HG4.out.thaw (j * 2 + 1);clear hx3))
    refine ⟨⟨j + 1,by omega,by go_num,?_⟩,by simp [intOf];omega⟩
    have:=HG4.out.set1 HMX.out nv
    rw [← HST.out,← HNV.out]
    exact this
   ·obtain rfl : j = l.length:=by omega
    rw [zpf] at HGR
    obtain ⟨A',c',hv,hr⟩:=HGR.out.row
    injection hv with hv1 hv2 hv3
    subst hv1 hv3
    have HRR:=hid hr
    have HNL : Hid (l.length = (za6 l).length):=by show _ = _;simp [za6]
    clear hr hv2
    go_wp2
    go_ret2
    refine ⟨some ⟨g,0,none⟩,l.length,cap,by rw [HE.out];rfl,?_,HX1.out.trans HGR.out.ext⟩
    rw [HE.out,if_pos rfl,HNL.out]
    exact HRR.out.mono fun _ _ hs=>Nat.le_trans (zaG HX1.out) hs
theorem zk9 {S : Nat → Prop} {A : Option Addr} {n c : Nat} {l : List Ava} {w : World} (hG : Gl w) (h : Row Elem.ava S w A n c l) (hb : ∀ a ∈ l,a.type.length ≤ 4000000) :
 Calls Tryz.prog 88 #[.slice A n c] w (zh1 w l):=by
 have HG:=hid hG
 have HR:=hid h
 have HF:=hid (fun w' hx=>zeU (hG.ext hx) (h.ext hx) hb : ∀ w',Ext w w' → Calls Tryz.prog 116 #[.slice A n c] w' fun e w''=>e = .returned (.bool (zan l)) ∧ Ext w' w'')
 clear hG h hb
 cases hf : zan l with
 | false=>
  have HE : Hid (zan l = false):=hf
  rw [hf] at HF
  clear hf
  go_enter Tryz.func88,Tryz.ntmps88
  go_wp2_with (go_at_call 116;(with_reducible refine (HF.out _ (Ext.refl _)).mono ?_);rintro e w1 ⟨rfl,hx1⟩;have HX1:=hid hx1;clear hx1)
  go_ret2
  exact ⟨none,0,0,by rw [HE.out];rfl,by rw [HE.out];exact Row.nil _ _ _,HX1.out⟩
 | true=>
  have HE : Hid (zan l = true):=hf
  have HO:=hid (zcK hf)
  have hl3:=zdl hf
  have hn3 : n ≤ 3:=by rw [HR.out.len];exact hl3
  have HL3:=hid hl3
  rw [hf] at HF
  clear hf hl3
  go_enter Tryz.func88,Tryz.ntmps88
  go_wp2_with (first
   | (go_at_call 116;(with_reducible refine (HF.out _ (Ext.refl _)).mono ?_);rintro e w1 ⟨rfl,hx1⟩;have HX1:=hid hx1;clear hx1))
  go_loopw [4,13] (fun v i wr=>∃ (j : Nat),j ≤ n ∧ i = .int .i64 j ∧ Hid (GrowA 175 w1 wr v (za6 (l.take j)))) (fun _ i _=>n - (intOf i).toNat)
  case atStart=>exact ⟨0,by omega,rfl,GrowA.nil (Ext.refl _)⟩
  case round=>
   obtain ⟨j,hj,rfl,HGR⟩:=hrel
   by_cases hlt : j < n
   ·have hlt' : (j : Int) < (n : Int):=by omega
    obtain ⟨b,o,x,rfl,hx,e1,e2⟩:=zgb (HR.out.ext (HX1.out.trans HGR.out.ext)) hlt
    have hox:=HO.out x (List.mem_of_getElem? hx)
    have hxs:=zdG hox
    have HNC : ∀ w,Gl w → Calls Tryz.prog 83 #[.string (str x.type),.string (str x.val)] w (zb0 w x.type x.val):=fun w hG=>by
     have:=zg5 (str x.type) (str x.val) w hG (by rw [zaI];omega)
     rwa [zao,zao] at this
    have HNV:=hid (zlu hox).2
    have HST : Hid (za6 (l.take (j + 1)) = za6 (l.take j) ++ [⟨x.type,(zcl (zas x.type).2 x.val).getD []⟩]):=by show _ = _;unfold za6;rw [List.take_add_one,hx];simp
    unfold zb0 at HNC
    generalize zbU x.type x.val = q at *
    obtain ⟨nv,ne⟩:=q
    simp only at HNC HNV
    rw [← HNV.out] at HST
    clear hx hox HNV
    go_wp2
    refine zac (.read 0 (.read 1 (.read 2 (.read 3 (.read 4 (.read 5 (.read 6 (.read 7 (.read 8 (.read 9 (.main 10 (.read 11 (.read 12 (.read 13 (.read 14 (.read 15 .done)))))))))))))))) (by kernel_rfl) (by kernel_rfl) ?_
    intro wD hxD
    have XE : Hid (Ext wD wD):=Ext.refl _
    have HGD:=hid (HGR.out.later hxD)
    have p1:=zaa (zaa e1 _ hxD)
    have p2:=zaa (zaa e2 _ hxD)
    repeat' (first
     | ((first | refine zak rfl rfl ?_ | refine zad rfl rfl ?_ | refine zaj rfl rfl ?_);simp only [Act.put,Act.eval,evs])
     | (refine zab rfl rfl ?_;simp only [Act.put,evp])
     | (refine zag (v:=?_) rfl rfl (fun w' hE=>?_) ?_;rotate_left 1;(· ((try (have hEx:=Ext.trans (Hid.out XE) hE));go_simp;(try go_bits);with_reducible rfl));simp only [Act.put,evp])
     | (refine walks_alt ?_ ?_)
     | (refine zai rfl rfl (fun K hK=>?_);go_wp2_with ((go_at_call 83;(with_reducible refine (HNC _ (HG.out.ext (HX1.out.trans (HGD.out.ext.trans XE.out)))).mono ?_);rintro e w2 ⟨rfl,hx2⟩;have XE':=hid (Ext.trans (Hid.out XE) hx2);clear XE;have XE:=XE';clear XE'));refine hK _ _ (by first | assumption | exact Ext.alloc _ _ | exact Ext.refl _) ?_;clear hK K;try simp only [Act.put,evp]))
    refine zah ?_
    have q1:=p1 _ XE.out
    have HG2:=hid (HGD.out.later XE.out)
    clear p1 p2
    go_wp2_with (at_builtin;refine zbJ rfl _ _ rfl _ _ rfl (HG2.out.later (Ext.alloc _ _)) _ 1 1 [⟨x.type,nv⟩] rfl rfl (zgp _ ⟨x.type,nv⟩ _) (by have:=List.length_take_le j l;have:=HL3.out;simp [za6];omega) ?_;intro v' w5 hg5;have HG5:=hid hg5;clear hg5)
    refine ⟨⟨j + 1,by omega,by go_num,?_⟩,by simp [intOf];omega⟩
    rw [HST.out]
    exact HG5
   ·obtain rfl : j = n:=by omega
    have HT : Hid (za6 (l.take j) = za6 l):=by show _ = _;rw [List.take_of_length_le (Nat.le_of_eq HR.out.len.symm)]
    rw [HT.out] at HGR
    obtain ⟨A',c',rfl,hr⟩:=HGR.out.row
    have HRR:=hid hr
    clear hr
    go_wp2
    go_ret2
    refine ⟨_,_,c',by rw [HE.out];rfl,?_,HX1.out.trans HGR.out.ext⟩
    rw [HE.out,if_pos rfl]
    exact HRR.out.mono fun _ _ hs=>Nat.le_trans (zaG HX1.out) hs
end Go.Proofs.YtioglicfndkgiaaGreatDoor
