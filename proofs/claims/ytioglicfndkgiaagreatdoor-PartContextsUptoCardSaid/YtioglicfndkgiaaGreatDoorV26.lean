/- Lemmas of the walk. -/
import Derived.Test.YtioglicfndkgiaaGreatDoorV12
import Derived.Test.YtioglicfndkgiaaGreatDoorV23
import Derived.Test.YtioglicfndkgiaaGreatDoorV25
import Derived.Test.YtioglicfndkgiaaGreatDoorV13
import Derived.Test.YtioglicfndkgiaaGreatDoorV24
import Derived.Test.YtioglicfndkgiaaGreatDoorV09
set_option maxHeartbeats 40000000
set_option linter.unusedVariables false
set_option linter.unusedSimpArgs false
namespace Go.Proofs.YtioglicfndkgiaaGreatDoor
open Go.RowKit
set_option maxRecDepth 100000
theorem zlo (s : ByteArray) (w : World) (hG : Gu w) (hs : s.size ≤ 3000000) :
 Calls Tryz.prog 119 #[.int .i64 4,.string s] w fun e w'=>e = .returned (.tuple #[.string s,.bool (zaU (bys s)).isSome]) ∧ Ext w w':=by
 have hP:=zoP s w hG hs
 unfold zfr at hP
 rw [← zmY (bys s)] at hP
 clear hG hs
 cases hb : (zaU (bys s)).isSome
 all_goals
  rw [hb] at hP
  clear hb
  simp only [if_true,if_false,Bool.false_eq_true] at hP
  go_enter Tryz.func119,Tryz.ntmps119
  go_wp2_with (go_at_call 152;(with_reducible refine hP.mono ?_);rintro e w1 ⟨x,y,rfl,hx1⟩;have HX1:=hid hx1;clear hx1)
  go_ret2
  exact ⟨rfl,HX1.out⟩
theorem zlf {s : ByteArray} (h : ¬ 200 < s.size) : s.size ≤ 3000000:=by omega
theorem zlb (n s : ByteArray) (w : World) (hG : Gu w) (hn : n.size ≤ 4000000) : Calls Tryz.prog 96 #[.string n,.string s] w (zb0 w (bys n) (bys s)):=by
 by_cases h4 : (zas (bys n)).2 = 4
 ·have HG:=hid hG
  have HT : ∀ w,Calls Tryz.prog 61 #[.string n] w (zaV w (bys n)):=fun w=>zcX n w (by simp only [maxLen];omega)
  have HN : Hid (zbU (bys n) (bys s) = if bys s = [] ∨ 200 < (bys s).length then ([],2) else if (zaU (bys s)).isSome then (bys s,0) else ([],2)):=by show _ = _;unfold zbU;rw [if_pos h4]
  have HCD : Hid (zb0 w (bys n) (bys s) = fun e w'=>e = .returned (.tuple #[.string (str (zbU (bys n) (bys s)).1),.int .i64 (zbU (bys n) (bys s)).2]) ∧ Ext w w'):=rfl
  unfold zaV at HT
  generalize zbU (bys n) (bys s) = r at *
  generalize zas (bys n) = p at *
  obtain ⟨t,k⟩:=p
  have k4 : k = 4:=h4
  subst k4
  have k4:=True.intro
  simp only at HT
  clear h4 hG
  by_cases hz : s.size = 0
  ·have HE : Hid (r = ([],2)):=by show _ = _;rw [HN.out,if_pos (.inl (by rw [zbW hz];rfl))]
   have e1:=zdb hz
   have HS : ∀ w,Gu w → True:=fun _ _=>trivial
   clear hz
   clear k4 HN
   go_enter Tryz.func96,Tryz.ntmps96
   go_wp2_with (first
    | (go_at_call 61;(with_reducible refine (HT _).mono ?_);rintro e w1 ⟨rfl,hx1⟩;have HX1:=hid hx1;clear hx1)
    | (go_at_call 119;(with_reducible refine (HS _ (HG.out.ext HX1.out)).mono ?_);rintro e w2 ⟨rfl,hx2⟩;have HX2:=hid (HX1.out.trans hx2);clear hx2))
   go_ret2
   rw [HCD.out,HE.out]
   exact ⟨rfl,HX1.out⟩
  ·have e1:=zfa hz
   by_cases hl : 200 < s.size
   ·have HE : Hid (r = ([],2)):=by show _ = _;rw [HN.out,if_pos (.inr (by rw [zae];exact hl))]
    have e2 : 200 < (s.size : Int):=by omega
    have HS : ∀ w,Gu w → True:=fun _ _=>trivial
    clear hz hl
    clear k4 HN
    go_enter Tryz.func96,Tryz.ntmps96
    go_wp2_with (first
     | (go_at_call 61;(with_reducible refine (HT _).mono ?_);rintro e w1 ⟨rfl,hx1⟩;have HX1:=hid hx1;clear hx1)
     | (go_at_call 119;(with_reducible refine (HS _ (HG.out.ext HX1.out)).mono ?_);rintro e w2 ⟨rfl,hx2⟩;have HX2:=hid (HX1.out.trans hx2);clear hx2))
    go_ret2
    rw [HCD.out,HE.out]
    exact ⟨rfl,HX1.out⟩
   ·have e2 : decide (200 < (s.size : Int)) = false:=by rw [decide_eq_false_iff_not];omega
    have hbs : ¬ (bys s = [] ∨ 200 < (bys s).length):=by
     rw [zae]
     rintro (h | h)
     ·exact hz (by rw [← zae,h];rfl)
     ·exact hl h
    have HS : ∀ w,Gu w → Calls Tryz.prog 119 #[.int .i64 4,.string s] w fun e w'=>e = .returned (.tuple #[.string s,.bool (zaU (bys s)).isSome]) ∧ Ext w w':=fun w hG=>zlo s w hG (zlf hl)
    have HE : Hid (r = if (zaU (bys s)).isSome then (bys s,0) else ([],2)):=by show _ = _;rw [HN.out,if_neg hbs]
    clear hz hl hbs
    cases hb : (zaU (bys s)).isSome
    ·rw [hb] at HS HE
     clear hb
     simp only [if_false,Bool.false_eq_true] at HE
     clear k4 HN
     go_enter Tryz.func96,Tryz.ntmps96
     go_wp2_with (first
      | (go_at_call 61;(with_reducible refine (HT _).mono ?_);rintro e w1 ⟨rfl,hx1⟩;have HX1:=hid hx1;clear hx1)
      | (go_at_call 119;(with_reducible refine (HS _ (HG.out.ext HX1.out)).mono ?_);rintro e w2 ⟨rfl,hx2⟩;have HX2:=hid (HX1.out.trans hx2);clear hx2))
     go_ret2
     rw [HCD.out,HE.out]
     exact ⟨rfl,HX2.out⟩
    ·rw [hb] at HS HE
     clear hb
     simp only [if_true] at HE
     clear k4 HN
     go_enter Tryz.func96,Tryz.ntmps96
     go_wp2_with (first
      | (go_at_call 61;(with_reducible refine (HT _).mono ?_);rintro e w1 ⟨rfl,hx1⟩;have HX1:=hid hx1;clear hx1)
      | (go_at_call 119;(with_reducible refine (HS _ (HG.out.ext HX1.out)).mono ?_);rintro e w2 ⟨rfl,hx2⟩;have HX2:=hid (HX1.out.trans hx2);clear hx2))
     go_ret2
     rw [HCD.out,HE.out,zaK]
     exact ⟨rfl,HX2.out⟩
 ·refine (zes n s w hG.gl hn h4).mono fun e w' h=>?_
  have hz : zbU (bys n) (bys s) = zbP (bys n) (bys s):=by unfold zbU;rw [if_neg h4]
  unfold zb0
  rw [hz]
  exact h
theorem zpU {s : List UInt8} {l : List (List UInt8)} (h : zaf s = .ok l) (hs : s ≠ []) : l ≠ []:=by
 unfold zaf at h
 by_cases h1 : 1000 < s.length
 ·rw [if_pos h1] at h;cases h
 rw [if_neg h1,if_neg hs] at h
 by_cases h3 : 12 < (splitF 44 [] s).length
 ·rw [if_pos h3] at h;cases h
 rw [if_neg h3] at h
 cases hm : (splitF 44 [] s).mapM zbf with
 | none=>rw [hm] at h;cases h
 | some k=>
  rw [hm] at h
  simp only at h
  by_cases h4 : 1000 < (zaW (k.map fun p=>zbY (za6 p))).length
  ·rw [if_pos h4] at h;cases h
  rw [if_neg h4] at h
  injection h with h
  obtain ⟨hk1,hk2⟩:=zgo hm
  have hlen:=(zbu 44 s.length [] s (Nat.le_refl _)).2.1
  rintro rfl
  have:=congrArg List.length h
  simp at this
  rw [this] at hk2
  simp at hk2
  omega
theorem znC {s : List UInt8} (hs : s ≠ []) (hc : zaD (zaf s) = 0) : za2 s ≠ []:=by
 unfold za2
 cases hp : zaf s with
 | error e=>rw [hp] at hc;cases e <;> cases hc
 | ok l=>
  show zaW l ≠ []
  intro e
  have h1:=zkN hp
  rw [e] at h1
  have h2 : zaf [] = .ok []:=rfl
  rw [h2] at h1
  injection h1 with h1
  exact zpU hp hs h1.symm
theorem zif : za2 [] = [] ∧ zaD (zaf []) = 0:=⟨rfl,rfl⟩
theorem zc1 (n s : ByteArray) (w : World) (hG : Gu w) (hn : n.size ≤ 4000000) : Calls Tryz.prog 67 #[.string n,.string s] w (zcp w (bys n) (bys s)):=by
 have HG:=hid hG
 have HT : ∀ w,Calls Tryz.prog 61 #[.string n] w (zaV w (bys n)):=fun w=>zcX n w (by simp only [maxLen];omega)
 have HN : ∀ w,Gu w → Calls Tryz.prog 96 #[.string n,.string s] w (zb0 w (bys n) (bys s)):=fun w hG=>zlb n s w hG hn
 have HM : ∀ w,Gl w → Calls Tryz.prog 25 #[.string s] w (zbz w (bys s)):=fun w hG=>zc2 s w hG
 have HD : Hid (valZ (bys n) (bys s) = if (zas (bys n)).2 ≠ 5 then zbU (bys n) (bys s) else if bys s = [] ∨ 200 < (bys s).length then ([],2) else if zaD (zaf (bys s)) ≠ 0 then ([],2) else (za2 (bys s),0)):=rfl
 have HCD : Hid (zcp w (bys n) (bys s) = fun e w'=>e = .returned (.tuple #[.string (str (valZ (bys n) (bys s)).1),.int .i64 (valZ (bys n) (bys s)).2]) ∧ Ext w w'):=rfl
 have HNE:=hid (@znC (bys s))
 unfold zaV at HT
 unfold zb0 at HN
 unfold zbz at HM
 clear hG
 generalize valZ (bys n) (bys s) = r at *
 generalize zas (bys n) = p at *
 obtain ⟨t,k⟩:=p
 generalize zbU (bys n) (bys s) = q at *
 obtain ⟨q1,q2⟩:=q
 simp only at HT HD HN
 by_cases h5 : k = 5
 ·have t5 : ((k : Int) != 5) = false:=by rw [h5];rfl
  rw [if_neg (fun h=>h h5)] at HD
  by_cases hz : s.size = 0
  ·have HE : Hid (r = ([],2)):=by show _ = _;rw [HD.out,if_pos (.inl (by rw [zbW hz];rfl))]
   have hs : bys s = []:=by rw [zbW hz];rfl
   rw [hs,zif.1,zif.2] at HM
   have e0 : (str []).toList.isEmpty = true:=by rw [ByteArray.toList_eq];rfl
   have e1 : decide ((200 : Int) < (s.size : Int)) = false:=by rw [decide_eq_false_iff_not];omega
   clear h5 hz HD HNE
   go_enter Tryz.func67,Tryz.ntmps67
   go_wp2_with (first
    | (go_at_call 61;(with_reducible refine (HT _).mono ?_);rintro e w1 ⟨rfl,hx1⟩;have HX:=hid hx1;clear hx1)
    | (go_at_call 96;(with_reducible refine (HN _ (HG.out.ext HX.out)).mono ?_);rintro e w2 ⟨rfl,hx2⟩;have HX':=hid (HX.out.trans hx2);clear HX hx2;have HX:=HX';clear HX')
    | (go_at_call 25;(with_reducible refine (HM _ (HG.out.gl.ext HX.out)).mono ?_);rintro e w2 ⟨rfl,hx2⟩;have HX':=hid (HX.out.trans hx2);clear HX hx2;have HX:=HX';clear HX'))
   go_ret2
   rw [HCD.out,HE.out]
   first | exact ⟨rfl,HX.out⟩ | exact ⟨by rw [show str (m,(0 : Int)).1 = ms from HMS.out];rfl,HX.out⟩
  ·have hne : bys s ≠ []:=by intro h;exact hz (by rw [← zae,h];rfl)
   by_cases hc : zaD (zaf (bys s)) = 0
   ·have hnn:=HNE.out hne hc
    rw [hc] at HM HD
    generalize za2 (bys s) = m at *
    obtain ⟨ms,hms⟩ : ∃ ms,str m = ms:=⟨_,rfl⟩
    have e0 : ms.toList.isEmpty = false:=zlY (by rw [← hms,zaI];exact List.length_pos_iff.2 hnn)
    rw [hms] at HM
    have HMS:=hid hms
    clear hms
    by_cases hl : 200 < s.size
    ·have HE : Hid (r = ([],2)):=by show _ = _;rw [HD.out,if_pos (.inr (by rw [zae];exact hl))]
     have e2 : 200 < (s.size : Int):=by omega
     clear h5 hz hl HD hnn hne hc HNE
     go_enter Tryz.func67,Tryz.ntmps67
     go_wp2_with (first
      | (go_at_call 61;(with_reducible refine (HT _).mono ?_);rintro e w1 ⟨rfl,hx1⟩;have HX:=hid hx1;clear hx1)
      | (go_at_call 96;(with_reducible refine (HN _ (HG.out.ext HX.out)).mono ?_);rintro e w2 ⟨rfl,hx2⟩;have HX':=hid (HX.out.trans hx2);clear HX hx2;have HX:=HX';clear HX')
      | (go_at_call 25;(with_reducible refine (HM _ (HG.out.gl.ext HX.out)).mono ?_);rintro e w2 ⟨rfl,hx2⟩;have HX':=hid (HX.out.trans hx2);clear HX hx2;have HX:=HX';clear HX'))
     go_ret2
     rw [HCD.out,HE.out]
     first | exact ⟨rfl,HX.out⟩ | exact ⟨by rw [show str (m,(0 : Int)).1 = ms from HMS.out];rfl,HX.out⟩
    ·have e2 : decide (200 < (s.size : Int)) = false:=by rw [decide_eq_false_iff_not];omega
     have hbs : ¬ (bys s = [] ∨ 200 < (bys s).length):=by
      rw [zae]
      rintro (h | h)
      ·exact hne h
      ·exact hl h
     have HE : Hid (r = (m,0)):=by show _ = _;rw [HD.out,if_neg hbs,if_neg (fun h=>h rfl)]
     clear h5 hz hl HD hnn hne hc HNE hbs
     go_enter Tryz.func67,Tryz.ntmps67
     go_wp2_with (first
      | (go_at_call 61;(with_reducible refine (HT _).mono ?_);rintro e w1 ⟨rfl,hx1⟩;have HX:=hid hx1;clear hx1)
      | (go_at_call 96;(with_reducible refine (HN _ (HG.out.ext HX.out)).mono ?_);rintro e w2 ⟨rfl,hx2⟩;have HX':=hid (HX.out.trans hx2);clear HX hx2;have HX:=HX';clear HX')
      | (go_at_call 25;(with_reducible refine (HM _ (HG.out.gl.ext HX.out)).mono ?_);rintro e w2 ⟨rfl,hx2⟩;have HX':=hid (HX.out.trans hx2);clear HX hx2;have HX:=HX';clear HX'))
     go_ret2
     rw [HCD.out,HE.out]
     first | exact ⟨rfl,HX.out⟩ | exact ⟨by rw [show str (m,(0 : Int)).1 = ms from HMS.out];rfl,HX.out⟩
   ·have e3 : (zaD (zaf (bys s)) != 0) = true:=by rw [bne_iff_ne];exact hc
    have HE : Hid (r = ([],2)):=by
     show _ = _
     rw [HD.out]
     by_cases hb : bys s = [] ∨ 200 < (bys s).length
     ·rw [if_pos hb]
     ·rw [if_neg hb,if_pos hc]
    generalize zaD (zaf (bys s)) = cd at *
    generalize za2 (bys s) = m at *
    clear h5 hz HD hne hc HNE
    go_enter Tryz.func67,Tryz.ntmps67
    go_wp2_with (first
     | (go_at_call 61;(with_reducible refine (HT _).mono ?_);rintro e w1 ⟨rfl,hx1⟩;have HX:=hid hx1;clear hx1)
     | (go_at_call 96;(with_reducible refine (HN _ (HG.out.ext HX.out)).mono ?_);rintro e w2 ⟨rfl,hx2⟩;have HX':=hid (HX.out.trans hx2);clear HX hx2;have HX:=HX';clear HX')
     | (go_at_call 25;(with_reducible refine (HM _ (HG.out.gl.ext HX.out)).mono ?_);rintro e w2 ⟨rfl,hx2⟩;have HX':=hid (HX.out.trans hx2);clear HX hx2;have HX:=HX';clear HX'))
    go_ret2
    rw [HCD.out,HE.out]
    first | exact ⟨rfl,HX.out⟩ | exact ⟨by rw [show str (m,(0 : Int)).1 = ms from HMS.out];rfl,HX.out⟩
 ·have t5 : ((k : Int) != 5) = true:=by rw [bne_iff_ne];omega
  have HE : Hid (r = (q1,q2)):=by show _ = _;rw [HD.out,if_pos h5]
  clear h5 HD HNE HM
  have HM : ∀ w,Gl w → True:=fun _ _=>trivial
  go_enter Tryz.func67,Tryz.ntmps67
  go_wp2_with (first
   | (go_at_call 61;(with_reducible refine (HT _).mono ?_);rintro e w1 ⟨rfl,hx1⟩;have HX:=hid hx1;clear hx1)
   | (go_at_call 96;(with_reducible refine (HN _ (HG.out.ext HX.out)).mono ?_);rintro e w2 ⟨rfl,hx2⟩;have HX':=hid (HX.out.trans hx2);clear HX hx2;have HX:=HX';clear HX')
   | (go_at_call 25;(with_reducible refine (HM _ (HG.out.gl.ext HX.out)).mono ?_);rintro e w2 ⟨rfl,hx2⟩;have HX':=hid (HX.out.trans hx2);clear HX hx2;have HX:=HX';clear HX'))
  go_ret2
  rw [HCD.out,HE.out]
  first | exact ⟨rfl,HX.out⟩ | exact ⟨by rw [show str (m,(0 : Int)).1 = ms from HMS.out];rfl,HX.out⟩
def Idx {α : Type} (P : α → Bool) (l : List α) (r : Int) : Prop:=(r = -1 ∧ l.any P = false) ∨ ∃ k : Nat,r = k ∧ (l.take k).any P = false ∧ ∃ x,l[k]? = some x ∧ P x = true
def zpr (n v : List UInt8) (x : ByteArray) : Bool:=(valZ n v).2 == 0 && zge n (valZ n v).1 (bys x)
theorem zqZ {α : Type} (a : Bool) (p : α → Bool) (l : List α) : (l.any fun x=>a && p x) = (a && l.any p):=by
 induction l with
 | nil=>simp
 | cons x t ih=>simp only [List.any_cons,ih];cases a <;> rfl
theorem ziq (n v : List UInt8) (l : List ByteArray) : l.any (zpr n v) = hasZ n v l:=zqZ _ _ l
theorem Idx.has {α : Type} {P : α → Bool} {l : List α} {r : Int} (h : Idx P l r) : decide (0 ≤ r) = l.any P:=by
 rcases h with ⟨rfl,h⟩ | ⟨k,rfl,-,x,hx,hp⟩
 ·rw [h];rfl
 ·rw [zll hx hp];exact decide_eq_true (by omega)
theorem zmg (n m x : ByteArray) (g1 g2 : Nat) (w : World) (hG : Gu w) (hn : n.size ≤ 4000000) 
 (hc1 : w.cell? ⟨g1,0,none⟩ = some (.string n)) (hc2 : w.cell? ⟨g2,0,none⟩ = some (.string m)) :
 Calls Tryz.prog 82 #[.string x,.pointer (some ⟨g1,0,none⟩),.pointer (some ⟨g2,0,none⟩)] w fun e w'=>e = .returned (.bool (zge (bys n) (bys m) (bys x))) ∧ Ext w w':=by
 have HG:=hid hG
 have HV : ∀ w,Gu w → Calls Tryz.prog 67 #[.string n,.string x] w (zcp w (bys n) (bys x)):=fun w hG=>zc1 n x w hG hn
 unfold zcp at HV
 have HLD : Hid (zge (bys n) (bys m) (bys x) = ((valZ (bys n) (bys x)).2 == 0 && decide ((valZ (bys n) (bys x)).1 = bys m))):=rfl
 have HC2:=hid hc2
 clear hG hn hc2
 generalize zge (bys n) (bys m) (bys x) = r at *
 generalize valZ (bys n) (bys x) = q at *
 obtain ⟨q1,q2⟩:=q
 simp only at HV HLD
 have k1 : (q2 == 0) = true ∨ (q2 == 0) = false:=by cases q2 == 0 <;> simp
 have k2 : ((str q1).toList == m.toList) = true ∧ Hid (decide (q1 = bys m) = true) ∨ ((str q1).toList == m.toList) = false ∧ Hid (decide (q1 = bys m) = false):=by
  by_cases h : str q1 = m
  ·exact .inl ⟨ze4 h,decide_eq_true (by rw [← h,zao])⟩
  ·exact .inr ⟨zey h,decide_eq_false (fun e=>h (by rw [e,zlw]))⟩
 rcases k1 with k1 | k1 <;> rcases k2 with ⟨k2,HK2⟩ | ⟨k2,HK2⟩
 all_goals
  rw [k1,HK2.out] at HLD
  generalize str q1 = qs at *
  go_enter Tryz.func82,Tryz.ntmps82
  go_wp2_with (go_at_call 67;(with_reducible refine (HV _ HG.out).mono ?_);rintro e w1 ⟨rfl,hx1⟩;have HX1:=hid hx1;have hc3:=zaa HC2.out _ hx1;clear hx1)
  go_ret
  exact ⟨by rw [HLD.out];rfl,HX1.out⟩
theorem zhI {S : Nat → Prop} {A : Option Addr} {n c : Nat} {l : List ByteArray} {w : World} (h : Row Elem.str S w A n c l) (nm m : ByteArray) (g1 g2 : Nat) (hG : Gu w) (hn : nm.size ≤ 4000000) 
 (hc1 : w.cell? ⟨g1,0,none⟩ = some (.string nm)) (hc2 : w.cell? ⟨g2,0,none⟩ = some (.string m)) :
 Calls Tryz.prog 68 #[.slice A n c,.func (.func 82) #[] #[.pointer (some ⟨g1,0,none⟩),.pointer (some ⟨g2,0,none⟩)]] w fun e w'=>
  ∃ r : Int,e = .returned (.int .i64 r) ∧ Idx (fun x=>zge (bys nm) (bys m) (bys x)) l r ∧ Ext w w':=by
 have hl:=hid h.len
 have hnl : n ≤ 9223372036854775807:=by have:=h.cap;have:=h.most;simp only [maxLen] at this;omega
 have HC : ∀ x wr,Ext w wr → Calls Tryz.prog 82 #[.string x,.pointer (some ⟨g1,0,none⟩),.pointer (some ⟨g2,0,none⟩)] wr fun e w'=>e = .returned (.bool (zge (bys nm) (bys m) (bys x))) ∧ Ext wr w':=
  fun x wr hx=>zmg nm m x g1 g2 wr (hG.ext hx) hn (zaa hc1 _ hx) (zaa hc2 _ hx)
 clear hG hn hc1 hc2
 generalize hP : (fun x : ByteArray=>zge (bys nm) (bys m) (bys x)) = P at *
 have HC2 : ∀ x wr,Ext w wr → Calls Tryz.prog 82 #[.string x,.pointer (some ⟨g1,0,none⟩),.pointer (some ⟨g2,0,none⟩)] wr fun e w'=>e = .returned (.bool (P x)) ∧ Ext wr w':=fun x wr hx=>by rw [← hP];exact HC x wr hx
 clear hP HC
 go_enter Tryz.func68,Tryz.ntmps68
 go_wp2
 go_loopw [8] (fun i wr=>∃ j : Nat,j ≤ n ∧ i = .int .i64 j ∧ Hid ((l.take j).any P = false) ∧ Hid (Ext w wr)) (fun i _=>n - (intOf i).toNat)
 case atStart=>exact ⟨0,by omega,rfl,by simp [Hid],Ext.refl w⟩
 case round=>
  obtain ⟨j,hj,rfl,Htk,hx⟩:=hrel
  by_cases hlt : j < n
  ·obtain ⟨b1,o1,rfl,c1⟩:=(h.ext hx.out).str_cell (by omega)
   have e1:=c1 j hlt
   clear c1
   have g1 : l[j]? = some (l[j]?.getD ByteArray.empty):=by have:=hl.out;rw [List.getElem?_eq_getElem (by omega)];simp
   have Hg:=hid g1
   clear g1
   generalize l[j]?.getD ByteArray.empty = x1 at *
   cases hp : P x1
   ·have Hp:=hid hp
    clear hp
    go_wp2_with (go_at_call 82;(with_reducible refine (HC2 _ _ hx.out).mono ?_);rintro e w1 ⟨he,hx1⟩;rw [Hp.out] at he;subst he;have HX1:=hid hx1;clear hx1)
    exact ⟨⟨j + 1,by omega,by go_num,zd3 Htk.out Hg.out Hp.out,hx.out.trans HX1.out⟩,by simp [intOf];omega⟩
   ·have Hp:=hid hp
    clear hp
    go_wp2_with (go_at_call 82;(with_reducible refine (HC2 _ _ hx.out).mono ?_);rintro e w1 ⟨he,hx1⟩;rw [Hp.out] at he;subst he;have HX1:=hid hx1;clear hx1)
    go_ret
    exact ⟨_,rfl,.inr ⟨j,rfl,Htk.out,_,Hg.out,Hp.out⟩,hx.out.trans HX1.out⟩
  ·obtain rfl : j = n:=by omega
   go_wp2
   go_ret
   have h9:=Htk.out
   rw [List.take_of_length_le (Nat.le_of_eq hl.out.symm)] at h9
   exact ⟨_,rfl,.inl ⟨rfl,h9⟩,hx.out⟩
theorem zgY {S : Nat → Prop} {A : Option Addr} {n c : Nat} {l : List ByteArray} {w : World} (h : Row Elem.str S w A n c l) (nm v : ByteArray) (hG : Gu w) (hn : nm.size ≤ 4000000)  :
 Calls Tryz.prog 52 #[.string nm,.slice A n c,.string v] w fun e w'=>∃ r : Int,e = .returned (.int .i64 r) ∧ Idx (zpr (bys nm) (bys v)) l r ∧ Ext w w':=by
 have HG:=hid hG
 have HR:=hid h
 have HV : ∀ w,Gu w → Calls Tryz.prog 67 #[.string nm,.string v] w (zcp w (bys nm) (bys v)):=fun w hG=>zc1 nm v w hG hn
 unfold zcp at HV
 have HI : ∀ (m : ByteArray) g1 g2 w1,Ext w w1 → w1.cell? ⟨g1,0,none⟩ = some (.string nm) → w1.cell? ⟨g2,0,none⟩ = some (.string m) →
  Calls Tryz.prog 68 #[.slice A n c,.func (.func 82) #[] #[.pointer (some ⟨g1,0,none⟩),.pointer (some ⟨g2,0,none⟩)]] w1 fun e w'=>
  ∃ r : Int,e = .returned (.int .i64 r) ∧ Idx (fun x=>zge (bys nm) (bys m) (bys x)) l r ∧ Ext w1 w':=fun m g1 g2 w1 hx a b=>zhI (h.ext hx) nm m g1 g2 (hG.ext hx) hn a b
 have HHD : Hid (zpr (bys nm) (bys v) = fun x=>((valZ (bys nm) (bys v)).2 == 0 && zge (bys nm) (valZ (bys nm) (bys v)).1 (bys x))):=rfl
 have hmf : ∀ (fn : Fn) (first cap : Array Value) (w : World),(Instr.makeFunc fn first cap).run Tryz.prog w = .ok (.func fn first cap) w:=fun _ _ _ _=>rfl
 clear hG h hn
 generalize zpr (bys nm) (bys v) = P at *
 generalize valZ (bys nm) (bys v) = q at *
 obtain ⟨q1,q2⟩:=q
 simp only at HV HHD
 have HQ : Hid (P = fun x=>(q2 == 0) && zge (bys nm) (bys (str q1)) (bys x)):=by show _ = _;rw [zao];exact HHD.out
 clear HHD
 have HHD:=HQ
 clear HQ
 generalize str q1 = qs at *
 by_cases k1 : q2 = 0
 ·subst k1
  have HF : Hid (P = fun x=>zge (bys nm) (bys qs) (bys x)):=by show _ = _;rw [HHD.out];rfl
  clear HHD
  go_enter Tryz.func52,Tryz.ntmps52
  go_wp2_with (first
   | (go_at_call 67;(with_reducible refine (HV _ (HG.out.ext (Ext.alloc _ _))).mono ?_);rintro e w1 ⟨rfl,hx1⟩;have HX1:=hid hx1;clear hx1;have HXA:=hid ((Ext.trans (Ext.alloc _ _) HX1.out).trans (Ext.alloc w1 (.cells #[.string qs] 9)));have HCA:=hid ((((Bx.make (Ext.refl w) #[.string nm] 9).later HX1.out).later (Ext.alloc w1 (.cells #[.string qs] 9))).cell (i:=0) rfl);have HCB:=hid ((Bx.make (Ext.refl w1) #[.string qs] 9).cell (i:=0) rfl))
   | (go_at_call 68;(with_reducible refine (HI qs _ _ _ HXA.out HCA.out HCB.out).mono ?_);rintro e w2 ⟨r1,rfl,hr,hx2⟩;have HX2:=hid hx2;have HRR:=hid hr;clear hx2 hr))
  go_ret
  exact ⟨_,rfl,by rw [HF.out];exact HRR.out,((Ext.trans (Ext.alloc _ _) HX1.out).trans (Ext.alloc _ _)).trans HX2.out⟩
 ·have k2 : (q2 != 0) = true:=by rw [bne_iff_ne];exact k1
  have HF : Hid (P = fun x=>false):=by show _ = _;rw [HHD.out,show (q2 == 0) = false from beq_eq_false_iff_ne.2 k1];rfl
  clear HHD k1
  go_enter Tryz.func52,Tryz.ntmps52
  go_wp2_with (first
   | (go_at_call 67;(with_reducible refine (HV _ (HG.out.ext (Ext.alloc _ _))).mono ?_);rintro e w1 ⟨rfl,hx1⟩;have HX1:=hid hx1;clear hx1))
  go_ret
  exact ⟨-1,rfl,.inl ⟨rfl,by rw [HF.out];simp⟩,(Ext.trans (Ext.alloc _ _) HX1.out).trans (Ext.alloc _ _)⟩
theorem zoC {S : Nat → Prop} {A : Option Addr} {n c : Nat} {l : List Att} {w : World} (h : Row Elem.att S w A n c l) (nm dn v : ByteArray) (hG : Gu w) (hn : nm.size ≤ 4000000)  (hv : ∀ a ∈ l,a.vals.length ≤ 8796093022208) :
 Calls Tryz.prog 26 #[.agg #[.string dn,.slice A n c],.string nm,.string v] w fun e w'=>e = .returned (.bool (hasZ (bys nm) (bys v) (zbv (bys nm) l))) ∧ Ext w w':=by
 have HV : ∀ w',Ext w w' → Calls Tryz.prog 53 #[.agg #[.string dn,.slice A n c],.string nm] w' (zcx w' (bys nm) l):=fun w' hx=>zet (h.ext hx) nm dn hn hv
 unfold zcx at HV
 have HF : ∀ (T : Nat → Prop) B m d w',Ext w w' → Row Elem.str T w' B m d (zbv (bys nm) l) → Calls Tryz.prog 52 #[.string nm,.slice B m d,.string v] w' fun e w''=>∃ r : Int,e = .returned (.int .i64 r) ∧ decide (0 ≤ r) = hasZ (bys nm) (bys v) (zbv (bys nm) l) ∧ Ext w' w'':=
  fun T B m d w' hx hr=>(zgY hr nm v (hG.ext hx) hn).mono fun e w2 ⟨r,h1,h2,h3⟩=>⟨r,h1,by rw [h2.has,ziq],h3⟩
 clear hG hn hv h
 generalize hasZ (bys nm) (bys v) (zbv (bys nm) l) = r at *
 generalize zbv (bys nm) l = q at *
 go_enter Tryz.func26,Tryz.ntmps26
 go_wp2_with (first
  | (go_at_call 53;(with_reducible refine (HV _ (Ext.alloc _ _)).mono ?_);rintro e w1 ⟨A1,n1,c1,rfl,hr1,hx1⟩;have HR1:=hid hr1;have HX1:=hid (Ext.trans (Ext.alloc _ _) hx1);clear hr1 hx1)
  | (go_at_call 52;(with_reducible refine (HF _ _ _ _ _ HX1.out HR1.out).mono ?_);rintro e w2 ⟨r1,rfl,hr,hx2⟩;have HRR:=hid hr;have HX2:=hid hx2;clear hr hx2))
 go_ret
 exact ⟨by rw [← HRR.out];rfl,HX1.out.trans HX2.out⟩
def badX (n : List UInt8) (x : ByteArray) : Bool:=(valZ n (bys x)).2 != 0
def badV (n : List UInt8) (l : List ByteArray) : Bool:=l.any (badX n)
theorem zmQ (n x : ByteArray) (g1 : Nat) (w : World) (hG : Gu w) (hn : n.size ≤ 4000000) (hc1 : w.cell? ⟨g1,0,none⟩ = some (.string n)) :
 Calls Tryz.prog 92 #[.string x,.pointer (some ⟨g1,0,none⟩)] w fun e w'=>e = .returned (.bool (badX (bys n) x)) ∧ Ext w w':=by
 have HV : Calls Tryz.prog 67 #[.string n,.string x] w (zcp w (bys n) (bys x)):=zc1 n x w hG hn
 unfold zcp at HV
 have HLD : Hid (badX (bys n) x = ((valZ (bys n) (bys x)).2 != 0)):=rfl
 clear hG hn
 generalize badX (bys n) x = r at *
 generalize valZ (bys n) (bys x) = q at *
 obtain ⟨q1,q2⟩:=q
 simp only at HV HLD
 go_enter Tryz.func92,Tryz.ntmps92
 go_wp2_with (go_at_call 67;(with_reducible refine HV.mono ?_);rintro e w1 ⟨rfl,hx1⟩;have HX1:=hid hx1;clear hx1)
 go_ret
 exact ⟨by rw [HLD.out];rfl,HX1.out⟩
theorem zhG {S : Nat → Prop} {A : Option Addr} {n c : Nat} {l : List ByteArray} {w : World} (h : Row Elem.str S w A n c l) (nm : ByteArray) (g1 : Nat) (hG : Gu w) (hn : nm.size ≤ 4000000)
 (hc1 : w.cell? ⟨g1,0,none⟩ = some (.string nm)) :
 Calls Tryz.prog 68 #[.slice A n c,.func (.func 92) #[] #[.pointer (some ⟨g1,0,none⟩)]] w fun e w'=>
  ∃ r : Int,e = .returned (.int .i64 r) ∧ Idx (badX (bys nm)) l r ∧ Ext w w':=by
 have hl:=hid h.len
 have hnl : n ≤ 9223372036854775807:=by have:=h.cap;have:=h.most;simp only [maxLen] at this;omega
 have HC2 : ∀ x wr,Ext w wr → Calls Tryz.prog 92 #[.string x,.pointer (some ⟨g1,0,none⟩)] wr fun e w'=>e = .returned (.bool (badX (bys nm) x)) ∧ Ext wr w':=
  fun x wr hx=>zmQ nm x g1 wr (hG.ext hx) hn (zaa hc1 _ hx)
 clear hG hn hc1
 generalize badX (bys nm) = P at *
 go_enter Tryz.func68,Tryz.ntmps68
 go_wp2
 go_loopw [8] (fun i wr=>∃ j : Nat,j ≤ n ∧ i = .int .i64 j ∧ Hid ((l.take j).any P = false) ∧ Hid (Ext w wr)) (fun i _=>n - (intOf i).toNat)
 case atStart=>exact ⟨0,by omega,rfl,by simp [Hid],Ext.refl w⟩
 case round=>
  obtain ⟨j,hj,rfl,Htk,hx⟩:=hrel
  by_cases hlt : j < n
  ·obtain ⟨b1,o1,rfl,c1⟩:=(h.ext hx.out).str_cell (by omega)
   have e1:=c1 j hlt
   clear c1
   have g1 : l[j]? = some (l[j]?.getD ByteArray.empty):=by have:=hl.out;rw [List.getElem?_eq_getElem (by omega)];simp
   have Hg:=hid g1
   clear g1
   generalize l[j]?.getD ByteArray.empty = x1 at *
   cases hp : P x1
   ·have Hp:=hid hp
    clear hp
    go_wp2_with (go_at_call 92;(with_reducible refine (HC2 _ _ hx.out).mono ?_);rintro e w1 ⟨he,hx1⟩;rw [Hp.out] at he;subst he;have HX1:=hid hx1;clear hx1)
    exact ⟨⟨j + 1,by omega,by go_num,zd3 Htk.out Hg.out Hp.out,hx.out.trans HX1.out⟩,by simp [intOf];omega⟩
   ·have Hp:=hid hp
    clear hp
    go_wp2_with (go_at_call 92;(with_reducible refine (HC2 _ _ hx.out).mono ?_);rintro e w1 ⟨he,hx1⟩;rw [Hp.out] at he;subst he;have HX1:=hid hx1;clear hx1)
    go_ret
    exact ⟨_,rfl,.inr ⟨j,rfl,Htk.out,_,Hg.out,Hp.out⟩,hx.out.trans HX1.out⟩
  ·obtain rfl : j = n:=by omega
   go_wp2
   go_ret
   have h9:=Htk.out
   rw [List.take_of_length_le (Nat.le_of_eq hl.out.symm)] at h9
   exact ⟨_,rfl,.inl ⟨rfl,h9⟩,hx.out⟩
theorem znw {S : Nat → Prop} {A : Option Addr} {n c : Nat} {l : List ByteArray} {w : World} (h : Row Elem.str S w A n c l) (nm : ByteArray) (hG : Gu w) (hn : nm.size ≤ 4000000) :
 Calls Tryz.prog 62 #[.string nm,.slice A n c] w fun e w'=>e = .returned (.bool (badV (bys nm) l)) ∧ Ext w w':=by
 have HB0:=hid (Bx.make (Ext.refl w) #[.string nm] 9)
 have HI:=zhG (h.ext HB0.out.ext) nm w.heap.size (hG.ext HB0.out.ext) hn (HB0.out.cell (i:=0) rfl)
 have hmf : ∀ (fn : Fn) (first cap : Array Value) (w : World),(Instr.makeFunc fn first cap).run Tryz.prog w = .ok (.func fn first cap) w:=fun _ _ _ _=>rfl
 have HC : Calls Tryz.prog 42 #[.slice A n c,.func (.func 92) #[] #[.pointer (some ⟨w.heap.size,0,none⟩)]] (w.alloc (.cells #[.string nm] 9)) fun e w'=>e = .returned (.bool (badV (bys nm) l)) ∧ Ext (w.alloc (.cells #[.string nm] 9)) w':=by
  clear HB0 h hG hn hmf
  have HD : Hid (badV (bys nm) l = l.any (badX (bys nm))):=rfl
  generalize badV (bys nm) l = r at *
  generalize badX (bys nm) = P at *
  go_enter Tryz.func42,Tryz.ntmps42
  go_wp2_with (go_at_call 68;(with_reducible refine HI.mono ?_);rintro e w1 ⟨r1,rfl,hr,hx1⟩;have HRR:=hid hr.has;have HX1:=hid hx1;clear hr hx1)
  go_ret
  exact ⟨by rw [HD.out,← HRR.out];rfl,HX1.out⟩
 clear HI h hG hn
 generalize badV (bys nm) l = r at *
 go_enter Tryz.func62,Tryz.ntmps62
 go_wp2_with (go_at_call 42;(with_reducible refine HC.mono ?_);rintro e w2 ⟨rfl,hx2⟩;have HX2:=hid hx2;clear hx2)
 go_ret
 exact ⟨rfl,HB0.out.ext.trans HX2.out⟩
def zdw (n : List UInt8) (l : List ByteArray) : Nat → Bool
 | 0=>false
 | k + 1=>zdw n l k || hasZ n (bys (l[k]?.getD ByteArray.empty)) (l.take k)
def zf6 (n : List UInt8) (l : List ByteArray) : Bool:=zdw n l l.length
theorem zlW {n : List UInt8} {l : List ByteArray} {k : Nat} : ∀ m,k ≤ m → zdw n l k = true → zdw n l m = true
 | 0,h,e=>by (obtain rfl : k = 0:=(by omega));exact e
 | m + 1,h,e=>by
  rcases Nat.lt_or_ge m k with h1 | h1
  ·obtain rfl : k = m + 1:=by omega
   exact e
  ·rw [zdw,zlW m h1 e];rfl
theorem zh3 {n : List UInt8} {l : List ByteArray} {k : Nat} {x : ByteArray} {b : Bool} (h : zdw n l k = false) (hx : l[k]? = some x) (hb : hasZ n (bys x) (l.take k) = b) : zdw n l (k + 1) = b:=by
 rw [zdw,h,hx]
 exact hb
theorem zoH {S : Nat → Prop} {A : Option Addr} {n c : Nat} {l : List ByteArray} {w : World} (h : Row Elem.str S w A n c l) (nm : ByteArray) (hG : Gu w) (hn : nm.size ≤ 4000000) :
 Calls Tryz.prog 63 #[.string nm,.slice A n c] w fun e w'=>e = .returned (.bool (zf6 (bys nm) l)) ∧ Ext w w':=by
 have HG:=hid hG
 have HR:=hid h
 have hl:=hid h.len
 have hcap:=h.cap
 have hnl : n ≤ 9223372036854775807:=by have:=h.cap;have:=h.most;simp only [maxLen] at this;omega
 have HN:=hid hn
 clear hG h hn
 go_enter Tryz.func63,Tryz.ntmps63
 go_wp2
 go_loopw [9] (fun i wr=>∃ j : Nat,j ≤ n ∧ i = .int .i64 j ∧ Hid (zdw (bys nm) l j = false) ∧ Hid (Ext w wr)) (fun i _=>n - (intOf i).toNat)
 case atStart=>exact ⟨0,by omega,rfl,rfl,Ext.refl w⟩
 case round=>
  obtain ⟨j,hj,rfl,Htk,hx⟩:=hrel
  by_cases hlt : j < n
  ·have hrw:=HR.out.ext hx.out
   have hhd:=hid (hrw.head (k:=j) (by omega))
   obtain ⟨b1,o1,rfl,c1⟩:=hrw.str_cell (by omega)
   have e1:=c1 j hlt
   have hs1:=ziO (some ⟨b1,o1,none⟩) n c j (by omega)
   clear c1 hrw
   have g1 : l[j]? = some (l[j]?.getD ByteArray.empty):=by have:=hl.out;rw [List.getElem?_eq_getElem (by omega)];simp
   have Hg:=hid g1
   clear g1
   generalize l[j]?.getD ByteArray.empty = x1 at *
   have jj : (j : Int) < (n : Int):=by omega
   have jc : (j : Int) ≤ (c : Int):=by omega
   have j0 : (0 : Int) ≤ (j : Int):=by omega
   cases hb : hasZ (bys nm) (bys x1) (l.take j)
   ·have HF : ∀ w',Ext wr w' → Calls Tryz.prog 52 #[.string nm,.slice (cutA (some ⟨b1,o1,none⟩) 0 c 1) j c,.string x1] w' fun e w''=>∃ r : Int,e = .returned (.int .i64 r) ∧ decide (0 ≤ r) = false ∧ Ext w' w'':=fun w' hx'=>(zgY (hhd.out.ext hx') nm x1 (HG.out.ext (hx.out.trans hx')) HN.out).mono fun e w2 ⟨r,h1,h2,h3⟩=>⟨r,h1,by rw [h2.has,ziq,hb],h3⟩
    have HT:=hid (zh3 Htk.out Hg.out hb)
    clear hb
    go_wp2_with (go_at_call 52;(with_reducible refine (HF _ (Ext.refl _)).mono ?_);rintro e w1 ⟨r,rfl,hr,hx1⟩;have HX1:=hid (hx.out.trans hx1);clear hx1)
    exact ⟨⟨j + 1,by omega,by go_num,HT.out,HX1.out⟩,by simp [intOf];omega⟩
   ·have HF : ∀ w',Ext wr w' → Calls Tryz.prog 52 #[.string nm,.slice (cutA (some ⟨b1,o1,none⟩) 0 c 1) j c,.string x1] w' fun e w''=>∃ r : Int,e = .returned (.int .i64 r) ∧ decide (0 ≤ r) = true ∧ Ext w' w'':=fun w' hx'=>(zgY (hhd.out.ext hx') nm x1 (HG.out.ext (hx.out.trans hx')) HN.out).mono fun e w2 ⟨r,h1,h2,h3⟩=>⟨r,h1,by rw [h2.has,ziq,hb],h3⟩
    have HT : Hid (zf6 (bys nm) l = true):=zlW l.length (by have:=hl.out;omega) (zh3 Htk.out Hg.out hb)
    clear hb
    go_wp2_with (go_at_call 52;(with_reducible refine (HF _ (Ext.refl _)).mono ?_);rintro e w1 ⟨r,rfl,hr,hx1⟩;have HX1:=hid (hx.out.trans hx1);clear hx1)
    go_ret
    exact ⟨by rw [HT.out];rfl,HX1.out⟩
  ·obtain rfl : j = n:=by omega
   have HE : Hid (zf6 (bys nm) l = false):=by show _ = _;unfold zf6;rw [← hl.out];exact Htk.out
   go_wp2
   go_ret
   exact ⟨by rw [HE.out];rfl,hx.out⟩
end Go.Proofs.YtioglicfndkgiaaGreatDoor
