/- Lemmas of the walk that the last text of this claim joins. -/
import Derived.Test.YtlbneoilhapkmaaGreatDoorZ17
import Derived.Test.YtlbneoilhapkmaaGreatDoorZ28
import Derived.Test.YtlbneoilhapkmaaGreatDoorZ30
import Derived.Test.YtlbneoilhapkmaaGreatDoorZ12
set_option maxHeartbeats 40000000
set_option linter.unusedVariables false
set_option linter.unusedSimpArgs false
namespace Go.Proofs.YtlbneoilhapkmaaGreatDoor
open Go.RowKit
set_option maxRecDepth 100000
theorem normal4_any (s : ByteArray) (w : World) (hG : Gu w) (hs : s.size ≤ 3000000) :
 Calls Tryz.prog 263 #[.int .i64 4,.string s] w fun e w'=>e = .returned (.tuple #[.string s,.bool (planeR (bys s)).isSome]) ∧ Ext w w':=by
 have hP:=parse_any s w hG hs
 unfold ParseSays at hP
 rw [← plane_same (bys s)] at hP
 clear hG hs
 cases hb : (planeR (bys s)).isSome
 all_goals
  rw [hb] at hP
  clear hb
  simp only [if_true,if_false,Bool.false_eq_true] at hP
  go_enter Tryz.func263,Tryz.ntmps263
  go_wp2_with (go_at_call 287;(with_reducible refine hP.mono ?_);rintro e w1 ⟨x,y,rfl,hx1⟩;have HX1:=hid hx1;clear hx1)
  go_ret2
  exact ⟨rfl,HX1.out⟩
theorem size_of_val {s : ByteArray} (h : ¬ 200 < s.size) : s.size ≤ 3000000:=by omega
theorem normalZ_any (n s : ByteArray) (w : World) (hG : Gu w) (hn : n.size ≤ 4000000) : Calls Tryz.prog 226 #[.string n,.string s] w (NormZSays w (bys n) (bys s)):=by
 by_cases h4 : (typeB (bys n)).2 = 4
 ·have HG:=hid hG
  have HT : ∀ w,Calls Tryz.prog 115 #[.string n] w (TypeSays w (bys n)):=fun w=>type_any n w (by simp only [maxLen];omega)
  have HN : Hid (normZ (bys n) (bys s) = if bys s = [] ∨ 200 < (bys s).length then ([],2) else if (planeR (bys s)).isSome then (bys s,0) else ([],2)):=by show _ = _;unfold normZ;rw [if_pos h4]
  have HCD : Hid (NormZSays w (bys n) (bys s) = fun e w'=>e = .returned (.tuple #[.string (str (normZ (bys n) (bys s)).1),.int .i64 (normZ (bys n) (bys s)).2]) ∧ Ext w w'):=rfl
  unfold TypeSays at HT
  generalize normZ (bys n) (bys s) = r at *
  generalize typeB (bys n) = p at *
  obtain ⟨t,k⟩:=p
  have k4 : k = 4:=h4
  subst k4
  have k4:=True.intro
  simp only at HT
  clear h4 hG
  by_cases hz : s.size = 0
  ·have HE : Hid (r = ([],2)):=by show _ = _;rw [HN.out,if_pos (.inl (by rw [str_emp hz];rfl))]
   have e1:=emp_yes hz
   have HS : ∀ w,Gu w → True:=fun _ _=>trivial
   clear hz
   clear k4 HN
   go_enter Tryz.func226,Tryz.ntmps226
   go_wp2_with (first
    | (go_at_call 115;(with_reducible refine (HT _).mono ?_);rintro e w1 ⟨rfl,hx1⟩;have HX1:=hid hx1;clear hx1)
    | (go_at_call 263;(with_reducible refine (HS _ (HG.out.ext HX1.out)).mono ?_);rintro e w2 ⟨rfl,hx2⟩;have HX2:=hid (HX1.out.trans hx2);clear hx2))
   go_ret2
   rw [HCD.out,HE.out]
   exact ⟨rfl,HX1.out⟩
  ·have e1:=emp_nb hz
   by_cases hl : 200 < s.size
   ·have HE : Hid (r = ([],2)):=by show _ = _;rw [HN.out,if_pos (.inr (by rw [bys_len];exact hl))]
    have e2 : 200 < (s.size : Int):=by omega
    have HS : ∀ w,Gu w → True:=fun _ _=>trivial
    clear hz hl
    clear k4 HN
    go_enter Tryz.func226,Tryz.ntmps226
    go_wp2_with (first
     | (go_at_call 115;(with_reducible refine (HT _).mono ?_);rintro e w1 ⟨rfl,hx1⟩;have HX1:=hid hx1;clear hx1)
     | (go_at_call 263;(with_reducible refine (HS _ (HG.out.ext HX1.out)).mono ?_);rintro e w2 ⟨rfl,hx2⟩;have HX2:=hid (HX1.out.trans hx2);clear hx2))
    go_ret2
    rw [HCD.out,HE.out]
    exact ⟨rfl,HX1.out⟩
   ·have e2 : decide (200 < (s.size : Int)) = false:=by rw [decide_eq_false_iff_not];omega
    have hbs : ¬ (bys s = [] ∨ 200 < (bys s).length):=by
     rw [bys_len]
     rintro (h | h)
     ·exact hz (by rw [← bys_len,h];rfl)
     ·exact hl h
    have HS : ∀ w,Gu w → Calls Tryz.prog 263 #[.int .i64 4,.string s] w fun e w'=>e = .returned (.tuple #[.string s,.bool (planeR (bys s)).isSome]) ∧ Ext w w':=fun w hG=>normal4_any s w hG (size_of_val hl)
    have HE : Hid (r = if (planeR (bys s)).isSome then (bys s,0) else ([],2)):=by show _ = _;rw [HN.out,if_neg hbs]
    clear hz hl hbs
    cases hb : (planeR (bys s)).isSome
    ·rw [hb] at HS HE
     clear hb
     simp only [if_false,Bool.false_eq_true] at HE
     clear k4 HN
     go_enter Tryz.func226,Tryz.ntmps226
     go_wp2_with (first
      | (go_at_call 115;(with_reducible refine (HT _).mono ?_);rintro e w1 ⟨rfl,hx1⟩;have HX1:=hid hx1;clear hx1)
      | (go_at_call 263;(with_reducible refine (HS _ (HG.out.ext HX1.out)).mono ?_);rintro e w2 ⟨rfl,hx2⟩;have HX2:=hid (HX1.out.trans hx2);clear hx2))
     go_ret2
     rw [HCD.out,HE.out]
     exact ⟨rfl,HX2.out⟩
    ·rw [hb] at HS HE
     clear hb
     simp only [if_true] at HE
     clear k4 HN
     go_enter Tryz.func226,Tryz.ntmps226
     go_wp2_with (first
      | (go_at_call 115;(with_reducible refine (HT _).mono ?_);rintro e w1 ⟨rfl,hx1⟩;have HX1:=hid hx1;clear hx1)
      | (go_at_call 263;(with_reducible refine (HS _ (HG.out.ext HX1.out)).mono ?_);rintro e w2 ⟨rfl,hx2⟩;have HX2:=hid (HX1.out.trans hx2);clear hx2))
     go_ret2
     rw [HCD.out,HE.out,str_bys]
     exact ⟨rfl,HX2.out⟩
 ·refine (normal_any n s w hG.gl hn h4).mono fun e w' h=>?_
  have hz : normZ (bys n) (bys s) = normE (bys n) (bys s):=by unfold normZ;rw [if_neg h4]
  unfold NormZSays
  rw [hz]
  exact h
theorem parts_ne {s : List UInt8} {l : List (List UInt8)} (h : partsB s = .ok l) (hs : s ≠ []) : l ≠ []:=by
 unfold partsB at h
 by_cases h1 : 1000 < s.length
 ·rw [if_pos h1] at h;cases h
 rw [if_neg h1,if_neg hs] at h
 by_cases h3 : 12 < (splitF 44 [] s).length
 ·rw [if_pos h3] at h;cases h
 rw [if_neg h3] at h
 cases hm : (splitF 44 [] s).mapM partB with
 | none=>rw [hm] at h;cases h
 | some k=>
  rw [hm] at h
  simp only at h
  by_cases h4 : 1000 < (joinC (k.map fun p=>printB (normA p))).length
  ·rw [if_pos h4] at h;cases h
  rw [if_neg h4] at h
  injection h with h
  obtain ⟨hk1,hk2⟩:=mapM_src hm
  have hlen:=(splitF_length 44 s.length [] s (Nat.le_refl _)).2.1
  rintro rfl
  have:=congrArg List.length h
  simp at this
  rw [this] at hk2
  simp at hk2
  omega
theorem normal_ne {s : List UInt8} (hs : s ≠ []) (hc : codeR (partsB s) = 0) : normalS s ≠ []:=by
 unfold normalS
 cases hp : partsB s with
 | error e=>rw [hp] at hc;cases e <;> cases hc
 | ok l=>
  show joinC l ≠ []
  intro e
  have h1:=parts_again hp
  rw [e] at h1
  have h2 : partsB [] = .ok []:=rfl
  rw [h2] at h1
  injection h1 with h1
  exact parts_ne hp hs h1.symm
theorem normal_nil : normalS [] = [] ∧ codeR (partsB []) = 0:=⟨rfl,rfl⟩
theorem dnvalueZ_any (n s : ByteArray) (w : World) (hG : Gu w) (hn : n.size ≤ 4000000) : Calls Tryz.prog 177 #[.string n,.string s] w (ValZSays w (bys n) (bys s)):=by
 have HG:=hid hG
 have HT : ∀ w,Calls Tryz.prog 115 #[.string n] w (TypeSays w (bys n)):=fun w=>type_any n w (by simp only [maxLen];omega)
 have HN : ∀ w,Gu w → Calls Tryz.prog 226 #[.string n,.string s] w (NormZSays w (bys n) (bys s)):=fun w hG=>normalZ_any n s w hG hn
 have HM : ∀ w,Gl w → Calls Tryz.prog 76 #[.string s] w (NormalSays w (bys s)):=fun w hG=>dnnormal_any s w hG
 have HD : Hid (valZ (bys n) (bys s) = if (typeB (bys n)).2 ≠ 5 then normZ (bys n) (bys s) else if bys s = [] ∨ 200 < (bys s).length then ([],2) else if codeR (partsB (bys s)) ≠ 0 then ([],2) else (normalS (bys s),0)):=rfl
 have HCD : Hid (ValZSays w (bys n) (bys s) = fun e w'=>e = .returned (.tuple #[.string (str (valZ (bys n) (bys s)).1),.int .i64 (valZ (bys n) (bys s)).2]) ∧ Ext w w'):=rfl
 have HNE:=hid (@normal_ne (bys s))
 unfold TypeSays at HT
 unfold NormZSays at HN
 unfold NormalSays at HM
 clear hG
 generalize valZ (bys n) (bys s) = r at *
 generalize typeB (bys n) = p at *
 obtain ⟨t,k⟩:=p
 generalize normZ (bys n) (bys s) = q at *
 obtain ⟨q1,q2⟩:=q
 simp only at HT HD HN
 by_cases h5 : k = 5
 ·have t5 : ((k : Int) != 5) = false:=by rw [h5];rfl
  rw [if_neg (fun h=>h h5)] at HD
  by_cases hz : s.size = 0
  ·have HE : Hid (r = ([],2)):=by show _ = _;rw [HD.out,if_pos (.inl (by rw [str_emp hz];rfl))]
   have hs : bys s = []:=by rw [str_emp hz];rfl
   rw [hs,normal_nil.1,normal_nil.2] at HM
   have e0 : (str []).toList.isEmpty = true:=by rw [ByteArray.toList_eq];rfl
   have e1 : decide ((200 : Int) < (s.size : Int)) = false:=by rw [decide_eq_false_iff_not];omega
   clear h5 hz HD HNE
   go_enter Tryz.func177,Tryz.ntmps177
   go_wp2_with (first
    | (go_at_call 115;(with_reducible refine (HT _).mono ?_);rintro e w1 ⟨rfl,hx1⟩;have HX:=hid hx1;clear hx1)
    | (go_at_call 226;(with_reducible refine (HN _ (HG.out.ext HX.out)).mono ?_);rintro e w2 ⟨rfl,hx2⟩;have HX':=hid (HX.out.trans hx2);clear HX hx2;have HX:=HX';clear HX')
    | (go_at_call 76;(with_reducible refine (HM _ (HG.out.gl.ext HX.out)).mono ?_);rintro e w2 ⟨rfl,hx2⟩;have HX':=hid (HX.out.trans hx2);clear HX hx2;have HX:=HX';clear HX'))
   go_ret2
   rw [HCD.out,HE.out]
   first | exact ⟨rfl,HX.out⟩ | exact ⟨by rw [show str (m,(0 : Int)).1 = ms from HMS.out];rfl,HX.out⟩
  ·have hne : bys s ≠ []:=by intro h;exact hz (by rw [← bys_len,h];rfl)
   by_cases hc : codeR (partsB (bys s)) = 0
   ·have hnn:=HNE.out hne hc
    rw [hc] at HM HD
    generalize normalS (bys s) = m at *
    obtain ⟨ms,hms⟩ : ∃ ms,str m = ms:=⟨_,rfl⟩
    have e0 : ms.toList.isEmpty = false:=size_emp (by rw [← hms,str_size];exact List.length_pos_iff.2 hnn)
    rw [hms] at HM
    have HMS:=hid hms
    clear hms
    by_cases hl : 200 < s.size
    ·have HE : Hid (r = ([],2)):=by show _ = _;rw [HD.out,if_pos (.inr (by rw [bys_len];exact hl))]
     have e2 : 200 < (s.size : Int):=by omega
     clear h5 hz hl HD hnn hne hc HNE
     go_enter Tryz.func177,Tryz.ntmps177
     go_wp2_with (first
      | (go_at_call 115;(with_reducible refine (HT _).mono ?_);rintro e w1 ⟨rfl,hx1⟩;have HX:=hid hx1;clear hx1)
      | (go_at_call 226;(with_reducible refine (HN _ (HG.out.ext HX.out)).mono ?_);rintro e w2 ⟨rfl,hx2⟩;have HX':=hid (HX.out.trans hx2);clear HX hx2;have HX:=HX';clear HX')
      | (go_at_call 76;(with_reducible refine (HM _ (HG.out.gl.ext HX.out)).mono ?_);rintro e w2 ⟨rfl,hx2⟩;have HX':=hid (HX.out.trans hx2);clear HX hx2;have HX:=HX';clear HX'))
     go_ret2
     rw [HCD.out,HE.out]
     first | exact ⟨rfl,HX.out⟩ | exact ⟨by rw [show str (m,(0 : Int)).1 = ms from HMS.out];rfl,HX.out⟩
    ·have e2 : decide (200 < (s.size : Int)) = false:=by rw [decide_eq_false_iff_not];omega
     have hbs : ¬ (bys s = [] ∨ 200 < (bys s).length):=by
      rw [bys_len]
      rintro (h | h)
      ·exact hne h
      ·exact hl h
     have HE : Hid (r = (m,0)):=by show _ = _;rw [HD.out,if_neg hbs,if_neg (fun h=>h rfl)]
     clear h5 hz hl HD hnn hne hc HNE hbs
     go_enter Tryz.func177,Tryz.ntmps177
     go_wp2_with (first
      | (go_at_call 115;(with_reducible refine (HT _).mono ?_);rintro e w1 ⟨rfl,hx1⟩;have HX:=hid hx1;clear hx1)
      | (go_at_call 226;(with_reducible refine (HN _ (HG.out.ext HX.out)).mono ?_);rintro e w2 ⟨rfl,hx2⟩;have HX':=hid (HX.out.trans hx2);clear HX hx2;have HX:=HX';clear HX')
      | (go_at_call 76;(with_reducible refine (HM _ (HG.out.gl.ext HX.out)).mono ?_);rintro e w2 ⟨rfl,hx2⟩;have HX':=hid (HX.out.trans hx2);clear HX hx2;have HX:=HX';clear HX'))
     go_ret2
     rw [HCD.out,HE.out]
     first | exact ⟨rfl,HX.out⟩ | exact ⟨by rw [show str (m,(0 : Int)).1 = ms from HMS.out];rfl,HX.out⟩
   ·have e3 : (codeR (partsB (bys s)) != 0) = true:=by rw [bne_iff_ne];exact hc
    have HE : Hid (r = ([],2)):=by
     show _ = _
     rw [HD.out]
     by_cases hb : bys s = [] ∨ 200 < (bys s).length
     ·rw [if_pos hb]
     ·rw [if_neg hb,if_pos hc]
    generalize codeR (partsB (bys s)) = cd at *
    generalize normalS (bys s) = m at *
    clear h5 hz HD hne hc HNE
    go_enter Tryz.func177,Tryz.ntmps177
    go_wp2_with (first
     | (go_at_call 115;(with_reducible refine (HT _).mono ?_);rintro e w1 ⟨rfl,hx1⟩;have HX:=hid hx1;clear hx1)
     | (go_at_call 226;(with_reducible refine (HN _ (HG.out.ext HX.out)).mono ?_);rintro e w2 ⟨rfl,hx2⟩;have HX':=hid (HX.out.trans hx2);clear HX hx2;have HX:=HX';clear HX')
     | (go_at_call 76;(with_reducible refine (HM _ (HG.out.gl.ext HX.out)).mono ?_);rintro e w2 ⟨rfl,hx2⟩;have HX':=hid (HX.out.trans hx2);clear HX hx2;have HX:=HX';clear HX'))
    go_ret2
    rw [HCD.out,HE.out]
    first | exact ⟨rfl,HX.out⟩ | exact ⟨by rw [show str (m,(0 : Int)).1 = ms from HMS.out];rfl,HX.out⟩
 ·have t5 : ((k : Int) != 5) = true:=by rw [bne_iff_ne];omega
  have HE : Hid (r = (q1,q2)):=by show _ = _;rw [HD.out,if_pos h5]
  clear h5 HD HNE HM
  have HM : ∀ w,Gl w → True:=fun _ _=>trivial
  go_enter Tryz.func177,Tryz.ntmps177
  go_wp2_with (first
   | (go_at_call 115;(with_reducible refine (HT _).mono ?_);rintro e w1 ⟨rfl,hx1⟩;have HX:=hid hx1;clear hx1)
   | (go_at_call 226;(with_reducible refine (HN _ (HG.out.ext HX.out)).mono ?_);rintro e w2 ⟨rfl,hx2⟩;have HX':=hid (HX.out.trans hx2);clear HX hx2;have HX:=HX';clear HX')
   | (go_at_call 76;(with_reducible refine (HM _ (HG.out.gl.ext HX.out)).mono ?_);rintro e w2 ⟨rfl,hx2⟩;have HX':=hid (HX.out.trans hx2);clear HX hx2;have HX:=HX';clear HX'))
  go_ret2
  rw [HCD.out,HE.out]
  first | exact ⟨rfl,HX.out⟩ | exact ⟨by rw [show str (m,(0 : Int)).1 = ms from HMS.out];rfl,HX.out⟩
end Go.Proofs.YtlbneoilhapkmaaGreatDoor
