/- Lemmas of the walk that the last text of this claim joins. -/
import Derived.Test.YtahahafhendgoaaGreatDoorZ16
import Derived.Test.YtahahafhendgoaaGreatDoorZ15
import Derived.Test.YtahahafhendgoaaGreatDoorZ07
import Derived.Test.YtahahafhendgoaaGreatDoorZ17
set_option maxHeartbeats 40000000
set_option linter.unusedVariables false
set_option linter.unusedSimpArgs false
namespace Go.Proofs.YtahahafhendgoaaGreatDoor
open Go.RowKit
set_option maxRecDepth 100000
theorem parse_bound {v : List UInt8} {n : Int} (h : Lib.parseIntB 64 v = .ok n) : -9223372036854775808 ≤ n ∧ n ≤ 9223372036854775807:=by
 cases v with
 | nil=>cases h
 | cons c t=>
  simp only [Lib.parseIntB] at h
  generalize Lib.parseUintB 64 _ = r at h
  rcases r with u | _ | _
  ·simp only at h
   by_cases hc : c.toNat = 45
   ·simp only [hc,not_true_eq_false,false_and,if_false,true_and,if_true] at h
    by_cases h2 : 2 ^ (64 - 1) < u
    ·rw [if_pos h2] at h;cases h
    ·rw [if_neg h2] at h;injection h with h;omega
   ·simp only [hc,not_false_eq_true,true_and,false_and,if_false] at h
    by_cases h2 : 2 ^ (64 - 1) ≤ u
    ·rw [if_pos h2] at h;cases h
    ·rw [if_neg h2] at h;injection h with h;omega
  ·cases h
  ·cases h
def normP (k : Int) (v : List UInt8) : List UInt8 × Bool:=
 if k = 1 then (joinSp (wordsB (lowerB v)),decide (joinSp (wordsB (lowerB v)) ≠ [] ∧ (0 : UInt8) ∉ joinSp (wordsB (lowerB v))))
 else if k = 3 then (v,intB v) else (v,true)
def NormPSays (w : World) (k : Int) (v : List UInt8) (e : Ending) (w' : World) : Prop:=e = .returned (.tuple #[.string (str (normP k v).1),.bool (normP k v).2]) ∧ Ext w w'
theorem normal1_any (s : ByteArray) (w : World) (hG : Gl w) (hs : s.size ≤ 1000000) :
 Calls Tryz.prog 105 #[.int .i64 1,.string s] w (NormPSays w 1 (bys s)):=by
 have Hs:=hid hs
 have HG:=hid hG
 have hlo : (lowerB (bys s)).length ≤ 1000000:=by unfold lowerB;rw [List.length_map,bys_len];exact hs
 have HN : Hid (normP 1 (bys s) = (joinSp (wordsB (lowerB (bys s))),decide (joinSp (wordsB (lowerB (bys s))) ≠ [] ∧ (0 : UInt8) ∉ joinSp (wordsB (lowerB (bys s)))))):=rfl
 have HL : ∀ w : World,Calls Tryz.prog 75 #[.string s] w fun e w'=>e = .returned (.string (str (lowerB (bys s)))) ∧ Ext w w':=fun w=>lower_any s w (by have:=Hs.out;simp only [maxLen];omega)
 have HJ:=hid (words_le (lowerB (bys s)))
 have HW:=hid (wordsB_len (lowerB (bys s)))
 generalize lowerB (bys s) = m at *
 obtain ⟨t,ht⟩ : ∃ t,t = joinSp (wordsB m):=⟨_,rfl⟩
 have HT:=hid ht
 rw [← ht] at HN
 have Hm:=hid hlo
 clear hs hG ht hlo
 by_cases h0 : t = []
 ·have t0 : (t == []) = true:=by rw [h0];rfl
  have HF : Hid (normP 1 (bys s) = (t,false)):=by show _ = _;rw [HN.out,decide_eq_false (fun h=>h.1 h0)]
  clear h0
  go_enter Tryz.func105,Tryz.ntmps105
  go_wp2_with (first
   | (go_at_call 75;(with_reducible refine (HL _).mono ?_);rintro e w1 ⟨rfl,hx1⟩;have HX1:=hid hx1;clear hx1)
   | (go_at_call 134;(with_reducible refine (words_row (str m) _ (HG.out.ext HX1.out) (by rw [str_size];have:=Hm.out;omega)).mono ?_);rintro e w2 ⟨A2,n2,c2,rfl,hr2,hx2⟩;rw [bys_str] at hr2;have HX2:=hid hx2;have HR2:=hid hr2;clear hx2 hr2)
   | (go_at_call 39;(with_reducible refine (join_any _ ⟨#[32]⟩ HR2.out (by have h1:=HW.out;have h2:=Hm.out;rw [List.length_map];omega) (by rw [strs_data];have h3:=join_sp (wordsB m);have h1:=HJ.out;have h2:=Hm.out;show (Lib.join (wordsB m) [32]).length ≤ _;rw [h3];omega)).mono ?_);rintro e w3 ⟨he3,hx3⟩;have HX3:=hid hx3;rw [strs_bys,join_sp,← HT.out] at he3;subst he3;clear hx3)
   )
  go_ret2
  exact ⟨by rw [HF.out];rfl,HX1.out.trans (HX2.out.trans HX3.out)⟩
 ·have t0 : (t == []) = false:=by rw [beq_eq_false_iff_ne];exact h0
  by_cases hz : (0 : UInt8) ∈ t
  ·have HF : Hid (normP 1 (bys s) = (t,false)):=by show _ = _;rw [HN.out,decide_eq_false (fun h=>h.2 hz)]
   have HZ:=hid hz
   clear h0 hz
   go_enter Tryz.func105,Tryz.ntmps105
   go_wp2_with (first
    | (go_at_call 125;(with_reducible refine (indexbyte_yes (str t) 0 0 rfl _ (by rw [bys_str];exact HZ.out)).mono ?_);rintro e w4 ⟨⟨i,rfl⟩,rfl⟩)
    | (go_at_call 75;(with_reducible refine (HL _).mono ?_);rintro e w1 ⟨rfl,hx1⟩;have HX1:=hid hx1;clear hx1)
    | (go_at_call 134;(with_reducible refine (words_row (str m) _ (HG.out.ext HX1.out) (by rw [str_size];have:=Hm.out;omega)).mono ?_);rintro e w2 ⟨A2,n2,c2,rfl,hr2,hx2⟩;rw [bys_str] at hr2;have HX2:=hid hx2;have HR2:=hid hr2;clear hx2 hr2)
    | (go_at_call 39;(with_reducible refine (join_any _ ⟨#[32]⟩ HR2.out (by have h1:=HW.out;have h2:=Hm.out;rw [List.length_map];omega) (by rw [strs_data];have h3:=join_sp (wordsB m);have h1:=HJ.out;have h2:=Hm.out;show (Lib.join (wordsB m) [32]).length ≤ _;rw [h3];omega)).mono ?_);rintro e w3 ⟨he3,hx3⟩;have HX3:=hid hx3;rw [strs_bys,join_sp,← HT.out] at he3;subst he3;clear hx3)
   )
   go_ret2
   exact ⟨by rw [HF.out];rfl,HX1.out.trans (HX2.out.trans HX3.out)⟩
  ·have HF : Hid (normP 1 (bys s) = (t,true)):=by show _ = _;rw [HN.out,decide_eq_true ⟨h0,hz⟩]
   have HZ:=hid hz
   clear h0 hz
   go_enter Tryz.func105,Tryz.ntmps105
   go_wp2_with (first
    | (go_at_call 125;(with_reducible refine (indexbyte_no (str t) 0 0 rfl _ (by rw [bys_str];exact HZ.out)).mono ?_);rintro e w4 ⟨rfl,rfl⟩)
    | (go_at_call 75;(with_reducible refine (HL _).mono ?_);rintro e w1 ⟨rfl,hx1⟩;have HX1:=hid hx1;clear hx1)
    | (go_at_call 134;(with_reducible refine (words_row (str m) _ (HG.out.ext HX1.out) (by rw [str_size];have:=Hm.out;omega)).mono ?_);rintro e w2 ⟨A2,n2,c2,rfl,hr2,hx2⟩;rw [bys_str] at hr2;have HX2:=hid hx2;have HR2:=hid hr2;clear hx2 hr2)
    | (go_at_call 39;(with_reducible refine (join_any _ ⟨#[32]⟩ HR2.out (by have h1:=HW.out;have h2:=Hm.out;rw [List.length_map];omega) (by rw [strs_data];have h3:=join_sp (wordsB m);have h1:=HJ.out;have h2:=Hm.out;show (Lib.join (wordsB m) [32]).length ≤ _;rw [h3];omega)).mono ?_);rintro e w3 ⟨he3,hx3⟩;have HX3:=hid hx3;rw [strs_bys,join_sp,← HT.out] at he3;subst he3;clear hx3)
   )
   go_ret2
   exact ⟨by rw [HF.out];rfl,HX1.out.trans (HX2.out.trans HX3.out)⟩
theorem normal3_any (s : ByteArray) (w : World) (hG : Gl w) (hs : s.size ≤ 1000000) :
 Calls Tryz.prog 105 #[.int .i64 3,.string s] w (NormPSays w 3 (bys s)):=by
 have Hs:=hid hs
 have HG:=hid hG
 have HN : Hid (normP 3 (bys s) = (bys s,intB (bys s))):=rfl
 clear hs hG
 cases hb : intB (bys s) with
 | true=>
  have HB:=hid hb
  have HP:=hid (parse_int hb)
  have HI:=hid (itoa_int hb)
  have hsm:=intV_small hb
  have HV : Hid (-9223372036854775808 ≤ intV (bys s) ∧ intV (bys s) ≤ 9223372036854775807):=by
   show _ ∧ _
   unfold intV
   split <;> omega
  have hl : ((digsB (bys s)).length : Int) ≤ 18:=by have:=((intB_iff _).1 hb).2.1;omega
  have te : (bys s == s.toList) = true:=by rw [ByteArray.toList_eq,beq_iff_eq]
  clear hb hsm
  go_enter Tryz.func105,Tryz.ntmps105
  go_wp2_with (first
   | (go_at_call 135;(with_reducible refine (parseint_ok s _ _ (by have:=Hs.out;omega) HP.out).mono ?_);rintro e w1 ⟨rfl,hx1⟩;have HX1:=hid hx1;clear hx1)
   | (go_at_call 136;(with_reducible refine (formatint_any _ _ (HG.out.ext HX1.out) HV.out.1 HV.out.2).mono ?_);rintro e w2 ⟨he2,hx2⟩;rw [HI.out] at he2;subst he2;have HX2:=hid hx2;clear hx2)
   | (go_at_call 137;(with_reducible refine (trimdash_any s _).mono ?_);rintro e w3 ⟨rfl,rfl⟩))
  go_ret2
  refine ⟨?_,HX1.out.trans HX2.out⟩
  rw [HN.out,HB.out,str_bys]
  rfl
 | false=>
  have HB:=hid hb
  by_cases hp : ∃ n,Lib.parseIntB 64 (bys s) = .ok n
  ·obtain ⟨n,hn⟩:=hp
   have HP:=hid hn
   have HV:=hid (parse_bound hn)
   by_cases he : Lib.itoa n = bys s
   ·have HI:=hid he
    have hl : decide (((digsB (bys s)).length : Int) ≤ 18) = false:=by
     rw [decide_eq_false_iff_not]
     intro h
     have:=int_prog (bys s) n he (by rw [trim_dash];omega)
     rw [hb] at this
     cases this
    have te : (bys s == s.toList) = true:=by rw [ByteArray.toList_eq,beq_iff_eq]
    clear hb hn he
    go_enter Tryz.func105,Tryz.ntmps105
    go_wp2_with (first
     | (go_at_call 135;(with_reducible refine (parseint_ok s _ _ (by have:=Hs.out;omega) HP.out).mono ?_);rintro e w1 ⟨rfl,hx1⟩;have HX1:=hid hx1;clear hx1)
     | (go_at_call 136;(with_reducible refine (formatint_any _ _ (HG.out.ext HX1.out) HV.out.1 HV.out.2).mono ?_);rintro e w2 ⟨he2,hx2⟩;rw [HI.out] at he2;subst he2;have HX2:=hid hx2;clear hx2)
     | (go_at_call 137;(with_reducible refine (trimdash_any s _).mono ?_);rintro e w3 ⟨rfl,rfl⟩))
    go_ret2
    refine ⟨?_,HX1.out.trans HX2.out⟩
    rw [HN.out,HB.out,str_bys]
    rfl
   ·have te : (Lib.itoa n == s.toList) = false:=by rw [ByteArray.toList_eq,beq_eq_false_iff_ne];exact he
    clear hb hn he
    go_enter Tryz.func105,Tryz.ntmps105
    go_wp2_with (first
     | (go_at_call 135;(with_reducible refine (parseint_ok s _ _ (by have:=Hs.out;omega) HP.out).mono ?_);rintro e w1 ⟨rfl,hx1⟩;have HX1:=hid hx1;clear hx1)
     | (go_at_call 136;(with_reducible refine (formatint_any _ _ (HG.out.ext HX1.out) HV.out.1 HV.out.2).mono ?_);rintro e w2 ⟨rfl,hx2⟩;have HX2:=hid hx2;clear hx2))
    go_ret2
    refine ⟨?_,HX1.out.trans HX2.out⟩
    rw [HN.out,HB.out,str_bys]
    rfl
  ·have HP : Hid (∀ n,Lib.parseIntB 64 (bys s) ≠ .ok n):=fun n h=>hp ⟨n,h⟩
   clear hp hb
   go_enter Tryz.func105,Tryz.ntmps105
   go_wp2_with (first
    | (go_at_call 135;(with_reducible refine (parseint_bad s _ HG.out (by have:=Hs.out;omega) HP.out).mono ?_);rintro e w1 ⟨⟨n1,t1,a1,rfl⟩,hx1⟩;have HX1:=hid hx1;clear hx1))
   go_ret2
   refine ⟨?_,HX1.out⟩
   rw [HN.out,HB.out,str_bys]
   rfl
theorem normalx_any (k : Int) (s : ByteArray) (w : World) (h1 : k ≠ 1) (h3 : k ≠ 3) (h4 : k ≠ 4) :
 Calls Tryz.prog 105 #[.int .i64 k,.string s] w (NormPSays w k (bys s)):=by
 have HN : Hid (normP k (bys s) = (bys s,true)):=by show _ = _;unfold normP;rw [if_neg h1,if_neg h3]
 have t1 : (k == 1) = false:=by rw [beq_eq_false_iff_ne];exact h1
 have t3 : (k == 3) = false:=by rw [beq_eq_false_iff_ne];exact h3
 have t4 : (k == 4) = false:=by rw [beq_eq_false_iff_ne];exact h4
 clear h1 h3 h4
 go_enter Tryz.func105,Tryz.ntmps105
 go_wp2
 go_ret2
 refine ⟨?_,Ext.refl _⟩
 rw [HN.out,str_bys]
 rfl
def normE (n v : List UInt8) : List UInt8 × Int:=
 if (typeB n).2 = 0 then ([],5) else if (typeB n).2 = 5 then ([],1) else if v = [] ∨ 200 < v.length then ([],2)
 else if (normP (typeB n).2 v).2 then ((normP (typeB n).2 v).1,0) else ([],2)
def NormSays (w : World) (n v : List UInt8) (e : Ending) (w' : World) : Prop:=e = .returned (.tuple #[.string (str (normE n v).1),.int .i64 (normE n v).2]) ∧ Ext w w'
theorem normal_at (k : Nat) (s : ByteArray) (w : World) (hG : Gl w) (hs : s.size ≤ 1000000) (h4 : k ≠ 4) :
 Calls Tryz.prog 105 #[.int .i64 k,.string s] w (NormPSays w k (bys s)):=by
 by_cases h1 : k = 1
 ·subst h1;exact normal1_any s w hG hs
 ·by_cases h3 : k = 3
  ·subst h3;exact normal3_any s w hG hs
  ·exact normalx_any k s w (by omega) (by omega) (by omega)
theorem normal_any (n s : ByteArray) (w : World) (hG : Gl w) (hn : n.size ≤ 4000000) (h4 : (typeB (bys n)).2 ≠ 4) :
 Calls Tryz.prog 81 #[.string n,.string s] w (NormSays w (bys n) (bys s)):=by
 have HG:=hid hG
 have HT : ∀ w,Calls Tryz.prog 46 #[.string n] w (TypeSays w (bys n)):=fun w=>type_any n w (by simp only [maxLen];omega)
 have HN : Hid (normE (bys n) (bys s) = if (typeB (bys n)).2 = 0 then ([],5) else if (typeB (bys n)).2 = 5 then ([],1) else if bys s = [] ∨ 200 < (bys s).length then ([],2)
  else if (normP (typeB (bys n)).2 (bys s)).2 then ((normP (typeB (bys n)).2 (bys s)).1,0) else ([],2)):=rfl
 unfold TypeSays at HT
 obtain ⟨p,hp⟩ : ∃ p,p = typeB (bys n):=⟨_,rfl⟩
 rw [← hp] at HN HT h4
 clear hp hG
 obtain ⟨t,k⟩:=p
 have H4 : Hid (k ≠ 4):=h4
 clear h4
 simp only at HN HT
 by_cases k0 : k = 0
 ·have HE : Hid (normE (bys n) (bys s) = ([],5)):=by show _ = _;rw [HN.out,if_pos k0]
  have t0 : ((k : Int) == 0) = true:=by rw [k0];rfl
  clear k0 HN
  go_enter Tryz.func81,Tryz.ntmps81
  go_wp2_with (go_at_call 46;(with_reducible refine (HT _).mono ?_);rintro e w1 ⟨rfl,hx1⟩;have HX1:=hid hx1;clear hx1)
  go_ret2
  exact ⟨by rw [HE.out];rfl,HX1.out⟩
 ·have t0 : ((k : Int) == 0) = false:=by rw [beq_eq_false_iff_ne];omega
  by_cases k5 : k = 5
  ·have HE : Hid (normE (bys n) (bys s) = ([],1)):=by show _ = _;rw [HN.out,if_neg k0,if_pos k5]
   have t5 : ((k : Int) == 5) = true:=by rw [k5];rfl
   clear k0 k5 HN
   go_enter Tryz.func81,Tryz.ntmps81
   go_wp2_with (go_at_call 46;(with_reducible refine (HT _).mono ?_);rintro e w1 ⟨rfl,hx1⟩;have HX1:=hid hx1;clear hx1)
   go_ret2
   exact ⟨by rw [HE.out];rfl,HX1.out⟩
  ·have t5 : ((k : Int) == 5) = false:=by rw [beq_eq_false_iff_ne];omega
   by_cases hz : s.size = 0
   ·have HE : Hid (normE (bys n) (bys s) = ([],2)):=by show _ = _;rw [HN.out,if_neg k0,if_neg k5,if_pos (.inl (by rw [str_emp hz];rfl))]
    have e1:=emp_yes hz
    clear k0 k5 HN hz
    go_enter Tryz.func81,Tryz.ntmps81
    go_wp2_with (go_at_call 46;(with_reducible refine (HT _).mono ?_);rintro e w1 ⟨rfl,hx1⟩;have HX1:=hid hx1;clear hx1)
    go_ret2
    exact ⟨by rw [HE.out];rfl,HX1.out⟩
   ·have e1:=emp_nb hz
    by_cases hl : 200 < s.size
    ·have HE : Hid (normE (bys n) (bys s) = ([],2)):=by show _ = _;rw [HN.out,if_neg k0,if_neg k5,if_pos (.inr (by rw [bys_len];exact hl))]
     have e2 : 200 < (s.size : Int):=by omega
     clear k0 k5 HN hz hl
     go_enter Tryz.func81,Tryz.ntmps81
     go_wp2_with (go_at_call 46;(with_reducible refine (HT _).mono ?_);rintro e w1 ⟨rfl,hx1⟩;have HX1:=hid hx1;clear hx1)
     go_ret2
     exact ⟨by rw [HE.out];rfl,HX1.out⟩
    ·have e2 : decide (200 < (s.size : Int)) = false:=by rw [decide_eq_false_iff_not];omega
     have hbs : ¬ (bys s = [] ∨ 200 < (bys s).length):=by
      rw [bys_len]
      rintro (h | h)
      ·exact hz (by rw [← bys_len,h];rfl)
      ·exact hl h
     rw [if_neg k0,if_neg k5,if_neg hbs] at HN
     have HP : ∀ w,Gl w → Calls Tryz.prog 105 #[.int .i64 k,.string s] w (NormPSays w k (bys s)):=fun w hG=>normal_at k s w hG (by omega) H4.out
     unfold NormPSays at HP
     generalize normP (k : Int) (bys s) = q at *
     obtain ⟨r,b⟩:=q
     simp only at HN HP
     have HE : Hid (normE (bys n) (bys s) = if b = true then (r,0) else ([],2)):=HN.out
     clear k0 k5 hz hl hbs HN
     cases b
     all_goals
      go_enter Tryz.func81,Tryz.ntmps81
      go_wp2_with (first
       | (go_at_call 46;(with_reducible refine (HT _).mono ?_);rintro e w1 ⟨rfl,hx1⟩;have HX1:=hid hx1;clear hx1)
       | (go_at_call 105;(with_reducible refine (HP _ (HG.out.ext HX1.out)).mono ?_);rintro e w2 ⟨rfl,hx2⟩;have HX2:=hid hx2;clear hx2))
      go_ret2
      exact ⟨by rw [HE.out];rfl,HX1.out.trans HX2.out⟩
def sgnD (v : List UInt8) : List UInt8:=if v.head? = some 45 ∨ v.head? = some 43 then v.drop 1 else v
def numR (v : List UInt8) : Option Int:=
 if 1 ≤ (sgnD v).length ∧ (sgnD v).length ≤ 9 ∧ (sgnD v).all digC = true then some (if negB v then -(valFrom 0 (sgnD v) : Int) else (valFrom 0 (sgnD v) : Int)) else none
def NumSays (w : World) (v : List UInt8) (e : Ending) (w' : World) : Prop:=e = .returned (.tuple #[.int .i64 ((numR v).getD 0),.bool (numR v).isSome]) ∧ Ext w w'
theorem numR_small {v : List UInt8} {n : Int} (h : numR v = some n) : -1000000000 < n ∧ n < 1000000000:=by
 unfold numR at h
 split at h
 ·rename_i hc
  have h1:=valFrom_lt (sgnD v) 0 hc.2.2
  have h2 : 10 ^ (sgnD v).length ≤ 10 ^ 9:=Nat.pow_le_pow_right (by decide) hc.2.1
  have h5 : (10 : Nat) ^ 9 = 1000000000:=rfl
  injection h with h
  split at h <;> omega
 ·cases h
theorem number_any (s : ByteArray) (w : World) (hs : s.size ≤ 4000000) : Calls Tryz.prog 131 #[.string s] w (NumSays w (bys s)):=by
 have Hs:=hid hs
 by_cases h0 : s.size = 0
 ·have t0 : ¬ (0 : Int) < (s.size : Int):=by omega
  have HF : Hid (numR (bys s) = none):=by rw [str_emp h0];rfl
  have t1 : (s.size : Int) < 1:=by omega
  clear h0 hs
  go_enter Tryz.func131,Tryz.ntmps131
  go_wp2
  go_ret2
  exact ⟨by rw [HF.out];rfl,Ext.refl _⟩
 ·have t0 : (0 : Int) < (s.size : Int):=by omega
  obtain ⟨y,hy⟩ : ∃ x,(bys s)[0]? = some x:=⟨_,List.getElem?_eq_getElem (by rw [bys_len];omega)⟩
  have hsz : 0 < s.size:=by omega
  have gy:=bys_get hy hsz
  have Hy : Hid ((bys s).head? = some y):=by show _ = _;rw [List.head?_eq_getElem?,hy]
  clear h0 hy
  by_cases h45 : y = 45
  ·have ty : ((y.toNat : Int) == 45) = true:=byte_is (k:=45) (by decide) h45
   have HNEG : Hid (negB (bys s) = true):=by show _ = _;unfold negB;rw [Hy.out,h45];rfl
   obtain ⟨d,hd⟩ : ∃ d,s.extract 1 s.size = d:=⟨_,rfl⟩
   have HD : Hid (bys d = sgnD (bys s)):=by show _ = _;rw [← hd,ext_drop];unfold sgnD;rw [Hy.out,h45,if_pos (.inl rfl)]
   clear h45
   go_enter Tryz.func131,Tryz.ntmps131
   have HN : Hid (¬ (1 ≤ d.size ∧ d.size ≤ 9 ∧ (bys d).all digC = true) → numR (bys s) = none):=by
    intro h
    unfold numR
    rw [← HD.out,bys_len,if_neg h]
   have HY : Hid ((1 ≤ d.size ∧ d.size ≤ 9 ∧ (bys d).all digC = true) → numR (bys s) = some (-(valFrom 0 (bys d) : Int))):=by
    intro h
    unfold numR
    rw [← HD.out,bys_len,if_pos h,HNEG.out]
    rfl
   by_cases hl1 : d.size < 1
   ·have hl1' : (d.size : Int) < 1:=by omega
    have HF : Hid (numR (bys s) = none):=HN.out (by omega)
    clear hl1
    go_wp2
    go_ret2
    exact ⟨by rw [HF.out];rfl,Ext.refl _⟩
   ·have hl1' : ¬ (d.size : Int) < 1:=by omega
    by_cases hl2 : 9 < d.size
    ·have hl2' : 9 < (d.size : Int):=by omega
     have HF : Hid (numR (bys s) = none):=HN.out (by omega)
     clear hl1 hl2
     go_wp2
     go_ret2
     exact ⟨by rw [HF.out];rfl,Ext.refl _⟩
    ·have hl2' : ¬ 9 < (d.size : Int):=by omega
     go_wp2
     go_loop [4,6] (fun n i=>∃ k : Nat,k ≤ d.size ∧ i = .int .i64 k ∧ n = .int .i64 (valFrom 0 ((bys d).take k) : Int) ∧ Hid (((bys d).take k).all digC = true)) (fun _ i=>d.size - (intOf i).toNat)
     case atStart=>exact ⟨0,by omega,rfl,rfl,rfl⟩
     case round=>
      obtain ⟨k,hk,rfl,rfl,HA⟩:=hrel
      have hd9 : d.size ≤ 9:=by omega
      have HB : Hid (valFrom 0 ((bys d).take k) < 10 ^ k):=by
       have h:=valFrom_lt ((bys d).take k) 0 HA.out
       have h2 : ((bys d).take k).length ≤ k:=List.length_take_le _ _
       have h3 : 10 ^ ((bys d).take k).length ≤ 10 ^ k:=Nat.pow_le_pow_right (by decide) h2
       show _ < _
       omega
      have hv9 : valFrom 0 ((bys d).take k) < 1000000000:=by
       have h3 : 10 ^ k ≤ 10 ^ 9:=Nat.pow_le_pow_right (by decide) (by omega)
       have h4:=HB.out
       have h5 : (10 : Nat) ^ 9 = 1000000000:=rfl
       omega
      by_cases hlt : k < d.size
      ·obtain ⟨x,hx⟩ : ∃ x,(bys d)[k]? = some x:=⟨_,List.getElem?_eq_getElem (by rw [bys_len];exact hlt)⟩
       have gk:=bys_get hx hlt
       have hx1 : (x.toNat : Int) < 256:=by have:=x.toNat_lt;omega
       have HX:=hid hx
       clear hx
       have HNO : Hid (¬ (48 ≤ x.toNat ∧ x.toNat ≤ 57) → numR (bys s) = none):=by
        intro hno
        refine HN.out ?_
        rintro ⟨-,-,h7⟩
        rw [List.all_eq_true] at h7
        exact hno ((digC_iff x).1 (h7 x (List.mem_of_getElem? HX.out)))
       by_cases h48 : (x.toNat : Int) < 48
       ·have HF : Hid (numR (bys s) = none):=HNO.out (by omega)
        go_wp2
        go_ret2
        exact ⟨by rw [HF.out];rfl,Ext.refl _⟩
       ·by_cases h57 : 57 < (x.toNat : Int)
        ·have HF : Hid (numR (bys s) = none):=HNO.out (by omega)
         go_wp2
         go_ret2
         exact ⟨by rw [HF.out];rfl,Ext.refl _⟩
        ·have h48' : 48 ≤ (x.toNat : Int):=by omega
         have HT : Hid ((bys d).take (k + 1) = (bys d).take k ++ [x]):=by show _ = _;rw [List.take_add_one,HX.out];rfl
         have HD2 : Hid (digC x = true):=(digC_iff x).2 (by omega)
         generalize hv : valFrom 0 ((bys d).take k) = m at *
         go_wp2
         refine ⟨⟨k + 1,by omega,by go_num,?_,?_⟩,by simp [intOf];omega⟩
         ·rw [HT.out,valFrom_snoc,hv]
          congr 1
          omega
         ·rw [HT.out]
          show _ = _
          rw [List.all_append,HA.out]
          simp [HD2.out]
      ·obtain rfl : k = d.size:=by omega
       have htk : Hid ((bys d).take d.size = bys d):=by show _ = _;rw [List.take_of_length_le (by rw [bys_len];omega)]
       have HF : Hid (numR (bys s) = some (-(valFrom 0 (bys d) : Int))):=HY.out ⟨by omega,by omega,by have:=HA.out;rwa [htk.out] at this⟩
       have HW : Hid (valFrom 0 ((bys d).take d.size) = valFrom 0 (bys d)):=by show _ = _;rw [htk.out]
       generalize valFrom 0 ((bys d).take d.size) = m at *
       go_wp2
       go_ret2
       refine ⟨?_,Ext.refl _⟩
       rw [HF.out,← HW.out]
       rfl
  ·have ty : ((y.toNat : Int) == 45) = false:=byte_isnt (k:=45) h45
   have HNEG : Hid (negB (bys s) = false):=by show _ = _;unfold negB;rw [Hy.out];simpa using h45
   by_cases h43 : y = 43
   ·have tz : ((y.toNat : Int) == 43) = true:=byte_is (k:=43) (by decide) h43
    obtain ⟨d,hd⟩ : ∃ d,s.extract 1 s.size = d:=⟨_,rfl⟩
    have HD : Hid (bys d = sgnD (bys s)):=by show _ = _;rw [← hd,ext_drop];unfold sgnD;rw [Hy.out,h43,if_pos (.inr rfl)]
    clear h45 h43
    go_enter Tryz.func131,Tryz.ntmps131
    have HN : Hid (¬ (1 ≤ d.size ∧ d.size ≤ 9 ∧ (bys d).all digC = true) → numR (bys s) = none):=by
     intro h
     unfold numR
     rw [← HD.out,bys_len,if_neg h]
    have HY : Hid ((1 ≤ d.size ∧ d.size ≤ 9 ∧ (bys d).all digC = true) → numR (bys s) = some ((valFrom 0 (bys d) : Int))):=by
     intro h
     unfold numR
     rw [← HD.out,bys_len,if_pos h,HNEG.out]
     rfl
    by_cases hl1 : d.size < 1
    ·have hl1' : (d.size : Int) < 1:=by omega
     have HF : Hid (numR (bys s) = none):=HN.out (by omega)
     clear hl1
     go_wp2
     go_ret2
     exact ⟨by rw [HF.out];rfl,Ext.refl _⟩
    ·have hl1' : ¬ (d.size : Int) < 1:=by omega
     by_cases hl2 : 9 < d.size
     ·have hl2' : 9 < (d.size : Int):=by omega
      have HF : Hid (numR (bys s) = none):=HN.out (by omega)
      clear hl1 hl2
      go_wp2
      go_ret2
      exact ⟨by rw [HF.out];rfl,Ext.refl _⟩
     ·have hl2' : ¬ 9 < (d.size : Int):=by omega
      go_wp2
      go_loop [4,6] (fun n i=>∃ k : Nat,k ≤ d.size ∧ i = .int .i64 k ∧ n = .int .i64 (valFrom 0 ((bys d).take k) : Int) ∧ Hid (((bys d).take k).all digC = true)) (fun _ i=>d.size - (intOf i).toNat)
      case atStart=>exact ⟨0,by omega,rfl,rfl,rfl⟩
      case round=>
       obtain ⟨k,hk,rfl,rfl,HA⟩:=hrel
       have hd9 : d.size ≤ 9:=by omega
       have HB : Hid (valFrom 0 ((bys d).take k) < 10 ^ k):=by
        have h:=valFrom_lt ((bys d).take k) 0 HA.out
        have h2 : ((bys d).take k).length ≤ k:=List.length_take_le _ _
        have h3 : 10 ^ ((bys d).take k).length ≤ 10 ^ k:=Nat.pow_le_pow_right (by decide) h2
        show _ < _
        omega
       have hv9 : valFrom 0 ((bys d).take k) < 1000000000:=by
        have h3 : 10 ^ k ≤ 10 ^ 9:=Nat.pow_le_pow_right (by decide) (by omega)
        have h4:=HB.out
        have h5 : (10 : Nat) ^ 9 = 1000000000:=rfl
        omega
       by_cases hlt : k < d.size
       ·obtain ⟨x,hx⟩ : ∃ x,(bys d)[k]? = some x:=⟨_,List.getElem?_eq_getElem (by rw [bys_len];exact hlt)⟩
        have gk:=bys_get hx hlt
        have hx1 : (x.toNat : Int) < 256:=by have:=x.toNat_lt;omega
        have HX:=hid hx
        clear hx
        have HNO : Hid (¬ (48 ≤ x.toNat ∧ x.toNat ≤ 57) → numR (bys s) = none):=by
         intro hno
         refine HN.out ?_
         rintro ⟨-,-,h7⟩
         rw [List.all_eq_true] at h7
         exact hno ((digC_iff x).1 (h7 x (List.mem_of_getElem? HX.out)))
        by_cases h48 : (x.toNat : Int) < 48
        ·have HF : Hid (numR (bys s) = none):=HNO.out (by omega)
         go_wp2
         go_ret2
         exact ⟨by rw [HF.out];rfl,Ext.refl _⟩
        ·by_cases h57 : 57 < (x.toNat : Int)
         ·have HF : Hid (numR (bys s) = none):=HNO.out (by omega)
          go_wp2
          go_ret2
          exact ⟨by rw [HF.out];rfl,Ext.refl _⟩
         ·have h48' : 48 ≤ (x.toNat : Int):=by omega
          have HT : Hid ((bys d).take (k + 1) = (bys d).take k ++ [x]):=by show _ = _;rw [List.take_add_one,HX.out];rfl
          have HD2 : Hid (digC x = true):=(digC_iff x).2 (by omega)
          generalize hv : valFrom 0 ((bys d).take k) = m at *
          go_wp2
          refine ⟨⟨k + 1,by omega,by go_num,?_,?_⟩,by simp [intOf];omega⟩
          ·rw [HT.out,valFrom_snoc,hv]
           congr 1
           omega
          ·rw [HT.out]
           show _ = _
           rw [List.all_append,HA.out]
           simp [HD2.out]
       ·obtain rfl : k = d.size:=by omega
        have htk : Hid ((bys d).take d.size = bys d):=by show _ = _;rw [List.take_of_length_le (by rw [bys_len];omega)]
        have HF : Hid (numR (bys s) = some ((valFrom 0 (bys d) : Int))):=HY.out ⟨by omega,by omega,by have:=HA.out;rwa [htk.out] at this⟩
        have HW : Hid (valFrom 0 ((bys d).take d.size) = valFrom 0 (bys d)):=by show _ = _;rw [htk.out]
        generalize valFrom 0 ((bys d).take d.size) = m at *
        go_wp2
        go_ret2
        refine ⟨?_,Ext.refl _⟩
        rw [HF.out,← HW.out]
        rfl
   ·have tz : ((y.toNat : Int) == 43) = false:=byte_isnt (k:=43) h43
    have HD : Hid (bys s = sgnD (bys s)):=by
     show _ = _
     unfold sgnD
     rw [Hy.out,if_neg]
     rintro (h | h)
     ·injection h with h;exact h45 h
     ·injection h with h;exact h43 h
    clear h45 h43
    go_enter Tryz.func131,Tryz.ntmps131
    have HN : Hid (¬ (1 ≤ s.size ∧ s.size ≤ 9 ∧ (bys s).all digC = true) → numR (bys s) = none):=by
     intro h
     unfold numR
     rw [← HD.out,bys_len,if_neg h]
    have HY : Hid ((1 ≤ s.size ∧ s.size ≤ 9 ∧ (bys s).all digC = true) → numR (bys s) = some ((valFrom 0 (bys s) : Int))):=by
     intro h
     unfold numR
     rw [← HD.out,bys_len,if_pos h,HNEG.out]
     rfl
    by_cases hl1 : s.size < 1
    ·have hl1' : (s.size : Int) < 1:=by omega
     have HF : Hid (numR (bys s) = none):=HN.out (by omega)
     clear hl1
     go_wp2
     go_ret2
     exact ⟨by rw [HF.out];rfl,Ext.refl _⟩
    ·have hl1' : ¬ (s.size : Int) < 1:=by omega
     by_cases hl2 : 9 < s.size
     ·have hl2' : 9 < (s.size : Int):=by omega
      have HF : Hid (numR (bys s) = none):=HN.out (by omega)
      clear hl1 hl2
      go_wp2
      go_ret2
      exact ⟨by rw [HF.out];rfl,Ext.refl _⟩
     ·have hl2' : ¬ 9 < (s.size : Int):=by omega
      go_wp2
      go_loop [4,6] (fun n i=>∃ k : Nat,k ≤ s.size ∧ i = .int .i64 k ∧ n = .int .i64 (valFrom 0 ((bys s).take k) : Int) ∧ Hid (((bys s).take k).all digC = true)) (fun _ i=>s.size - (intOf i).toNat)
      case atStart=>exact ⟨0,by omega,rfl,rfl,rfl⟩
      case round=>
       obtain ⟨k,hk,rfl,rfl,HA⟩:=hrel
       have hd9 : s.size ≤ 9:=by omega
       have HB : Hid (valFrom 0 ((bys s).take k) < 10 ^ k):=by
        have h:=valFrom_lt ((bys s).take k) 0 HA.out
        have h2 : ((bys s).take k).length ≤ k:=List.length_take_le _ _
        have h3 : 10 ^ ((bys s).take k).length ≤ 10 ^ k:=Nat.pow_le_pow_right (by decide) h2
        show _ < _
        omega
       have hv9 : valFrom 0 ((bys s).take k) < 1000000000:=by
        have h3 : 10 ^ k ≤ 10 ^ 9:=Nat.pow_le_pow_right (by decide) (by omega)
        have h4:=HB.out
        have h5 : (10 : Nat) ^ 9 = 1000000000:=rfl
        omega
       by_cases hlt : k < s.size
       ·obtain ⟨x,hx⟩ : ∃ x,(bys s)[k]? = some x:=⟨_,List.getElem?_eq_getElem (by rw [bys_len];exact hlt)⟩
        have gk:=bys_get hx hlt
        have hx1 : (x.toNat : Int) < 256:=by have:=x.toNat_lt;omega
        have HX:=hid hx
        clear hx
        have HNO : Hid (¬ (48 ≤ x.toNat ∧ x.toNat ≤ 57) → numR (bys s) = none):=by
         intro hno
         refine HN.out ?_
         rintro ⟨-,-,h7⟩
         rw [List.all_eq_true] at h7
         exact hno ((digC_iff x).1 (h7 x (List.mem_of_getElem? HX.out)))
        by_cases h48 : (x.toNat : Int) < 48
        ·have HF : Hid (numR (bys s) = none):=HNO.out (by omega)
         go_wp2
         go_ret2
         exact ⟨by rw [HF.out];rfl,Ext.refl _⟩
        ·by_cases h57 : 57 < (x.toNat : Int)
         ·have HF : Hid (numR (bys s) = none):=HNO.out (by omega)
          go_wp2
          go_ret2
          exact ⟨by rw [HF.out];rfl,Ext.refl _⟩
         ·have h48' : 48 ≤ (x.toNat : Int):=by omega
          have HT : Hid ((bys s).take (k + 1) = (bys s).take k ++ [x]):=by show _ = _;rw [List.take_add_one,HX.out];rfl
          have HD2 : Hid (digC x = true):=(digC_iff x).2 (by omega)
          generalize hv : valFrom 0 ((bys s).take k) = m at *
          go_wp2
          refine ⟨⟨k + 1,by omega,by go_num,?_,?_⟩,by simp [intOf];omega⟩
          ·rw [HT.out,valFrom_snoc,hv]
           congr 1
           omega
          ·rw [HT.out]
           show _ = _
           rw [List.all_append,HA.out]
           simp [HD2.out]
       ·obtain rfl : k = s.size:=by omega
        have htk : Hid ((bys s).take s.size = bys s):=by show _ = _;rw [List.take_of_length_le (by rw [bys_len];omega)]
        have HF : Hid (numR (bys s) = some ((valFrom 0 (bys s) : Int))):=HY.out ⟨by omega,by omega,by have:=HA.out;rwa [htk.out] at this⟩
        have HW : Hid (valFrom 0 ((bys s).take s.size) = valFrom 0 (bys s)):=by show _ = _;rw [htk.out]
        generalize valFrom 0 ((bys s).take s.size) = m at *
        go_wp2
        go_ret2
        refine ⟨?_,Ext.refl _⟩
        rw [HF.out,← HW.out]
        rfl
def secondR (b : Int) : List UInt8:=if b = 1 then [105] else if b = -1 then [45,105] else Lib.itoa b ++ [105]
def pairR (a b : Int) : List UInt8:=if b = 0 then Lib.itoa a else if a = 0 then secondR b else if 0 < b then Lib.itoa a ++ 43 :: secondR b else Lib.itoa a ++ secondR b
theorem dec_le : ∀ (n u : Nat),u ≤ n → (Lib.decDigits u).length ≤ u + 1
 | n,u,hn=>by
  by_cases h : u < 10
  ·rw [dec_small h];simp
  ·rw [dec_big h]
   cases n with
   | zero=>omega
   | succ n=>
    have:=dec_le n (u / 10) (by omega)
    rw [List.length_append,List.length_cons,List.length_nil]
    omega
theorem itoa_le (n : Int) : (Lib.itoa n).length ≤ n.natAbs + 2:=by
 unfold Lib.itoa
 split
 ·have:=dec_le _ n.natAbs (Nat.le_refl _);rw [List.length_cons];omega
 ·have:=dec_le _ n.toNat (Nat.le_refl _);omega
theorem second_le (n : Int) : (secondR n).length ≤ n.natAbs + 3:=by
 unfold secondR
 split
 ·simp
 ·split
  ·simp
  ·have:=itoa_le n;rw [List.length_append,List.length_cons,List.length_nil];omega
theorem second_any (b : Int) (w : World) (hG : Gl w) (h0 : -1000000000 ≤ b) (h1 : b ≤ 1000000000) : Calls Tryz.prog 152 #[.int .i64 b] w fun e w'=>e = .returned (.string (str (secondR b))) ∧ Ext w w':=by
 have HG:=hid hG
 clear hG
 by_cases hb1 : b = 1
 ·have t1 : (b == 1) = true:=by rw [hb1];rfl
  have HF : Hid (secondR b = [105]):=by show _ = _;unfold secondR;rw [if_pos hb1]
  clear hb1 h0 h1
  go_enter Tryz.func152,Tryz.ntmps152
  go_wp2
  go_ret
  exact ⟨by rw [HF.out];rfl,Ext.refl _⟩
 ·have t1 : (b == 1) = false:=by rw [beq_eq_false_iff_ne];exact hb1
  by_cases hb2 : b = -1
  ·have t2 : (b == -1) = true:=by rw [hb2];rfl
   have HF : Hid (secondR b = [45,105]):=by show _ = _;unfold secondR;rw [if_neg hb1,if_pos hb2]
   clear hb1 hb2 h0 h1
   go_enter Tryz.func152,Tryz.ntmps152
   go_wp2
   go_ret
   exact ⟨by rw [HF.out];rfl,Ext.refl _⟩
  ·have t2 : (b == -1) = false:=by rw [beq_eq_false_iff_ne];exact hb2
   have HF : Hid (secondR b = Lib.itoa b ++ [105]):=by show _ = _;unfold secondR;rw [if_neg hb1,if_neg hb2]
   have z1 : ¬ 9223372036854775807 < (Lib.itoa b).length + 1:=by have:=itoa_le b;omega
   clear hb1 hb2
   go_enter Tryz.func152,Tryz.ntmps152
   go_wp2_with (go_at_call 136;(with_reducible refine (formatint_any _ _ HG.out (by omega) (by omega)).mono ?_);rintro e w2 ⟨rfl,hx2⟩;have HX2:=hid hx2;clear hx2)
   go_ret
   exact ⟨by rw [HF.out,← str_app];rfl,HX2.out⟩
def withinR (a b : Int) : Bool:=decide (-1000000 ≤ a) && decide (a ≤ 1000000) && decide (-1000000 ≤ b) && decide (b ≤ 1000000)
theorem within_any (a b : Int) (w : World) : Calls Tryz.prog 132 #[.agg #[.int .i64 a,.int .i64 b]] w fun e w'=>e = .returned (.bool (withinR a b)) ∧ Ext w w':=by
 by_cases h1 : -1000000 ≤ a
 ·by_cases h2 : a ≤ 1000000
  ·by_cases h3 : -1000000 ≤ b
   ·by_cases h4 : b ≤ 1000000
    all_goals
     have HF : Hid (withinR a b = decide (b ≤ 1000000)):=by show _ = _;unfold withinR;simp [h1,h2,h3]
     have h5 : decide (b ≤ 1000000) = decide (b ≤ 1000000):=rfl
     go_enter Tryz.func132,Tryz.ntmps132
     go_wp2
     go_ret
     exact ⟨by rw [HF.out];first | rfl | simp [h4],Ext.alloc _ _⟩
   ·have HF : Hid (withinR a b = false):=by show _ = _;unfold withinR;simp [h3]
    go_enter Tryz.func132,Tryz.ntmps132
    go_wp2
    go_ret
    exact ⟨by rw [HF.out];rfl,Ext.alloc _ _⟩
  ·have HF : Hid (withinR a b = false):=by show _ = _;unfold withinR;simp [h2]
   go_enter Tryz.func132,Tryz.ntmps132
   go_wp2
   go_ret
   exact ⟨by rw [HF.out];rfl,Ext.alloc _ _⟩
 ·have HF : Hid (withinR a b = false):=by show _ = _;unfold withinR;simp [h1]
  go_enter Tryz.func132,Tryz.ntmps132
  go_wp2
  go_ret
  exact ⟨by rw [HF.out];rfl,Ext.alloc _ _⟩
theorem pairtext_any (a b : Int) (w : World) (hG : Gl w) (ha : -1000000000 ≤ a ∧ a ≤ 1000000000) (hb : -1000000000 ≤ b ∧ b ≤ 1000000000) :
 Calls Tryz.prog 133 #[.agg #[.int .i64 a,.int .i64 b]] w fun e w'=>e = .returned (.string (str (pairR a b))) ∧ Ext w w':=by
 have HG:=hid hG
 have HA:=hid ha
 have HB:=hid hb
 clear hG ha hb
 by_cases b0 : b = 0
 ·have t1 : (b == 0) = true:=by rw [b0];rfl
  have HF : Hid (pairR a b = Lib.itoa a):=by show _ = _;unfold pairR;rw [if_pos b0]
  clear b0
  go_enter Tryz.func133,Tryz.ntmps133
  go_wp2_with (go_at_call 136;(with_reducible refine (formatint_any _ _ (HG.out.ext (Ext.alloc _ _)) (by have:=HA.out;omega) (by have:=HA.out;omega)).mono ?_);rintro e w2 ⟨rfl,hx2⟩;have HX2:=hid hx2;clear hx2)
  go_ret
  exact ⟨by rw [HF.out];rfl,(Ext.alloc _ _).trans HX2.out⟩
 ·have t1 : (b == 0) = false:=by rw [beq_eq_false_iff_ne];exact b0
  by_cases a0 : a = 0
  ·have t2 : (a == 0) = true:=by rw [a0];rfl
   have HF : Hid (pairR a b = secondR b):=by show _ = _;unfold pairR;rw [if_neg b0,if_pos a0]
   clear b0 a0
   go_enter Tryz.func133,Tryz.ntmps133
   go_wp2_with (go_at_call 152;(with_reducible refine (second_any _ _ (HG.out.ext (Ext.alloc _ _)) HB.out.1 HB.out.2).mono ?_);rintro e w2 ⟨rfl,hx2⟩;have HX2:=hid hx2;clear hx2)
   go_ret
   exact ⟨by rw [HF.out];rfl,(Ext.alloc _ _).trans HX2.out⟩
  ·have t2 : (a == 0) = false:=by rw [beq_eq_false_iff_ne];exact a0
   by_cases hp : 0 < b
   ·have HF : Hid (pairR a b = Lib.itoa a ++ 43 :: secondR b):=by show _ = _;unfold pairR;rw [if_neg b0,if_neg a0,if_pos hp]
    have z1 : ¬ 9223372036854775807 < (Lib.itoa a).length + 1:=by have:=itoa_le a;have:=HA.out;omega
    have z2 : ¬ 9223372036854775807 < (Lib.itoa a).length + 1 + (secondR b).length:=by have:=itoa_le a;have:=second_le b;have:=HA.out;have:=HB.out;omega
    clear b0 a0
    go_enter Tryz.func133,Tryz.ntmps133
    go_wp2
    refine wp_region_plan (.read 0 (.read 1 (.read 4 (.read 5 (.main 2 (.read 3 (.main 6 (.read 7 (.read 8 .done))))))))) (by kernel_rfl) (by kernel_rfl) ?_
    intro wD hxD
    have XE : Hid (Ext wD wD):=Ext.refl _
    have X0 : Hid (Ext w wD):=(Ext.alloc _ _).trans hxD
    have p0:=cell_later (box_a w #[.int .i64 a,.int .i64 b] 165 0) _ hxD |> cell_later
    have p1:=cell_later (box_a w #[.int .i64 a,.int .i64 b] 165 1) _ hxD |> cell_later
    repeat' (first
     | ((first | refine walks_move rfl rfl ?_ | refine walks_assign rfl rfl ?_ | refine walks_skip rfl rfl ?_);simp only [Act.put,Act.eval,evs])
     | (refine walks_unwanted rfl rfl ?_;simp only [Act.put,evp])
     | (refine walks_read (v:=?_) rfl rfl (fun w' hE=>?_) ?_;rotate_left 1;(· ((try (have hEx:=Ext.trans (Hid.out XE) hE));go_simp;(try go_bits);with_reducible rfl));simp only [Act.put,evp])
     | (refine walks_alt ?_ ?_)
     | (refine walks_main rfl rfl (fun K hK=>?_);go_wp2_with (first | (go_at_call 136;(with_reducible refine (formatint_any _ _ (HG.out.ext (X0.out.trans XE.out)) (by have:=HA.out;omega) (by have:=HA.out;omega)).mono ?_);rintro e w2 ⟨rfl,hx2⟩;have XE':=hid (Ext.trans (Hid.out XE) hx2);clear XE;have XE:=XE';clear XE') | (go_at_call 152;(with_reducible refine (second_any _ _ (HG.out.ext (X0.out.trans XE.out)) HB.out.1 HB.out.2).mono ?_);rintro e w3 ⟨rfl,hx3⟩;have XE':=hid (Ext.trans (Hid.out XE) hx3);clear XE;have XE:=XE';clear XE'));refine hK _ _ (by first | assumption | exact Ext.alloc _ _ | exact Ext.refl _) ?_;clear hK K;try simp only [Act.put,evp]))
    refine walks_done ?_
    go_wp2
    go_ret
    refine ⟨?_,X0.out.trans XE.out⟩
    rw [HF.out,show Lib.itoa a ++ 43 :: secondR b = (Lib.itoa a ++ [43]) ++ secondR b by simp,← str_app,← str_app]
    rfl
   ·have HF : Hid (pairR a b = Lib.itoa a ++ secondR b):=by show _ = _;unfold pairR;rw [if_neg b0,if_neg a0,if_neg hp]
    have z2 : ¬ 9223372036854775807 < (Lib.itoa a).length + (secondR b).length:=by have:=itoa_le a;have:=second_le b;have:=HA.out;have:=HB.out;omega
    clear b0 a0
    go_enter Tryz.func133,Tryz.ntmps133
    go_wp2
    refine wp_region_plan (.read 0 (.read 1 (.read 3 (.read 4 (.main 2 (.main 5 (.read 6 (.read 7 .done)))))))) (by kernel_rfl) (by kernel_rfl) ?_
    intro wD hxD
    have XE : Hid (Ext wD wD):=Ext.refl _
    have X0 : Hid (Ext w wD):=(Ext.alloc _ _).trans hxD
    have p0:=cell_later (box_a w #[.int .i64 a,.int .i64 b] 165 0) _ hxD |> cell_later
    have p1:=cell_later (box_a w #[.int .i64 a,.int .i64 b] 165 1) _ hxD |> cell_later
    repeat' (first
     | ((first | refine walks_move rfl rfl ?_ | refine walks_assign rfl rfl ?_ | refine walks_skip rfl rfl ?_);simp only [Act.put,Act.eval,evs])
     | (refine walks_unwanted rfl rfl ?_;simp only [Act.put,evp])
     | (refine walks_read (v:=?_) rfl rfl (fun w' hE=>?_) ?_;rotate_left 1;(· ((try (have hEx:=Ext.trans (Hid.out XE) hE));go_simp;(try go_bits);with_reducible rfl));simp only [Act.put,evp])
     | (refine walks_alt ?_ ?_)
     | (refine walks_main rfl rfl (fun K hK=>?_);go_wp2_with (first | (go_at_call 136;(with_reducible refine (formatint_any _ _ (HG.out.ext (X0.out.trans XE.out)) (by have:=HA.out;omega) (by have:=HA.out;omega)).mono ?_);rintro e w2 ⟨rfl,hx2⟩;have XE':=hid (Ext.trans (Hid.out XE) hx2);clear XE;have XE:=XE';clear XE') | (go_at_call 152;(with_reducible refine (second_any _ _ (HG.out.ext (X0.out.trans XE.out)) HB.out.1 HB.out.2).mono ?_);rintro e w3 ⟨rfl,hx3⟩;have XE':=hid (Ext.trans (Hid.out XE) hx3);clear XE;have XE:=XE';clear XE'));refine hK _ _ (by first | assumption | exact Ext.alloc _ _ | exact Ext.refl _) ?_;clear hK K;try simp only [Act.put,evp]))
    refine walks_done ?_
    go_wp2
    go_ret
    refine ⟨?_,X0.out.trans XE.out⟩
    rw [HF.out,← str_app]
    rfl
def lastS (v : List UInt8) : Nat → Nat
 | 0=>0
 | i + 1=>if 1 ≤ i ∧ (v[i]? = some 43 ∨ v[i]? = some 45) then i else lastS v i
theorem lastS_lt (v : List UInt8) : ∀ i,0 < i → lastS v i < i
 | 0,h=>by omega
 | 1,_=>by simp [lastS]
 | i + 2,_=>by
  have:=lastS_lt v (i + 1) (by omega)
  unfold lastS
  split <;> omega
def atR (v : List UInt8) : Nat:=if v.getLast? = some 105 then lastS v v.length else v.length
def secR (b : List UInt8) : Option Int:=if b = [] ∨ b = [43] then some 1 else if b = [45] then some (-1) else numR b
def pairP (a b : Option Int) (v : List UInt8) : Option (Int × Int):=
 match a,b with
 | some a,some b=>if withinR a b = true ∧ pairR a b = v then some (a,b) else none
 | _,_=>none
def planeR (v : List UInt8) : Option (Int × Int):=
 pairP (if 0 < atR v then numR (v.take (atR v)) else some 0) (if atR v < v.length then secR ((v.take (v.length - 1)).drop (atR v)) else some 0) v
def PlaneSays (w : World) (v : List UInt8) (e : Ending) (w' : World) : Prop:=
 e = .returned (.tuple #[.agg #[.int .i64 ((planeR v).getD (0,0)).1,.int .i64 ((planeR v).getD (0,0)).2],.int .i64 (if (planeR v).isSome then 0 else 2)]) ∧ Ext w w'
theorem num_none {s1 : ByteArray} (h : s1.size ≤ 4000000) (hn : numR (bys s1) = none) : ∀ w,Calls Tryz.prog 131 #[.string s1] w fun e w'=>e = .returned (.tuple #[.int .i64 0,.bool false]) ∧ Ext w w':=fun w=>by
 have:=number_any s1 w h
 unfold NumSays at this
 rw [hn] at this
 exact this
theorem num_some {s1 : ByteArray} {a : Int} (h : s1.size ≤ 4000000) (hn : numR (bys s1) = some a) : ∀ w,Calls Tryz.prog 131 #[.string s1] w fun e w'=>e = .returned (.tuple #[.int .i64 a,.bool true]) ∧ Ext w w':=fun w=>by
 have:=number_any s1 w h
 unfold NumSays at this
 rw [hn] at this
 exact this
theorem pair_three {s : ByteArray} {a b : Int} (h : planeR (bys s) = pairP (some a) (some b) (bys s)) :
 (withinR a b = false ∧ Hid (planeR (bys s) = none)) ∨ (withinR a b = true ∧ (pairR a b == s.toList) = true ∧ Hid (planeR (bys s) = some (a,b))) ∨ (withinR a b = true ∧ (pairR a b == s.toList) = false ∧ Hid (planeR (bys s) = none)):=by
 cases hwi : withinR a b with
 | false=>exact .inl ⟨rfl,by show _ = _;rw [h];unfold pairP;simp [hwi]⟩
 | true=>
  by_cases htx : pairR a b = bys s
  ·exact .inr (.inl ⟨rfl,by rw [ByteArray.toList_eq,beq_iff_eq];exact htx,by show _ = _;rw [h];unfold pairP;simp [hwi,htx]⟩)
  ·exact .inr (.inr ⟨rfl,by rw [ByteArray.toList_eq,beq_eq_false_iff_ne];exact htx,by show _ = _;rw [h];unfold pairP;simp [hwi,htx]⟩)
theorem rplane_any (s : ByteArray) (w : World) (hG : Gl w) (hs : s.size ≤ 4000000) : Calls Tryz.prog 101 #[.string s] w (PlaneSays w (bys s)):=by
 have Hs:=hid hs
 have HG:=hid hG
 by_cases h0 : s.size = 0
 ·have HPL : Hid (planeR (bys s) = pairP (some 0) (some 0) (bys s)):=by rw [str_emp h0];rfl
  have HAB : Hid ((-1000000000 ≤ (0 : Int) ∧ (0 : Int) ≤ 1000000000) ∧ (-1000000000 ≤ (0 : Int) ∧ (0 : Int) ≤ 1000000000)):=⟨by omega,by omega⟩
  have t0 : ¬ 0 < (s.size : Int):=by omega
  clear h0 hs hG
  obtain ⟨hwi,HF⟩ | ⟨hwi,te,HF⟩ | ⟨hwi,te,HF⟩:=pair_three HPL.out
  all_goals try exact absurd hwi (by decide)
  all_goals
   have HWI:=hid hwi
   clear hwi
   go_enter Tryz.func101,Tryz.ntmps101
   go_wp2_with (first
    | (go_at_call 131;(with_reducible refine (HC1 _).mono ?_);rintro e w1 ⟨rfl,hx1⟩;obtain ⟨hr,hp⟩:=two_boxes hx1;have HR:=hid (hr.aside (Nat.le_succ _) (by omega) 0 (.int .i64 0) (k:=w.heap.size + 1));have HP:=hid (hp.set0 (.int .i64 0));obtain ⟨c0,c1,f0,f1,r0,r1,g0,g1⟩:=hp.eight hr;clear hx1 hr hp)
    | (go_at_call 131;(with_reducible refine (HC2 _).mono ?_);rintro e w2 ⟨rfl,hx2⟩;(try clear c0 c1 f0 f1 r0 r1 g0 g1);have hr:=HR.out.later hx2;have hp:=HP.out.later hx2;clear HR HP;have HR:=hid (hr.aside (Nat.le_succ _) (by omega) 1 (.int .i64 0) (k:=w.heap.size + 1));have HP:=hid (hp.set1 (.int .i64 0));obtain ⟨c0,c1,f0,f1,r0,r1,g0,g1⟩:=hp.eight hr;clear hx2 hr hp)
    | (go_at_call 132;(with_reducible refine (within_any 0 0 _).mono ?_);rintro e w3 ⟨he,hx3⟩;rw [HWI.out] at he;subst he;(try clear c0 c1 f0 f1 r0 r1 g0 g1);have hr : Bx w w3 w.heap.size 165 #[.int .i64 0,.int .i64 0]:=(by first | exact HR.out.later hx3 | exact (HR.out.aside (k:=w.heap.size + 1) (Nat.le_succ _) (by omega) 1 _).later hx3 | exact (two_boxes hx3).1);have hp : Bx w w3 (w.heap.size + 1) 165 #[.int .i64 0,.int .i64 0]:=(by first | exact HP.out.later hx3 | exact (HP.out.set1 _).later hx3 | exact (two_boxes hx3).2);(try clear HR HP);have HR:=hid hr;have HP:=hid hp;obtain ⟨c0,c1,f0,f1,r0,r1,g0,g1⟩:=hp.eight hr;clear hx3 hr hp)
    | (go_at_call 133;(with_reducible refine (pairtext_any 0 0 _ (HG.out.ext HP.out.ext) HAB.out.1 HAB.out.2).mono ?_);rintro e w4 ⟨rfl,hx4⟩;(try clear c0 c1 f0 f1 r0 r1 g0 g1);have hr:=HR.out.later hx4;have hp:=HP.out.later hx4;clear HR HP;have HR:=hid hr;have HP:=hid hp;obtain ⟨c0,c1,f0,f1,r0,r1,g0,g1⟩:=hp.eight hr;clear hx4 hr hp)
    )
   (try simp only [Exit.inBlock,Exit.then])
   refine ret_cell_tmp _ rfl rfl ((HR.out.set0 _).set1 _) Tryz.underlying165 rfl (by kernel_rfl) rfl ?_
   exact ⟨by rw [HF.out];rfl,(HP.out.ext.setCell (Nat.le_refl _) _).setCell (Nat.le_refl _) _⟩
 ·have t0 : 0 < (s.size : Int):=by omega
  obtain ⟨y,hy⟩ : ∃ y,(bys s)[s.size - 1]? = some y:=⟨_,List.getElem?_eq_getElem (by rw [bys_len];omega)⟩
  have hsz : s.size - 1 < s.size:=by omega
  have gy:=bys_get hy hsz
  have HL : Hid ((bys s).getLast? = some y):=by show _ = _;rw [List.getLast?_eq_getElem?,bys_len,hy]
  have z1 : ((s.size : Int) - 1).toNat = s.size - 1:=by omega
  have z2 : 0 ≤ (s.size : Int) - 1:=by omega
  clear hy
  by_cases h105 : y = 105
  ·have ty : ((y.toNat : Int) == 105) = true:=byte_is (k:=105) (by decide) h105
   have HA : Hid (atR (bys s) = lastS (bys s) s.size):=by show _ = _;unfold atR;rw [HL.out,if_pos (by rw [h105]),bys_len]
   clear h105 hG
   go_enter Tryz.func101,Tryz.ntmps101
   go_wp2
   go_loop [4,5] (fun v i=>∃ j : Nat,1 ≤ j ∧ j ≤ s.size ∧ i = .int .i64 j ∧ v = .int .i64 (lastS (bys s) j : Int)) (fun _ i=>s.size - (intOf i).toNat)
   case atStart=>exact ⟨1,by omega,by omega,rfl,rfl⟩
   case round=>
    obtain ⟨j,hj1,hj,rfl,rfl⟩:=hrel
    by_cases hlt : j < s.size
    ·obtain ⟨x,hx⟩:=at_some hlt
     have gx:=bys_get hx hlt
     by_cases hc : x = 43 ∨ x = 45
     ·have HH : Hid (lastS (bys s) (j + 1) = j):=by
       show _ = _
       unfold lastS
       rw [if_pos ⟨hj1,by rw [hx];exact hc.imp (fun h=>by rw [h]) (fun h=>by rw [h])⟩]
      have tc : ((x.toNat : Int) == 43) = true ∨ (((x.toNat : Int) == 43) = false ∧ ((x.toNat : Int) == 45) = true):=by
       rcases hc with rfl | rfl
       ·exact .inl rfl
       ·exact .inr ⟨rfl,rfl⟩
      clear hx hc
      rcases tc with q1 | ⟨q1,q2⟩
      all_goals
       go_wp2
       exact ⟨⟨j + 1,by omega,by omega,by go_num,by rw [HH.out]⟩,by simp [intOf];omega⟩
     ·have HH : Hid (lastS (bys s) (j + 1) = lastS (bys s) j):=by
       show _ = _
       conv=>lhs;unfold lastS
       rw [if_neg]
       rintro ⟨-,h⟩
       rw [hx] at h
       exact hc (h.imp (fun h=>by injection h) (fun h=>by injection h))
      have q1 : ((x.toNat : Int) == 43) = false:=byte_isnt (k:=43) (fun e=>hc (.inl e))
      have q2 : ((x.toNat : Int) == 45) = false:=byte_isnt (k:=45) (fun e=>hc (.inr e))
      clear hx hc
      go_wp2
      exact ⟨⟨j + 1,by omega,by omega,by go_num,by rw [HH.out]⟩,by simp [intOf];omega⟩
    ·obtain rfl : j = s.size:=by omega
     have hkl:=lastS_lt (bys s) s.size (by omega)
     have HPQ : Hid (planeR (bys s) = pairP (if 0 < lastS (bys s) s.size then numR ((bys s).take (lastS (bys s) s.size)) else some 0) (secR (((bys s).take (s.size - 1)).drop (lastS (bys s) s.size))) (bys s)):=by
      show _ = _
      unfold planeR
      rw [HA.out,if_pos (show lastS (bys s) s.size < (bys s).length by rw [bys_len];exact hkl),bys_len]
     clear HA
     generalize lastS (bys s) s.size = k at *
     obtain ⟨m,hm⟩ : ∃ m,m = ((bys s).take (s.size - 1)).drop k:=⟨_,rfl⟩
     have hs2 : s.extract k (s.size - 1) = str m:=by
      rw [hm,← str_bys (s.extract k (s.size - 1)),bys_ext,List.drop_take]
     have HZ2 : Hid ((str m).size ≤ 4000000):=by
      show _ ≤ _
      rw [hm,str_size,List.length_drop,List.length_take,bys_len]
      have:=Hs.out
      omega
     rw [← hm] at HPQ
     clear hm
     have z3 : (k : Int) < (s.size : Int):=by omega
     have z4 : (k : Int) ≤ (s.size : Int) - 1:=by omega
     have z5 : (s.size : Int) - 1 ≤ (s.size : Int):=by omega
     have z6 : (k : Int) ≤ (s.size : Int):=by omega
     have HS : Hid (∀ b,secR m = some b → -1000000000 ≤ b ∧ b ≤ 1000000000):=by
      intro b hb
      unfold secR at hb
      split at hb
      ·injection hb;omega
      ·split at hb
       ·injection hb;omega
       ·have:=numR_small hb;omega
     have HM : Hid (secR m = if m = [] ∨ m = [43] then some 1 else if m = [45] then some (-1) else numR m):=rfl
     have HN2:=num_none HZ2.out
     have HO2:=fun b=>num_some (a:=b) HZ2.out
     rw [bys_str] at HN2
     simp only [bys_str] at HO2
     have HN2:=hid HN2
     have HO2:=hid HO2
     by_cases hk0 : 0 < k
     ·have tk : 0 < (k : Int):=by omega
      obtain ⟨m1,hm1⟩ : ∃ m1,m1 = (bys s).take k:=⟨_,rfl⟩
      have hs1 : s.extract 0 k = str m1:=by rw [hm1,← str_bys (s.extract 0 k),bys_ext];rfl
      have HZ1 : Hid ((str m1).size ≤ 4000000):=by
       show _ ≤ _
       rw [hm1,str_size,List.length_take,bys_len]
       have:=Hs.out
       omega
      rw [if_pos hk0,← hm1] at HPQ
      clear hm1 hk0
      cases hn : numR m1 with
      | none=>
       have HF : Hid (planeR (bys s) = none):=by show _ = _;rw [HPQ.out,hn];rfl
       have HC1:=num_none HZ1.out (by rw [bys_str,hn])
       clear hn
       go_wp2_with (first
        | (go_at_call 131;(with_reducible refine (HC1 _).mono ?_);rintro e w1 ⟨rfl,hx1⟩;obtain ⟨hr,hp⟩:=two_boxes hx1;have HR:=hid (hr.aside (Nat.le_succ _) (by omega) 0 (.int .i64 0) (k:=w.heap.size + 1));have HP:=hid (hp.set0 (.int .i64 0));obtain ⟨c0,c1,f0,f1,r0,r1,g0,g1⟩:=hp.eight hr;clear hx1 hr hp)
        | (go_at_call 131;(with_reducible refine (HC2 _).mono ?_);rintro e w2 ⟨rfl,hx2⟩;(try clear c0 c1 f0 f1 r0 r1 g0 g1);have hr:=HR.out.later hx2;have hp:=HP.out.later hx2;clear HR HP;have HR:=hid (hr.aside (Nat.le_succ _) (by omega) 1 (.int .i64 0) (k:=w.heap.size + 1));have HP:=hid (hp.set1 (.int .i64 0));obtain ⟨c0,c1,f0,f1,r0,r1,g0,g1⟩:=hp.eight hr;clear hx2 hr hp)
        )
       (try simp only [Exit.inBlock,Exit.then])
       refine ret_cell_tmp _ rfl rfl ((HR.out.set0 (.int .i64 0)).set1 (.int .i64 0)) Tryz.underlying165 rfl (by kernel_rfl) rfl ?_
       exact ⟨by rw [HF.out];rfl,(HP.out.ext.setCell (Nat.le_refl _) _).setCell (Nat.le_refl _) _⟩
      | some a=>
       have hsm:=numR_small hn
       have HC1:=num_some HZ1.out (by rw [bys_str,hn])
       have HAa : Hid (-1000000000 ≤ a ∧ a ≤ 1000000000):=⟨by omega,by omega⟩
       rw [hn] at HPQ
       clear hn hsm
       by_cases hb0 : m = []
       ·have b0 : (m == []) = true:=by rw [hb0];rfl
        have HPL : Hid (planeR (bys s) = pairP (some (a)) (some (1)) (bys s)):=by show _ = _;rw [HPQ.out,HM.out];rw [if_pos (.inl hb0)]
        have HAB : Hid ((-1000000000 ≤ (a : Int) ∧ (a : Int) ≤ 1000000000) ∧ (-1000000000 ≤ (1 : Int) ∧ (1 : Int) ≤ 1000000000)):=⟨HAa.out,by omega⟩
        obtain ⟨hwi,HF⟩ | ⟨hwi,te,HF⟩ | ⟨hwi,te,HF⟩:=pair_three HPL.out
        all_goals try exact absurd hwi (by decide)
        all_goals
         have HWI:=hid hwi
         clear hwi
         clear hb0
         go_wp2_with (first
          | (go_at_call 131;(with_reducible refine (HC1 _).mono ?_);rintro e w1 ⟨rfl,hx1⟩;obtain ⟨hr,hp⟩:=two_boxes hx1;have HR:=hid (hr.aside (Nat.le_succ _) (by omega) 0 (.int .i64 a) (k:=w.heap.size + 1));have HP:=hid (hp.set0 (.int .i64 a));obtain ⟨c0,c1,f0,f1,r0,r1,g0,g1⟩:=hp.eight hr;clear hx1 hr hp)
          | (go_at_call 131;(with_reducible refine (HC2 _).mono ?_);rintro e w2 ⟨rfl,hx2⟩;(try clear c0 c1 f0 f1 r0 r1 g0 g1);have hr:=HR.out.later hx2;have hp:=HP.out.later hx2;clear HR HP;have HR:=hid (hr.aside (Nat.le_succ _) (by omega) 1 (.int .i64 (1)) (k:=w.heap.size + 1));have HP:=hid (hp.set1 (.int .i64 (1)));obtain ⟨c0,c1,f0,f1,r0,r1,g0,g1⟩:=hp.eight hr;clear hx2 hr hp)
          | (go_at_call 132;(with_reducible refine (within_any a (1) _).mono ?_);rintro e w3 ⟨he,hx3⟩;rw [HWI.out] at he;subst he;(try clear c0 c1 f0 f1 r0 r1 g0 g1);have hr : Bx w w3 w.heap.size 165 #[.int .i64 0,.int .i64 0]:=(by first | exact HR.out.later hx3 | exact (HR.out.aside (k:=w.heap.size + 1) (Nat.le_succ _) (by omega) 1 _).later hx3 | exact (two_boxes hx3).1);have hp : Bx w w3 (w.heap.size + 1) 165 #[.int .i64 a,.int .i64 (1)]:=(by first | exact HP.out.later hx3 | exact (HP.out.set1 _).later hx3 | exact (two_boxes hx3).2);(try clear HR HP);have HR:=hid hr;have HP:=hid hp;obtain ⟨c0,c1,f0,f1,r0,r1,g0,g1⟩:=hp.eight hr;clear hx3 hr hp)
          | (go_at_call 133;(with_reducible refine (pairtext_any a (1) _ (HG.out.ext HP.out.ext) HAB.out.1 HAB.out.2).mono ?_);rintro e w4 ⟨rfl,hx4⟩;(try clear c0 c1 f0 f1 r0 r1 g0 g1);have hr:=HR.out.later hx4;have hp:=HP.out.later hx4;clear HR HP;have HR:=hid hr;have HP:=hid hp;obtain ⟨c0,c1,f0,f1,r0,r1,g0,g1⟩:=hp.eight hr;clear hx4 hr hp)
          )
         (try simp only [Exit.inBlock,Exit.then])
         refine ret_cell_tmp _ rfl rfl ((HR.out.set0 _).set1 _) Tryz.underlying165 rfl (by kernel_rfl) rfl ?_
         exact ⟨by rw [HF.out];rfl,(HP.out.ext.setCell (Nat.le_refl _) _).setCell (Nat.le_refl _) _⟩
       ·have b0 : (m == []) = false:=by rw [beq_eq_false_iff_ne];exact hb0
        by_cases hb1 : m = [43]
        ·have b1 : (m == [43]) = true:=by rw [hb1];rfl
         have HPL : Hid (planeR (bys s) = pairP (some (a)) (some (1)) (bys s)):=by show _ = _;rw [HPQ.out,HM.out];rw [if_pos (.inr hb1)]
         have HAB : Hid ((-1000000000 ≤ (a : Int) ∧ (a : Int) ≤ 1000000000) ∧ (-1000000000 ≤ (1 : Int) ∧ (1 : Int) ≤ 1000000000)):=⟨HAa.out,by omega⟩
         obtain ⟨hwi,HF⟩ | ⟨hwi,te,HF⟩ | ⟨hwi,te,HF⟩:=pair_three HPL.out
         all_goals try exact absurd hwi (by decide)
         all_goals
          have HWI:=hid hwi
          clear hwi
          clear hb0 hb1
          go_wp2_with (first
           | (go_at_call 131;(with_reducible refine (HC1 _).mono ?_);rintro e w1 ⟨rfl,hx1⟩;obtain ⟨hr,hp⟩:=two_boxes hx1;have HR:=hid (hr.aside (Nat.le_succ _) (by omega) 0 (.int .i64 a) (k:=w.heap.size + 1));have HP:=hid (hp.set0 (.int .i64 a));obtain ⟨c0,c1,f0,f1,r0,r1,g0,g1⟩:=hp.eight hr;clear hx1 hr hp)
           | (go_at_call 131;(with_reducible refine (HC2 _).mono ?_);rintro e w2 ⟨rfl,hx2⟩;(try clear c0 c1 f0 f1 r0 r1 g0 g1);have hr:=HR.out.later hx2;have hp:=HP.out.later hx2;clear HR HP;have HR:=hid (hr.aside (Nat.le_succ _) (by omega) 1 (.int .i64 (1)) (k:=w.heap.size + 1));have HP:=hid (hp.set1 (.int .i64 (1)));obtain ⟨c0,c1,f0,f1,r0,r1,g0,g1⟩:=hp.eight hr;clear hx2 hr hp)
           | (go_at_call 132;(with_reducible refine (within_any a (1) _).mono ?_);rintro e w3 ⟨he,hx3⟩;rw [HWI.out] at he;subst he;(try clear c0 c1 f0 f1 r0 r1 g0 g1);have hr : Bx w w3 w.heap.size 165 #[.int .i64 0,.int .i64 0]:=(by first | exact HR.out.later hx3 | exact (HR.out.aside (k:=w.heap.size + 1) (Nat.le_succ _) (by omega) 1 _).later hx3 | exact (two_boxes hx3).1);have hp : Bx w w3 (w.heap.size + 1) 165 #[.int .i64 a,.int .i64 (1)]:=(by first | exact HP.out.later hx3 | exact (HP.out.set1 _).later hx3 | exact (two_boxes hx3).2);(try clear HR HP);have HR:=hid hr;have HP:=hid hp;obtain ⟨c0,c1,f0,f1,r0,r1,g0,g1⟩:=hp.eight hr;clear hx3 hr hp)
           | (go_at_call 133;(with_reducible refine (pairtext_any a (1) _ (HG.out.ext HP.out.ext) HAB.out.1 HAB.out.2).mono ?_);rintro e w4 ⟨rfl,hx4⟩;(try clear c0 c1 f0 f1 r0 r1 g0 g1);have hr:=HR.out.later hx4;have hp:=HP.out.later hx4;clear HR HP;have HR:=hid hr;have HP:=hid hp;obtain ⟨c0,c1,f0,f1,r0,r1,g0,g1⟩:=hp.eight hr;clear hx4 hr hp)
           )
          (try simp only [Exit.inBlock,Exit.then])
          refine ret_cell_tmp _ rfl rfl ((HR.out.set0 _).set1 _) Tryz.underlying165 rfl (by kernel_rfl) rfl ?_
          exact ⟨by rw [HF.out];rfl,(HP.out.ext.setCell (Nat.le_refl _) _).setCell (Nat.le_refl _) _⟩
        ·have b1 : (m == [43]) = false:=by rw [beq_eq_false_iff_ne];exact hb1
         rw [if_neg (fun h=>h.elim hb0 hb1)] at HM
         by_cases hb2 : m = [45]
         ·have b2 : (m == [45]) = true:=by rw [hb2];rfl
          have HPL : Hid (planeR (bys s) = pairP (some (a)) (some (-1)) (bys s)):=by show _ = _;rw [HPQ.out,HM.out];rw [if_pos hb2]
          have HAB : Hid ((-1000000000 ≤ (a : Int) ∧ (a : Int) ≤ 1000000000) ∧ (-1000000000 ≤ (-1 : Int) ∧ (-1 : Int) ≤ 1000000000)):=⟨HAa.out,by omega⟩
          obtain ⟨hwi,HF⟩ | ⟨hwi,te,HF⟩ | ⟨hwi,te,HF⟩:=pair_three HPL.out
          all_goals try exact absurd hwi (by decide)
          all_goals
           have HWI:=hid hwi
           clear hwi
           clear hb0 hb1 hb2
           go_wp2_with (first
            | (go_at_call 131;(with_reducible refine (HC1 _).mono ?_);rintro e w1 ⟨rfl,hx1⟩;obtain ⟨hr,hp⟩:=two_boxes hx1;have HR:=hid (hr.aside (Nat.le_succ _) (by omega) 0 (.int .i64 a) (k:=w.heap.size + 1));have HP:=hid (hp.set0 (.int .i64 a));obtain ⟨c0,c1,f0,f1,r0,r1,g0,g1⟩:=hp.eight hr;clear hx1 hr hp)
            | (go_at_call 131;(with_reducible refine (HC2 _).mono ?_);rintro e w2 ⟨rfl,hx2⟩;(try clear c0 c1 f0 f1 r0 r1 g0 g1);have hr:=HR.out.later hx2;have hp:=HP.out.later hx2;clear HR HP;have HR:=hid (hr.aside (Nat.le_succ _) (by omega) 1 (.int .i64 (-1)) (k:=w.heap.size + 1));have HP:=hid (hp.set1 (.int .i64 (-1)));obtain ⟨c0,c1,f0,f1,r0,r1,g0,g1⟩:=hp.eight hr;clear hx2 hr hp)
            | (go_at_call 132;(with_reducible refine (within_any a (-1) _).mono ?_);rintro e w3 ⟨he,hx3⟩;rw [HWI.out] at he;subst he;(try clear c0 c1 f0 f1 r0 r1 g0 g1);have hr : Bx w w3 w.heap.size 165 #[.int .i64 0,.int .i64 0]:=(by first | exact HR.out.later hx3 | exact (HR.out.aside (k:=w.heap.size + 1) (Nat.le_succ _) (by omega) 1 _).later hx3 | exact (two_boxes hx3).1);have hp : Bx w w3 (w.heap.size + 1) 165 #[.int .i64 a,.int .i64 (-1)]:=(by first | exact HP.out.later hx3 | exact (HP.out.set1 _).later hx3 | exact (two_boxes hx3).2);(try clear HR HP);have HR:=hid hr;have HP:=hid hp;obtain ⟨c0,c1,f0,f1,r0,r1,g0,g1⟩:=hp.eight hr;clear hx3 hr hp)
            | (go_at_call 133;(with_reducible refine (pairtext_any a (-1) _ (HG.out.ext HP.out.ext) HAB.out.1 HAB.out.2).mono ?_);rintro e w4 ⟨rfl,hx4⟩;(try clear c0 c1 f0 f1 r0 r1 g0 g1);have hr:=HR.out.later hx4;have hp:=HP.out.later hx4;clear HR HP;have HR:=hid hr;have HP:=hid hp;obtain ⟨c0,c1,f0,f1,r0,r1,g0,g1⟩:=hp.eight hr;clear hx4 hr hp)
            )
           (try simp only [Exit.inBlock,Exit.then])
           refine ret_cell_tmp _ rfl rfl ((HR.out.set0 _).set1 _) Tryz.underlying165 rfl (by kernel_rfl) rfl ?_
           exact ⟨by rw [HF.out];rfl,(HP.out.ext.setCell (Nat.le_refl _) _).setCell (Nat.le_refl _) _⟩
         ·have b2 : (m == [45]) = false:=by rw [beq_eq_false_iff_ne];exact hb2
          rw [if_neg hb2] at HM
          clear hb0 hb1 hb2
          cases hn2 : numR m with
          | none=>
           have HF : Hid (planeR (bys s) = none):=by show _ = _;rw [HPQ.out,HM.out,hn2];rfl
           have HC2:=HN2.out hn2
           clear hn2
           skip
           go_wp2_with (first
            | (go_at_call 131;(with_reducible refine (HC1 _).mono ?_);rintro e w1 ⟨rfl,hx1⟩;obtain ⟨hr,hp⟩:=two_boxes hx1;have HR:=hid (hr.aside (Nat.le_succ _) (by omega) 0 (.int .i64 a) (k:=w.heap.size + 1));have HP:=hid (hp.set0 (.int .i64 a));obtain ⟨c0,c1,f0,f1,r0,r1,g0,g1⟩:=hp.eight hr;clear hx1 hr hp)
            | (go_at_call 131;(with_reducible refine (HC2 _).mono ?_);rintro e w2 ⟨rfl,hx2⟩;(try clear c0 c1 f0 f1 r0 r1 g0 g1);have hr:=HR.out.later hx2;have hp:=HP.out.later hx2;clear HR HP;have HR:=hid (hr.aside (Nat.le_succ _) (by omega) 1 (.int .i64 0) (k:=w.heap.size + 1));have HP:=hid (hp.set1 (.int .i64 0));obtain ⟨c0,c1,f0,f1,r0,r1,g0,g1⟩:=hp.eight hr;clear hx2 hr hp)
            )
           (try simp only [Exit.inBlock,Exit.then])
           refine ret_cell_tmp _ rfl rfl ((HR.out.set0 (.int .i64 0)).set1 (.int .i64 0)) Tryz.underlying165 rfl (by kernel_rfl) rfl ?_
           exact ⟨by rw [HF.out];rfl,(HP.out.ext.setCell (Nat.le_refl _) _).setCell (Nat.le_refl _) _⟩
          | some b=>
           have HPL : Hid (planeR (bys s) = pairP (some (a)) (some b) (bys s)):=by show _ = _;rw [HPQ.out,HM.out,hn2]
           have HAB : Hid ((-1000000000 ≤ (a : Int) ∧ (a : Int) ≤ 1000000000) ∧ (-1000000000 ≤ b ∧ b ≤ 1000000000)):=⟨HAa.out,HS.out b (by rw [HM.out,hn2])⟩
           have HC2:=HO2.out b hn2
           clear hn2
           skip
           obtain ⟨hwi,HF⟩ | ⟨hwi,te,HF⟩ | ⟨hwi,te,HF⟩:=pair_three HPL.out
           all_goals try exact absurd hwi (by decide)
           all_goals
            have HWI:=hid hwi
            clear hwi
            skip
            go_wp2_with (first
             | (go_at_call 131;(with_reducible refine (HC1 _).mono ?_);rintro e w1 ⟨rfl,hx1⟩;obtain ⟨hr,hp⟩:=two_boxes hx1;have HR:=hid (hr.aside (Nat.le_succ _) (by omega) 0 (.int .i64 a) (k:=w.heap.size + 1));have HP:=hid (hp.set0 (.int .i64 a));obtain ⟨c0,c1,f0,f1,r0,r1,g0,g1⟩:=hp.eight hr;clear hx1 hr hp)
             | (go_at_call 131;(with_reducible refine (HC2 _).mono ?_);rintro e w2 ⟨rfl,hx2⟩;(try clear c0 c1 f0 f1 r0 r1 g0 g1);have hr:=HR.out.later hx2;have hp:=HP.out.later hx2;clear HR HP;have HR:=hid (hr.aside (Nat.le_succ _) (by omega) 1 (.int .i64 b) (k:=w.heap.size + 1));have HP:=hid (hp.set1 (.int .i64 b));obtain ⟨c0,c1,f0,f1,r0,r1,g0,g1⟩:=hp.eight hr;clear hx2 hr hp)
             | (go_at_call 132;(with_reducible refine (within_any a b _).mono ?_);rintro e w3 ⟨he,hx3⟩;rw [HWI.out] at he;subst he;(try clear c0 c1 f0 f1 r0 r1 g0 g1);have hr : Bx w w3 w.heap.size 165 #[.int .i64 0,.int .i64 0]:=(by first | exact HR.out.later hx3 | exact (HR.out.aside (k:=w.heap.size + 1) (Nat.le_succ _) (by omega) 1 _).later hx3 | exact (two_boxes hx3).1);have hp : Bx w w3 (w.heap.size + 1) 165 #[.int .i64 a,.int .i64 b]:=(by first | exact HP.out.later hx3 | exact (HP.out.set1 _).later hx3 | exact (two_boxes hx3).2);(try clear HR HP);have HR:=hid hr;have HP:=hid hp;obtain ⟨c0,c1,f0,f1,r0,r1,g0,g1⟩:=hp.eight hr;clear hx3 hr hp)
             | (go_at_call 133;(with_reducible refine (pairtext_any a b _ (HG.out.ext HP.out.ext) HAB.out.1 HAB.out.2).mono ?_);rintro e w4 ⟨rfl,hx4⟩;(try clear c0 c1 f0 f1 r0 r1 g0 g1);have hr:=HR.out.later hx4;have hp:=HP.out.later hx4;clear HR HP;have HR:=hid hr;have HP:=hid hp;obtain ⟨c0,c1,f0,f1,r0,r1,g0,g1⟩:=hp.eight hr;clear hx4 hr hp)
             )
            (try simp only [Exit.inBlock,Exit.then])
            refine ret_cell_tmp _ rfl rfl ((HR.out.set0 _).set1 _) Tryz.underlying165 rfl (by kernel_rfl) rfl ?_
            exact ⟨by rw [HF.out];rfl,(HP.out.ext.setCell (Nat.le_refl _) _).setCell (Nat.le_refl _) _⟩
     ·have tk : ¬ 0 < (k : Int):=by omega
      obtain rfl : k = 0:=by omega
      rw [if_neg (by omega)] at HPQ
      have HAa : Hid (-1000000000 ≤ (0 : Int) ∧ (0 : Int) ≤ 1000000000):=⟨by omega,by omega⟩
      by_cases hb0 : m = []
      ·have b0 : (m == []) = true:=by rw [hb0];rfl
       have HPL : Hid (planeR (bys s) = pairP (some (0)) (some (1)) (bys s)):=by show _ = _;rw [HPQ.out,HM.out];rw [if_pos (.inl hb0)]
       have HAB : Hid ((-1000000000 ≤ (0 : Int) ∧ (0 : Int) ≤ 1000000000) ∧ (-1000000000 ≤ (1 : Int) ∧ (1 : Int) ≤ 1000000000)):=⟨HAa.out,by omega⟩
       obtain ⟨hwi,HF⟩ | ⟨hwi,te,HF⟩ | ⟨hwi,te,HF⟩:=pair_three HPL.out
       all_goals try exact absurd hwi (by decide)
       all_goals
        have HWI:=hid hwi
        clear hwi
        clear hb0
        go_wp2_with (first
         | (go_at_call 131;(with_reducible refine (HC1 _).mono ?_);rintro e w1 ⟨rfl,hx1⟩;obtain ⟨hr,hp⟩:=two_boxes hx1;have HR:=hid (hr.aside (Nat.le_succ _) (by omega) 0 (.int .i64 0) (k:=w.heap.size + 1));have HP:=hid (hp.set0 (.int .i64 0));obtain ⟨c0,c1,f0,f1,r0,r1,g0,g1⟩:=hp.eight hr;clear hx1 hr hp)
         | (go_at_call 131;(with_reducible refine (HC2 _).mono ?_);rintro e w2 ⟨rfl,hx2⟩;(try clear c0 c1 f0 f1 r0 r1 g0 g1);have hr:=HR.out.later hx2;have hp:=HP.out.later hx2;clear HR HP;have HR:=hid (hr.aside (Nat.le_succ _) (by omega) 1 (.int .i64 (1)) (k:=w.heap.size + 1));have HP:=hid (hp.set1 (.int .i64 (1)));obtain ⟨c0,c1,f0,f1,r0,r1,g0,g1⟩:=hp.eight hr;clear hx2 hr hp)
         | (go_at_call 132;(with_reducible refine (within_any 0 (1) _).mono ?_);rintro e w3 ⟨he,hx3⟩;rw [HWI.out] at he;subst he;(try clear c0 c1 f0 f1 r0 r1 g0 g1);have hr : Bx w w3 w.heap.size 165 #[.int .i64 0,.int .i64 0]:=(by first | exact HR.out.later hx3 | exact (HR.out.aside (k:=w.heap.size + 1) (Nat.le_succ _) (by omega) 1 _).later hx3 | exact (two_boxes hx3).1);have hp : Bx w w3 (w.heap.size + 1) 165 #[.int .i64 0,.int .i64 (1)]:=(by first | exact HP.out.later hx3 | exact (HP.out.set1 _).later hx3 | exact (two_boxes hx3).2);(try clear HR HP);have HR:=hid hr;have HP:=hid hp;obtain ⟨c0,c1,f0,f1,r0,r1,g0,g1⟩:=hp.eight hr;clear hx3 hr hp)
         | (go_at_call 133;(with_reducible refine (pairtext_any 0 (1) _ (HG.out.ext HP.out.ext) HAB.out.1 HAB.out.2).mono ?_);rintro e w4 ⟨rfl,hx4⟩;(try clear c0 c1 f0 f1 r0 r1 g0 g1);have hr:=HR.out.later hx4;have hp:=HP.out.later hx4;clear HR HP;have HR:=hid hr;have HP:=hid hp;obtain ⟨c0,c1,f0,f1,r0,r1,g0,g1⟩:=hp.eight hr;clear hx4 hr hp)
         )
        (try simp only [Exit.inBlock,Exit.then])
        refine ret_cell_tmp _ rfl rfl ((HR.out.set0 _).set1 _) Tryz.underlying165 rfl (by kernel_rfl) rfl ?_
        exact ⟨by rw [HF.out];rfl,(HP.out.ext.setCell (Nat.le_refl _) _).setCell (Nat.le_refl _) _⟩
      ·have b0 : (m == []) = false:=by rw [beq_eq_false_iff_ne];exact hb0
       by_cases hb1 : m = [43]
       ·have b1 : (m == [43]) = true:=by rw [hb1];rfl
        have HPL : Hid (planeR (bys s) = pairP (some (0)) (some (1)) (bys s)):=by show _ = _;rw [HPQ.out,HM.out];rw [if_pos (.inr hb1)]
        have HAB : Hid ((-1000000000 ≤ (0 : Int) ∧ (0 : Int) ≤ 1000000000) ∧ (-1000000000 ≤ (1 : Int) ∧ (1 : Int) ≤ 1000000000)):=⟨HAa.out,by omega⟩
        obtain ⟨hwi,HF⟩ | ⟨hwi,te,HF⟩ | ⟨hwi,te,HF⟩:=pair_three HPL.out
        all_goals try exact absurd hwi (by decide)
        all_goals
         have HWI:=hid hwi
         clear hwi
         clear hb0 hb1
         go_wp2_with (first
          | (go_at_call 131;(with_reducible refine (HC1 _).mono ?_);rintro e w1 ⟨rfl,hx1⟩;obtain ⟨hr,hp⟩:=two_boxes hx1;have HR:=hid (hr.aside (Nat.le_succ _) (by omega) 0 (.int .i64 0) (k:=w.heap.size + 1));have HP:=hid (hp.set0 (.int .i64 0));obtain ⟨c0,c1,f0,f1,r0,r1,g0,g1⟩:=hp.eight hr;clear hx1 hr hp)
          | (go_at_call 131;(with_reducible refine (HC2 _).mono ?_);rintro e w2 ⟨rfl,hx2⟩;(try clear c0 c1 f0 f1 r0 r1 g0 g1);have hr:=HR.out.later hx2;have hp:=HP.out.later hx2;clear HR HP;have HR:=hid (hr.aside (Nat.le_succ _) (by omega) 1 (.int .i64 (1)) (k:=w.heap.size + 1));have HP:=hid (hp.set1 (.int .i64 (1)));obtain ⟨c0,c1,f0,f1,r0,r1,g0,g1⟩:=hp.eight hr;clear hx2 hr hp)
          | (go_at_call 132;(with_reducible refine (within_any 0 (1) _).mono ?_);rintro e w3 ⟨he,hx3⟩;rw [HWI.out] at he;subst he;(try clear c0 c1 f0 f1 r0 r1 g0 g1);have hr : Bx w w3 w.heap.size 165 #[.int .i64 0,.int .i64 0]:=(by first | exact HR.out.later hx3 | exact (HR.out.aside (k:=w.heap.size + 1) (Nat.le_succ _) (by omega) 1 _).later hx3 | exact (two_boxes hx3).1);have hp : Bx w w3 (w.heap.size + 1) 165 #[.int .i64 0,.int .i64 (1)]:=(by first | exact HP.out.later hx3 | exact (HP.out.set1 _).later hx3 | exact (two_boxes hx3).2);(try clear HR HP);have HR:=hid hr;have HP:=hid hp;obtain ⟨c0,c1,f0,f1,r0,r1,g0,g1⟩:=hp.eight hr;clear hx3 hr hp)
          | (go_at_call 133;(with_reducible refine (pairtext_any 0 (1) _ (HG.out.ext HP.out.ext) HAB.out.1 HAB.out.2).mono ?_);rintro e w4 ⟨rfl,hx4⟩;(try clear c0 c1 f0 f1 r0 r1 g0 g1);have hr:=HR.out.later hx4;have hp:=HP.out.later hx4;clear HR HP;have HR:=hid hr;have HP:=hid hp;obtain ⟨c0,c1,f0,f1,r0,r1,g0,g1⟩:=hp.eight hr;clear hx4 hr hp)
          )
         (try simp only [Exit.inBlock,Exit.then])
         refine ret_cell_tmp _ rfl rfl ((HR.out.set0 _).set1 _) Tryz.underlying165 rfl (by kernel_rfl) rfl ?_
         exact ⟨by rw [HF.out];rfl,(HP.out.ext.setCell (Nat.le_refl _) _).setCell (Nat.le_refl _) _⟩
       ·have b1 : (m == [43]) = false:=by rw [beq_eq_false_iff_ne];exact hb1
        rw [if_neg (fun h=>h.elim hb0 hb1)] at HM
        by_cases hb2 : m = [45]
        ·have b2 : (m == [45]) = true:=by rw [hb2];rfl
         have HPL : Hid (planeR (bys s) = pairP (some (0)) (some (-1)) (bys s)):=by show _ = _;rw [HPQ.out,HM.out];rw [if_pos hb2]
         have HAB : Hid ((-1000000000 ≤ (0 : Int) ∧ (0 : Int) ≤ 1000000000) ∧ (-1000000000 ≤ (-1 : Int) ∧ (-1 : Int) ≤ 1000000000)):=⟨HAa.out,by omega⟩
         obtain ⟨hwi,HF⟩ | ⟨hwi,te,HF⟩ | ⟨hwi,te,HF⟩:=pair_three HPL.out
         all_goals try exact absurd hwi (by decide)
         all_goals
          have HWI:=hid hwi
          clear hwi
          clear hb0 hb1 hb2
          go_wp2_with (first
           | (go_at_call 131;(with_reducible refine (HC1 _).mono ?_);rintro e w1 ⟨rfl,hx1⟩;obtain ⟨hr,hp⟩:=two_boxes hx1;have HR:=hid (hr.aside (Nat.le_succ _) (by omega) 0 (.int .i64 0) (k:=w.heap.size + 1));have HP:=hid (hp.set0 (.int .i64 0));obtain ⟨c0,c1,f0,f1,r0,r1,g0,g1⟩:=hp.eight hr;clear hx1 hr hp)
           | (go_at_call 131;(with_reducible refine (HC2 _).mono ?_);rintro e w2 ⟨rfl,hx2⟩;(try clear c0 c1 f0 f1 r0 r1 g0 g1);have hr:=HR.out.later hx2;have hp:=HP.out.later hx2;clear HR HP;have HR:=hid (hr.aside (Nat.le_succ _) (by omega) 1 (.int .i64 (-1)) (k:=w.heap.size + 1));have HP:=hid (hp.set1 (.int .i64 (-1)));obtain ⟨c0,c1,f0,f1,r0,r1,g0,g1⟩:=hp.eight hr;clear hx2 hr hp)
           | (go_at_call 132;(with_reducible refine (within_any 0 (-1) _).mono ?_);rintro e w3 ⟨he,hx3⟩;rw [HWI.out] at he;subst he;(try clear c0 c1 f0 f1 r0 r1 g0 g1);have hr : Bx w w3 w.heap.size 165 #[.int .i64 0,.int .i64 0]:=(by first | exact HR.out.later hx3 | exact (HR.out.aside (k:=w.heap.size + 1) (Nat.le_succ _) (by omega) 1 _).later hx3 | exact (two_boxes hx3).1);have hp : Bx w w3 (w.heap.size + 1) 165 #[.int .i64 0,.int .i64 (-1)]:=(by first | exact HP.out.later hx3 | exact (HP.out.set1 _).later hx3 | exact (two_boxes hx3).2);(try clear HR HP);have HR:=hid hr;have HP:=hid hp;obtain ⟨c0,c1,f0,f1,r0,r1,g0,g1⟩:=hp.eight hr;clear hx3 hr hp)
           | (go_at_call 133;(with_reducible refine (pairtext_any 0 (-1) _ (HG.out.ext HP.out.ext) HAB.out.1 HAB.out.2).mono ?_);rintro e w4 ⟨rfl,hx4⟩;(try clear c0 c1 f0 f1 r0 r1 g0 g1);have hr:=HR.out.later hx4;have hp:=HP.out.later hx4;clear HR HP;have HR:=hid hr;have HP:=hid hp;obtain ⟨c0,c1,f0,f1,r0,r1,g0,g1⟩:=hp.eight hr;clear hx4 hr hp)
           )
          (try simp only [Exit.inBlock,Exit.then])
          refine ret_cell_tmp _ rfl rfl ((HR.out.set0 _).set1 _) Tryz.underlying165 rfl (by kernel_rfl) rfl ?_
          exact ⟨by rw [HF.out];rfl,(HP.out.ext.setCell (Nat.le_refl _) _).setCell (Nat.le_refl _) _⟩
        ·have b2 : (m == [45]) = false:=by rw [beq_eq_false_iff_ne];exact hb2
         rw [if_neg hb2] at HM
         clear hb0 hb1 hb2
         cases hn2 : numR m with
         | none=>
          have HF : Hid (planeR (bys s) = none):=by show _ = _;rw [HPQ.out,HM.out,hn2];rfl
          have HC2:=HN2.out hn2
          clear hn2
          (obtain ⟨hr,hp⟩:=two_boxes (w:=w) (T:=165) (U:=165) (xs:=#[.int .i64 0,.int .i64 0]) (ys:=#[.int .i64 0,.int .i64 0]) (Ext.refl _);have HR:=hid hr;have HP:=hid hp;clear hr hp)
          go_wp2_with (first
           | (go_at_call 131;(with_reducible refine (HC1 _).mono ?_);rintro e w1 ⟨rfl,hx1⟩;obtain ⟨hr,hp⟩:=two_boxes hx1;have HR:=hid (hr.aside (Nat.le_succ _) (by omega) 0 (.int .i64 0) (k:=w.heap.size + 1));have HP:=hid (hp.set0 (.int .i64 0));obtain ⟨c0,c1,f0,f1,r0,r1,g0,g1⟩:=hp.eight hr;clear hx1 hr hp)
           | (go_at_call 131;(with_reducible refine (HC2 _).mono ?_);rintro e w2 ⟨rfl,hx2⟩;(try clear c0 c1 f0 f1 r0 r1 g0 g1);have hr:=HR.out.later hx2;have hp:=HP.out.later hx2;clear HR HP;have HR:=hid (hr.aside (Nat.le_succ _) (by omega) 1 (.int .i64 0) (k:=w.heap.size + 1));have HP:=hid (hp.set1 (.int .i64 0));obtain ⟨c0,c1,f0,f1,r0,r1,g0,g1⟩:=hp.eight hr;clear hx2 hr hp)
           )
          (try simp only [Exit.inBlock,Exit.then])
          refine ret_cell_tmp _ rfl rfl ((HR.out.set0 (.int .i64 0)).set1 (.int .i64 0)) Tryz.underlying165 rfl (by kernel_rfl) rfl ?_
          exact ⟨by rw [HF.out];rfl,(HP.out.ext.setCell (Nat.le_refl _) _).setCell (Nat.le_refl _) _⟩
         | some b=>
          have HPL : Hid (planeR (bys s) = pairP (some (0)) (some b) (bys s)):=by show _ = _;rw [HPQ.out,HM.out,hn2]
          have HAB : Hid ((-1000000000 ≤ (0 : Int) ∧ (0 : Int) ≤ 1000000000) ∧ (-1000000000 ≤ b ∧ b ≤ 1000000000)):=⟨HAa.out,HS.out b (by rw [HM.out,hn2])⟩
          have HC2:=HO2.out b hn2
          clear hn2
          (obtain ⟨hr,hp⟩:=two_boxes (w:=w) (T:=165) (U:=165) (xs:=#[.int .i64 0,.int .i64 0]) (ys:=#[.int .i64 0,.int .i64 0]) (Ext.refl _);have HR:=hid hr;have HP:=hid hp;clear hr hp)
          obtain ⟨hwi,HF⟩ | ⟨hwi,te,HF⟩ | ⟨hwi,te,HF⟩:=pair_three HPL.out
          all_goals try exact absurd hwi (by decide)
          all_goals
           have HWI:=hid hwi
           clear hwi
           skip
           go_wp2_with (first
            | (go_at_call 131;(with_reducible refine (HC1 _).mono ?_);rintro e w1 ⟨rfl,hx1⟩;obtain ⟨hr,hp⟩:=two_boxes hx1;have HR:=hid (hr.aside (Nat.le_succ _) (by omega) 0 (.int .i64 0) (k:=w.heap.size + 1));have HP:=hid (hp.set0 (.int .i64 0));obtain ⟨c0,c1,f0,f1,r0,r1,g0,g1⟩:=hp.eight hr;clear hx1 hr hp)
            | (go_at_call 131;(with_reducible refine (HC2 _).mono ?_);rintro e w2 ⟨rfl,hx2⟩;(try clear c0 c1 f0 f1 r0 r1 g0 g1);have hr:=HR.out.later hx2;have hp:=HP.out.later hx2;clear HR HP;have HR:=hid (hr.aside (Nat.le_succ _) (by omega) 1 (.int .i64 b) (k:=w.heap.size + 1));have HP:=hid (hp.set1 (.int .i64 b));obtain ⟨c0,c1,f0,f1,r0,r1,g0,g1⟩:=hp.eight hr;clear hx2 hr hp)
            | (go_at_call 132;(with_reducible refine (within_any 0 b _).mono ?_);rintro e w3 ⟨he,hx3⟩;rw [HWI.out] at he;subst he;(try clear c0 c1 f0 f1 r0 r1 g0 g1);have hr : Bx w w3 w.heap.size 165 #[.int .i64 0,.int .i64 0]:=(by first | exact HR.out.later hx3 | exact (HR.out.aside (k:=w.heap.size + 1) (Nat.le_succ _) (by omega) 1 _).later hx3 | exact (two_boxes hx3).1);have hp : Bx w w3 (w.heap.size + 1) 165 #[.int .i64 0,.int .i64 b]:=(by first | exact HP.out.later hx3 | exact (HP.out.set1 _).later hx3 | exact (two_boxes hx3).2);(try clear HR HP);have HR:=hid hr;have HP:=hid hp;obtain ⟨c0,c1,f0,f1,r0,r1,g0,g1⟩:=hp.eight hr;clear hx3 hr hp)
            | (go_at_call 133;(with_reducible refine (pairtext_any 0 b _ (HG.out.ext HP.out.ext) HAB.out.1 HAB.out.2).mono ?_);rintro e w4 ⟨rfl,hx4⟩;(try clear c0 c1 f0 f1 r0 r1 g0 g1);have hr:=HR.out.later hx4;have hp:=HP.out.later hx4;clear HR HP;have HR:=hid hr;have HP:=hid hp;obtain ⟨c0,c1,f0,f1,r0,r1,g0,g1⟩:=hp.eight hr;clear hx4 hr hp)
            )
           (try simp only [Exit.inBlock,Exit.then])
           refine ret_cell_tmp _ rfl rfl ((HR.out.set0 _).set1 _) Tryz.underlying165 rfl (by kernel_rfl) rfl ?_
           exact ⟨by rw [HF.out];rfl,(HP.out.ext.setCell (Nat.le_refl _) _).setCell (Nat.le_refl _) _⟩
  ·have ty : ((y.toNat : Int) == 105) = false:=byte_isnt (k:=105) h105
   have HA : Hid (atR (bys s) = s.size):=by show _ = _;unfold atR;rw [HL.out,if_neg (fun e=>h105 (by injection e)),bys_len]
   have HP0 : Hid (planeR (bys s) = pairP (numR (bys s)) (some 0) (bys s)):=by
    show _ = _
    unfold planeR
    rw [HA.out,if_pos (by omega),if_neg (by rw [bys_len];omega),List.take_of_length_le (Nat.le_of_eq (bys_len s))]
   obtain ⟨s1,hs1⟩ : ∃ s1,s.extract 0 s.size = s1:=⟨_,rfl⟩
   have HE1 : Hid (bys s1 = bys s):=by show _ = _;rw [← hs1,ext_drop];rfl
   have HZ1 : Hid (s1.size ≤ 4000000):=by show _ ≤ _;rw [← bys_len,HE1.out,bys_len];exact hs
   clear h105
   cases hn : numR (bys s) with
   | none=>
    have HF : Hid (planeR (bys s) = none):=by show _ = _;rw [HP0.out,hn];rfl
    have HC1:=num_none HZ1.out (by rw [HE1.out,hn])
    clear hn
    go_enter Tryz.func101,Tryz.ntmps101
    go_wp2_with (first
     | (go_at_call 131;(with_reducible refine (HC1 _).mono ?_);rintro e w1 ⟨rfl,hx1⟩;obtain ⟨hr,hp⟩:=two_boxes hx1;have HR:=hid (hr.aside (Nat.le_succ _) (by omega) 0 (.int .i64 0) (k:=w.heap.size + 1));have HP:=hid (hp.set0 (.int .i64 0));obtain ⟨c0,c1,f0,f1,r0,r1,g0,g1⟩:=hp.eight hr;clear hx1 hr hp)
     | (go_at_call 131;(with_reducible refine (HC2 _).mono ?_);rintro e w2 ⟨rfl,hx2⟩;(try clear c0 c1 f0 f1 r0 r1 g0 g1);have hr:=HR.out.later hx2;have hp:=HP.out.later hx2;clear HR HP;have HR:=hid (hr.aside (Nat.le_succ _) (by omega) 1 (.int .i64 0) (k:=w.heap.size + 1));have HP:=hid (hp.set1 (.int .i64 0));obtain ⟨c0,c1,f0,f1,r0,r1,g0,g1⟩:=hp.eight hr;clear hx2 hr hp)
     )
    (try simp only [Exit.inBlock,Exit.then])
    refine ret_cell_tmp _ rfl rfl ((HR.out.set0 (.int .i64 0)).set1 (.int .i64 0)) Tryz.underlying165 rfl (by kernel_rfl) rfl ?_
    exact ⟨by rw [HF.out];rfl,(HP.out.ext.setCell (Nat.le_refl _) _).setCell (Nat.le_refl _) _⟩
   | some a=>
    have HPL : Hid (planeR (bys s) = pairP (some a) (some 0) (bys s)):=by show _ = _;rw [HP0.out,hn]
    have hsm:=numR_small hn
    have HAB : Hid ((-1000000000 ≤ a ∧ a ≤ 1000000000) ∧ (-1000000000 ≤ (0 : Int) ∧ (0 : Int) ≤ 1000000000)):=⟨by omega,by omega⟩
    have HC1:=num_some HZ1.out (by rw [HE1.out,hn])
    clear hn hsm
    obtain ⟨hwi,HF⟩ | ⟨hwi,te,HF⟩ | ⟨hwi,te,HF⟩:=pair_three HPL.out
    all_goals try exact absurd hwi (by decide)
    all_goals
     have HWI:=hid hwi
     clear hwi
     go_enter Tryz.func101,Tryz.ntmps101
     go_wp2_with (first
      | (go_at_call 131;(with_reducible refine (HC1 _).mono ?_);rintro e w1 ⟨rfl,hx1⟩;obtain ⟨hr,hp⟩:=two_boxes hx1;have HR:=hid (hr.aside (Nat.le_succ _) (by omega) 0 (.int .i64 a) (k:=w.heap.size + 1));have HP:=hid (hp.set0 (.int .i64 a));obtain ⟨c0,c1,f0,f1,r0,r1,g0,g1⟩:=hp.eight hr;clear hx1 hr hp)
      | (go_at_call 131;(with_reducible refine (HC2 _).mono ?_);rintro e w2 ⟨rfl,hx2⟩;(try clear c0 c1 f0 f1 r0 r1 g0 g1);have hr:=HR.out.later hx2;have hp:=HP.out.later hx2;clear HR HP;have HR:=hid (hr.aside (Nat.le_succ _) (by omega) 1 (.int .i64 0) (k:=w.heap.size + 1));have HP:=hid (hp.set1 (.int .i64 0));obtain ⟨c0,c1,f0,f1,r0,r1,g0,g1⟩:=hp.eight hr;clear hx2 hr hp)
      | (go_at_call 132;(with_reducible refine (within_any a 0 _).mono ?_);rintro e w3 ⟨he,hx3⟩;rw [HWI.out] at he;subst he;(try clear c0 c1 f0 f1 r0 r1 g0 g1);have hr : Bx w w3 w.heap.size 165 #[.int .i64 0,.int .i64 0]:=(by first | exact HR.out.later hx3 | exact (HR.out.aside (k:=w.heap.size + 1) (Nat.le_succ _) (by omega) 1 _).later hx3 | exact (two_boxes hx3).1);have hp : Bx w w3 (w.heap.size + 1) 165 #[.int .i64 a,.int .i64 0]:=(by first | exact HP.out.later hx3 | exact (HP.out.set1 _).later hx3 | exact (two_boxes hx3).2);(try clear HR HP);have HR:=hid hr;have HP:=hid hp;obtain ⟨c0,c1,f0,f1,r0,r1,g0,g1⟩:=hp.eight hr;clear hx3 hr hp)
      | (go_at_call 133;(with_reducible refine (pairtext_any a 0 _ (HG.out.ext HP.out.ext) HAB.out.1 HAB.out.2).mono ?_);rintro e w4 ⟨rfl,hx4⟩;(try clear c0 c1 f0 f1 r0 r1 g0 g1);have hr:=HR.out.later hx4;have hp:=HP.out.later hx4;clear HR HP;have HR:=hid hr;have HP:=hid hp;obtain ⟨c0,c1,f0,f1,r0,r1,g0,g1⟩:=hp.eight hr;clear hx4 hr hp)
      )
     (try simp only [Exit.inBlock,Exit.then])
     refine ret_cell_tmp _ rfl rfl ((HR.out.set0 _).set1 _) Tryz.underlying165 rfl (by kernel_rfl) rfl ?_
     exact ⟨by rw [HF.out];rfl,(HP.out.ext.setCell (Nat.le_refl _) _).setCell (Nat.le_refl _) _⟩
end Go.Proofs.YtahahafhendgoaaGreatDoor
