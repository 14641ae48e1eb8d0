/- Lemmas of the walk that the last text of this claim joins. -/
import Derived.Test.YtejdpadhemeldaaGreatDoorZ13
import Derived.Test.YtejdpadhemeldaaGreatDoorZ09
import Derived.Test.YtejdpadhemeldaaGreatDoorZ10
set_option maxHeartbeats 40000000
set_option linter.unusedVariables false
set_option linter.unusedSimpArgs false
namespace Go.Proofs.YtejdpadhemeldaaGreatDoor
open Go.RowKit
set_option maxRecDepth 100000
theorem parse_bound {v : List UInt8} {n : Int} (h : Lib.parseIntB 64 v = .ok n) : -9223372036854775808 ≤ n ∧ n ≤ 9223372036854775807:=by
 cases v with
 | nil=>cases h
 | cons c t=>
  simp only [Lib.parseIntB] at h
  generalize Lib.parseUintB 64 _ = r at h
  rcases r with u | _ | _
  ·simp only at h
   by_cases hc : c.toNat = 45
   ·simp only [hc,not_true_eq_false,false_and,if_false,true_and,if_true] at h
    by_cases h2 : 2 ^ (64 - 1) < u
    ·rw [if_pos h2] at h;cases h
    ·rw [if_neg h2] at h;injection h with h;omega
   ·simp only [hc,not_false_eq_true,true_and,false_and,if_false] at h
    by_cases h2 : 2 ^ (64 - 1) ≤ u
    ·rw [if_pos h2] at h;cases h
    ·rw [if_neg h2] at h;injection h with h;omega
  ·cases h
  ·cases h
def normP (k : Int) (v : List UInt8) : List UInt8 × Bool:=
 if k = 1 then (joinSp (wordsB (lowerB v)),decide (joinSp (wordsB (lowerB v)) ≠ [] ∧ (0 : UInt8) ∉ joinSp (wordsB (lowerB v))))
 else if k = 3 then (v,intB v) else (v,true)
def NormPSays (w : World) (k : Int) (v : List UInt8) (e : Ending) (w' : World) : Prop:=e = .returned (.tuple #[.string (str (normP k v).1),.bool (normP k v).2]) ∧ Ext w w'
theorem normal1_any (s : ByteArray) (w : World) (hG : Gl w) (hs : s.size ≤ 1000000) :
 Calls Tryz.prog 120 #[.int .i64 1,.string s] w (NormPSays w 1 (bys s)):=by
 have Hs:=hid hs
 have HG:=hid hG
 have hlo : (lowerB (bys s)).length ≤ 1000000:=by unfold lowerB;rw [List.length_map,bys_len];exact hs
 have HN : Hid (normP 1 (bys s) = (joinSp (wordsB (lowerB (bys s))),decide (joinSp (wordsB (lowerB (bys s))) ≠ [] ∧ (0 : UInt8) ∉ joinSp (wordsB (lowerB (bys s)))))):=rfl
 have HL : ∀ w : World,Calls Tryz.prog 83 #[.string s] w fun e w'=>e = .returned (.string (str (lowerB (bys s)))) ∧ Ext w w':=fun w=>lower_any s w (by have:=Hs.out;simp only [maxLen];omega)
 have HJ:=hid (words_le (lowerB (bys s)))
 have HW:=hid (wordsB_len (lowerB (bys s)))
 generalize lowerB (bys s) = m at *
 obtain ⟨t,ht⟩ : ∃ t,t = joinSp (wordsB m):=⟨_,rfl⟩
 have HT:=hid ht
 rw [← ht] at HN
 have Hm:=hid hlo
 clear hs hG ht hlo
 by_cases h0 : t = []
 ·have t0 : (t == []) = true:=by rw [h0];rfl
  have HF : Hid (normP 1 (bys s) = (t,false)):=by show _ = _;rw [HN.out,decide_eq_false (fun h=>h.1 h0)]
  clear h0
  go_enter Tryz.func120,Tryz.ntmps120
  go_wp2_with (first
   | (go_at_call 83;(with_reducible refine (HL _).mono ?_);rintro e w1 ⟨rfl,hx1⟩;have HX1:=hid hx1;clear hx1)
   | (go_at_call 140;(with_reducible refine (words_row (str m) _ (HG.out.ext HX1.out) (by rw [str_size];have:=Hm.out;omega)).mono ?_);rintro e w2 ⟨A2,n2,c2,rfl,hr2,hx2⟩;rw [bys_str] at hr2;have HX2:=hid hx2;have HR2:=hid hr2;clear hx2 hr2)
   | (go_at_call 37;(with_reducible refine (join_any _ ⟨#[32]⟩ HR2.out (by have h1:=HW.out;have h2:=Hm.out;rw [List.length_map];omega) (by rw [strs_data];have h3:=join_sp (wordsB m);have h1:=HJ.out;have h2:=Hm.out;show (Lib.join (wordsB m) [32]).length ≤ _;rw [h3];omega)).mono ?_);rintro e w3 ⟨he3,hx3⟩;have HX3:=hid hx3;rw [strs_bys,join_sp,← HT.out] at he3;subst he3;clear hx3)
   )
  go_ret2
  exact ⟨by rw [HF.out];rfl,HX1.out.trans (HX2.out.trans HX3.out)⟩
 ·have t0 : (t == []) = false:=by rw [beq_eq_false_iff_ne];exact h0
  by_cases hz : (0 : UInt8) ∈ t
  ·have HF : Hid (normP 1 (bys s) = (t,false)):=by show _ = _;rw [HN.out,decide_eq_false (fun h=>h.2 hz)]
   have HZ:=hid hz
   clear h0 hz
   go_enter Tryz.func120,Tryz.ntmps120
   go_wp2_with (first
    | (go_at_call 133;(with_reducible refine (indexbyte_yes (str t) 0 0 rfl _ (by rw [bys_str];exact HZ.out)).mono ?_);rintro e w4 ⟨⟨i,rfl⟩,rfl⟩)
    | (go_at_call 83;(with_reducible refine (HL _).mono ?_);rintro e w1 ⟨rfl,hx1⟩;have HX1:=hid hx1;clear hx1)
    | (go_at_call 140;(with_reducible refine (words_row (str m) _ (HG.out.ext HX1.out) (by rw [str_size];have:=Hm.out;omega)).mono ?_);rintro e w2 ⟨A2,n2,c2,rfl,hr2,hx2⟩;rw [bys_str] at hr2;have HX2:=hid hx2;have HR2:=hid hr2;clear hx2 hr2)
    | (go_at_call 37;(with_reducible refine (join_any _ ⟨#[32]⟩ HR2.out (by have h1:=HW.out;have h2:=Hm.out;rw [List.length_map];omega) (by rw [strs_data];have h3:=join_sp (wordsB m);have h1:=HJ.out;have h2:=Hm.out;show (Lib.join (wordsB m) [32]).length ≤ _;rw [h3];omega)).mono ?_);rintro e w3 ⟨he3,hx3⟩;have HX3:=hid hx3;rw [strs_bys,join_sp,← HT.out] at he3;subst he3;clear hx3)
   )
   go_ret2
   exact ⟨by rw [HF.out];rfl,HX1.out.trans (HX2.out.trans HX3.out)⟩
  ·have HF : Hid (normP 1 (bys s) = (t,true)):=by show _ = _;rw [HN.out,decide_eq_true ⟨h0,hz⟩]
   have HZ:=hid hz
   clear h0 hz
   go_enter Tryz.func120,Tryz.ntmps120
   go_wp2_with (first
    | (go_at_call 133;(with_reducible refine (indexbyte_no (str t) 0 0 rfl _ (by rw [bys_str];exact HZ.out)).mono ?_);rintro e w4 ⟨rfl,rfl⟩)
    | (go_at_call 83;(with_reducible refine (HL _).mono ?_);rintro e w1 ⟨rfl,hx1⟩;have HX1:=hid hx1;clear hx1)
    | (go_at_call 140;(with_reducible refine (words_row (str m) _ (HG.out.ext HX1.out) (by rw [str_size];have:=Hm.out;omega)).mono ?_);rintro e w2 ⟨A2,n2,c2,rfl,hr2,hx2⟩;rw [bys_str] at hr2;have HX2:=hid hx2;have HR2:=hid hr2;clear hx2 hr2)
    | (go_at_call 37;(with_reducible refine (join_any _ ⟨#[32]⟩ HR2.out (by have h1:=HW.out;have h2:=Hm.out;rw [List.length_map];omega) (by rw [strs_data];have h3:=join_sp (wordsB m);have h1:=HJ.out;have h2:=Hm.out;show (Lib.join (wordsB m) [32]).length ≤ _;rw [h3];omega)).mono ?_);rintro e w3 ⟨he3,hx3⟩;have HX3:=hid hx3;rw [strs_bys,join_sp,← HT.out] at he3;subst he3;clear hx3)
   )
   go_ret2
   exact ⟨by rw [HF.out];rfl,HX1.out.trans (HX2.out.trans HX3.out)⟩
theorem normal3_any (s : ByteArray) (w : World) (hG : Gl w) (hs : s.size ≤ 1000000) :
 Calls Tryz.prog 120 #[.int .i64 3,.string s] w (NormPSays w 3 (bys s)):=by
 have Hs:=hid hs
 have HG:=hid hG
 have HN : Hid (normP 3 (bys s) = (bys s,intB (bys s))):=rfl
 clear hs hG
 cases hb : intB (bys s) with
 | true=>
  have HB:=hid hb
  have HP:=hid (parse_int hb)
  have HI:=hid (itoa_int hb)
  have hsm:=intV_small hb
  have HV : Hid (-9223372036854775808 ≤ intV (bys s) ∧ intV (bys s) ≤ 9223372036854775807):=by
   show _ ∧ _
   unfold intV
   split <;> omega
  have hl : ((digsB (bys s)).length : Int) ≤ 18:=by have:=((intB_iff _).1 hb).2.1;omega
  have te : (bys s == s.toList) = true:=by rw [ByteArray.toList_eq,beq_iff_eq]
  clear hb hsm
  go_enter Tryz.func120,Tryz.ntmps120
  go_wp2_with (first
   | (go_at_call 141;(with_reducible refine (parseint_ok s _ _ (by have:=Hs.out;omega) HP.out).mono ?_);rintro e w1 ⟨rfl,hx1⟩;have HX1:=hid hx1;clear hx1)
   | (go_at_call 142;(with_reducible refine (formatint_any _ _ (HG.out.ext HX1.out) HV.out.1 HV.out.2).mono ?_);rintro e w2 ⟨he2,hx2⟩;rw [HI.out] at he2;subst he2;have HX2:=hid hx2;clear hx2)
   | (go_at_call 143;(with_reducible refine (trimdash_any s _).mono ?_);rintro e w3 ⟨rfl,rfl⟩))
  go_ret2
  refine ⟨?_,HX1.out.trans HX2.out⟩
  rw [HN.out,HB.out,str_bys]
  rfl
 | false=>
  have HB:=hid hb
  by_cases hp : ∃ n,Lib.parseIntB 64 (bys s) = .ok n
  ·obtain ⟨n,hn⟩:=hp
   have HP:=hid hn
   have HV:=hid (parse_bound hn)
   by_cases he : Lib.itoa n = bys s
   ·have HI:=hid he
    have hl : decide (((digsB (bys s)).length : Int) ≤ 18) = false:=by
     rw [decide_eq_false_iff_not]
     intro h
     have:=int_prog (bys s) n he (by rw [trim_dash];omega)
     rw [hb] at this
     cases this
    have te : (bys s == s.toList) = true:=by rw [ByteArray.toList_eq,beq_iff_eq]
    clear hb hn he
    go_enter Tryz.func120,Tryz.ntmps120
    go_wp2_with (first
     | (go_at_call 141;(with_reducible refine (parseint_ok s _ _ (by have:=Hs.out;omega) HP.out).mono ?_);rintro e w1 ⟨rfl,hx1⟩;have HX1:=hid hx1;clear hx1)
     | (go_at_call 142;(with_reducible refine (formatint_any _ _ (HG.out.ext HX1.out) HV.out.1 HV.out.2).mono ?_);rintro e w2 ⟨he2,hx2⟩;rw [HI.out] at he2;subst he2;have HX2:=hid hx2;clear hx2)
     | (go_at_call 143;(with_reducible refine (trimdash_any s _).mono ?_);rintro e w3 ⟨rfl,rfl⟩))
    go_ret2
    refine ⟨?_,HX1.out.trans HX2.out⟩
    rw [HN.out,HB.out,str_bys]
    rfl
   ·have te : (Lib.itoa n == s.toList) = false:=by rw [ByteArray.toList_eq,beq_eq_false_iff_ne];exact he
    clear hb hn he
    go_enter Tryz.func120,Tryz.ntmps120
    go_wp2_with (first
     | (go_at_call 141;(with_reducible refine (parseint_ok s _ _ (by have:=Hs.out;omega) HP.out).mono ?_);rintro e w1 ⟨rfl,hx1⟩;have HX1:=hid hx1;clear hx1)
     | (go_at_call 142;(with_reducible refine (formatint_any _ _ (HG.out.ext HX1.out) HV.out.1 HV.out.2).mono ?_);rintro e w2 ⟨rfl,hx2⟩;have HX2:=hid hx2;clear hx2))
    go_ret2
    refine ⟨?_,HX1.out.trans HX2.out⟩
    rw [HN.out,HB.out,str_bys]
    rfl
  ·have HP : Hid (∀ n,Lib.parseIntB 64 (bys s) ≠ .ok n):=fun n h=>hp ⟨n,h⟩
   clear hp hb
   go_enter Tryz.func120,Tryz.ntmps120
   go_wp2_with (first
    | (go_at_call 141;(with_reducible refine (parseint_bad s _ HG.out (by have:=Hs.out;omega) HP.out).mono ?_);rintro e w1 ⟨⟨n1,t1,a1,rfl⟩,hx1⟩;have HX1:=hid hx1;clear hx1))
   go_ret2
   refine ⟨?_,HX1.out⟩
   rw [HN.out,HB.out,str_bys]
   rfl
theorem normalx_any (k : Int) (s : ByteArray) (w : World) (h1 : k ≠ 1) (h3 : k ≠ 3) (h4 : k ≠ 4) :
 Calls Tryz.prog 120 #[.int .i64 k,.string s] w (NormPSays w k (bys s)):=by
 have HN : Hid (normP k (bys s) = (bys s,true)):=by show _ = _;unfold normP;rw [if_neg h1,if_neg h3]
 have t1 : (k == 1) = false:=by rw [beq_eq_false_iff_ne];exact h1
 have t3 : (k == 3) = false:=by rw [beq_eq_false_iff_ne];exact h3
 have t4 : (k == 4) = false:=by rw [beq_eq_false_iff_ne];exact h4
 clear h1 h3 h4
 go_enter Tryz.func120,Tryz.ntmps120
 go_wp2
 go_ret2
 refine ⟨?_,Ext.refl _⟩
 rw [HN.out,str_bys]
 rfl
def normE (n v : List UInt8) : List UInt8 × Int:=
 if (typeB n).2 = 0 then ([],5) else if (typeB n).2 = 5 then ([],1) else if v = [] ∨ 200 < v.length then ([],2)
 else if (normP (typeB n).2 v).2 then ((normP (typeB n).2 v).1,0) else ([],2)
def NormSays (w : World) (n v : List UInt8) (e : Ending) (w' : World) : Prop:=e = .returned (.tuple #[.string (str (normE n v).1),.int .i64 (normE n v).2]) ∧ Ext w w'
theorem normal_at (k : Nat) (s : ByteArray) (w : World) (hG : Gl w) (hs : s.size ≤ 1000000) (h4 : k ≠ 4) :
 Calls Tryz.prog 120 #[.int .i64 k,.string s] w (NormPSays w k (bys s)):=by
 by_cases h1 : k = 1
 ·subst h1;exact normal1_any s w hG hs
 ·by_cases h3 : k = 3
  ·subst h3;exact normal3_any s w hG hs
  ·exact normalx_any k s w (by omega) (by omega) (by omega)
theorem normal_any (n s : ByteArray) (w : World) (hG : Gl w) (hn : n.size ≤ 4000000) (h4 : (typeB (bys n)).2 ≠ 4) :
 Calls Tryz.prog 84 #[.string n,.string s] w (NormSays w (bys n) (bys s)):=by
 have HG:=hid hG
 have HT : ∀ w,Calls Tryz.prog 46 #[.string n] w (TypeSays w (bys n)):=fun w=>type_any n w (by simp only [maxLen];omega)
 have HN : Hid (normE (bys n) (bys s) = if (typeB (bys n)).2 = 0 then ([],5) else if (typeB (bys n)).2 = 5 then ([],1) else if bys s = [] ∨ 200 < (bys s).length then ([],2)
  else if (normP (typeB (bys n)).2 (bys s)).2 then ((normP (typeB (bys n)).2 (bys s)).1,0) else ([],2)):=rfl
 unfold TypeSays at HT
 obtain ⟨p,hp⟩ : ∃ p,p = typeB (bys n):=⟨_,rfl⟩
 rw [← hp] at HN HT h4
 clear hp hG
 obtain ⟨t,k⟩:=p
 have H4 : Hid (k ≠ 4):=h4
 clear h4
 simp only at HN HT
 by_cases k0 : k = 0
 ·have HE : Hid (normE (bys n) (bys s) = ([],5)):=by show _ = _;rw [HN.out,if_pos k0]
  have t0 : ((k : Int) == 0) = true:=by rw [k0];rfl
  clear k0 HN
  go_enter Tryz.func84,Tryz.ntmps84
  go_wp2_with (go_at_call 46;(with_reducible refine (HT _).mono ?_);rintro e w1 ⟨rfl,hx1⟩;have HX1:=hid hx1;clear hx1)
  go_ret2
  exact ⟨by rw [HE.out];rfl,HX1.out⟩
 ·have t0 : ((k : Int) == 0) = false:=by rw [beq_eq_false_iff_ne];omega
  by_cases k5 : k = 5
  ·have HE : Hid (normE (bys n) (bys s) = ([],1)):=by show _ = _;rw [HN.out,if_neg k0,if_pos k5]
   have t5 : ((k : Int) == 5) = true:=by rw [k5];rfl
   clear k0 k5 HN
   go_enter Tryz.func84,Tryz.ntmps84
   go_wp2_with (go_at_call 46;(with_reducible refine (HT _).mono ?_);rintro e w1 ⟨rfl,hx1⟩;have HX1:=hid hx1;clear hx1)
   go_ret2
   exact ⟨by rw [HE.out];rfl,HX1.out⟩
  ·have t5 : ((k : Int) == 5) = false:=by rw [beq_eq_false_iff_ne];omega
   by_cases hz : s.size = 0
   ·have HE : Hid (normE (bys n) (bys s) = ([],2)):=by show _ = _;rw [HN.out,if_neg k0,if_neg k5,if_pos (.inl (by rw [str_emp hz];rfl))]
    have e1:=emp_yes hz
    clear k0 k5 HN hz
    go_enter Tryz.func84,Tryz.ntmps84
    go_wp2_with (go_at_call 46;(with_reducible refine (HT _).mono ?_);rintro e w1 ⟨rfl,hx1⟩;have HX1:=hid hx1;clear hx1)
    go_ret2
    exact ⟨by rw [HE.out];rfl,HX1.out⟩
   ·have e1:=emp_nb hz
    by_cases hl : 200 < s.size
    ·have HE : Hid (normE (bys n) (bys s) = ([],2)):=by show _ = _;rw [HN.out,if_neg k0,if_neg k5,if_pos (.inr (by rw [bys_len];exact hl))]
     have e2 : 200 < (s.size : Int):=by omega
     clear k0 k5 HN hz hl
     go_enter Tryz.func84,Tryz.ntmps84
     go_wp2_with (go_at_call 46;(with_reducible refine (HT _).mono ?_);rintro e w1 ⟨rfl,hx1⟩;have HX1:=hid hx1;clear hx1)
     go_ret2
     exact ⟨by rw [HE.out];rfl,HX1.out⟩
    ·have e2 : decide (200 < (s.size : Int)) = false:=by rw [decide_eq_false_iff_not];omega
     have hbs : ¬ (bys s = [] ∨ 200 < (bys s).length):=by
      rw [bys_len]
      rintro (h | h)
      ·exact hz (by rw [← bys_len,h];rfl)
      ·exact hl h
     rw [if_neg k0,if_neg k5,if_neg hbs] at HN
     have HP : ∀ w,Gl w → Calls Tryz.prog 120 #[.int .i64 k,.string s] w (NormPSays w k (bys s)):=fun w hG=>normal_at k s w hG (by omega) H4.out
     unfold NormPSays at HP
     generalize normP (k : Int) (bys s) = q at *
     obtain ⟨r,b⟩:=q
     simp only at HN HP
     have HE : Hid (normE (bys n) (bys s) = if b = true then (r,0) else ([],2)):=HN.out
     clear k0 k5 hz hl hbs HN
     cases b
     all_goals
      go_enter Tryz.func84,Tryz.ntmps84
      go_wp2_with (first
       | (go_at_call 46;(with_reducible refine (HT _).mono ?_);rintro e w1 ⟨rfl,hx1⟩;have HX1:=hid hx1;clear hx1)
       | (go_at_call 120;(with_reducible refine (HP _ (HG.out.ext HX1.out)).mono ?_);rintro e w2 ⟨rfl,hx2⟩;have HX2:=hid hx2;clear hx2))
      go_ret2
      exact ⟨by rw [HE.out];rfl,HX1.out.trans HX2.out⟩
def sgnD (v : List UInt8) : List UInt8:=if v.head? = some 45 ∨ v.head? = some 43 then v.drop 1 else v
def numR (v : List UInt8) : Option Int:=
 if 1 ≤ (sgnD v).length ∧ (sgnD v).length ≤ 9 ∧ (sgnD v).all digC = true then some (if negB v then -(valFrom 0 (sgnD v) : Int) else (valFrom 0 (sgnD v) : Int)) else none
def NumSays (w : World) (v : List UInt8) (e : Ending) (w' : World) : Prop:=e = .returned (.tuple #[.int .i64 ((numR v).getD 0),.bool (numR v).isSome]) ∧ Ext w w'
theorem numR_small {v : List UInt8} {n : Int} (h : numR v = some n) : -1000000000 < n ∧ n < 1000000000:=by
 unfold numR at h
 split at h
 ·rename_i hc
  have h1:=valFrom_lt (sgnD v) 0 hc.2.2
  have h2 : 10 ^ (sgnD v).length ≤ 10 ^ 9:=Nat.pow_le_pow_right (by decide) hc.2.1
  have h5 : (10 : Nat) ^ 9 = 1000000000:=rfl
  injection h with h
  split at h <;> omega
 ·cases h
theorem number_any (s : ByteArray) (w : World) (hs : s.size ≤ 4000000) : Calls Tryz.prog 147 #[.string s] w (NumSays w (bys s)):=by
 have Hs:=hid hs
 by_cases h0 : s.size = 0
 ·have t0 : ¬ (0 : Int) < (s.size : Int):=by omega
  have HF : Hid (numR (bys s) = none):=by rw [str_emp h0];rfl
  have t1 : (s.size : Int) < 1:=by omega
  clear h0 hs
  go_enter Tryz.func147,Tryz.ntmps147
  go_wp2
  go_ret2
  exact ⟨by rw [HF.out];rfl,Ext.refl _⟩
 ·have t0 : (0 : Int) < (s.size : Int):=by omega
  obtain ⟨y,hy⟩ : ∃ x,(bys s)[0]? = some x:=⟨_,List.getElem?_eq_getElem (by rw [bys_len];omega)⟩
  have hsz : 0 < s.size:=by omega
  have gy:=bys_get hy hsz
  have Hy : Hid ((bys s).head? = some y):=by show _ = _;rw [List.head?_eq_getElem?,hy]
  clear h0 hy
  by_cases h45 : y = 45
  ·have ty : ((y.toNat : Int) == 45) = true:=byte_is (k:=45) (by decide) h45
   have HNEG : Hid (negB (bys s) = true):=by show _ = _;unfold negB;rw [Hy.out,h45];rfl
   obtain ⟨d,hd⟩ : ∃ d,s.extract 1 s.size = d:=⟨_,rfl⟩
   have HD : Hid (bys d = sgnD (bys s)):=by show _ = _;rw [← hd,ext_drop];unfold sgnD;rw [Hy.out,h45,if_pos (.inl rfl)]
   clear h45
   go_enter Tryz.func147,Tryz.ntmps147
   have HN : Hid (¬ (1 ≤ d.size ∧ d.size ≤ 9 ∧ (bys d).all digC = true) → numR (bys s) = none):=by
    intro h
    unfold numR
    rw [← HD.out,bys_len,if_neg h]
   have HY : Hid ((1 ≤ d.size ∧ d.size ≤ 9 ∧ (bys d).all digC = true) → numR (bys s) = some (-(valFrom 0 (bys d) : Int))):=by
    intro h
    unfold numR
    rw [← HD.out,bys_len,if_pos h,HNEG.out]
    rfl
   by_cases hl1 : d.size < 1
   ·have hl1' : (d.size : Int) < 1:=by omega
    have HF : Hid (numR (bys s) = none):=HN.out (by omega)
    clear hl1
    go_wp2
    go_ret2
    exact ⟨by rw [HF.out];rfl,Ext.refl _⟩
   ·have hl1' : ¬ (d.size : Int) < 1:=by omega
    by_cases hl2 : 9 < d.size
    ·have hl2' : 9 < (d.size : Int):=by omega
     have HF : Hid (numR (bys s) = none):=HN.out (by omega)
     clear hl1 hl2
     go_wp2
     go_ret2
     exact ⟨by rw [HF.out];rfl,Ext.refl _⟩
    ·have hl2' : ¬ 9 < (d.size : Int):=by omega
     go_wp2
     go_loop [4,6] (fun n i=>∃ k : Nat,k ≤ d.size ∧ i = .int .i64 k ∧ n = .int .i64 (valFrom 0 ((bys d).take k) : Int) ∧ Hid (((bys d).take k).all digC = true)) (fun _ i=>d.size - (intOf i).toNat)
     case atStart=>exact ⟨0,by omega,rfl,rfl,rfl⟩
     case round=>
      obtain ⟨k,hk,rfl,rfl,HA⟩:=hrel
      have hd9 : d.size ≤ 9:=by omega
      have HB : Hid (valFrom 0 ((bys d).take k) < 10 ^ k):=by
       have h:=valFrom_lt ((bys d).take k) 0 HA.out
       have h2 : ((bys d).take k).length ≤ k:=List.length_take_le _ _
       have h3 : 10 ^ ((bys d).take k).length ≤ 10 ^ k:=Nat.pow_le_pow_right (by decide) h2
       show _ < _
       omega
      have hv9 : valFrom 0 ((bys d).take k) < 1000000000:=by
       have h3 : 10 ^ k ≤ 10 ^ 9:=Nat.pow_le_pow_right (by decide) (by omega)
       have h4:=HB.out
       have h5 : (10 : Nat) ^ 9 = 1000000000:=rfl
       omega
      by_cases hlt : k < d.size
      ·obtain ⟨x,hx⟩ : ∃ x,(bys d)[k]? = some x:=⟨_,List.getElem?_eq_getElem (by rw [bys_len];exact hlt)⟩
       have gk:=bys_get hx hlt
       have hx1 : (x.toNat : Int) < 256:=by have:=x.toNat_lt;omega
       have HX:=hid hx
       clear hx
       have HNO : Hid (¬ (48 ≤ x.toNat ∧ x.toNat ≤ 57) → numR (bys s) = none):=by
        intro hno
        refine HN.out ?_
        rintro ⟨-,-,h7⟩
        rw [List.all_eq_true] at h7
        exact hno ((digC_iff x).1 (h7 x (List.mem_of_getElem? HX.out)))
       by_cases h48 : (x.toNat : Int) < 48
       ·have HF : Hid (numR (bys s) = none):=HNO.out (by omega)
        go_wp2
        go_ret2
        exact ⟨by rw [HF.out];rfl,Ext.refl _⟩
       ·by_cases h57 : 57 < (x.toNat : Int)
        ·have HF : Hid (numR (bys s) = none):=HNO.out (by omega)
         go_wp2
         go_ret2
         exact ⟨by rw [HF.out];rfl,Ext.refl _⟩
        ·have h48' : 48 ≤ (x.toNat : Int):=by omega
         have HT : Hid ((bys d).take (k + 1) = (bys d).take k ++ [x]):=by show _ = _;rw [List.take_add_one,HX.out];rfl
         have HD2 : Hid (digC x = true):=(digC_iff x).2 (by omega)
         generalize hv : valFrom 0 ((bys d).take k) = m at *
         go_wp2
         refine ⟨⟨k + 1,by omega,by go_num,?_,?_⟩,by simp [intOf];omega⟩
         ·rw [HT.out,valFrom_snoc,hv]
          congr 1
          omega
         ·rw [HT.out]
          show _ = _
          rw [List.all_append,HA.out]
          simp [HD2.out]
      ·obtain rfl : k = d.size:=by omega
       have htk : Hid ((bys d).take d.size = bys d):=by show _ = _;rw [List.take_of_length_le (by rw [bys_len];omega)]
       have HF : Hid (numR (bys s) = some (-(valFrom 0 (bys d) : Int))):=HY.out ⟨by omega,by omega,by have:=HA.out;rwa [htk.out] at this⟩
       have HW : Hid (valFrom 0 ((bys d).take d.size) = valFrom 0 (bys d)):=by show _ = _;rw [htk.out]
       generalize valFrom 0 ((bys d).take d.size) = m at *
       go_wp2
       go_ret2
       refine ⟨?_,Ext.refl _⟩
       rw [HF.out,← HW.out]
       rfl
  ·have ty : ((y.toNat : Int) == 45) = false:=byte_isnt (k:=45) h45
   have HNEG : Hid (negB (bys s) = false):=by show _ = _;unfold negB;rw [Hy.out];simpa using h45
   by_cases h43 : y = 43
   ·have tz : ((y.toNat : Int) == 43) = true:=byte_is (k:=43) (by decide) h43
    obtain ⟨d,hd⟩ : ∃ d,s.extract 1 s.size = d:=⟨_,rfl⟩
    have HD : Hid (bys d = sgnD (bys s)):=by show _ = _;rw [← hd,ext_drop];unfold sgnD;rw [Hy.out,h43,if_pos (.inr rfl)]
    clear h45 h43
    go_enter Tryz.func147,Tryz.ntmps147
    have HN : Hid (¬ (1 ≤ d.size ∧ d.size ≤ 9 ∧ (bys d).all digC = true) → numR (bys s) = none):=by
     intro h
     unfold numR
     rw [← HD.out,bys_len,if_neg h]
    have HY : Hid ((1 ≤ d.size ∧ d.size ≤ 9 ∧ (bys d).all digC = true) → numR (bys s) = some ((valFrom 0 (bys d) : Int))):=by
     intro h
     unfold numR
     rw [← HD.out,bys_len,if_pos h,HNEG.out]
     rfl
    by_cases hl1 : d.size < 1
    ·have hl1' : (d.size : Int) < 1:=by omega
     have HF : Hid (numR (bys s) = none):=HN.out (by omega)
     clear hl1
     go_wp2
     go_ret2
     exact ⟨by rw [HF.out];rfl,Ext.refl _⟩
    ·have hl1' : ¬ (d.size : Int) < 1:=by omega
     by_cases hl2 : 9 < d.size
     ·have hl2' : 9 < (d.size : Int):=by omega
      have HF : Hid (numR (bys s) = none):=HN.out (by omega)
      clear hl1 hl2
      go_wp2
      go_ret2
      exact ⟨by rw [HF.out];rfl,Ext.refl _⟩
     ·have hl2' : ¬ 9 < (d.size : Int):=by omega
      go_wp2
      go_loop [4,6] (fun n i=>∃ k : Nat,k ≤ d.size ∧ i = .int .i64 k ∧ n = .int .i64 (valFrom 0 ((bys d).take k) : Int) ∧ Hid (((bys d).take k).all digC = true)) (fun _ i=>d.size - (intOf i).toNat)
      case atStart=>exact ⟨0,by omega,rfl,rfl,rfl⟩
      case round=>
       obtain ⟨k,hk,rfl,rfl,HA⟩:=hrel
       have hd9 : d.size ≤ 9:=by omega
       have HB : Hid (valFrom 0 ((bys d).take k) < 10 ^ k):=by
        have h:=valFrom_lt ((bys d).take k) 0 HA.out
        have h2 : ((bys d).take k).length ≤ k:=List.length_take_le _ _
        have h3 : 10 ^ ((bys d).take k).length ≤ 10 ^ k:=Nat.pow_le_pow_right (by decide) h2
        show _ < _
        omega
       have hv9 : valFrom 0 ((bys d).take k) < 1000000000:=by
        have h3 : 10 ^ k ≤ 10 ^ 9:=Nat.pow_le_pow_right (by decide) (by omega)
        have h4:=HB.out
        have h5 : (10 : Nat) ^ 9 = 1000000000:=rfl
        omega
       by_cases hlt : k < d.size
       ·obtain ⟨x,hx⟩ : ∃ x,(bys d)[k]? = some x:=⟨_,List.getElem?_eq_getElem (by rw [bys_len];exact hlt)⟩
        have gk:=bys_get hx hlt
        have hx1 : (x.toNat : Int) < 256:=by have:=x.toNat_lt;omega
        have HX:=hid hx
        clear hx
        have HNO : Hid (¬ (48 ≤ x.toNat ∧ x.toNat ≤ 57) → numR (bys s) = none):=by
         intro hno
         refine HN.out ?_
         rintro ⟨-,-,h7⟩
         rw [List.all_eq_true] at h7
         exact hno ((digC_iff x).1 (h7 x (List.mem_of_getElem? HX.out)))
        by_cases h48 : (x.toNat : Int) < 48
        ·have HF : Hid (numR (bys s) = none):=HNO.out (by omega)
         go_wp2
         go_ret2
         exact ⟨by rw [HF.out];rfl,Ext.refl _⟩
        ·by_cases h57 : 57 < (x.toNat : Int)
         ·have HF : Hid (numR (bys s) = none):=HNO.out (by omega)
          go_wp2
          go_ret2
          exact ⟨by rw [HF.out];rfl,Ext.refl _⟩
         ·have h48' : 48 ≤ (x.toNat : Int):=by omega
          have HT : Hid ((bys d).take (k + 1) = (bys d).take k ++ [x]):=by show _ = _;rw [List.take_add_one,HX.out];rfl
          have HD2 : Hid (digC x = true):=(digC_iff x).2 (by omega)
          generalize hv : valFrom 0 ((bys d).take k) = m at *
          go_wp2
          refine ⟨⟨k + 1,by omega,by go_num,?_,?_⟩,by simp [intOf];omega⟩
          ·rw [HT.out,valFrom_snoc,hv]
           congr 1
           omega
          ·rw [HT.out]
           show _ = _
           rw [List.all_append,HA.out]
           simp [HD2.out]
       ·obtain rfl : k = d.size:=by omega
        have htk : Hid ((bys d).take d.size = bys d):=by show _ = _;rw [List.take_of_length_le (by rw [bys_len];omega)]
        have HF : Hid (numR (bys s) = some ((valFrom 0 (bys d) : Int))):=HY.out ⟨by omega,by omega,by have:=HA.out;rwa [htk.out] at this⟩
        have HW : Hid (valFrom 0 ((bys d).take d.size) = valFrom 0 (bys d)):=by show _ = _;rw [htk.out]
        generalize valFrom 0 ((bys d).take d.size) = m at *
        go_wp2
        go_ret2
        refine ⟨?_,Ext.refl _⟩
        rw [HF.out,← HW.out]
        rfl
   ·have tz : ((y.toNat : Int) == 43) = false:=byte_isnt (k:=43) h43
    have HD : Hid (bys s = sgnD (bys s)):=by
     show _ = _
     unfold sgnD
     rw [Hy.out,if_neg]
     rintro (h | h)
     ·injection h with h;exact h45 h
     ·injection h with h;exact h43 h
    clear h45 h43
    go_enter Tryz.func147,Tryz.ntmps147
    have HN : Hid (¬ (1 ≤ s.size ∧ s.size ≤ 9 ∧ (bys s).all digC = true) → numR (bys s) = none):=by
     intro h
     unfold numR
     rw [← HD.out,bys_len,if_neg h]
    have HY : Hid ((1 ≤ s.size ∧ s.size ≤ 9 ∧ (bys s).all digC = true) → numR (bys s) = some ((valFrom 0 (bys s) : Int))):=by
     intro h
     unfold numR
     rw [← HD.out,bys_len,if_pos h,HNEG.out]
     rfl
    by_cases hl1 : s.size < 1
    ·have hl1' : (s.size : Int) < 1:=by omega
     have HF : Hid (numR (bys s) = none):=HN.out (by omega)
     clear hl1
     go_wp2
     go_ret2
     exact ⟨by rw [HF.out];rfl,Ext.refl _⟩
    ·have hl1' : ¬ (s.size : Int) < 1:=by omega
     by_cases hl2 : 9 < s.size
     ·have hl2' : 9 < (s.size : Int):=by omega
      have HF : Hid (numR (bys s) = none):=HN.out (by omega)
      clear hl1 hl2
      go_wp2
      go_ret2
      exact ⟨by rw [HF.out];rfl,Ext.refl _⟩
     ·have hl2' : ¬ 9 < (s.size : Int):=by omega
      go_wp2
      go_loop [4,6] (fun n i=>∃ k : Nat,k ≤ s.size ∧ i = .int .i64 k ∧ n = .int .i64 (valFrom 0 ((bys s).take k) : Int) ∧ Hid (((bys s).take k).all digC = true)) (fun _ i=>s.size - (intOf i).toNat)
      case atStart=>exact ⟨0,by omega,rfl,rfl,rfl⟩
      case round=>
       obtain ⟨k,hk,rfl,rfl,HA⟩:=hrel
       have hd9 : s.size ≤ 9:=by omega
       have HB : Hid (valFrom 0 ((bys s).take k) < 10 ^ k):=by
        have h:=valFrom_lt ((bys s).take k) 0 HA.out
        have h2 : ((bys s).take k).length ≤ k:=List.length_take_le _ _
        have h3 : 10 ^ ((bys s).take k).length ≤ 10 ^ k:=Nat.pow_le_pow_right (by decide) h2
        show _ < _
        omega
       have hv9 : valFrom 0 ((bys s).take k) < 1000000000:=by
        have h3 : 10 ^ k ≤ 10 ^ 9:=Nat.pow_le_pow_right (by decide) (by omega)
        have h4:=HB.out
        have h5 : (10 : Nat) ^ 9 = 1000000000:=rfl
        omega
       by_cases hlt : k < s.size
       ·obtain ⟨x,hx⟩ : ∃ x,(bys s)[k]? = some x:=⟨_,List.getElem?_eq_getElem (by rw [bys_len];exact hlt)⟩
        have gk:=bys_get hx hlt
        have hx1 : (x.toNat : Int) < 256:=by have:=x.toNat_lt;omega
        have HX:=hid hx
        clear hx
        have HNO : Hid (¬ (48 ≤ x.toNat ∧ x.toNat ≤ 57) → numR (bys s) = none):=by
         intro hno
         refine HN.out ?_
         rintro ⟨-,-,h7⟩
         rw [List.all_eq_true] at h7
         exact hno ((digC_iff x).1 (h7 x (List.mem_of_getElem? HX.out)))
        by_cases h48 : (x.toNat : Int) < 48
        ·have HF : Hid (numR (bys s) = none):=HNO.out (by omega)
         go_wp2
         go_ret2
         exact ⟨by rw [HF.out];rfl,Ext.refl _⟩
        ·by_cases h57 : 57 < (x.toNat : Int)
         ·have HF : Hid (numR (bys s) = none):=HNO.out (by omega)
          go_wp2
          go_ret2
          exact ⟨by rw [HF.out];rfl,Ext.refl _⟩
         ·have h48' : 48 ≤ (x.toNat : Int):=by omega
          have HT : Hid ((bys s).take (k + 1) = (bys s).take k ++ [x]):=by show _ = _;rw [List.take_add_one,HX.out];rfl
          have HD2 : Hid (digC x = true):=(digC_iff x).2 (by omega)
          generalize hv : valFrom 0 ((bys s).take k) = m at *
          go_wp2
          refine ⟨⟨k + 1,by omega,by go_num,?_,?_⟩,by simp [intOf];omega⟩
          ·rw [HT.out,valFrom_snoc,hv]
           congr 1
           omega
          ·rw [HT.out]
           show _ = _
           rw [List.all_append,HA.out]
           simp [HD2.out]
       ·obtain rfl : k = s.size:=by omega
        have htk : Hid ((bys s).take s.size = bys s):=by show _ = _;rw [List.take_of_length_le (by rw [bys_len];omega)]
        have HF : Hid (numR (bys s) = some ((valFrom 0 (bys s) : Int))):=HY.out ⟨by omega,by omega,by have:=HA.out;rwa [htk.out] at this⟩
        have HW : Hid (valFrom 0 ((bys s).take s.size) = valFrom 0 (bys s)):=by show _ = _;rw [htk.out]
        generalize valFrom 0 ((bys s).take s.size) = m at *
        go_wp2
        go_ret2
        refine ⟨?_,Ext.refl _⟩
        rw [HF.out,← HW.out]
        rfl
def secondR (b : Int) : List UInt8:=if b = 1 then [105] else if b = -1 then [45,105] else Lib.itoa b ++ [105]
def pairR (a b : Int) : List UInt8:=if b = 0 then Lib.itoa a else if a = 0 then secondR b else if 0 < b then Lib.itoa a ++ 43 :: secondR b else Lib.itoa a ++ secondR b
theorem dec_le : ∀ (n u : Nat),u ≤ n → (Lib.decDigits u).length ≤ u + 1
 | n,u,hn=>by
  by_cases h : u < 10
  ·rw [dec_small h];simp
  ·rw [dec_big h]
   cases n with
   | zero=>omega
   | succ n=>
    have:=dec_le n (u / 10) (by omega)
    rw [List.length_append,List.length_cons,List.length_nil]
    omega
theorem itoa_le (n : Int) : (Lib.itoa n).length ≤ n.natAbs + 2:=by
 unfold Lib.itoa
 split
 ·have:=dec_le _ n.natAbs (Nat.le_refl _);rw [List.length_cons];omega
 ·have:=dec_le _ n.toNat (Nat.le_refl _);omega
theorem second_le (n : Int) : (secondR n).length ≤ n.natAbs + 3:=by
 unfold secondR
 split
 ·simp
 ·split
  ·simp
  ·have:=itoa_le n;rw [List.length_append,List.length_cons,List.length_nil];omega
theorem second_any (b : Int) (w : World) (hG : Gl w) (h0 : -1000000000 ≤ b) (h1 : b ≤ 1000000000) : Calls Tryz.prog 164 #[.int .i64 b] w fun e w'=>e = .returned (.string (str (secondR b))) ∧ Ext w w':=by
 have HG:=hid hG
 clear hG
 by_cases hb1 : b = 1
 ·have t1 : (b == 1) = true:=by rw [hb1];rfl
  have HF : Hid (secondR b = [105]):=by show _ = _;unfold secondR;rw [if_pos hb1]
  clear hb1 h0 h1
  go_enter Tryz.func164,Tryz.ntmps164
  go_wp2
  go_ret
  exact ⟨by rw [HF.out];rfl,Ext.refl _⟩
 ·have t1 : (b == 1) = false:=by rw [beq_eq_false_iff_ne];exact hb1
  by_cases hb2 : b = -1
  ·have t2 : (b == -1) = true:=by rw [hb2];rfl
   have HF : Hid (secondR b = [45,105]):=by show _ = _;unfold secondR;rw [if_neg hb1,if_pos hb2]
   clear hb1 hb2 h0 h1
   go_enter Tryz.func164,Tryz.ntmps164
   go_wp2
   go_ret
   exact ⟨by rw [HF.out];rfl,Ext.refl _⟩
  ·have t2 : (b == -1) = false:=by rw [beq_eq_false_iff_ne];exact hb2
   have HF : Hid (secondR b = Lib.itoa b ++ [105]):=by show _ = _;unfold secondR;rw [if_neg hb1,if_neg hb2]
   have z1 : ¬ 9223372036854775807 < (Lib.itoa b).length + 1:=by have:=itoa_le b;omega
   clear hb1 hb2
   go_enter Tryz.func164,Tryz.ntmps164
   go_wp2_with (go_at_call 142;(with_reducible refine (formatint_any _ _ HG.out (by omega) (by omega)).mono ?_);rintro e w2 ⟨rfl,hx2⟩;have HX2:=hid hx2;clear hx2)
   go_ret
   exact ⟨by rw [HF.out,← str_app];rfl,HX2.out⟩
def withinR (a b : Int) : Bool:=decide (-1000000 ≤ a) && decide (a ≤ 1000000) && decide (-1000000 ≤ b) && decide (b ≤ 1000000)
theorem within_any (a b : Int) (w : World) : Calls Tryz.prog 148 #[.agg #[.int .i64 a,.int .i64 b]] w fun e w'=>e = .returned (.bool (withinR a b)) ∧ Ext w w':=by
 by_cases h1 : -1000000 ≤ a
 ·by_cases h2 : a ≤ 1000000
  ·by_cases h3 : -1000000 ≤ b
   ·by_cases h4 : b ≤ 1000000
    all_goals
     have HF : Hid (withinR a b = decide (b ≤ 1000000)):=by show _ = _;unfold withinR;simp [h1,h2,h3]
     have h5 : decide (b ≤ 1000000) = decide (b ≤ 1000000):=rfl
     go_enter Tryz.func148,Tryz.ntmps148
     go_wp2
     go_ret
     exact ⟨by rw [HF.out];first | rfl | simp [h4],Ext.alloc _ _⟩
   ·have HF : Hid (withinR a b = false):=by show _ = _;unfold withinR;simp [h3]
    go_enter Tryz.func148,Tryz.ntmps148
    go_wp2
    go_ret
    exact ⟨by rw [HF.out];rfl,Ext.alloc _ _⟩
  ·have HF : Hid (withinR a b = false):=by show _ = _;unfold withinR;simp [h2]
   go_enter Tryz.func148,Tryz.ntmps148
   go_wp2
   go_ret
   exact ⟨by rw [HF.out];rfl,Ext.alloc _ _⟩
 ·have HF : Hid (withinR a b = false):=by show _ = _;unfold withinR;simp [h1]
  go_enter Tryz.func148,Tryz.ntmps148
  go_wp2
  go_ret
  exact ⟨by rw [HF.out];rfl,Ext.alloc _ _⟩
theorem pairtext_any (a b : Int) (w : World) (hG : Gl w) (ha : -1000000000 ≤ a ∧ a ≤ 1000000000) (hb : -1000000000 ≤ b ∧ b ≤ 1000000000) :
 Calls Tryz.prog 149 #[.agg #[.int .i64 a,.int .i64 b]] w fun e w'=>e = .returned (.string (str (pairR a b))) ∧ Ext w w':=by
 have HG:=hid hG
 have HA:=hid ha
 have HB:=hid hb
 clear hG ha hb
 by_cases b0 : b = 0
 ·have t1 : (b == 0) = true:=by rw [b0];rfl
  have HF : Hid (pairR a b = Lib.itoa a):=by show _ = _;unfold pairR;rw [if_pos b0]
  clear b0
  go_enter Tryz.func149,Tryz.ntmps149
  go_wp2_with (go_at_call 142;(with_reducible refine (formatint_any _ _ (HG.out.ext (Ext.alloc _ _)) (by have:=HA.out;omega) (by have:=HA.out;omega)).mono ?_);rintro e w2 ⟨rfl,hx2⟩;have HX2:=hid hx2;clear hx2)
  go_ret
  exact ⟨by rw [HF.out];rfl,(Ext.alloc _ _).trans HX2.out⟩
 ·have t1 : (b == 0) = false:=by rw [beq_eq_false_iff_ne];exact b0
  by_cases a0 : a = 0
  ·have t2 : (a == 0) = true:=by rw [a0];rfl
   have HF : Hid (pairR a b = secondR b):=by show _ = _;unfold pairR;rw [if_neg b0,if_pos a0]
   clear b0 a0
   go_enter Tryz.func149,Tryz.ntmps149
   go_wp2_with (go_at_call 164;(with_reducible refine (second_any _ _ (HG.out.ext (Ext.alloc _ _)) HB.out.1 HB.out.2).mono ?_);rintro e w2 ⟨rfl,hx2⟩;have HX2:=hid hx2;clear hx2)
   go_ret
   exact ⟨by rw [HF.out];rfl,(Ext.alloc _ _).trans HX2.out⟩
  ·have t2 : (a == 0) = false:=by rw [beq_eq_false_iff_ne];exact a0
   by_cases hp : 0 < b
   ·have HF : Hid (pairR a b = Lib.itoa a ++ 43 :: secondR b):=by show _ = _;unfold pairR;rw [if_neg b0,if_neg a0,if_pos hp]
    have z1 : ¬ 9223372036854775807 < (Lib.itoa a).length + 1:=by have:=itoa_le a;have:=HA.out;omega
    have z2 : ¬ 9223372036854775807 < (Lib.itoa a).length + 1 + (secondR b).length:=by have:=itoa_le a;have:=second_le b;have:=HA.out;have:=HB.out;omega
    clear b0 a0
    go_enter Tryz.func149,Tryz.ntmps149
    go_wp2
    refine wp_region_plan (.read 0 (.read 1 (.read 4 (.read 5 (.main 2 (.read 3 (.main 6 (.read 7 (.read 8 .done))))))))) (by kernel_rfl) (by kernel_rfl) ?_
    intro wD hxD
    have XE : Hid (Ext wD wD):=Ext.refl _
    have X0 : Hid (Ext w wD):=(Ext.alloc _ _).trans hxD
    have p0:=cell_later (box_a w #[.int .i64 a,.int .i64 b] 170 0) _ hxD |> cell_later
    have p1:=cell_later (box_a w #[.int .i64 a,.int .i64 b] 170 1) _ hxD |> cell_later
    repeat' (first
     | ((first | refine walks_move rfl rfl ?_ | refine walks_assign rfl rfl ?_ | refine walks_skip rfl rfl ?_);simp only [Act.put,Act.eval,evs])
     | (refine walks_unwanted rfl rfl ?_;simp only [Act.put,evp])
     | (refine walks_read (v:=?_) rfl rfl (fun w' hE=>?_) ?_;rotate_left 1;(· ((try (have hEx:=Ext.trans (Hid.out XE) hE));go_simp;(try go_bits);with_reducible rfl));simp only [Act.put,evp])
     | (refine walks_alt ?_ ?_)
     | (refine walks_main rfl rfl (fun K hK=>?_);go_wp2_with (first | (go_at_call 142;(with_reducible refine (formatint_any _ _ (HG.out.ext (X0.out.trans XE.out)) (by have:=HA.out;omega) (by have:=HA.out;omega)).mono ?_);rintro e w2 ⟨rfl,hx2⟩;have XE':=hid (Ext.trans (Hid.out XE) hx2);clear XE;have XE:=XE';clear XE') | (go_at_call 164;(with_reducible refine (second_any _ _ (HG.out.ext (X0.out.trans XE.out)) HB.out.1 HB.out.2).mono ?_);rintro e w3 ⟨rfl,hx3⟩;have XE':=hid (Ext.trans (Hid.out XE) hx3);clear XE;have XE:=XE';clear XE'));refine hK _ _ (by first | assumption | exact Ext.alloc _ _ | exact Ext.refl _) ?_;clear hK K;try simp only [Act.put,evp]))
    refine walks_done ?_
    go_wp2
    go_ret
    refine ⟨?_,X0.out.trans XE.out⟩
    rw [HF.out,show Lib.itoa a ++ 43 :: secondR b = (Lib.itoa a ++ [43]) ++ secondR b by simp,← str_app,← str_app]
    rfl
   ·have HF : Hid (pairR a b = Lib.itoa a ++ secondR b):=by show _ = _;unfold pairR;rw [if_neg b0,if_neg a0,if_neg hp]
    have z2 : ¬ 9223372036854775807 < (Lib.itoa a).length + (secondR b).length:=by have:=itoa_le a;have:=second_le b;have:=HA.out;have:=HB.out;omega
    clear b0 a0
    go_enter Tryz.func149,Tryz.ntmps149
    go_wp2
    refine wp_region_plan (.read 0 (.read 1 (.read 3 (.read 4 (.main 2 (.main 5 (.read 6 (.read 7 .done)))))))) (by kernel_rfl) (by kernel_rfl) ?_
    intro wD hxD
    have XE : Hid (Ext wD wD):=Ext.refl _
    have X0 : Hid (Ext w wD):=(Ext.alloc _ _).trans hxD
    have p0:=cell_later (box_a w #[.int .i64 a,.int .i64 b] 170 0) _ hxD |> cell_later
    have p1:=cell_later (box_a w #[.int .i64 a,.int .i64 b] 170 1) _ hxD |> cell_later
    repeat' (first
     | ((first | refine walks_move rfl rfl ?_ | refine walks_assign rfl rfl ?_ | refine walks_skip rfl rfl ?_);simp only [Act.put,Act.eval,evs])
     | (refine walks_unwanted rfl rfl ?_;simp only [Act.put,evp])
     | (refine walks_read (v:=?_) rfl rfl (fun w' hE=>?_) ?_;rotate_left 1;(· ((try (have hEx:=Ext.trans (Hid.out XE) hE));go_simp;(try go_bits);with_reducible rfl));simp only [Act.put,evp])
     | (refine walks_alt ?_ ?_)
     | (refine walks_main rfl rfl (fun K hK=>?_);go_wp2_with (first | (go_at_call 142;(with_reducible refine (formatint_any _ _ (HG.out.ext (X0.out.trans XE.out)) (by have:=HA.out;omega) (by have:=HA.out;omega)).mono ?_);rintro e w2 ⟨rfl,hx2⟩;have XE':=hid (Ext.trans (Hid.out XE) hx2);clear XE;have XE:=XE';clear XE') | (go_at_call 164;(with_reducible refine (second_any _ _ (HG.out.ext (X0.out.trans XE.out)) HB.out.1 HB.out.2).mono ?_);rintro e w3 ⟨rfl,hx3⟩;have XE':=hid (Ext.trans (Hid.out XE) hx3);clear XE;have XE:=XE';clear XE'));refine hK _ _ (by first | assumption | exact Ext.alloc _ _ | exact Ext.refl _) ?_;clear hK K;try simp only [Act.put,evp]))
    refine walks_done ?_
    go_wp2
    go_ret
    refine ⟨?_,X0.out.trans XE.out⟩
    rw [HF.out,← str_app]
    rfl
theorem splitF_sep {sep c : UInt8} {cur t : List UInt8} (h : c = sep) : splitF sep cur (c :: t) = cur :: splitF sep [] t:=by conv=>lhs;unfold splitF;rw [if_pos h]
theorem splitF_esc1 {sep : UInt8} {cur : List UInt8} (h : sep ≠ 92) : splitF sep cur [92] = [cur ++ [92]]:=by unfold splitF;rw [if_neg (fun e=>h e.symm),if_pos rfl]
theorem splitF_esc {sep d : UInt8} {cur t : List UInt8} (h : sep ≠ 92) : splitF sep cur (92 :: d :: t) = splitF sep (cur ++ [92,d]) t:=by rw [splitF,if_neg (fun e=>h e.symm),if_pos rfl]
theorem splitF_any {sep c : UInt8} {cur t : List UInt8} (h : ¬ c = sep) (k : ¬ c = 92) : splitF sep cur (c :: t) = splitF sep (cur ++ [c]) t:=by conv=>lhs;unfold splitF;rw [if_neg h,if_neg k]
theorem set_last {l : List ByteArray} {x y : ByteArray} : (l ++ [x]).set l.length y = l ++ [y]:=by rw [List.set_append_right _ _ (Nat.le_refl _)];simp
theorem set_last' {l : List ByteArray} {n : Nat} {x y : ByteArray} (h : n = l.length) : (l ++ [x]).set n y = l ++ [y]:=by rw [h];exact set_last
theorem bys_ext (s : ByteArray) (a b : Nat) : bys (s.extract a b) = ((bys s).drop a).take (b - a):=Lib.extract_data s a b
theorem growS_lit1 (w : World) (y : ByteArray) : GrowS w (w.alloc (.cells #[.string y] 9)) (.slice (some ⟨w.heap.size,0,none⟩) 1 1) [y]:=
 ⟨⟨rfl,.inr ⟨w.heap.size,1,#[.string y],rfl,Nat.le_refl _,heap_alloc_new w _,Nat.le_refl _,by simp [maxLen],rfl,rfl⟩⟩,Ext.alloc _ _⟩
theorem ne_byte {a b : UInt8} (h : ¬ a = b) : ((a.toNat : Int) == (b.toNat : Int)) = false:=by
 rw [beq_eq_false_iff_ne]
 intro e
 exact h (UInt8.toNat_inj.1 (by omega))
theorem eq_byte {a b : UInt8} (h : a = b) : ((a.toNat : Int) == (b.toNat : Int)) = true:=by rw [h];exact beq_self_eq_true _
theorem piece_ext {s : ByteArray} {j k : Nat} {p : List UInt8} {r : List UInt8} (h : (bys s).drop j = p ++ r) (hk : k = j + p.length) : s.extract j k = str p:=by
 rw [← str_bys (s.extract j k),bys_ext,h]
 subst hk
 rw [Nat.add_sub_cancel_left,List.take_left]
theorem split_any (s : ByteArray) (sep : UInt8) (hsep : sep ≠ 92) (w : World) (hs : s.size ≤ 4000000) :
 Calls Tryz.prog 102 #[.string s,.int .u8 (sep.toNat : Int)] w fun e w'=>∃ v,e = .returned v ∧ GrowS w w' v (strs (splitF sep [] (bys s))):=by
 have Hs:=hid hs
 have HSP:=hid hsep
 have tsep : ((sep.toNat : Int) != 92) = true:=by
  have h : ((sep.toNat : Int) == 92) = false:=byte_isnt (k:=92) hsep
  rw [bne,h];rfl
 clear hsep
 go_enter Tryz.func102,Tryz.ntmps102
 go_wp2
 go_loopw [5,6] (fun v i wr=>∃ (j : Nat) (dn : List (List UInt8)) (cur : List UInt8),j ≤ s.size ∧ i = .int .i64 j ∧ dn.length ≤ j ∧ cur.length ≤ j ∧ Hid (GrowS w wr v (strs dn ++ [str cur])) ∧ Hid (dn ++ splitF sep cur ((bys s).drop j) = splitF sep [] (bys s))) (fun _ i _=>s.size - (intOf i).toNat)
 case atStart=>exact ⟨0,[],[],by omega,rfl,by simp,by simp,growS_lit1 w _,by simp [Hid]⟩
 case round=>
  obtain ⟨j,dn,cur,hj,rfl,hdn,hcur,HG,HR⟩:=hrel
  have hn : Hid ((strs dn ++ [str cur]).length = dn.length + 1):=by show _ = _;simp
  obtain ⟨g,cap,rfl,hg1,hg2,hg3,hg4⟩:=HG.out.form (by rw [hn.out];omega)
  have hc:=hg4 dn.length (by rw [hn.out];omega)
  have hcv : (strs dn ++ [str cur])[dn.length]?.getD ByteArray.empty = str cur:=by
   have : dn.length = (strs dn).length:=by simp
   rw [this,List.getElem?_append_right (Nat.le_refl _)]
   simp
  rw [hcv] at hc
  have hcap : Hid (dn.length + 1 ≤ cap ∧ cap ≤ maxLen):=by show _ ∧ _;rw [hn.out] at hg2;exact ⟨hg2,hg3⟩
  rw [hn.out] at HG
  rw [hn.out]
  clear hg2 hg3 hg4 hcv
  by_cases hlt : j < s.size
  ·obtain ⟨x,hx⟩ : ∃ x,(bys s)[j]? = some x:=⟨_,List.getElem?_eq_getElem (by rw [bys_len];exact hlt)⟩
   have gx:=bys_get hx hlt
   have hd : Hid ((bys s).drop j = x :: (bys s).drop (j + 1)):=by
    show _ = _
    obtain ⟨h1,h2⟩:=List.getElem?_eq_some_iff.1 hx
    rw [List.drop_eq_getElem_cons h1,h2]
   clear hx
   by_cases hxs : x = sep
   ·have t1:=eq_byte hxs
    have HH : Hid ((dn ++ [cur]) ++ splitF sep [] ((bys s).drop (j + 1)) = splitF sep [] (bys s)):=by show _ = _;rw [← HR.out,hd.out,splitF_sep hxs];simp
    clear hxs
    go_wp2_with (at_builtin;refine append_str1 rfl _ _ rfl _ _ rfl HG.out rfl (by rw [hn.out];omega) ?_;intro v' w3 hg3;have HG3:=hid hg3;clear hg3)
    exact ⟨⟨j + 1,dn ++ [cur],[],by omega,by go_num,by simp;omega,by simp,by rw [show strs (dn ++ [cur]) = strs dn ++ [str cur] by simp];exact HG3,HH⟩,by simp [intOf];omega⟩
   ·have t1:=ne_byte hxs
    by_cases h92 : x = 92
    ·have t2 : ((x.toNat : Int) == 92) = true:=byte_is (k:=92) (by decide) h92
     by_cases hl : j + 1 < s.size
     ·obtain ⟨y,hy⟩ : ∃ y,(bys s)[j + 1]? = some y:=⟨_,List.getElem?_eq_getElem (by rw [bys_len];exact hl)⟩
      have hd2 : (bys s).drop (j + 1) = y :: (bys s).drop (j + 1 + 1):=by
       obtain ⟨h1,h2⟩:=List.getElem?_eq_some_iff.1 hy
       rw [List.drop_eq_getElem_cons h1,h2]
      have hp : s.extract j (j + 2) = str [x,y]:=piece_ext (r:=(bys s).drop (j + 2)) (by rw [hd.out,hd2];rfl) rfl
      have HH : Hid (dn ++ splitF sep (cur ++ [x,y]) ((bys s).drop (j + 2)) = splitF sep [] (bys s)):=by show _ = _;rw [← HR.out,hd.out,hd2,h92,splitF_esc HSP.out]
      have z1 : ¬ 9223372036854775807 < cur.length + 2:=by omega
      have z2 : min ((j : Int) + 2) (s.size : Int) = (j : Int) + 2:=by omega
      have z3 : (j : Int) + 2 ≤ (s.size : Int):=by omega
      have z4 : (j : Int) ≤ (j : Int) + 2:=by omega
      have z5 : ((j : Int) + 2).toNat = j + 2:=by omega
      clear hxs h92 hd2 hy
      have zl : (dn.length : Int) < (dn.length : Int) + 1:=by omega
      go_wp2
      refine wp_region_planB w.heap.size (.read 0 (.read 1 (.read 2 (.read 3 (.read 4 (.read 6 (.read 7 (.read 8 (.read 9 (.main 5 (.read 10 (.read 11 (.main 12 .done))))))))))))) (by kernel_rfl) (by kernel_rfl) ?_
      intro wD hxD
      have XB : Hid (Below w.heap.size wD wD):=Below.refl _ _
      have HC:=hid (cell_later hc _ hxD)
      have HGD:=hid (HG.out.later hxD)
      repeat' (first
       | ((first | refine walksB_move rfl rfl ?_ | refine walksB_assign rfl rfl ?_ | refine walksB_skip rfl rfl ?_);simp only [Act.put,Act.eval,evs])
       | (refine walksB_unwanted rfl rfl ?_;simp only [Act.put,evp])
       | (refine walksB_read (v:=?_) rfl rfl (fun w' hE=>?_) ?_;rotate_left 1;(· ((try (have hEx:=Below.trans (Hid.out XB) hE));go_simp;(try go_bits);with_reducible rfl));simp only [Act.put,evp])
       | (refine walksB_main rfl rfl (fun K hK=>?_);(first | (refine wp_load_cell 9 (.tmp 42) rfl ⟨g,dn.length,none⟩ rfl (.string (str cur)) HC.out Tryz.isAgg9 ?_) | (refine store_str_wp (.tmp 49) (.tmp 48) rfl g dn.length _ cap rfl (str cur ++ str [x,y]) rfl _ HGD.out hn.out.symm (by rw [hn.out];omega) ?_;intro w6 hg6 hb6;have HG6:=hid hg6;clear hg6;have XB':=hid (Below.trans (Hid.out XB) (hb6));clear XB;have XB:=XB';clear XB'));refine hK _ _ (by first | assumption | exact Below.refl _ _ | exact Below.mono (Ext.alloc _ _) (Hid.out HSW) | exact Below.setCell (p:=⟨_,_,_⟩) (Below.refl _ _) (Nat.le_refl _) _) ?_;clear hK K;try simp only [Act.put,evp])
       | (refine walksB_alt ?_ ?_)
       | (refine walksB_main rfl rfl (fun K hK=>?_);go_wp2_with (fail);refine hK _ _ (by first | assumption | exact Below.refl _ _ | exact Below.mono (Ext.alloc _ _) (Hid.out HSW) | exact Below.setCell (p:=⟨_,_,_⟩) (Below.refl _ _) (Nat.le_refl _) _) ?_;clear hK K;try simp only [Act.put,evp]))
      refine walksB_done ?_
      have HG7 : Hid (GrowS w w6 (.slice (some ⟨g,0,none⟩) (dn.length + 1) cap) (strs dn ++ [str (cur ++ [x,y])])):=by
       have h:=HG6.out
       rw [str_app,set_last' (by simp)] at h
       exact h
      clear HG6 HC HGD
      go_wp2
      exact ⟨⟨j + 2,dn,cur ++ [x,y],by omega,by go_num,by omega,by simp;omega,HG7,HH⟩,by simp [intOf];omega⟩
     ·have hnil : (bys s).drop (j + 1) = []:=List.drop_eq_nil_of_le (by rw [bys_len];omega)
      have hp : s.extract j s.size = str [x]:=piece_ext (r:=(bys s).drop (j + 1)) hd.out (by simp;omega)
      have HH : Hid (dn ++ splitF sep (cur ++ [x]) ((bys s).drop (j + 1)) = splitF sep [] (bys s)):=by show _ = _;rw [← HR.out,hd.out,hnil,h92,splitF_esc1 HSP.out];rfl
      have z1 : ¬ 9223372036854775807 < cur.length + 1:=by omega
      have z2 : min ((j : Int) + 2) (s.size : Int) = (s.size : Int):=by omega
      clear hxs h92 hnil
      have zl : (dn.length : Int) < (dn.length : Int) + 1:=by omega
      go_wp2
      refine wp_region_planB w.heap.size (.read 0 (.read 1 (.read 2 (.read 3 (.read 4 (.read 6 (.read 7 (.read 8 (.read 9 (.main 5 (.read 10 (.read 11 (.main 12 .done))))))))))))) (by kernel_rfl) (by kernel_rfl) ?_
      intro wD hxD
      have XB : Hid (Below w.heap.size wD wD):=Below.refl _ _
      have HC:=hid (cell_later hc _ hxD)
      have HGD:=hid (HG.out.later hxD)
      repeat' (first
       | ((first | refine walksB_move rfl rfl ?_ | refine walksB_assign rfl rfl ?_ | refine walksB_skip rfl rfl ?_);simp only [Act.put,Act.eval,evs])
       | (refine walksB_unwanted rfl rfl ?_;simp only [Act.put,evp])
       | (refine walksB_read (v:=?_) rfl rfl (fun w' hE=>?_) ?_;rotate_left 1;(· ((try (have hEx:=Below.trans (Hid.out XB) hE));go_simp;(try go_bits);with_reducible rfl));simp only [Act.put,evp])
       | (refine walksB_main rfl rfl (fun K hK=>?_);(first | (refine wp_load_cell 9 (.tmp 42) rfl ⟨g,dn.length,none⟩ rfl (.string (str cur)) HC.out Tryz.isAgg9 ?_) | (refine store_str_wp (.tmp 49) (.tmp 48) rfl g dn.length _ cap rfl (str cur ++ str [x]) rfl _ HGD.out hn.out.symm (by rw [hn.out];omega) ?_;intro w6 hg6 hb6;have HG6:=hid hg6;clear hg6;have XB':=hid (Below.trans (Hid.out XB) (hb6));clear XB;have XB:=XB';clear XB'));refine hK _ _ (by first | assumption | exact Below.refl _ _ | exact Below.mono (Ext.alloc _ _) (Hid.out HSW) | exact Below.setCell (p:=⟨_,_,_⟩) (Below.refl _ _) (Nat.le_refl _) _) ?_;clear hK K;try simp only [Act.put,evp])
       | (refine walksB_alt ?_ ?_)
       | (refine walksB_main rfl rfl (fun K hK=>?_);go_wp2_with (fail);refine hK _ _ (by first | assumption | exact Below.refl _ _ | exact Below.mono (Ext.alloc _ _) (Hid.out HSW) | exact Below.setCell (p:=⟨_,_,_⟩) (Below.refl _ _) (Nat.le_refl _) _) ?_;clear hK K;try simp only [Act.put,evp]))
      refine walksB_done ?_
      have HG7 : Hid (GrowS w w6 (.slice (some ⟨g,0,none⟩) (dn.length + 1) cap) (strs dn ++ [str (cur ++ [x])])):=by
       have h:=HG6.out
       rw [str_app,set_last' (by simp)] at h
       exact h
      clear HG6 HC HGD
      go_wp2
      exact ⟨⟨j + 1,dn,cur ++ [x],by omega,by go_num,by omega,by simp;omega,HG7,HH⟩,by simp [intOf];omega⟩
    ·have t2 : ((x.toNat : Int) == 92) = false:=byte_isnt (k:=92) h92
     have hp : s.extract j (j + 1) = str [x]:=piece_ext (r:=(bys s).drop (j + 1)) hd.out rfl
     have HH : Hid (dn ++ splitF sep (cur ++ [x]) ((bys s).drop (j + 1)) = splitF sep [] (bys s)):=by show _ = _;rw [← HR.out,hd.out,splitF_any hxs h92]
     have z1 : ¬ 9223372036854775807 < cur.length + 1:=by omega
     have z3 : (j : Int) + 1 ≤ (s.size : Int):=by omega
     have z4 : (j : Int) ≤ (j : Int) + 1:=by omega
     have z5 : ((j : Int) + 1).toNat = j + 1:=by omega
     clear hxs h92
     have zl : (dn.length : Int) < (dn.length : Int) + 1:=by omega
     go_wp2
     refine wp_region_planB w.heap.size (.read 0 (.read 1 (.read 2 (.read 3 (.read 4 (.read 6 (.read 7 (.read 8 (.read 9 (.main 5 (.read 10 (.read 11 (.main 12 .done))))))))))))) (by kernel_rfl) (by kernel_rfl) ?_
     intro wD hxD
     have XB : Hid (Below w.heap.size wD wD):=Below.refl _ _
     have HC:=hid (cell_later hc _ hxD)
     have HGD:=hid (HG.out.later hxD)
     repeat' (first
      | ((first | refine walksB_move rfl rfl ?_ | refine walksB_assign rfl rfl ?_ | refine walksB_skip rfl rfl ?_);simp only [Act.put,Act.eval,evs])
      | (refine walksB_unwanted rfl rfl ?_;simp only [Act.put,evp])
      | (refine walksB_read (v:=?_) rfl rfl (fun w' hE=>?_) ?_;rotate_left 1;(· ((try (have hEx:=Below.trans (Hid.out XB) hE));go_simp;(try go_bits);with_reducible rfl));simp only [Act.put,evp])
      | (refine walksB_main rfl rfl (fun K hK=>?_);(first | (refine wp_load_cell 9 (.tmp 42) rfl ⟨g,dn.length,none⟩ rfl (.string (str cur)) HC.out Tryz.isAgg9 ?_) | (refine store_str_wp (.tmp 49) (.tmp 48) rfl g dn.length _ cap rfl (str cur ++ str [x]) rfl _ HGD.out hn.out.symm (by rw [hn.out];omega) ?_;intro w6 hg6 hb6;have HG6:=hid hg6;clear hg6;have XB':=hid (Below.trans (Hid.out XB) (hb6));clear XB;have XB:=XB';clear XB'));refine hK _ _ (by first | assumption | exact Below.refl _ _ | exact Below.mono (Ext.alloc _ _) (Hid.out HSW) | exact Below.setCell (p:=⟨_,_,_⟩) (Below.refl _ _) (Nat.le_refl _) _) ?_;clear hK K;try simp only [Act.put,evp])
      | (refine walksB_alt ?_ ?_)
      | (refine walksB_main rfl rfl (fun K hK=>?_);go_wp2_with (fail);refine hK _ _ (by first | assumption | exact Below.refl _ _ | exact Below.mono (Ext.alloc _ _) (Hid.out HSW) | exact Below.setCell (p:=⟨_,_,_⟩) (Below.refl _ _) (Nat.le_refl _) _) ?_;clear hK K;try simp only [Act.put,evp]))
     refine walksB_done ?_
     have HG7 : Hid (GrowS w w6 (.slice (some ⟨g,0,none⟩) (dn.length + 1) cap) (strs dn ++ [str (cur ++ [x])])):=by
      have h:=HG6.out
      rw [str_app,set_last' (by simp)] at h
      exact h
     clear HG6 HC HGD
     go_wp2
     exact ⟨⟨j + 1,dn,cur ++ [x],by omega,by go_num,by omega,by simp;omega,HG7,HH⟩,by simp [intOf];omega⟩
  ·obtain rfl : j = s.size:=by omega
   have HH : Hid (strs (splitF sep [] (bys s)) = strs dn ++ [str cur]):=by
    show _ = _
    rw [← HR.out,show (bys s).drop s.size = [] from List.drop_eq_nil_of_le (by rw [bys_len];omega)]
    simp [splitF]
   go_wp2
   go_ret
   refine ⟨_,rfl,?_⟩
   rw [HH.out]
   exact HG.out
theorem rsplit_any (s : ByteArray) (sep : UInt8) (hsep : sep ≠ 92) (w : World) (hs : s.size ≤ 4000000) :
 Calls Tryz.prog 116 #[.string s,.int .u8 (sep.toNat : Int)] w fun e w'=>∃ v,e = .returned v ∧ GrowS w w' v (strs (splitF sep [] (bys s))):=by
 have Hs:=hid hs
 have HSP:=hid hsep
 clear hsep
 go_enter Tryz.func116,Tryz.ntmps116
 go_wp2
 go_loopw [5,6,7] (fun v f i wr=>∃ (j k : Nat) (dn : List (List UInt8)) (cur : List UInt8),j ≤ s.size + 1 ∧ i = .int .i64 j ∧ f = .int .i64 k ∧ k ≤ s.size ∧ (j ≤ s.size → k ≤ j) ∧ dn.length ≤ j ∧ Hid (GrowS w wr v (strs dn)) ∧ Hid (j ≤ s.size → s.extract k j = str cur ∧ dn ++ splitF sep cur ((bys s).drop j) = splitF sep [] (bys s)) ∧ Hid (s.size < j → dn ++ [bys (s.extract k s.size)] = splitF sep [] (bys s))) (fun _ _ i _=>s.size + 1 - (intOf i).toNat)
 case atStart=>exact ⟨0,0,[],[],by omega,rfl,rfl,by omega,by omega,by simp,GrowS.nil (Ext.refl _),fun _=>⟨piece_ext (s:=s) (p:=[]) (r:=bys s) (by simp) rfl,by simp⟩,fun h=>absurd h (by omega)⟩
 case round=>
  obtain ⟨j,k,dn,cur,hj,rfl,rfl,hk,hkj,hdn,HG,HR,HE⟩:=hrel
  by_cases hlt : j < s.size
  ·obtain ⟨hpc,hR⟩:=HR.out (by omega)
   have HPC:=hid hpc
   have HRR:=hid hR
   have hkj':=hkj (by omega)
   obtain ⟨x,hx⟩ : ∃ x,(bys s)[j]? = some x:=⟨_,List.getElem?_eq_getElem (by rw [bys_len];exact hlt)⟩
   have gx:=bys_get hx hlt
   have hd : Hid ((bys s).drop j = x :: (bys s).drop (j + 1)):=by
    show _ = _
    obtain ⟨h1,h2⟩:=List.getElem?_eq_some_iff.1 hx
    rw [List.drop_eq_getElem_cons h1,h2]
   have hgrow : ∀ (p : List UInt8) (r : List UInt8) (m : Nat),(bys s).drop j = p ++ r → m = j + p.length → s.extract k m = str (cur ++ p):=by
    intro p r m h1 h2
    have h3 : (bys s).drop k = cur ++ (bys s).drop j:=by
     have h4 : bys (s.extract k j) = cur:=by rw [hpc,bys_str]
     rw [bys_ext] at h4
     have h5:=List.take_append_drop (j - k) ((bys s).drop k)
     rw [h4,List.drop_drop] at h5
     rw [← h5]
     congr 2
     omega
    have hl : cur.length = j - k:=by
     have h4 : bys (s.extract k j) = cur:=by rw [hpc,bys_str]
     rw [← h4,bys_ext,List.length_take,List.length_drop,bys_len]
     omega
    exact piece_ext (r:=r) (by rw [h3,h1,List.append_assoc]) (by rw [List.length_append,hl];omega)
   have HGW:=hid hgrow
   clear hx hpc hR hkj hgrow
   by_cases h92 : x = 92
   ·have t2 : ((x.toNat : Int) == 92) = true:=byte_is (k:=92) (by decide) h92
    have hfin : Hid ((j + 2 ≤ s.size → ∃ cur',s.extract k (j + 2) = str cur' ∧ dn ++ splitF sep cur' ((bys s).drop (j + 2)) = splitF sep [] (bys s)) ∧ (s.size < j + 2 → dn ++ [bys (s.extract k s.size)] = splitF sep [] (bys s))):=by
     constructor
     ·intro hl
      obtain ⟨y,hy⟩ : ∃ y,(bys s)[j + 1]? = some y:=⟨_,List.getElem?_eq_getElem (by rw [bys_len];omega)⟩
      have hd2 : (bys s).drop (j + 1) = y :: (bys s).drop (j + 2):=by
       obtain ⟨h1,h2⟩:=List.getElem?_eq_some_iff.1 hy
       rw [List.drop_eq_getElem_cons h1,h2]
      refine ⟨cur ++ [x,y],HGW.out [x,y] ((bys s).drop (j + 2)) (j + 2) (by rw [hd.out,hd2];rfl) rfl,?_⟩
      rw [← HRR.out,hd.out,hd2,h92,splitF_esc HSP.out]
     ·intro hl
      have hnil : (bys s).drop (j + 1) = []:=List.drop_eq_nil_of_le (by rw [bys_len];omega)
      rw [HGW.out [x] [] s.size (by rw [hd.out,hnil];rfl) (by simp;omega),bys_str,← HRR.out,hd.out,hnil,h92,splitF_esc1 HSP.out]
    clear h92
    go_wp2
    refine ⟨⟨j + 2,k,dn,(bys (s.extract k (j + 2))),by omega,by go_num,rfl,hk,by omega,by omega,HG,?_,?_⟩,by simp [intOf];omega⟩
    ·intro hl
     obtain ⟨c',h1,h2⟩:=hfin.out.1 hl
     rw [h1,bys_str]
     exact ⟨rfl,h2⟩
    ·exact fun hl=>hfin.out.2 hl
   ·have t2 : ((x.toNat : Int) == 92) = false:=byte_isnt (k:=92) h92
    by_cases hxs : x = sep
    ·have t1:=eq_byte hxs
     have hp:=HPC.out
     have z3 : (j : Int) ≤ (s.size : Int):=by omega
     have z4 : (k : Int) ≤ (j : Int):=by omega
     have HH : Hid ((dn ++ [cur]) ++ splitF sep [] ((bys s).drop (j + 1)) = splitF sep [] (bys s)):=by show _ = _;rw [← HRR.out,hd.out,splitF_sep hxs];simp
     clear hxs h92
     go_wp2_with (at_builtin;refine append_str1 rfl _ _ rfl _ _ rfl HG.out rfl (by simp;omega) ?_;intro v' w3 hg3;have HG3:=hid hg3;clear hg3)
     refine ⟨⟨j + 1,j + 1,dn ++ [cur],[],by omega,by go_num,by go_num,by omega,by omega,by simp;omega,?_,fun _=>⟨piece_ext (p:=[]) (r:=(bys s).drop (j + 1)) rfl rfl,HH⟩,fun h=>absurd h (by omega)⟩,by simp [intOf];omega⟩
     rw [show strs (dn ++ [cur]) = strs dn ++ [str cur] by simp]
     exact HG3
    ·have t1:=ne_byte hxs
     have HH : Hid (dn ++ splitF sep (cur ++ [x]) ((bys s).drop (j + 1)) = splitF sep [] (bys s)):=by show _ = _;rw [← HRR.out,hd.out,splitF_any hxs h92]
     have HP : Hid (s.extract k (j + 1) = str (cur ++ [x])):=HGW.out [x] ((bys s).drop (j + 1)) (j + 1) hd.out rfl
     clear hxs h92
     go_wp2
     exact ⟨⟨j + 1,k,dn,cur ++ [x],by omega,by go_num,rfl,hk,by omega,by omega,HG,fun _=>⟨HP,HH⟩,fun h=>absurd h (by omega)⟩,by simp [intOf];omega⟩
  ·have HF : Hid (dn ++ [bys (s.extract k s.size)] = splitF sep [] (bys s)):=by
    rcases Nat.lt_or_ge s.size j with h | h
    ·exact HE.out h
    ·obtain rfl : j = s.size:=by omega
     obtain ⟨h1,h2⟩:=HR.out (Nat.le_refl _)
     rw [h1,bys_str]
     show _ = _
     rw [← h2,show (bys s).drop s.size = [] from List.drop_eq_nil_of_le (by rw [bys_len];omega)]
     simp [splitF]
   have z4 : (k : Int) ≤ (s.size : Int):=by omega
   have HD:=hid hdn
   clear HE HR hkj
   go_wp2_with (at_builtin;refine append_str1 rfl _ _ rfl _ _ rfl HG.out rfl (by have:=HD.out;simp;omega) ?_;intro v' w3 hg3;have HG3:=hid hg3;clear hg3)
   go_ret
   refine ⟨_,rfl,?_⟩
   rw [← HF.out,show strs (dn ++ [bys (s.extract k s.size)]) = strs dn ++ [s.extract k s.size] by simp [str_bys]]
   exact HG3.out
theorem specB_z (x : UInt8) : specB x = (((x.toNat : Int) == 44) || ((x.toNat : Int) == 43) || ((x.toNat : Int) == 34) || ((x.toNat : Int) == 92) || ((x.toNat : Int) == 60) || ((x.toNat : Int) == 62) || ((x.toNat : Int) == 59)):=by
 obtain ⟨n,rfl⟩ : ∃ n : Fin 256,x = UInt8.ofFin n:=⟨x.toFin,rfl⟩
 revert n
 decide +kernel
theorem special_any (x : UInt8) (w : World) : Calls Tryz.prog 139 #[.int .u8 (x.toNat : Int)] w fun e w'=>e = .returned (.bool (specB x)) ∧ w = w':=by
 have HS:=hid (specB_z x)
 generalize (x.toNat : Int) = z at *
 go_enter Tryz.func139,Tryz.ntmps139
 go_wp2
 all_goals go_ret
 all_goals exact ⟨by rw [HS.out];simp [*],rfl⟩
def hexZ (x : UInt8) : Int:=match hexB x with | some a=>(a : Int) | none=>-1
theorem hexZ_z (x : UInt8) : hexZ x = if 48 ≤ (x.toNat : Int) ∧ (x.toNat : Int) ≤ 57 then (x.toNat : Int) - 48 else if 97 ≤ (x.toNat : Int) ∧ (x.toNat : Int) ≤ 102 then (x.toNat : Int) - 97 + 10 else if 65 ≤ (x.toNat : Int) ∧ (x.toNat : Int) ≤ 70 then (x.toNat : Int) - 65 + 10 else -1:=by
 obtain ⟨n,rfl⟩ : ∃ n : Fin 256,x = UInt8.ofFin n:=⟨x.toFin,rfl⟩
 revert n
 decide +kernel
theorem hexz_any (x : UInt8) (w : World) : Calls Tryz.prog 169 #[.int .u8 (x.toNat : Int)] w fun e w'=>e = .returned (.int .i64 (hexZ x)) ∧ w = w':=by
 have hx1 : (x.toNat : Int) < 256:=by have:=x.toNat_lt;omega
 have hx0 : 0 ≤ (x.toNat : Int):=by omega
 have HS:=hid (hexZ_z x)
 generalize (x.toNat : Int) = z at *
 by_cases h1 : 48 ≤ z
 ·by_cases h2 : z ≤ 57
  ·have HF : Hid (hexZ x = z - 48):=by show _ = _;rw [HS.out,if_pos ⟨h1,h2⟩]
   go_enter Tryz.func169,Tryz.ntmps169
   go_wp2
   go_ret
   exact ⟨by rw [HF.out];rfl,rfl⟩
  ·by_cases h3 : 97 ≤ z
   ·by_cases h4 : z ≤ 102
    ·have HF : Hid (hexZ x = z - 97 + 10):=by show _ = _;rw [HS.out,if_neg (by omega),if_pos ⟨h3,h4⟩]
     go_enter Tryz.func169,Tryz.ntmps169
     go_wp2
     go_ret
     exact ⟨by rw [HF.out];rfl,rfl⟩
    ·have HF : Hid (hexZ x = -1):=by show _ = _;rw [HS.out,if_neg (by omega),if_neg (by omega),if_neg (by omega)]
     have h5 : 65 ≤ z:=by omega
     have h6 : ¬ z ≤ 70:=by omega
     go_enter Tryz.func169,Tryz.ntmps169
     go_wp2
     go_ret
     exact ⟨by rw [HF.out];rfl,rfl⟩
   ·by_cases h5 : 65 ≤ z
    ·by_cases h6 : z ≤ 70
     ·have HF : Hid (hexZ x = z - 65 + 10):=by show _ = _;rw [HS.out,if_neg (by omega),if_neg (by omega),if_pos ⟨h5,h6⟩]
      go_enter Tryz.func169,Tryz.ntmps169
      go_wp2
      go_ret
      exact ⟨by rw [HF.out];rfl,rfl⟩
     ·have HF : Hid (hexZ x = -1):=by show _ = _;rw [HS.out,if_neg (by omega),if_neg (by omega),if_neg (by omega)]
      go_enter Tryz.func169,Tryz.ntmps169
      go_wp2
      go_ret
      exact ⟨by rw [HF.out];rfl,rfl⟩
    ·have HF : Hid (hexZ x = -1):=by show _ = _;rw [HS.out,if_neg (by omega),if_neg (by omega),if_neg (by omega)]
     go_enter Tryz.func169,Tryz.ntmps169
     go_wp2
     go_ret
     exact ⟨by rw [HF.out];rfl,rfl⟩
 ·have h3 : ¬ 97 ≤ z:=by omega
  have h5 : ¬ 65 ≤ z:=by omega
  have HF : Hid (hexZ x = -1):=by show _ = _;rw [HS.out,if_neg (by omega),if_neg (by omega),if_neg (by omega)]
  go_enter Tryz.func169,Tryz.ntmps169
  go_wp2
  go_ret
  exact ⟨by rw [HF.out];rfl,rfl⟩
theorem hexZ_idx (x : UInt8) : Lib.indexByte [48,49,50,51,52,53,54,55,56,57,97,98,99,100,101,102] (loB x) = hexZ x:=by
 obtain ⟨n,rfl⟩ : ∃ n : Fin 256,x = UInt8.ofFin n:=⟨x.toFin,rfl⟩
 revert n
 decide +kernel
theorem digit_any (x : UInt8) (w : World) : Calls Tryz.prog 151 #[.int .u8 (x.toNat : Int)] w fun e w'=>e = .returned (.int .i64 (hexZ x)) ∧ Ext w w':=by
 have hC:=(sl_char w x).conv _ (Ext.refl _)
 have hz : 0 < (str (lowerB [x])).size:=Nat.one_pos
 have g0 : (str (lowerB [x]))[0]'hz = loB x:=rfl
 go_enter Tryz.func151,Tryz.ntmps151
 go_wp2_with (first
  | (go_at_call 83;(with_reducible refine (lower_any (str [x]) _ (by simp [maxLen,str_size])).mono ?_);rintro e w1 ⟨he,hx1⟩;rw [bys_str] at he;subst he;have HX1:=hid hx1;clear hx1)
  | (go_at_call 133;(with_reducible refine (indexbyte_at _ _ (loB x) (u8_back _) (hexZ x) (hexZ_idx x) _).mono ?_);rintro e w2 ⟨rfl,rfl⟩))
 go_ret
 exact ⟨rfl,(Ext.alloc _ _).trans HX1.out⟩
theorem readF_plain {acc t : List UInt8} {c : UInt8} (h : c ≠ 92) : readF acc (c :: t) = if (c == 0 || specB c || (c == 32 && t.isEmpty)) = true then none else readF (acc ++ [c]) t:=by
 conv=>lhs;unfold readF
 rw [if_neg h]
theorem readF_end (acc : List UInt8) : readF acc [92] = none:=by unfold readF;rw [if_pos rfl]
def spec2 (d : UInt8) : Bool:=specB d || d == 35 || d == 61 || d == 32
theorem readF_spec {acc t : List UInt8} {d : UInt8} (h : spec2 d = true) : readF acc (92 :: d :: t) = readF (acc ++ [d]) t:=by
 conv=>lhs;unfold readF
 rw [if_pos rfl]
 exact if_pos h
theorem readF_hex1 {acc : List UInt8} {d : UInt8} (h : spec2 d = false) : readF acc [92,d] = none:=by
 conv=>lhs;unfold readF
 rw [if_pos rfl]
 exact if_neg (by rw [show (specB d || d == 35 || d == 61 || d == 32) = spec2 d from rfl,h];decide)
theorem readF_hex {acc t : List UInt8} {d e : UInt8} (h : spec2 d = false) : readF acc (92 :: d :: e :: t) = match hexB d,hexB e with | some a,some b=>readF (acc ++ [UInt8.ofNat (16 * a + b)]) t | _,_=>none:=by
 conv=>lhs;unfold readF
 rw [if_pos rfl]
 exact if_neg (by rw [show (specB d || d == 35 || d == 61 || d == 32) = spec2 d from rfl,h];decide)
theorem hexZ_neg {x : UInt8} (h : hexZ x < 0) : hexB x = none:=by
 unfold hexZ at h
 cases hb : hexB x with
 | none=>rfl
 | some a=>rw [hb] at h;simp at h;omega
theorem hexB_lt {x : UInt8} {a : Nat} (h : hexB x = some a) : a < 16:=by
 unfold hexB at h
 split at h
 ·injection h;omega
 ·split at h
  ·injection h;omega
  ·split at h
   ·injection h;omega
   ·cases h
theorem hexZ_pos {x : UInt8} (h : ¬ hexZ x < 0) : ∃ a : Nat,hexB x = some a ∧ hexZ x = a ∧ a < 16:=by
 unfold hexZ at h ⊢
 cases hb : hexB x with
 | none=>rw [hb] at h;simp at h
 | some a=>exact ⟨a,rfl,rfl,hexB_lt hb⟩
theorem hex_or : ∀ a < 16,∀ b < 16,bits BinOp.or IntKind.i64 ((16 * a : Nat) : Int) ((b : Nat) : Int) = ((16 * a + b : Nat) : Int):=by decide +kernel
theorem mem_spec : ∀ x : UInt8,specB x = true ↔ x ∈ ([44,43,34,92,60,62,59] : List UInt8):=by
 intro x
 obtain ⟨n,rfl⟩ : ∃ n : Fin 256,x = UInt8.ofFin n:=⟨x.toFin,rfl⟩
 revert n
 decide +kernel
theorem mem_spec2 : ∀ x : UInt8,spec2 x = true ↔ x ∈ ([44,43,34,92,60,62,59,35,61,32] : List UInt8):=by
 intro x
 obtain ⟨n,rfl⟩ : ∃ n : Fin 256,x = UInt8.ofFin n:=⟨x.toFin,rfl⟩
 revert n
 decide +kernel
def ValSays (w : World) (r : Option (List UInt8)) (e : Ending) (w' : World) : Prop:=e = .returned (.tuple #[.string (str (r.getD [])),.bool r.isSome]) ∧ Ext w w'
theorem drop_at {s : ByteArray} {j : Nat} {x : UInt8} (h : (bys s)[j]? = some x) : (bys s).drop j = x :: (bys s).drop (j + 1):=by
 obtain ⟨h1,h2⟩:=List.getElem?_eq_some_iff.1 h
 rw [List.drop_eq_getElem_cons h1,h2]
theorem at_some {s : ByteArray} {j : Nat} (h : j < s.size) : ∃ x,(bys s)[j]? = some x:=⟨_,List.getElem?_eq_getElem (by rw [bys_len];exact h)⟩
theorem drop_none {s : ByteArray} {j : Nat} (h : s.size ≤ j) : (bys s).drop j = []:=List.drop_eq_nil_of_le (by rw [bys_len];exact h)
end Go.Proofs.YtejdpadhemeldaaGreatDoor
