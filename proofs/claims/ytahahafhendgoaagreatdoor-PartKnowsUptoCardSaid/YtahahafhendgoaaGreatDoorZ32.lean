/- Lemmas of the walk that the last text of this claim joins. -/
import Derived.Test.YtahahafhendgoaaGreatDoorZ30
import Derived.Test.YtahahafhendgoaaGreatDoorZ07
import Derived.Test.YtahahafhendgoaaGreatDoorZ28
import Derived.Test.YtahahafhendgoaaGreatDoorZ29
import Derived.Test.YtahahafhendgoaaGreatDoorZ31
set_option maxHeartbeats 40000000
set_option linter.unusedVariables false
set_option linter.unusedSimpArgs false
namespace Go.Proofs.YtahahafhendgoaaGreatDoor
open Go.RowKit
set_option maxRecDepth 100000
theorem find_any {S : Nat → Prop} {A : Option Addr} {n c : Nat} {l : List ByteArray} {w : World} (h : Row Elem.str S w A n c l) (nm v : ByteArray) (hG : Gl w) (hn : nm.size ≤ 4000000) (h4 : (typeB (bys nm)).2 ≠ 4) (h5 : (typeB (bys nm)).2 ≠ 5) :
 Calls Tryz.prog 77 #[.string nm,.slice A n c,.string v] w fun e w'=>∃ r : Int,e = .returned (.int .i64 r) ∧ decide (0 ≤ r) = hasE (bys nm) (bys v) l ∧ Ext w w':=by
 have HG:=hid hG
 have HR:=hid h
 have HV : ∀ w,Gl w → Calls Tryz.prog 54 #[.string nm,.string v] w (NormSays w (bys nm) (bys v)):=fun w hG=>dnvalue_any nm v w hG hn h4 h5
 unfold NormSays at HV
 have HI : ∀ (m : ByteArray) g1 g2 w1,Ext w w1 → w1.cell? ⟨g1,0,none⟩ = some (.string nm) → w1.cell? ⟨g2,0,none⟩ = some (.string m) →
  Calls Tryz.prog 55 #[.slice A n c,.func (.func 103) #[] #[.pointer (some ⟨g1,0,none⟩),.pointer (some ⟨g2,0,none⟩)]] w1 fun e w'=>
  ∃ r : Int,e = .returned (.int .i64 r) ∧ decide (0 ≤ r) = l.any (fun x=>likeB (bys nm) (bys m) (bys x)) ∧ Ext w1 w':=fun m g1 g2 w1 hx a b=>indexfind_any (h.ext hx) nm m g1 g2 (hG.ext hx) hn h4 h5 a b
 have HHD : Hid (hasE (bys nm) (bys v) l = ((normE (bys nm) (bys v)).2 == 0 && l.any fun x=>likeB (bys nm) (normE (bys nm) (bys v)).1 (bys x))):=rfl
 have hmf : ∀ (fn : Fn) (first cap : Array Value) (w : World),(Instr.makeFunc fn first cap).run Tryz.prog w = .ok (.func fn first cap) w:=fun _ _ _ _=>rfl
 clear hG h hn h4 h5
 generalize hasE (bys nm) (bys v) l = r at *
 generalize normE (bys nm) (bys v) = q at *
 obtain ⟨q1,q2⟩:=q
 simp only at HV HHD
 have HQ : Hid ((l.any fun x=>likeB (bys nm) q1 (bys x)) = l.any fun x=>likeB (bys nm) (bys (str q1)) (bys x)):=by show _ = _;rw [bys_str]
 rw [HQ.out] at HHD
 clear HQ
 generalize str q1 = qs at *
 by_cases k1 : q2 = 0
 ·subst k1
  have HF : Hid (r = l.any fun x=>likeB (bys nm) (bys qs) (bys x)):=by show _ = _;rw [HHD.out];rfl
  clear HHD
  go_enter Tryz.func77,Tryz.ntmps77
  go_wp2_with (first
   | (go_at_call 54;(with_reducible refine (HV _ (HG.out.ext (Ext.alloc _ _))).mono ?_);rintro e w1 ⟨rfl,hx1⟩;have HX1:=hid hx1;clear hx1;have HXA:=hid ((Ext.trans (Ext.alloc _ _) HX1.out).trans (Ext.alloc w1 (.cells #[.string qs] 9)));have HCA:=hid ((((Bx.make (Ext.refl w) #[.string nm] 9).later HX1.out).later (Ext.alloc w1 (.cells #[.string qs] 9))).cell (i:=0) rfl);have HCB:=hid ((Bx.make (Ext.refl w1) #[.string qs] 9).cell (i:=0) rfl))
   | (go_at_call 55;(with_reducible refine (HI qs _ _ _ HXA.out HCA.out HCB.out).mono ?_);rintro e w2 ⟨r1,rfl,hr,hx2⟩;have HX2:=hid hx2;have HRR:=hid hr;clear hx2 hr))
  go_ret
  exact ⟨_,rfl,by rw [HF.out];exact HRR.out,((Ext.trans (Ext.alloc _ _) HX1.out).trans (Ext.alloc _ _)).trans HX2.out⟩
 ·have k2 : (q2 != 0) = true:=by rw [bne_iff_ne];exact k1
  have HF : Hid (r = false):=by show _ = _;rw [HHD.out,show (q2 == 0) = false from beq_eq_false_iff_ne.2 k1];rfl
  clear HHD k1
  go_enter Tryz.func77,Tryz.ntmps77
  go_wp2_with (first
   | (go_at_call 54;(with_reducible refine (HV _ (HG.out.ext (Ext.alloc _ _))).mono ?_);rintro e w1 ⟨rfl,hx1⟩;have HX1:=hid hx1;clear hx1))
  go_ret
  exact ⟨-1,rfl,by rw [HF.out];rfl,(Ext.trans (Ext.alloc _ _) HX1.out).trans (Ext.alloc _ _)⟩
theorem strclone_any {S : Nat → Prop} {A : Option Addr} {n c : Nat} {l : List ByteArray} {w : World} (h : Row Elem.str S w A n c l) (hn : l.length ≤ 8796093022208) :
 Calls Tryz.prog 52 #[.slice A n c] w fun e w'=>∃ A' n' c',e = .returned (.slice A' n' c') ∧ Row Elem.str (fun b=>w.heap.size ≤ b) w' A' n' c' l ∧ Ext w w':=by
 have hl:=h.len
 rcases A with _ | a
 ·have hx : l = []:=by
   rcases Nat.eq_zero_or_pos n with h0 | h0
   ·exact h.nil_iff.1 h0
   ·obtain ⟨b,o,e,_⟩:=h.str_cell h0;cases e
  subst hx
  have hz:=fun W=>Lib.run_eql_slice_nil (P:=Tryz.prog) W 51 9 none n c 0 0 Tryz.underlying51
  clear hl h
  go_enter Tryz.func52,Tryz.ntmps52
  go_wp2
  go_ret
  exact ⟨_,_,_,rfl,Row.nil _ _ _,Ext.refl w⟩
 ·have hz:=fun W=>Lib.run_eql_slice_nil (P:=Tryz.prog) W 51 9 (some a) n c 0 0 Tryz.underlying51
  have HC:=hid ((h.ext (Ext.alloc w (.cells #[] 9))).str_cells)
  have HG : Hid (GrowS w (w.alloc (.cells #[] 9)) (.slice (some ⟨w.heap.size,0,none⟩) 0 0) []):=⟨own_empty w _ (Nat.le_refl _) _ _,Ext.alloc _ _⟩
  have HL:=hid hl
  have HN : Hid (n ≤ 8796093022208):=by show _ ≤ _;omega
  clear hl h hn
  go_enter Tryz.func52,Tryz.ntmps52
  go_wp2_with (at_builtin;refine append_strs rfl _ _ rfl _ [] rfl HG.out _ _ _ l rfl HL.out HC.out (by have:=HN.out;simp only [List.length_nil];omega) ?_;intro v' w1 hg1;have HG1:=hid hg1;clear hg1)
  go_ret
  obtain ⟨A',c',rfl,hr⟩:=HG1.out.row
  exact ⟨A',_,c',rfl,by simpa using hr,HG1.out.ext⟩
def valsE (n : List UInt8) (l : List Att) : List ByteArray:=((l.find? fun a=>decide (bys a.type = (typeB n).1 ∧ (typeB n).1 ≠ [])).map (·.vals)).getD []
def ValsSays (w : World) (n : List UInt8) (l : List Att) (e : Ending) (w' : World) : Prop:=∃ A m c,e = .returned (.slice A m c) ∧ Row Elem.str (fun b=>w.heap.size ≤ b) w' A m c (valsE n l) ∧ Ext w w'
theorem find_none_take {α : Type} {p : α → Bool} {l : List α} {j : Nat} {x : α} (h : (l.take j).find? p = none) (hx : l[j]? = some x) (hp : p x = false) : (l.take (j + 1)).find? p = none:=by
 rw [List.take_add_one,hx,List.find?_append,h]
 simp [hp]
theorem find_at {α : Type} {p : α → Bool} {l : List α} {j : Nat} {x : α} (h : (l.take j).find? p = none) (hx : l[j]? = some x) (hp : p x = true) : l.find? p = some x:=by
 obtain ⟨hj,he⟩:=List.getElem?_eq_some_iff.1 hx
 rw [← List.take_append_drop j l,List.find?_append,h,List.drop_eq_getElem_cons hj,he]
 simp [hp]
theorem values_any {S : Nat → Prop} {A : Option Addr} {n c : Nat} {l : List Att} {w : World} (h : Row Elem.att S w A n c l) (nm dn : ByteArray) (hn : nm.size ≤ 4000000) (hv : ∀ a ∈ l,a.vals.length ≤ 8796093022208) :
 Calls Tryz.prog 49 #[.agg #[.string dn,.slice A n c],.string nm] w (ValsSays w (bys nm) l):=by
 have HT : ∀ w,Calls Tryz.prog 46 #[.string nm] w (TypeSays w (bys nm)):=fun w=>type_any nm w (by simp only [maxLen];omega)
 unfold TypeSays at HT
 have hl:=hid h.len
 have hnl : n ≤ 9223372036854775807:=by have:=h.cap;have:=h.most;simp only [maxLen] at this;omega
 have HV:=hid hv
 have HR:=hid h
 have HD : Hid (valsE (bys nm) l = ((l.find? fun a=>decide (bys a.type = (typeB (bys nm)).1 ∧ (typeB (bys nm)).1 ≠ [])).map (·.vals)).getD []):=rfl
 clear h hv hn
 generalize hP : (fun a : Att=>decide (bys a.type = (typeB (bys nm)).1 ∧ (typeB (bys nm)).1 ≠ [])) = P at *
 have HP : ∀ a : Att,Hid (decide (bys a.type = (typeB (bys nm)).1 ∧ (typeB (bys nm)).1 ≠ []) = P a):=fun a=>by rw [← hP];rfl
 clear hP
 generalize typeB (bys nm) = tk at *
 obtain ⟨t,k⟩:=tk
 simp only at HT HP
 have HP2 : ∀ a : Att,Hid (decide (a.type = str t ∧ str t ≠ ⟨#[]⟩) = P a):=fun a=>by
  rw [← (HP a).out]
  show _ = _
  rw [Bool.eq_iff_iff,decide_eq_true_eq,decide_eq_true_eq]
  constructor
  ·rintro ⟨h1,h2⟩;exact ⟨by rw [h1,bys_str],fun e=>h2 (by (rw [e];try rfl))⟩
  ·rintro ⟨h1,h2⟩;exact ⟨by (rw [← h1];try rfl),fun e=>h2 (by have:=congrArg bys e;rw [bys_str] at this;exact this)⟩
 clear HP
 generalize str t = ts at *
 go_enter Tryz.func49,Tryz.ntmps49
 go_wp2_with (go_at_call 46;(with_reducible refine (HT _).mono ?_);rintro e w1 ⟨rfl,hx1⟩;have HX1:=hid (Ext.trans (Ext.alloc _ _) hx1);have cB:=((Bx.make (Ext.refl w) #[.string dn,.slice A n c] 48).later hx1).cell (i:=1) rfl;clear hx1)
 go_loopw [17] (fun i wr=>∃ j : Nat,j ≤ n ∧ i = .int .i64 j ∧ Hid ((l.take j).find? P = none) ∧ Hid (Ext w wr)) (fun i _=>n - (intOf i).toNat)
 case atStart=>exact ⟨0,by omega,rfl,by simp [Hid],HX1.out⟩
 case round=>
  obtain ⟨j,hj,rfl,Htk,hx⟩:=hrel
  by_cases hlt : j < n
  ·obtain ⟨b1,o1,v1,x1,rfl,g1,-,⟨A1,n1,c1,rfl,r1⟩,q1⟩:=(HR.out.ext hx.out).at_ hlt
   have e10:=q1 0 _ rfl
   have e11:=q1 1 _ rfl
   simp only [Elem.att,Nat.add_zero] at e10 e11
   have R1:=hid r1
   clear q1 r1
   have Hg:=hid g1
   have HL1:=hid (HV.out x1 (List.mem_of_getElem? g1))
   have HCL : ∀ w',Ext wr w' → Calls Tryz.prog 52 #[.slice A1 n1 c1] w' fun e w''=>∃ A' n' c',e = .returned (.slice A' n' c') ∧ Row Elem.str (fun b=>w'.heap.size ≤ b) w'' A' n' c' x1.vals ∧ Ext w' w'':=fun w' hx'=>strclone_any (R1.out.ext hx') HL1.out
   clear g1
   by_cases he : x1.type = ts ∧ ts ≠ ⟨#[]⟩
   ·have HPT : Hid (P x1 = true):=by show _ = _;rw [← (HP2 x1).out];exact decide_eq_true he
    have s1:=str_eq he.1
    have s2:=emp_nb (s:=ts) (fun h=>he.2 (by rw [str_emp h];rfl))
    have HF : Hid (valsE (bys nm) l = x1.vals):=by show _ = _;rw [HD.out,find_at Htk.out Hg.out HPT.out];rfl
    clear he
    go_wp2_with (go_at_call 52;(with_reducible refine (HCL _ (Ext.alloc _ _)).mono ?_);rintro e w2 ⟨A2,n2,c2,rfl,hr2,hx2⟩;have HX2:=hid ((hx.out.trans (Ext.alloc _ _)).trans hx2);have HR2:=hid (hr2.mono (T:=fun b=>w.heap.size ≤ b) (fun b _ hb=>by have:=(hx.out.trans (Ext.alloc wr (.cells #[.string x1.type,.slice A1 n1 c1] 53))).size;omega));clear hr2 hx2)
    go_ret
    exact ⟨_,_,_,rfl,by rw [HF.out];exact HR2.out,HX2.out⟩
   ·have HPT : Hid (P x1 = false):=by show _ = _;rw [← (HP2 x1).out];exact decide_eq_false he
    by_cases h1 : x1.type = ts
    ·have h2 : ts.size = 0:=Decidable.byContradiction fun h=>he ⟨h1,fun e=>h (by rw [e];rfl)⟩
     have s1 : x1.type.toList = []:=by rw [h1];exact emp_yes h2
     have s2:=emp_yes h2
     clear he h1 h2
     go_wp2
     exact ⟨⟨j + 1,by omega,by go_num,find_none_take Htk.out Hg.out HPT.out,hx.out.trans (Ext.alloc _ _)⟩,by simp [intOf];omega⟩
    ·have s1:=str_ne h1
     clear he h1
     go_wp2
     exact ⟨⟨j + 1,by omega,by go_num,find_none_take Htk.out Hg.out HPT.out,hx.out.trans (Ext.alloc _ _)⟩,by simp [intOf];omega⟩
  ·obtain rfl : j = n:=by omega
   have h9:=Htk.out
   rw [List.take_of_length_le (Nat.le_of_eq hl.out.symm)] at h9
   have HF : Hid (valsE (bys nm) l = []):=by show _ = _;rw [HD.out,h9];rfl
   clear h9
   go_wp2
   go_ret
   exact ⟨none,0,0,rfl,by rw [HF.out];exact Row.nil _ _ _,hx.out⟩
theorem has_any {S : Nat → Prop} {A : Option Addr} {n c : Nat} {l : List Att} {w : World} (h : Row Elem.att S w A n c l) (nm dn v : ByteArray) (hG : Gl w) (hn : nm.size ≤ 4000000) (h4 : (typeB (bys nm)).2 ≠ 4) (h5 : (typeB (bys nm)).2 ≠ 5) (hv : ∀ a ∈ l,a.vals.length ≤ 8796093022208) :
 Calls Tryz.prog 53 #[.agg #[.string dn,.slice A n c],.string nm,.string v] w fun e w'=>e = .returned (.bool (hasE (bys nm) (bys v) (valsE (bys nm) l))) ∧ Ext w w':=by
 have HV : ∀ w',Ext w w' → Calls Tryz.prog 49 #[.agg #[.string dn,.slice A n c],.string nm] w' (ValsSays w' (bys nm) l):=fun w' hx=>values_any (h.ext hx) nm dn hn hv
 unfold ValsSays at HV
 have HF : ∀ (T : Nat → Prop) B m d w',Ext w w' → Row Elem.str T w' B m d (valsE (bys nm) l) → Calls Tryz.prog 77 #[.string nm,.slice B m d,.string v] w' fun e w''=>∃ r : Int,e = .returned (.int .i64 r) ∧ decide (0 ≤ r) = hasE (bys nm) (bys v) (valsE (bys nm) l) ∧ Ext w' w'':=
  fun T B m d w' hx hr=>find_any hr nm v (hG.ext hx) hn h4 h5
 clear hG hn h4 h5 hv h
 generalize hasE (bys nm) (bys v) (valsE (bys nm) l) = r at *
 generalize valsE (bys nm) l = q at *
 go_enter Tryz.func53,Tryz.ntmps53
 go_wp2_with (first
  | (go_at_call 49;(with_reducible refine (HV _ (Ext.alloc _ _)).mono ?_);rintro e w1 ⟨A1,n1,c1,rfl,hr1,hx1⟩;have HR1:=hid hr1;have HX1:=hid (Ext.trans (Ext.alloc _ _) hx1);clear hr1 hx1)
  | (go_at_call 77;(with_reducible refine (HF _ _ _ _ _ HX1.out HR1.out).mono ?_);rintro e w2 ⟨r1,rfl,hr,hx2⟩;have HRR:=hid hr;have HX2:=hid hx2;clear hr hx2))
 go_ret
 exact ⟨by rw [← HRR.out];rfl,HX1.out.trans HX2.out⟩
def parentS (s : List UInt8) : List UInt8 × Bool:=match okL (partsB s) with | []=>([],false) | _ :: t=>(joinC t,true)
def ParentSays (w : World) (s : List UInt8) (e : Ending) (w' : World) : Prop:=e = .returned (.tuple #[.string (str (parentS s).1),.bool (parentS s).2]) ∧ Ext w w'
theorem join_tail (x : List UInt8) (t : List (List UInt8)) : (joinC t).length ≤ (joinC (x :: t)).length:=by
 cases t with
 | nil=>simp [joinC]
 | cons y t=>rw [joinC_cons,joinC_cons,tailC];simp only [List.length_append,List.length_cons];omega
theorem sslice_L (A : Option Addr) (n c l : Nat) (hlk : l ≤ n) (L : Int) (hL : L = l) :
 ∀ w,(Instr.sliceAt 51 (.slice A n c) (some (.int .i64 L)) none none).run Tryz.prog w = .ok (.slice (cutA A l c 1) (n - l) (c - l)) w:=by
 subst hL
 exact sslice_l A n c l hlk
theorem dnparent_any (s : ByteArray) (w : World) (hG : Gl w) : Calls Tryz.prog 18 #[.string s] w (ParentSays w (bys s)):=by
 have HPA:=parts_any s w hG
 unfold TextsSays at HPA
 have HD : Hid (parentS (bys s) = match okL (partsB (bys s)) with | []=>([],false) | _ :: t=>(joinC t,true)):=rfl
 have HSM:=hid (texts_small (bys s))
 have HCD : Hid (ParentSays w (bys s) = fun e w'=>e = .returned (.tuple #[.string (str (parentS (bys s)).1),.bool (parentS (bys s)).2]) ∧ Ext w w'):=rfl
 generalize okL (partsB (bys s)) = l at *
 generalize codeR (partsB (bys s)) = cd at *
 generalize parentS (bys s) = q at *
 cases l with
 | nil=>
  simp only at HD
  go_enter Tryz.func18,Tryz.ntmps18
  go_wp2_with (go_at_call 38;(with_reducible refine HPA.mono ?_);rintro e w1 ⟨A1,n1,c1,rfl,hr1,hx1⟩;have HX1:=hid hx1;obtain rfl : n1 = 0:=hr1.len;clear hr1 hx1)
  go_ret2
  rw [HCD.out,HD.out]
  exact ⟨rfl,HX1.out⟩
 | cons x t=>
  simp only at HD
  have HJ : ∀ A n c w',Row Elem.str (fun b=>w.heap.size ≤ b) w' A n c (strs (x :: t)) → Calls Tryz.prog 39 #[.slice (cutA A 1 c 1) (n - 1) (c - 1),.string ⟨#[44]⟩] w' fun e w''=>e = .returned (.string (str (joinC t))) ∧ Ext w' w'':=fun A n c w' hr=>by
   have hl : n = t.length + 1:=by rw [hr.len];simp
   have hr2:=hr.tail (k:=1) (by omega)
   have e : (strs (x :: t)).drop 1 = strs t:=rfl
   rw [e] at hr2
   have:=join_any (strs t) ⟨#[44]⟩ hr2 (by rw [List.length_map];have:=HSM.out.1;simp only [List.length_cons] at this;omega) (by rw [strs_data];show (Lib.join t [44]).length ≤ _;rw [join_c];have:=HSM.out.2;have:=join_tail x t;omega)
   rwa [strs_bys,show bys ⟨#[44]⟩ = [44] from rfl,join_c] at this
  clear HSM
  go_enter Tryz.func18,Tryz.ntmps18
  go_wp2_with (first
   | (go_at_call 38;(with_reducible refine HPA.mono ?_);rintro e w1 ⟨A1,n1,c1,rfl,hr1,hx1⟩;have HX1:=hid hx1;have hl1 : n1 = t.length + 1:=(by rw [hr1.len];simp);have t1 : ((n1 : Int) == 0) = false:=(by rw [beq_eq_false_iff_ne];omega);have hs1:=sslice_L A1 n1 c1 1 (by omega) 1 rfl;have HJ1:=hid (HJ A1 n1 c1 w1 hr1);clear hx1 hr1 hl1)
   | (go_at_call 39;(with_reducible refine HJ1.out.mono ?_);rintro e w2 ⟨rfl,hx2⟩;have HX2:=hid hx2;clear hx2))
  go_ret2
  rw [HCD.out,HD.out]
  exact ⟨rfl,HX1.out.trans HX2.out⟩
def valZ (n v : List UInt8) : List UInt8 × Int:=
 if (typeB n).2 ≠ 5 then normZ n v else if v = [] ∨ 200 < v.length then ([],2) else if codeR (partsB v) ≠ 0 then ([],2) else (normalS v,0)
def ValZSays (w : World) (n v : List UInt8) (e : Ending) (w' : World) : Prop:=e = .returned (.tuple #[.string (str (valZ n v).1),.int .i64 (valZ n v).2]) ∧ Ext w w'
def likeZ (n m x : List UInt8) : Bool:=(valZ n x).2 == 0 && decide ((valZ n x).1 = m)
def hasZ (n v : List UInt8) (l : List ByteArray) : Bool:=(valZ n v).2 == 0 && l.any fun x=>likeZ n (valZ n v).1 (bys x)
end Go.Proofs.YtahahafhendgoaaGreatDoor
