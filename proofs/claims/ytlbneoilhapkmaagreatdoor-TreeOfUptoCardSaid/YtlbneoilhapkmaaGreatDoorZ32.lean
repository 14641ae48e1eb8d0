/- Lemmas of the walk that the last text of this claim joins. -/
import Derived.Test.YtlbneoilhapkmaaGreatDoorZ31
import Derived.Test.YtlbneoilhapkmaaGreatDoorZ29
import Derived.Test.YtlbneoilhapkmaaGreatDoorZ06
set_option maxHeartbeats 40000000
set_option linter.unusedVariables false
set_option linter.unusedSimpArgs false
namespace Go.Proofs.YtlbneoilhapkmaaGreatDoor
open Go.RowKit
set_option maxRecDepth 100000
def Idx {α : Type} (P : α → Bool) (l : List α) (r : Int) : Prop:=(r = -1 ∧ l.any P = false) ∨ ∃ k : Nat,r = k ∧ (l.take k).any P = false ∧ ∃ x,l[k]? = some x ∧ P x = true
def likeV (n v : List UInt8) (x : ByteArray) : Bool:=(valZ n v).2 == 0 && likeZ n (valZ n v).1 (bys x)
theorem any_and {α : Type} (a : Bool) (p : α → Bool) (l : List α) : (l.any fun x=>a && p x) = (a && l.any p):=by
 induction l with
 | nil=>simp
 | cons x t ih=>simp only [List.any_cons,ih];cases a <;> rfl
theorem like_has (n v : List UInt8) (l : List ByteArray) : l.any (likeV n v) = hasZ n v l:=any_and _ _ l
theorem Idx.has {α : Type} {P : α → Bool} {l : List α} {r : Int} (h : Idx P l r) : decide (0 ≤ r) = l.any P:=by
 rcases h with ⟨rfl,h⟩ | ⟨k,rfl,-,x,hx,hp⟩
 ·rw [h];rfl
 ·rw [any_at' hx hp];exact decide_eq_true (by omega)
theorem find1Z_any (n m x : ByteArray) (g1 g2 : Nat) (w : World) (hG : Gu w) (hn : n.size ≤ 4000000) 
 (hc1 : w.cell? ⟨g1,0,none⟩ = some (.string n)) (hc2 : w.cell? ⟨g2,0,none⟩ = some (.string m)) :
 Calls Tryz.prog 214 #[.string x,.pointer (some ⟨g1,0,none⟩),.pointer (some ⟨g2,0,none⟩)] w fun e w'=>e = .returned (.bool (likeZ (bys n) (bys m) (bys x))) ∧ Ext w w':=by
 have HG:=hid hG
 have HV : ∀ w,Gu w → Calls Tryz.prog 177 #[.string n,.string x] w (ValZSays w (bys n) (bys x)):=fun w hG=>dnvalueZ_any n x w hG hn
 unfold ValZSays at HV
 have HLD : Hid (likeZ (bys n) (bys m) (bys x) = ((valZ (bys n) (bys x)).2 == 0 && decide ((valZ (bys n) (bys x)).1 = bys m))):=rfl
 have HC2:=hid hc2
 clear hG hn hc2
 generalize likeZ (bys n) (bys m) (bys x) = r at *
 generalize valZ (bys n) (bys x) = q at *
 obtain ⟨q1,q2⟩:=q
 simp only at HV HLD
 have k1 : (q2 == 0) = true ∨ (q2 == 0) = false:=by cases q2 == 0 <;> simp
 have k2 : ((str q1).toList == m.toList) = true ∧ Hid (decide (q1 = bys m) = true) ∨ ((str q1).toList == m.toList) = false ∧ Hid (decide (q1 = bys m) = false):=by
  by_cases h : str q1 = m
  ·exact .inl ⟨str_eq h,decide_eq_true (by rw [← h,bys_str])⟩
  ·exact .inr ⟨str_ne h,decide_eq_false (fun e=>h (by rw [e,str_bys1]))⟩
 rcases k1 with k1 | k1 <;> rcases k2 with ⟨k2,HK2⟩ | ⟨k2,HK2⟩
 all_goals
  rw [k1,HK2.out] at HLD
  generalize str q1 = qs at *
  go_enter Tryz.func214,Tryz.ntmps214
  go_wp2_with (go_at_call 177;(with_reducible refine (HV _ HG.out).mono ?_);rintro e w1 ⟨rfl,hx1⟩;have HX1:=hid hx1;have hc3:=cell_later HC2.out _ hx1;clear hx1)
  go_ret
  exact ⟨by rw [HLD.out];rfl,HX1.out⟩
theorem indexfindZ_any {S : Nat → Prop} {A : Option Addr} {n c : Nat} {l : List ByteArray} {w : World} (h : Row Elem.str S w A n c l) (nm m : ByteArray) (g1 g2 : Nat) (hG : Gu w) (hn : nm.size ≤ 4000000) 
 (hc1 : w.cell? ⟨g1,0,none⟩ = some (.string nm)) (hc2 : w.cell? ⟨g2,0,none⟩ = some (.string m)) :
 Calls Tryz.prog 197 #[.slice A n c,.func (.func 214) #[] #[.pointer (some ⟨g1,0,none⟩),.pointer (some ⟨g2,0,none⟩)]] w fun e w'=>
  ∃ r : Int,e = .returned (.int .i64 r) ∧ Idx (fun x=>likeZ (bys nm) (bys m) (bys x)) l r ∧ Ext w w':=by
 have hl:=hid h.len
 have hnl : n ≤ 9223372036854775807:=by have:=h.cap;have:=h.most;simp only [maxLen] at this;omega
 have HC : ∀ x wr,Ext w wr → Calls Tryz.prog 214 #[.string x,.pointer (some ⟨g1,0,none⟩),.pointer (some ⟨g2,0,none⟩)] wr fun e w'=>e = .returned (.bool (likeZ (bys nm) (bys m) (bys x))) ∧ Ext wr w':=
  fun x wr hx=>find1Z_any nm m x g1 g2 wr (hG.ext hx) hn (cell_later hc1 _ hx) (cell_later hc2 _ hx)
 clear hG hn hc1 hc2
 generalize hP : (fun x : ByteArray=>likeZ (bys nm) (bys m) (bys x)) = P at *
 have HC2 : ∀ x wr,Ext w wr → Calls Tryz.prog 214 #[.string x,.pointer (some ⟨g1,0,none⟩),.pointer (some ⟨g2,0,none⟩)] wr fun e w'=>e = .returned (.bool (P x)) ∧ Ext wr w':=fun x wr hx=>by rw [← hP];exact HC x wr hx
 clear hP HC
 go_enter Tryz.func197,Tryz.ntmps197
 go_wp2
 go_loopw [8] (fun i wr=>∃ j : Nat,j ≤ n ∧ i = .int .i64 j ∧ Hid ((l.take j).any P = false) ∧ Hid (Ext w wr)) (fun i _=>n - (intOf i).toNat)
 case atStart=>exact ⟨0,by omega,rfl,by simp [Hid],Ext.refl w⟩
 case round=>
  obtain ⟨j,hj,rfl,Htk,hx⟩:=hrel
  by_cases hlt : j < n
  ·obtain ⟨b1,o1,rfl,c1⟩:=(h.ext hx.out).str_cell (by omega)
   have e1:=c1 j hlt
   clear c1
   have g1 : l[j]? = some (l[j]?.getD ByteArray.empty):=by have:=hl.out;rw [List.getElem?_eq_getElem (by omega)];simp
   have Hg:=hid g1
   clear g1
   generalize l[j]?.getD ByteArray.empty = x1 at *
   cases hp : P x1
   ·have Hp:=hid hp
    clear hp
    go_wp2_with (go_at_call 214;(with_reducible refine (HC2 _ _ hx.out).mono ?_);rintro e w1 ⟨he,hx1⟩;rw [Hp.out] at he;subst he;have HX1:=hid hx1;clear hx1)
    exact ⟨⟨j + 1,by omega,by go_num,any_take' Htk.out Hg.out Hp.out,hx.out.trans HX1.out⟩,by simp [intOf];omega⟩
   ·have Hp:=hid hp
    clear hp
    go_wp2_with (go_at_call 214;(with_reducible refine (HC2 _ _ hx.out).mono ?_);rintro e w1 ⟨he,hx1⟩;rw [Hp.out] at he;subst he;have HX1:=hid hx1;clear hx1)
    go_ret
    exact ⟨_,rfl,.inr ⟨j,rfl,Htk.out,_,Hg.out,Hp.out⟩,hx.out.trans HX1.out⟩
  ·obtain rfl : j = n:=by omega
   go_wp2
   go_ret
   have h9:=Htk.out
   rw [List.take_of_length_le (Nat.le_of_eq hl.out.symm)] at h9
   exact ⟨_,rfl,.inl ⟨rfl,h9⟩,hx.out⟩
theorem findZ_any {S : Nat → Prop} {A : Option Addr} {n c : Nat} {l : List ByteArray} {w : World} (h : Row Elem.str S w A n c l) (nm v : ByteArray) (hG : Gu w) (hn : nm.size ≤ 4000000)  :
 Calls Tryz.prog 146 #[.string nm,.slice A n c,.string v] w fun e w'=>∃ r : Int,e = .returned (.int .i64 r) ∧ Idx (likeV (bys nm) (bys v)) l r ∧ Ext w w':=by
 have HG:=hid hG
 have HR:=hid h
 have HV : ∀ w,Gu w → Calls Tryz.prog 177 #[.string nm,.string v] w (ValZSays w (bys nm) (bys v)):=fun w hG=>dnvalueZ_any nm v w hG hn
 unfold ValZSays at HV
 have HI : ∀ (m : ByteArray) g1 g2 w1,Ext w w1 → w1.cell? ⟨g1,0,none⟩ = some (.string nm) → w1.cell? ⟨g2,0,none⟩ = some (.string m) →
  Calls Tryz.prog 197 #[.slice A n c,.func (.func 214) #[] #[.pointer (some ⟨g1,0,none⟩),.pointer (some ⟨g2,0,none⟩)]] w1 fun e w'=>
  ∃ r : Int,e = .returned (.int .i64 r) ∧ Idx (fun x=>likeZ (bys nm) (bys m) (bys x)) l r ∧ Ext w1 w':=fun m g1 g2 w1 hx a b=>indexfindZ_any (h.ext hx) nm m g1 g2 (hG.ext hx) hn a b
 have HHD : Hid (likeV (bys nm) (bys v) = fun x=>((valZ (bys nm) (bys v)).2 == 0 && likeZ (bys nm) (valZ (bys nm) (bys v)).1 (bys x))):=rfl
 have hmf : ∀ (fn : Fn) (first cap : Array Value) (w : World),(Instr.makeFunc fn first cap).run Tryz.prog w = .ok (.func fn first cap) w:=fun _ _ _ _=>rfl
 clear hG h hn
 generalize likeV (bys nm) (bys v) = P at *
 generalize valZ (bys nm) (bys v) = q at *
 obtain ⟨q1,q2⟩:=q
 simp only at HV HHD
 have HQ : Hid (P = fun x=>(q2 == 0) && likeZ (bys nm) (bys (str q1)) (bys x)):=by show _ = _;rw [bys_str];exact HHD.out
 clear HHD
 have HHD:=HQ
 clear HQ
 generalize str q1 = qs at *
 by_cases k1 : q2 = 0
 ·subst k1
  have HF : Hid (P = fun x=>likeZ (bys nm) (bys qs) (bys x)):=by show _ = _;rw [HHD.out];rfl
  clear HHD
  go_enter Tryz.func146,Tryz.ntmps146
  go_wp2_with (first
   | (go_at_call 177;(with_reducible refine (HV _ (HG.out.ext (Ext.alloc _ _))).mono ?_);rintro e w1 ⟨rfl,hx1⟩;have HX1:=hid hx1;clear hx1;have HXA:=hid ((Ext.trans (Ext.alloc _ _) HX1.out).trans (Ext.alloc w1 (.cells #[.string qs] 9)));have HCA:=hid ((((Bx.make (Ext.refl w) #[.string nm] 9).later HX1.out).later (Ext.alloc w1 (.cells #[.string qs] 9))).cell (i:=0) rfl);have HCB:=hid ((Bx.make (Ext.refl w1) #[.string qs] 9).cell (i:=0) rfl))
   | (go_at_call 197;(with_reducible refine (HI qs _ _ _ HXA.out HCA.out HCB.out).mono ?_);rintro e w2 ⟨r1,rfl,hr,hx2⟩;have HX2:=hid hx2;have HRR:=hid hr;clear hx2 hr))
  go_ret
  exact ⟨_,rfl,by rw [HF.out];exact HRR.out,((Ext.trans (Ext.alloc _ _) HX1.out).trans (Ext.alloc _ _)).trans HX2.out⟩
 ·have k2 : (q2 != 0) = true:=by rw [bne_iff_ne];exact k1
  have HF : Hid (P = fun x=>false):=by show _ = _;rw [HHD.out,show (q2 == 0) = false from beq_eq_false_iff_ne.2 k1];rfl
  clear HHD k1
  go_enter Tryz.func146,Tryz.ntmps146
  go_wp2_with (first
   | (go_at_call 177;(with_reducible refine (HV _ (HG.out.ext (Ext.alloc _ _))).mono ?_);rintro e w1 ⟨rfl,hx1⟩;have HX1:=hid hx1;clear hx1))
  go_ret
  exact ⟨-1,rfl,.inl ⟨rfl,by rw [HF.out];simp⟩,(Ext.trans (Ext.alloc _ _) HX1.out).trans (Ext.alloc _ _)⟩
theorem hasZP_any {S : Nat → Prop} {A : Option Addr} {n c : Nat} {l : List Att} {w : World} (h : Row Elem.att S w A n c l) (nm dn v : ByteArray) (hG : Gu w) (hn : nm.size ≤ 4000000)  (hv : ∀ a ∈ l,a.vals.length ≤ 8796093022208) :
 Calls Tryz.prog 90 #[.agg #[.string dn,.slice A n c],.string nm,.string v] w fun e w'=>e = .returned (.bool (hasZ (bys nm) (bys v) (valsE (bys nm) l))) ∧ Ext w w':=by
 have HV : ∀ w',Ext w w' → Calls Tryz.prog 118 #[.agg #[.string dn,.slice A n c],.string nm] w' (ValsSays w' (bys nm) l):=fun w' hx=>values_any (h.ext hx) nm dn hn hv
 unfold ValsSays at HV
 have HF : ∀ (T : Nat → Prop) B m d w',Ext w w' → Row Elem.str T w' B m d (valsE (bys nm) l) → Calls Tryz.prog 146 #[.string nm,.slice B m d,.string v] w' fun e w''=>∃ r : Int,e = .returned (.int .i64 r) ∧ decide (0 ≤ r) = hasZ (bys nm) (bys v) (valsE (bys nm) l) ∧ Ext w' w'':=
  fun T B m d w' hx hr=>(findZ_any hr nm v (hG.ext hx) hn).mono fun e w2 ⟨r,h1,h2,h3⟩=>⟨r,h1,by rw [h2.has,like_has],h3⟩
 clear hG hn hv h
 generalize hasZ (bys nm) (bys v) (valsE (bys nm) l) = r at *
 generalize valsE (bys nm) l = q at *
 go_enter Tryz.func90,Tryz.ntmps90
 go_wp2_with (first
  | (go_at_call 118;(with_reducible refine (HV _ (Ext.alloc _ _)).mono ?_);rintro e w1 ⟨A1,n1,c1,rfl,hr1,hx1⟩;have HR1:=hid hr1;have HX1:=hid (Ext.trans (Ext.alloc _ _) hx1);clear hr1 hx1)
  | (go_at_call 146;(with_reducible refine (HF _ _ _ _ _ HX1.out HR1.out).mono ?_);rintro e w2 ⟨r1,rfl,hr,hx2⟩;have HRR:=hid hr;have HX2:=hid hx2;clear hr hx2))
 go_ret
 exact ⟨by rw [← HRR.out];rfl,HX1.out.trans HX2.out⟩
end Go.Proofs.YtlbneoilhapkmaaGreatDoor
