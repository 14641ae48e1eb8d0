/- Lemmas of the walk that the last text of this claim joins. -/
import Derived.Test.YtahahafhendgoaaGreatDoorZ29
set_option maxHeartbeats 40000000
set_option linter.unusedVariables false
set_option linter.unusedSimpArgs false
namespace Go.Proofs.YtahahafhendgoaaGreatDoor
open Go.RowKit
set_option maxRecDepth 100000
theorem dnvalue_any (n s : ByteArray) (w : World) (hG : Gl w) (hn : n.size ≤ 4000000) (h4 : (typeB (bys n)).2 ≠ 4) (h5 : (typeB (bys n)).2 ≠ 5) :
 Calls Tryz.prog 54 #[.string n,.string s] w (NormSays w (bys n) (bys s)):=by
 have HG:=hid hG
 have HT : ∀ w,Calls Tryz.prog 46 #[.string n] w (TypeSays w (bys n)):=fun w=>type_any n w (by simp only [maxLen];omega)
 have HN : ∀ w,Gl w → Calls Tryz.prog 81 #[.string n,.string s] w (NormSays w (bys n) (bys s)):=fun w hG=>normal_any n s w hG hn h4
 unfold TypeSays at HT
 unfold NormSays at HN
 have HND : Hid (NormSays w (bys n) (bys s) = fun e w'=>e = .returned (.tuple #[.string (str (normE (bys n) (bys s)).1),.int .i64 (normE (bys n) (bys s)).2]) ∧ Ext w w'):=rfl
 have t5 : (((typeB (bys n)).2 : Int) != 5) = true:=by rw [bne_iff_ne];omega
 clear hG h4 h5
 generalize typeB (bys n) = p at *
 obtain ⟨t,k⟩:=p
 generalize normE (bys n) (bys s) = q at *
 obtain ⟨q1,q2⟩:=q
 simp only at HT t5 HN
 go_enter Tryz.func54,Tryz.ntmps54
 go_wp2_with (first
  | (go_at_call 46;(with_reducible refine (HT _).mono ?_);rintro e w1 ⟨rfl,hx1⟩;have HX1:=hid hx1;clear hx1)
  | (go_at_call 81;(with_reducible refine (HN _ (HG.out.ext HX1.out)).mono ?_);rintro e w2 ⟨rfl,hx2⟩;have HX2:=hid hx2;clear hx2))
 go_ret2
 rw [HND.out]
 exact ⟨rfl,HX1.out.trans HX2.out⟩
def likeB (n m x : List UInt8) : Bool:=(normE n x).2 == 0 && decide ((normE n x).1 = m)
def hasE (n v : List UInt8) (l : List ByteArray) : Bool:=(normE n v).2 == 0 && l.any fun x=>likeB n (normE n v).1 (bys x)
theorem any_take' {α : Type} {p : α → Bool} {l : List α} {j : Nat} {x : α} (h : (l.take j).any p = false) (hx : l[j]? = some x) (hp : p x = false) : (l.take (j + 1)).any p = false:=by
 rw [List.take_add_one,hx]
 simp only [Option.toList,List.any_append,h,List.any_cons,hp,List.any_nil,Bool.or_self]
theorem any_at' {α : Type} {p : α → Bool} {l : List α} {j : Nat} {x : α} (hx : l[j]? = some x) (hp : p x = true) : l.any p = true:=List.any_eq_true.2 ⟨x,List.mem_of_getElem? hx,hp⟩
theorem str_bys1 (a : ByteArray) : str (bys a) = a:=rfl
theorem find1_any (n m x : ByteArray) (g1 g2 : Nat) (w : World) (hG : Gl w) (hn : n.size ≤ 4000000) (h4 : (typeB (bys n)).2 ≠ 4) (h5 : (typeB (bys n)).2 ≠ 5)
 (hc1 : w.cell? ⟨g1,0,none⟩ = some (.string n)) (hc2 : w.cell? ⟨g2,0,none⟩ = some (.string m)) :
 Calls Tryz.prog 103 #[.string x,.pointer (some ⟨g1,0,none⟩),.pointer (some ⟨g2,0,none⟩)] w fun e w'=>e = .returned (.bool (likeB (bys n) (bys m) (bys x))) ∧ Ext w w':=by
 have HG:=hid hG
 have HV : ∀ w,Gl w → Calls Tryz.prog 54 #[.string n,.string x] w (NormSays w (bys n) (bys x)):=fun w hG=>dnvalue_any n x w hG hn h4 h5
 unfold NormSays at HV
 have HLD : Hid (likeB (bys n) (bys m) (bys x) = ((normE (bys n) (bys x)).2 == 0 && decide ((normE (bys n) (bys x)).1 = bys m))):=rfl
 have HC2:=hid hc2
 clear hG h4 h5 hn hc2
 generalize likeB (bys n) (bys m) (bys x) = r at *
 generalize normE (bys n) (bys x) = q at *
 obtain ⟨q1,q2⟩:=q
 simp only at HV HLD
 have k1 : (q2 == 0) = true ∨ (q2 == 0) = false:=by cases q2 == 0 <;> simp
 have k2 : ((str q1).toList == m.toList) = true ∧ Hid (decide (q1 = bys m) = true) ∨ ((str q1).toList == m.toList) = false ∧ Hid (decide (q1 = bys m) = false):=by
  by_cases h : str q1 = m
  ·exact .inl ⟨str_eq h,decide_eq_true (by rw [← h,bys_str])⟩
  ·exact .inr ⟨str_ne h,decide_eq_false (fun e=>h (by rw [e,str_bys1]))⟩
 rcases k1 with k1 | k1 <;> rcases k2 with ⟨k2,HK2⟩ | ⟨k2,HK2⟩
 all_goals
  rw [k1,HK2.out] at HLD
  generalize str q1 = qs at *
  go_enter Tryz.func103,Tryz.ntmps103
  go_wp2_with (go_at_call 54;(with_reducible refine (HV _ HG.out).mono ?_);rintro e w1 ⟨rfl,hx1⟩;have HX1:=hid hx1;have hc3:=cell_later HC2.out _ hx1;clear hx1)
  go_ret
  exact ⟨by rw [HLD.out];rfl,HX1.out⟩
theorem indexfind_any {S : Nat → Prop} {A : Option Addr} {n c : Nat} {l : List ByteArray} {w : World} (h : Row Elem.str S w A n c l) (nm m : ByteArray) (g1 g2 : Nat) (hG : Gl w) (hn : nm.size ≤ 4000000) (h4 : (typeB (bys nm)).2 ≠ 4) (h5 : (typeB (bys nm)).2 ≠ 5)
 (hc1 : w.cell? ⟨g1,0,none⟩ = some (.string nm)) (hc2 : w.cell? ⟨g2,0,none⟩ = some (.string m)) :
 Calls Tryz.prog 55 #[.slice A n c,.func (.func 103) #[] #[.pointer (some ⟨g1,0,none⟩),.pointer (some ⟨g2,0,none⟩)]] w fun e w'=>
  ∃ r : Int,e = .returned (.int .i64 r) ∧ decide (0 ≤ r) = l.any (fun x=>likeB (bys nm) (bys m) (bys x)) ∧ Ext w w':=by
 have hl:=hid h.len
 have hnl : n ≤ 9223372036854775807:=by have:=h.cap;have:=h.most;simp only [maxLen] at this;omega
 have HC : ∀ x wr,Ext w wr → Calls Tryz.prog 103 #[.string x,.pointer (some ⟨g1,0,none⟩),.pointer (some ⟨g2,0,none⟩)] wr fun e w'=>e = .returned (.bool (likeB (bys nm) (bys m) (bys x))) ∧ Ext wr w':=
  fun x wr hx=>find1_any nm m x g1 g2 wr (hG.ext hx) hn h4 h5 (cell_later hc1 _ hx) (cell_later hc2 _ hx)
 clear hG h4 h5 hn hc1 hc2
 generalize hP : (fun x : ByteArray=>likeB (bys nm) (bys m) (bys x)) = P at *
 have HC2 : ∀ x wr,Ext w wr → Calls Tryz.prog 103 #[.string x,.pointer (some ⟨g1,0,none⟩),.pointer (some ⟨g2,0,none⟩)] wr fun e w'=>e = .returned (.bool (P x)) ∧ Ext wr w':=fun x wr hx=>by rw [← hP];exact HC x wr hx
 clear hP HC
 go_enter Tryz.func55,Tryz.ntmps55
 go_wp2
 go_loopw [8] (fun i wr=>∃ j : Nat,j ≤ n ∧ i = .int .i64 j ∧ Hid ((l.take j).any P = false) ∧ Hid (Ext w wr)) (fun i _=>n - (intOf i).toNat)
 case atStart=>exact ⟨0,by omega,rfl,by simp [Hid],Ext.refl w⟩
 case round=>
  obtain ⟨j,hj,rfl,Htk,hx⟩:=hrel
  by_cases hlt : j < n
  ·obtain ⟨b1,o1,rfl,c1⟩:=(h.ext hx.out).str_cell (by omega)
   have e1:=c1 j hlt
   clear c1
   have g1 : l[j]? = some (l[j]?.getD ByteArray.empty):=by have:=hl.out;rw [List.getElem?_eq_getElem (by omega)];simp
   have Hg:=hid g1
   clear g1
   generalize l[j]?.getD ByteArray.empty = x1 at *
   cases hp : P x1
   ·have Hp:=hid hp
    clear hp
    go_wp2_with (go_at_call 103;(with_reducible refine (HC2 _ _ hx.out).mono ?_);rintro e w1 ⟨he,hx1⟩;rw [Hp.out] at he;subst he;have HX1:=hid hx1;clear hx1)
    exact ⟨⟨j + 1,by omega,by go_num,any_take' Htk.out Hg.out Hp.out,hx.out.trans HX1.out⟩,by simp [intOf];omega⟩
   ·have Hp:=hid hp
    clear hp
    go_wp2_with (go_at_call 103;(with_reducible refine (HC2 _ _ hx.out).mono ?_);rintro e w1 ⟨he,hx1⟩;rw [Hp.out] at he;subst he;have HX1:=hid hx1;clear hx1)
    go_ret
    exact ⟨_,rfl,by rw [any_at' Hg.out Hp.out];exact decide_eq_true (by omega),hx.out.trans HX1.out⟩
  ·obtain rfl : j = n:=by omega
   go_wp2
   go_ret
   have h9:=Htk.out
   rw [List.take_of_length_le (Nat.le_of_eq hl.out.symm)] at h9
   exact ⟨_,rfl,by rw [h9];rfl,hx.out⟩
end Go.Proofs.YtahahafhendgoaaGreatDoor
