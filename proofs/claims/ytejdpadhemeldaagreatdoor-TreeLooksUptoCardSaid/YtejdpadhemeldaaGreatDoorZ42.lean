/- Lemmas of the walk that the last text of this claim joins. -/
import Derived.Test.YtejdpadhemeldaaGreatDoorZ41
import Derived.Test.YtejdpadhemeldaaGreatDoorZ40
set_option maxHeartbeats 40000000
set_option linter.unusedVariables false
set_option linter.unusedSimpArgs false
namespace Go.Proofs.YtejdpadhemeldaaGreatDoor
open Go.RowKit
set_option maxRecDepth 100000
theorem formed_self {nm : List UInt8} {l : List Att} (h : formedE nm l = true) : selfN nm = true:=by
 unfold formedE looseE at h
 simp only [Bool.and_eq_true] at h
 exact h.1.1.1.1
theorem isAt_self {s : List UInt8} (h1 : codeR (partsB s) = 0) (h2 : normalS s = s) (e : Ent) : isAt s e = decide (nmE e = s):=by
 unfold isAt
 rw [h1,h2]
 simp
theorem entOf_any {l : List Ent} {p : ByteArray} : entOf l p = none ↔ l.any (fun e=>decide (nmE e = bys p)) = false:=by
 unfold entOf
 rw [List.find?_eq_none,List.any_eq_false]
 constructor
 ·intro h x hx
  have:=h x hx
  simp only [decide_eq_true_eq] at this ⊢
  intro e
  exact this (by rw [← str_bys x.name];unfold nmE at e;rw [e,str_bys])
 ·intro h x hx
  have:=h x hx
  simp only [decide_eq_true_eq] at this ⊢
  intro e
  exact this (by unfold nmE;rw [e])
theorem entOf_at {l : List Ent} {p : ByteArray} {r : Int} (h1 : codeR (partsB (bys p)) = 0) (h2 : normalS (bys p) = bys p) (h : Idx (isAt (bys p)) l r) : (r = -1 ∧ entOf l p = none) ∨ ∃ (k : Nat) (x : Ent),r = k ∧ l[k]? = some x ∧ entOf l p = some x ∧ entOf (l.take k) p = none:=by
 have hP : isAt (bys p) = fun e=>decide (nmE e = bys p):=funext fun e=>isAt_self h1 h2 e
 rw [hP] at h
 rcases h with ⟨rfl,h⟩ | ⟨k,rfl,h3,x,h4,h5⟩
 ·exact .inl ⟨rfl,entOf_any.2 h⟩
 ·have h6 : entOf (l.take k) p = none:=entOf_any.2 h3
  refine .inr ⟨k,x,rfl,h4,?_,h6⟩
  have e1 : l = l.take k ++ x :: l.drop (k + 1):=by
   have hlt:=(List.getElem?_eq_some_iff.1 h4).1
   have e2 : l.drop k = x :: l.drop (k + 1):=by
    rw [List.drop_eq_getElem_cons hlt]
    rw [List.getElem?_eq_getElem hlt] at h4
    injection h4 with h4
    rw [h4]
   rw [← e2,List.take_append_drop]
  unfold entOf at h6 ⊢
  rw [e1,List.find?_append,h6]
  simp only [decide_eq_true_eq] at h5
  have e3 : x.name = p:=by rw [← str_bys x.name];unfold nmE at h5;rw [h5,str_bys]
  simp [e3]
theorem entOf_first {l : List Ent} {x : Ent} {j : Nat} {r : Int} (hs : selfN (nmE x) = true) (hj : l[j]? = some x) (h : Idx (isAt (nmE x)) l r) : (r = j ↔ entOf (l.take j) x.name = none):=by
 obtain ⟨h1,h2,h3⟩:=self_parts hs
 rcases entOf_at (p:=x.name) h1 h2 h with ⟨rfl,h4⟩ | ⟨k,y,rfl,h4,h5,h6⟩
 ·exfalso
  have:=entOf_any.1 h4
  rw [List.any_eq_false] at this
  exact this x (List.mem_of_getElem? hj) (by simp)
 ·constructor
  ·intro e
   have : k = j:=by omega
   rw [← this];exact h6
  ·intro h7
   rcases Nat.lt_or_ge k j with h8 | h8
   ·exfalso
    have h9:=entOf_any.1 h7
    rw [List.any_eq_false] at h9
    have h10 : y ∈ l.take j:=List.mem_of_getElem? (i:=k) (by rw [List.getElem?_take_of_lt h8];exact h4)
    have h11 : y.name = x.name:=by have:=List.find?_some h5;simpa using this
    exact h9 y h10 (by simp [nmE,h11])
   ·rcases Nat.lt_or_ge j k with h9 | h9
    ·exfalso
     have h10:=entOf_any.1 h6
     rw [List.any_eq_false] at h10
     exact h10 x (List.mem_of_getElem? (i:=j) (by rw [List.getElem?_take_of_lt h9];exact hj)) (by simp)
    ·omega
theorem Idx.ex {α : Type} (P : α → Bool) : ∀ l : List α,∃ r,Idx P l r
 | []=>⟨-1,.inl ⟨rfl,rfl⟩⟩
 | a :: t=>by
  cases ha : P a with
  | true=>exact ⟨0,.inr ⟨0,rfl,rfl,a,rfl,ha⟩⟩
  | false=>
   obtain ⟨r,h⟩:=Idx.ex P t
   rcases h with ⟨rfl,h⟩ | ⟨k,rfl,h1,x,h2,h3⟩
   ·exact ⟨-1,.inl ⟨rfl,by simp [ha,h]⟩⟩
   ·exact ⟨((k + 1 : Nat) : Int),.inr ⟨k + 1,rfl,by rw [List.take_succ_cons,List.any_cons,ha,h1];rfl,x,h2,h3⟩⟩
theorem Idx.lt_no {α : Type} {P : α → Bool} {l : List α} {k k' : Nat} {x : α} (h : (l.take k').any P = false) (hx : l[k]? = some x) (hp : P x = true) : k' ≤ k:=by
 rcases Nat.lt_or_ge k k' with h1 | h1
 ·rw [List.any_eq_false] at h
  exact absurd hp (h x (List.mem_of_getElem? (i:=k) (by rw [List.getElem?_take_of_lt h1];exact hx)))
 ·exact h1
theorem Idx.one {α : Type} {P : α → Bool} {l : List α} {r r' : Int} (h : Idx P l r) (h' : Idx P l r') : r = r':=by
 rcases h with ⟨rfl,h⟩ | ⟨k,rfl,h1,x,h2,h3⟩
 ·rcases h' with ⟨rfl,-⟩ | ⟨k',rfl,h1',x',h2',h3'⟩
  ·rfl
  ·rw [List.any_eq_false] at h
   exact absurd h3' (h x' (List.mem_of_getElem? h2'))
 ·rcases h' with ⟨rfl,h⟩ | ⟨k',rfl,h1',x',h2',h3'⟩
  ·rw [List.any_eq_false] at h
   exact absurd h3 (h x (List.mem_of_getElem? h2))
  ·have a:=Idx.lt_no h1' h2 h3
   have b:=Idx.lt_no h1 h2' h3'
   omega
theorem insN_mem {α : Type} {f : α → List UInt8} {e x : α} : ∀ {out : List α},x ∈ insN f e out → x = e ∨ x ∈ out
 | [],h=>by simp [insN] at h;exact .inl h
 | o :: t,h=>by
  unfold insN at h
  split at h
  ·rcases List.mem_cons.1 h with h | h
   ·exact .inr (by simp [h])
   ·rcases insN_mem h with h | h
    ·exact .inl h
    ·exact .inr (by simp [h])
  ·split at h
   ·exact .inr h
   ·rcases List.mem_cons.1 h with h | h
    ·exact .inl h
    ·exact .inr h
theorem sortN_mem_from {α : Type} {f : α → List UInt8} {x : α} : ∀ (l out : List α),x ∈ l.foldl (fun out e=>insN f e out) out → x ∈ l ∨ x ∈ out
 | [],_,h=>.inr h
 | a :: l,out,h=>by
  rcases sortN_mem_from l _ h with h | h
  ·exact .inl (by simp [h])
  ·rcases insN_mem h with h | h
   ·exact .inl (by simp [h])
   ·exact .inr h
theorem sortN_mem {α : Type} {f : α → List UInt8} {l : List α} {x : α} (h : x ∈ sortN f l) : x ∈ l:=by
 rcases sortN_mem_from l [] h with h | h
 ·exact h
 ·cases h
def ROfSays (w : World) (l : List Ent) (e : Ending) (w' : World) : Prop:=
 (OkOf l ∧ ∃ g A n c,e = .returned (.tuple #[.pointer (some ⟨g,0,none⟩),.int .i64 0]) ∧ w'.heap[g]? = some (.cells #[.slice A n c] 57 (0,0)) ∧ w.heap.size ≤ g ∧ Row Elem.ent (fun b=>w.heap.size ≤ b) w' A n c (sortN nmE l) ∧ Ext w w') ∨
 (¬ OkOf l ∧ e = .returned (.tuple #[.pointer none,.int .i64 2]) ∧ Ext w w')
theorem rof_any {S : Nat → Prop} {A : Option Addr} {n c : Nat} {l : List Ent} {w : World} (h : Row Elem.ent S w A n c l) (hG : Gu w) (hf : ∀ e ∈ l,EntFits e) :
 Calls Tryz.prog 17 #[.slice A n c] w (ROfSays w l):=by
 have HG:=hid hG
 have HR:=hid h.lt
 have hl:=hid h.len
 have HFT:=hid hf
 have hnl : n ≤ 9223372036854775807:=by have:=h.cap;have:=h.most;simp only [maxLen] at this;omega
 show Calls _ _ _ _ (fun e w'=>ROfSays w l e w')
 clear hG h hf
 by_cases h4 : 400 < n
 ·have HE : Hid (¬ OkOf l):=fun h=>by have:=h.1;have:=hl.out;omega
  have e1 : 400 < (n : Int):=by omega
  clear h4
  go_enter Tryz.func17,Tryz.ntmps17
  go_wp2
  go_ret2
  exact .inr ⟨HE.out,rfl,Ext.refl _⟩
 ·have e1 : decide (400 < (n : Int)) = false:=by rw [decide_eq_false_iff_not];omega
  have hn4 : n ≤ 400:=by omega
  clear h4
  go_enter Tryz.func17,Tryz.ntmps17
  go_wp2
  clear e1
  go_loopw [16] (fun i wr=>∃ (j : Nat),j ≤ n ∧ i = .int .i64 j ∧ Hid (OkOf1 l j) ∧ Hid (Ext w wr)) (fun i _=>n - (intOf i).toNat)
  case atStart=>exact ⟨0,by omega,rfl,fun i e hi=>absurd hi (Nat.not_lt_zero i),Ext.refl w⟩
  case round=>
   obtain ⟨j,hj,rfl,HO,HX⟩:=hrel
   by_cases hlt : j < n
   ·have HRA:=HR.out.ext HX.out
    obtain ⟨b1,o1,v1,x1,rfl,g1,-,⟨A1,n1,c1,rfl,r1⟩,q1⟩:=HRA.at_ hlt
    have e10:=q1 0 _ rfl
    have e11:=q1 1 _ rfl
    simp only [Elem.ent,Nat.add_zero] at e10 e11
    have HFX:=hid (HFT.out x1 (List.mem_of_getElem? g1))
    have HFE : ∀ w',Ext wr w' → Calls Tryz.prog 32 #[.agg #[.string x1.name,.slice A1 n1 c1]] w' fun e w''=>e = .returned (.bool (formedE (nmE x1) x1.atts)) ∧ Ext w' w'':=fun w' hx=>rformed_ent (r1.ext hx) x1.name (HG.out.ext (HX.out.trans hx)) HFX.out.types HFX.out.vals
    have HAT : ∀ w',Ext wr w' → Calls Tryz.prog 20 #[.slice (some ⟨b1,o1,none⟩) n c,.string x1.name] w' (AtSays w' (nmE x1) l):=fun w' hx=>rat_any (HRA.ext hx) x1.name (HG.out.gl.ext (HX.out.trans hx))
    unfold AtSays at HAT
    have Hg1:=hid g1
    have HJL : Hid (j < l.length):=by show _ < _;have:=hl.out;omega
    clear q1 r1 g1 HRA
    cases hfe : formedE (nmE x1) x1.atts with
    | false=>
     have HE : Hid (¬ OkOf l):=fun h=>by
      have h1:=(h.2.1 j x1 HJL.out Hg1.out).2
      rw [hfe] at h1
      cases h1
     rw [hfe] at HFE
     clear hfe
     go_wp2_with (go_at_call 32;(with_reducible refine (HFE _ (Ext.refl _)).mono ?_);rintro e w3 ⟨rfl,hx3⟩;have HX3:=hid (HX.out.trans hx3);clear hx3)
     go_ret2
     exact .inr ⟨HE.out,rfl,HX3.out⟩
    | true=>
     have HFO:=hid hfe
     have HFI : Hid (∀ r,Idx (isAt (nmE x1)) l r → (r = j ↔ entOf (l.take j) x1.name = none)):=fun r h=>entOf_first (formed_self hfe) Hg1.out h
     rw [hfe] at HFE
     clear hfe
     by_cases hno : entOf (l.take j) x1.name = none
     ·have HO2:=hid (HO.out.next Hg1.out hno HFO.out)
      have HRJ : Hid (∀ r,Idx (isAt (nmE x1)) l r → r = j):=fun r h=>(HFI.out r h).2 hno
      have t9 : ((j : Int) != (j : Int)) = false:=by simp
      clear hno
      go_wp2_with (first
       | (go_at_call 32;(with_reducible refine (HFE _ (Ext.refl _)).mono ?_);rintro e w3 ⟨rfl,hx3⟩;have HX3:=hid hx3;have y0:=cell_later e10 _ hx3;clear hx3)
       | (go_at_call 20;(with_reducible refine (HAT _ HX3.out).mono ?_);rintro e w4 ⟨r,rfl,hr,hx4⟩;have HX4:=hid (HX.out.trans (HX3.out.trans hx4));obtain rfl:=HRJ.out r hr;clear hr hx4))
      exact ⟨⟨j + 1,by omega,by go_num,HO2.out,HX4.out⟩,by simp [intOf];omega⟩
     ·have HE : Hid (¬ OkOf l):=fun h=>hno (h.2.1 j x1 HJL.out Hg1.out).1
      have HRJ : Hid (∀ r,Idx (isAt (nmE x1)) l r → (r != (j : Int)) = true):=fun r h=>by rw [bne_iff_ne];intro e;exact hno ((HFI.out r h).1 e)
      clear hno
      go_wp2_with (first
       | (go_at_call 32;(with_reducible refine (HFE _ (Ext.refl _)).mono ?_);rintro e w3 ⟨rfl,hx3⟩;have HX3:=hid hx3;have y0:=cell_later e10 _ hx3;clear hx3)
       | (go_at_call 20;(with_reducible refine (HAT _ HX3.out).mono ?_);rintro e w4 ⟨r,rfl,hr,hx4⟩;have HX4:=hid (HX.out.trans (HX3.out.trans hx4));have t9:=HRJ.out r hr;clear hr hx4))
      go_ret2
      exact .inr ⟨HE.out,rfl,HX4.out⟩
   ·obtain rfl : j = n:=by omega
    have HO9 : Hid (OkOf1 l l.length):=by show OkOf1 _ _;rw [← hl.out];exact HO.out
    have HLL : Hid (l.length ≤ 400):=by show _ ≤ _;have:=hl.out;omega
    have HSF : Hid (∀ e ∈ l,selfN (nmE e) = true):=fun e he=>by
     obtain ⟨i,hi⟩:=List.getElem?_of_mem he
     exact formed_self (HO9.out i e (List.getElem?_eq_some_iff.1 hi).1 hi).2
    clear HO
    go_wp2
    go_loopw [39] (fun i wr=>∃ (j2 : Nat),j2 ≤ j ∧ i = .int .i64 j2 ∧ Hid (∀ e ∈ l.take j2,aboveE l (str (parentS (nmE e)).1) = 0) ∧ Hid (Ext w wr)) (fun i _=>j - (intOf i).toNat)
    case atStart=>exact ⟨0,by omega,rfl,fun e he=>by simp at he,HX.out⟩
    case round=>
     clear hj HX
     obtain ⟨j2,hj,rfl,HO,HX⟩:=hrel
     by_cases hlt : j2 < j
     ·have HRA:=HR.out.ext HX.out
      obtain ⟨b1,o1,v1,x1,rfl,g1,-,⟨A1,n1,c1,rfl,r1⟩,q1⟩:=HRA.at_ hlt
      have e10:=q1 0 _ rfl
      simp only [Elem.ent,Nat.add_zero] at e10
      have hmem:=List.mem_of_getElem? g1
      obtain ⟨s1,s2,s3⟩:=self_parts (HSF.out x1 hmem)
      obtain ⟨p1,p2⟩:=parent_normal s1
      have HTK : Hid (aboveE l (str (parentS (nmE x1)).1) = 0 → ∀ e ∈ l.take (j2 + 1),aboveE l (str (parentS (nmE e)).1) = 0):=fun h e he=>by
       rw [List.take_add_one,g1] at he
       rcases List.mem_append.1 he with he | he
       ·exact HO.out e he
       ·simp at he;rw [he];exact h
      have HNO : Hid (¬ aboveE l (str (parentS (nmE x1)).1) = 0 → ¬ OkOf l):=fun h k=>h (k.2.2 x1 hmem)
      have HPA : ∀ w',Ext wr w' → Calls Tryz.prog 27 #[.string x1.name] w' (ParentSays w' (nmE x1)):=fun w' hx=>rparent_any x1.name w' (HG.out.gl.ext (HX.out.trans hx))
      unfold ParentSays at HPA
      obtain ⟨ps,hps⟩ : ∃ ps,ps = str (parentS (nmE x1)).1:=⟨_,rfl⟩
      have hpb : bys ps = (parentS (nmE x1)).1:=by rw [hps,bys_str]
      rw [← hpb] at p1 p2
      rw [← hps] at HTK HNO HPA
      have HAT : ∀ w',Ext wr w' → Calls Tryz.prog 20 #[.slice (some ⟨b1,o1,none⟩) j c,.string ps] w' (AtSays w' (bys ps) l):=fun w' hx=>rat_any (HRA.ext hx) ps (HG.out.gl.ext (HX.out.trans hx))
      unfold AtSays at HAT
      have HAB : Hid (aboveE l ps = if bys ps = [] then 0 else match entOf l ps with | none=>32 | some e=>if (aliasE e.atts).2 then 64 else 0):=rfl
      obtain ⟨r0,hr0⟩:=Idx.ex (isAt (bys ps)) l
      have HRU : Hid (∀ r,Idx (isAt (bys ps)) l r → r0 = r):=fun r h=>hr0.one h
      have HEA:=entOf_at p1 p2 hr0
      clear q1 r1 g1 hps hpb hr0 p1 p2 s1 s2 s3 hmem
      generalize aboveE l ps = ab at *
      by_cases hz : ps.size = 0
      ·have e1:=emp_yes hz
       rw [if_pos (show bys ps = [] by rw [str_emp hz];rfl)] at HAB
       have HT2:=hid (HTK.out HAB.out)
       clear hz HAT HAB HEA HRU HNO
       go_wp2_with (go_at_call 27;(with_reducible refine (HPA _ (Ext.refl _)).mono ?_);rintro e w3 ⟨rfl,hx3⟩;have HX3:=hid hx3;clear hx3)
       exact ⟨⟨j2 + 1,by omega,by go_num,HT2.out,HX.out.trans HX3.out⟩,by simp [intOf];omega⟩
      ·have e1:=emp_nb hz
       rw [if_neg (show ¬ bys ps = [] by intro h;exact hz (by rw [← bys_len,h];rfl))] at HAB
       clear hz
       rcases HEA with ⟨rfl,he⟩ | ⟨k,y,rfl,hk,he,-⟩
       ·have HE : Hid (¬ OkOf l):=HNO.out (by rw [HAB.out,he];decide)
        clear he HAB
        go_wp2_with (first | (go_at_call 27;(with_reducible refine (HPA _ (Ext.refl _)).mono ?_);rintro e w3 ⟨rfl,hx3⟩;have HX3:=hid hx3;clear hx3) | (go_at_call 20;(with_reducible refine (HAT _ HX3.out).mono ?_);rintro e w4 ⟨r,rfl,hr,hx4⟩;have HX4:=hid (HX3.out.trans hx4);obtain rfl:=HRU.out r hr;skip;clear hr hx4))
        go_ret2
        exact .inr ⟨HE.out,rfl,HX.out.trans HX4.out⟩
       ·have hkn : k < j:=by have h1:=(List.getElem?_eq_some_iff.1 hk).1;have:=hl.out;omega
        obtain ⟨b2,o2,v2,y2,hA2,g2,-,⟨A2,n2,c2,rfl,r2⟩,q2⟩:=HRA.at_ hkn
        injection hA2 with hA2
        injection hA2 with y1 y3 y4
        subst y1 y3
        rw [hk] at g2
        injection g2 with g2
        subst g2
        have e20:=q2 0 _ rfl
        have e21:=q2 1 _ rfl
        simp only [Elem.ent,Nat.add_zero] at e20 e21
        rw [he] at HAB
        simp only at HAB
        have t1 : ¬ (k : Int) < 0:=by omega
        have hkn' : (k : Int) < (j : Int):=by omega
        have HAL : ∀ w',Ext wr w' → Calls Tryz.prog 33 #[.agg #[.string y.name,.slice A2 n2 c2]] w' (AliasSays w' y.atts):=fun w' hx=>ralias_any (r2.ext hx) y.name (HG.out.ext (HX.out.trans hx)) (HFT.out y (List.mem_of_getElem? hk)).vals
        unfold AliasSays at HAL
        clear q2 r2 hk he HRA
        generalize aliasE y.atts = al at *
        obtain ⟨al1,al2⟩:=al
        simp only at HAL HAB
        cases al2 with
        | true=>
         have HE : Hid (¬ OkOf l):=HNO.out (by rw [HAB.out];simp)
         clear HAB
         go_wp2_with (first | (go_at_call 27;(with_reducible refine (HPA _ (Ext.refl _)).mono ?_);rintro e w3 ⟨rfl,hx3⟩;have HX3:=hid hx3;clear hx3) | (go_at_call 20;(with_reducible refine (HAT _ HX3.out).mono ?_);rintro e w4 ⟨r,rfl,hr,hx4⟩;have HX4:=hid (HX3.out.trans hx4);obtain rfl:=HRU.out r hr;(have z20:=cell_later e20 _ HX4.out);(have z21:=cell_later e21 _ HX4.out);clear hr hx4) | (go_at_call 33;(with_reducible refine (HAL _ HX4.out).mono ?_);rintro e w5 ⟨rfl,hx5⟩;have HX5:=hid (HX4.out.trans hx5);clear hx5))
         go_ret2
         exact .inr ⟨HE.out,rfl,HX.out.trans HX5.out⟩
        | false=>
         have HT2:=hid (HTK.out (by rw [HAB.out];rfl))
         clear HAB
         go_wp2_with (first | (go_at_call 27;(with_reducible refine (HPA _ (Ext.refl _)).mono ?_);rintro e w3 ⟨rfl,hx3⟩;have HX3:=hid hx3;clear hx3) | (go_at_call 20;(with_reducible refine (HAT _ HX3.out).mono ?_);rintro e w4 ⟨r,rfl,hr,hx4⟩;have HX4:=hid (HX3.out.trans hx4);obtain rfl:=HRU.out r hr;(have z20:=cell_later e20 _ HX4.out);(have z21:=cell_later e21 _ HX4.out);clear hr hx4) | (go_at_call 33;(with_reducible refine (HAL _ HX4.out).mono ?_);rintro e w5 ⟨rfl,hx5⟩;have HX5:=hid (HX4.out.trans hx5);clear hx5))
         exact ⟨⟨j2 + 1,by omega,by go_num,HT2.out,HX.out.trans HX5.out⟩,by simp [intOf];omega⟩
     ·obtain rfl : j2 = j:=by omega
      have HOK : Hid (OkOf l):=⟨HLL.out,HO9.out,fun e he=>HO.out e (by rw [List.take_of_length_le (Nat.le_of_eq hl.out.symm)];exact he)⟩
      have HSO : Calls Tryz.prog 35 #[.slice A j2 c] wr (SortedSays wr l):=rsorted_any (HR.out.ext HX.out) (HG.out.gl.ext HX.out) (by omega)
      unfold SortedSays at HSO
      have hsl : (sortN nmE l).length ≤ 2000000:=by
       have:=sortN_len (f:=nmE) (l:=l) l.length
       rw [List.take_length] at this
       have:=HLL.out
       omega
      have HSE : Hid (∀ e ∈ sortN nmE l,e.atts.length ≤ 2000000 ∧ ∀ a ∈ e.atts,a.vals.length ≤ 8796093022208):=fun e he=>by
       have:=HFT.out e (sortN_mem he)
       exact ⟨this.fewer,this.vals⟩
      have HCA : ∀ (A' : Option Addr) n' c' w',Row Elem.ent (fun _=>True) w' A' n' c' (sortN nmE l) → Calls Tryz.prog 34 #[.slice A' n' c'] w' fun e w''=>∃ A2 n2 c2,e = .returned (.slice A2 n2 c2) ∧ Row Elem.ent (fun b=>w'.heap.size ≤ b) w'' A2 n2 c2 (sortN nmE l) ∧ Ext w' w'':=fun A' n' c' w' h=>rcopyall_any h hsl HSE.out
      clear hsl
      go_wp2_with (first
       | (go_at_call 35;(with_reducible refine HSO.mono ?_);rintro e w3 ⟨A3,n3,c3,rfl,hr3,hx3⟩;have HR3:=hid hr3;have HX3:=hid hx3;clear hr3 hx3)
       | (go_at_call 34;(with_reducible refine (HCA _ _ _ _ HR3.out).mono ?_);rintro e w4 ⟨A4,n4,c4,rfl,hr4,hx4⟩;have HR4:=hid hr4;have HX4:=hid (HX.out.trans (HX3.out.trans hx4));have HZ4:=hid (Nat.le_trans HX.out.size HX3.out.size);clear hr4 hx4))
      go_ret2
      have hx9 : Ext w (w4.alloc (.cells #[.slice A4 n4 c4] 57)):=HX4.out.trans (Ext.alloc _ _)
      exact .inl ⟨HOK.out,w4.heap.size,A4,n4,c4,rfl,heap_alloc_new w4 _,HX4.out.size,(HR4.out.ext (Ext.alloc _ _)).mono fun b _ hb=>Nat.le_trans HZ4.out hb,hx9⟩
end Go.Proofs.YtejdpadhemeldaaGreatDoor
