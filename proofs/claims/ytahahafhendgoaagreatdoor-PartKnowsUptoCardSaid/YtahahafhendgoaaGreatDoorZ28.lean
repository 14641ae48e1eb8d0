/- Lemmas of the walk that the last text of this claim joins. -/
import Derived.Test.YtahahafhendgoaaGreatDoorZ27
set_option maxHeartbeats 40000000
set_option linter.unusedVariables false
set_option linter.unusedSimpArgs false
namespace Go.Proofs.YtahahafhendgoaaGreatDoor
open Go.RowKit
set_option maxRecDepth 100000
theorem partB_formed {s : List UInt8} {l : List Ava} (h : partB s = some l) : formedA l = true:=by
 unfold partB at h
 split at h
 ·cases h
 ·split at h
  ·injection h with h;subst h;assumption
  ·cases h
theorem parse_formed {s : List UInt8} {l : List (List Ava)} (h : parseS s = .ok l) : ∀ p ∈ l,formedA p = true:=by
 unfold parseS at h
 split at h
 ·cases h
 ·split at h
  ·injection h with h;subst h;simp
  ·split at h
   ·cases h
   ·split at h
    ·cases h
    ·rename_i l' hm
     injection h with h
     subst h
     intro p hp
     obtain ⟨x,_,hx⟩:=mapM_mem hm p hp
     exact partB_formed hx
theorem parse_len {s : List UInt8} {l : List (List Ava)} (h : parseS s = .ok l) : l.length ≤ 12:=by
 unfold parseS at h
 split at h
 ·cases h
 ·split at h
  ·injection h with h;subst h;simp
  ·split at h
   ·cases h
   ·split at h
    ·cases h
    ·rename_i l' hm
     injection h with h
     subst h
     have:=mapM_len hm
     omega
def textP (p : List Ava) : List UInt8:=printB (normA p)
theorem printF_len : ∀ l : List Ava,(∀ a ∈ l,avaOk a = true) → (printF l).length ≤ 700 * l.length
 | [],_=>by simp [printF]
 | [a],h=>by
  have h1:=ok_small (h a (by simp))
  have h2:=writeF_length a.val true
  simp only [printF,List.length_append,List.length_cons,List.length_nil]
  omega
 | a :: b :: t,h=>by
  have h1:=ok_small (h a (by simp))
  have h2:=writeF_length a.val true
  have h3:=printF_len (b :: t) (fun x hx=>h x (by simp [hx]))
  simp only [printF,List.length_append,List.length_cons] at h3 ⊢
  omega
theorem textP_len (p : List Ava) : (textP p).length ≤ 2100:=by
 unfold textP printB
 split
 ·rename_i h
  have h1:=printF_len _ (formed_ok h)
  have h2:=formed_len h
  omega
 ·simp
theorem joinC_le : ∀ ws : List (List UInt8),(joinC ws).length ≤ (ws.map List.length).sum + ws.length
 | []=>by simp [joinC]
 | [x]=>by simp [joinC]
 | x :: y :: t=>by
  have:=joinC_le (y :: t)
  simp only [joinC,List.length_append,List.length_cons,List.map_cons,List.sum_cons] at this ⊢
  omega
theorem sum_le {c : Nat} : ∀ {l : List (List UInt8)},(∀ x ∈ l,x.length ≤ c) → (l.map List.length).sum ≤ c * l.length
 | [],_=>by simp
 | x :: t,h=>by
  have h1:=h x (by simp)
  have h2:=sum_le (l:=t) (fun y hy=>h y (by simp [hy]))
  simp only [List.map_cons,List.sum_cons,List.length_cons,Nat.mul_succ]
  omega
theorem texts_len (l : List (List Ava)) (h : l.length ≤ 12) : (joinC (l.map textP)).length ≤ 30000:=by
 have h1:=joinC_le (l.map textP)
 have h2:=sum_le (c:=2100) (l:=l.map textP) (fun x hx=>by obtain ⟨p,_,rfl⟩:=List.mem_map.1 hx;exact textP_len p)
 rw [List.length_map] at h1 h2
 omega
theorem partsB_parse (s : List UInt8) : partsB s = match parseS s with | .error e=>.error e | .ok l=>if 1000 < (joinC (l.map textP)).length then .error .long else .ok (l.map textP):=by
 unfold partsB parseS
 by_cases h1 : 1000 < s.length
 ·simp [h1]
 ·rw [if_neg h1,if_neg h1]
  by_cases h2 : s = []
  ·rw [if_pos h2,if_pos h2];rfl
  ·rw [if_neg h2,if_neg h2]
   by_cases h3 : 12 < (splitF 44 [] s).length
   ·rw [if_pos h3,if_pos h3]
   ·rw [if_neg h3,if_neg h3]
    cases (splitF 44 [] s).mapM partB <;> rfl
def fitB (l : List (List UInt8)) : List UInt8 × Int:=if 12 < l.length ∨ 1000 < (joinC l).length then ([],4) else (joinC l,0)
theorem fit_any {S : Nat → Prop} {A : Option Addr} {n c : Nat} {l : List (List UInt8)} {w : World} (h : Row Elem.str S w A n c (strs l)) (hl : l.length ≤ 1000000) (hj : (joinC l).length ≤ 1000000000) :
 Calls Tryz.prog 66 #[.slice A n c] w fun e w'=>e = .returned (.tuple #[.string (str (fitB l).1),.int .i64 (fitB l).2]) ∧ Ext w w':=by
 have hn : n = l.length:=by rw [h.len,List.length_map]
 have HJ : ∀ w',Ext w w' → Calls Tryz.prog 39 #[.slice A n c,.string ⟨#[44]⟩] w' fun e w''=>e = .returned (.string (str (joinC l))) ∧ Ext w' w'':=fun w' hx=>by
  have:=join_any (strs l) ⟨#[44]⟩ (h.ext hx) (by rw [List.length_map];omega) (by rw [strs_data];show (Lib.join l [44]).length ≤ _;rw [join_c];omega)
  rwa [strs_bys,join_c] at this
 have HFB : Hid (fitB l = if 12 < l.length ∨ 1000 < (joinC l).length then ([],4) else (joinC l,0)):=rfl
 have HJL:=hid hj
 generalize joinC l = m at *
 clear hl h hj
 by_cases h12 : 12 < l.length
 ·have h12' : 12 < (n : Int):=by omega
  have HT : Hid (fitB l = ([],4)):=by show _ = _;rw [HFB.out,if_pos (.inl h12)]
  clear h12 hn HFB
  go_enter Tryz.func66,Tryz.ntmps66
  go_wp2_with (go_at_call 39;(with_reducible refine (HJ _ (Ext.refl _)).mono ?_);rintro e w1 ⟨rfl,hx1⟩;have HX1:=hid hx1;clear hx1)
  go_ret2
  exact ⟨by rw [HT.out];rfl,HX1.out⟩
 ·have h12' : decide (12 < (n : Int)) = false:=by rw [decide_eq_false_iff_not];omega
  by_cases h1k : 1000 < m.length
  ·have h1k' : 1000 < (m.length : Int):=by omega
   have HT : Hid (fitB l = ([],4)):=by show _ = _;rw [HFB.out,if_pos (.inr h1k)]
   clear h12 hn h1k HFB
   go_enter Tryz.func66,Tryz.ntmps66
   go_wp2_with (go_at_call 39;(with_reducible refine (HJ _ (Ext.refl _)).mono ?_);rintro e w1 ⟨rfl,hx1⟩;have HX1:=hid hx1;clear hx1)
   go_ret2
   exact ⟨by rw [HT.out];rfl,HX1.out⟩
  ·have h1k' : decide (1000 < (m.length : Int)) = false:=by rw [decide_eq_false_iff_not];omega
   have HT : Hid (fitB l = (m,0)):=by show _ = _;rw [HFB.out,if_neg (fun h=>h.elim h12 h1k)]
   clear h12 hn h1k HFB
   go_enter Tryz.func66,Tryz.ntmps66
   go_wp2_with (go_at_call 39;(with_reducible refine (HJ _ (Ext.refl _)).mono ?_);rintro e w1 ⟨rfl,hx1⟩;have HX1:=hid hx1;clear hx1)
   go_ret2
   exact ⟨by rw [HT.out];rfl,HX1.out⟩
def TextsSays (w : World) (s : List UInt8) (e : Ending) (w' : World) : Prop:=
 ∃ A n c,e = .returned (.tuple #[.slice A n c,.int .i64 (codeR (partsB s))]) ∧ Row Elem.str (fun b=>w.heap.size ≤ b) w' A n c (strs (okL (partsB s))) ∧ Ext w w'
theorem normA_types (p : List Ava) (h : ∀ a ∈ p,a.type.length ≤ 17) : ∀ a ∈ normA p,a.type.length ≤ 4000000:=by
 intro a ha
 unfold normA at ha
 obtain ⟨b,hb,rfl⟩:=List.mem_map.1 ha
 have:=h b hb
 show b.type.length ≤ _
 omega
theorem formed_types {p : List Ava} (h : formedA p = true) : ∀ a ∈ p,a.type.length ≤ 17:=fun a ha=>(ok_small (formed_ok h a ha)).1
def TextsOwn (w : World) (s : List UInt8) (e : Ending) (w' : World) : Prop:=∃ v,e = .returned (.tuple #[v,.int .i64 (codeR (partsB s))]) ∧ GrowS w w' v (strs (okL (partsB s)))
theorem parts_own (s : ByteArray) (w : World) (hG : Gl w) : Calls Tryz.prog 38 #[.string s] w (TextsOwn w (bys s)):=by
 have HG:=hid hG
 have HPR : ∀ w,Gl w → Calls Tryz.prog 63 #[.string s] w (DnSays w (bys s)):=fun w hG=>dnparse_any s w hG
 unfold DnSays at HPR
 have HPB:=hid (partsB_parse (bys s))
 have HPF : Hid (∀ l,parseS (bys s) = .ok l → (∀ p ∈ l,formedA p = true) ∧ l.length ≤ 12):=fun l h=>⟨parse_formed h,parse_len h⟩
 clear hG
 cases hp : parseS (bys s) with
 | error er=>
  have HF : Hid (partsB (bys s) = .error er):=by show _ = _;rw [HPB.out,hp]
  have hne : (codeR (α:=List (List Ava)) (.error er) != 0) = true:=by cases er <;> rfl
  have HC : Hid (codeR (α:=List (List Ava)) (.error er) = codeR (α:=List (List UInt8)) (.error er)):=by cases er <;> rfl
  rw [hp] at HPR
  generalize codeR (α:=List (List Ava)) (.error er) = cd at *
  clear hp HPB HPF
  go_enter Tryz.func38,Tryz.ntmps38
  go_wp2_with (go_at_call 63;(with_reducible refine (HPR _ (HG.out.ext (Ext.refl _))).mono ?_);rintro e w1 ⟨A1,n1,c1,rfl,-,hx1⟩;have HX1:=hid hx1;clear hx1)
  go_ret2
  exact ⟨.slice none 0 0,by rw [HF.out,← HC.out];rfl,by rw [HF.out];exact GrowS.nil (HX1.out.trans (Ext.alloc _ _))⟩
 | ok l=>
  have HF : Hid (partsB (bys s) = if 1000 < (joinC (l.map textP)).length then .error .long else .ok (l.map textP)):=by show _ = _;rw [HPB.out,hp]
  have HFL:=hid (HPF.out l hp)
  rw [hp] at HPR
  simp only [okL,codeR] at HPR
  clear hp HPB HPF
  go_enter Tryz.func38,Tryz.ntmps38
  go_wp2_with (go_at_call 63;(with_reducible refine (HPR _ (HG.out.ext (Ext.refl _))).mono ?_);rintro e w1 ⟨A1,n1,c1,rfl,hr1,hx1⟩;have HX1:=hid hx1;have HR1:=hid hr1;clear hx1 hr1)
  have HLN:=hid HR1.out.len
  have hl12 : n1 ≤ 12:=by rw [HR1.out.len];exact HFL.out.2
  go_loopw [6,26] (fun v i wr=>∃ j : Nat,j ≤ n1 ∧ i = .int .i64 j ∧ Hid (GrowS w1 wr v (strs ((l.take j).map textP)))) (fun _ i _=>n1 - (intOf i).toNat)
  case atStart=>exact ⟨0,by omega,rfl,GrowS.nil (Ext.alloc _ _)⟩
  case round=>
   obtain ⟨j,hj,rfl,HGR⟩:=hrel
   by_cases hlt : j < n1
   ·have hlt' : (j : Int) < (n1 : Int):=by omega
    obtain ⟨b,o,vv,p,rfl,hp,-,⟨A2,n2,c2,rfl,hr2⟩,q2⟩:=(HR1.out.ext HGR.out.ext).at_ hlt
    have e2:=q2 0 _ rfl
    simp only [Elem.slc,Nat.add_zero,Nat.mul_one] at e2
    have HR2:=hid hr2
    have hfp:=HFL.out.1 p (List.mem_of_getElem? hp)
    have HTY:=hid (formed_types hfp)
    have HNP : ∀ w',Ext wr w' → Calls Tryz.prog 64 #[.slice A2 n2 c2] w' (NPSays w' p):=fun w' hx=>nparts_any (HG.out.ext (HX1.out.trans (HGR.out.ext.trans hx))) (HR2.out.ext hx) (fun a ha=>by have:=HTY.out a ha;omega)
    unfold NPSays at HNP
    rw [hfp] at HNP
    simp only [eq_self,if_true] at HNP
    have HST : Hid (strs ((l.take (j + 1)).map textP) = strs ((l.take j).map textP) ++ [str (textP p)]):=by show _ = _;rw [List.take_add_one,hp];simp
    have HTL : Hid (((l.take j).map textP).length ≤ 12):=by show _ ≤ _;rw [List.length_map];have:=List.length_take_le j l;omega
    clear hp hr2 q2 hfp
    go_wp2_with (first
     | (go_at_call 64;(with_reducible refine (HNP _ (Ext.refl _)).mono ?_);rintro e w3 ⟨A3,n3,c3,rfl,hr3,hx3⟩;have HR3:=hid hr3;have HX3:=hid hx3;clear hr3 hx3)
     | (go_at_call 65;(with_reducible refine (print_any (HG.out.ext (HX1.out.trans (HGR.out.ext.trans HX3.out))) HR3.out (normA_types p HTY.out)).mono ?_);rintro e w4 ⟨rfl,hx4⟩;have HG4:=hid ((HGR.out.later HX3.out).later hx4);clear hx4)
     | (at_builtin;refine append_str1 rfl _ _ rfl _ _ rfl HG4.out rfl (by have:=HTL.out;rw [List.length_map];omega) ?_;intro v' w5 hg5;have HG5:=hid hg5;clear hg5))
    refine ⟨⟨j + 1,by omega,by go_num,?_⟩,by simp [intOf];omega⟩
    rw [HST.out]
    exact HG5
   ·obtain rfl : j = n1:=by omega
    have HTA : Hid (l.take j = l):=by show _ = _;rw [List.take_of_length_le (Nat.le_of_eq HLN.out.symm)]
    rw [HTA.out] at HGR
    obtain ⟨A2,c2,rfl,hr2⟩:=HGR.out.row
    rw [List.length_map] at hr2
    have HR2:=hid hr2
    have HLT : Hid (¬ 12 < (l.map textP).length):=by show ¬ _;rw [List.length_map];have:=HFL.out.2;omega
    have HFT : ∀ w',Ext wr w' → Calls Tryz.prog 66 #[.slice A2 (l.map textP).length c2] w' fun e w''=>e = .returned (.tuple #[.string (str (fitB (l.map textP)).1),.int .i64 (fitB (l.map textP)).2]) ∧ Ext w' w'':=fun w' hx=>
     fit_any (HR2.out.ext hx) (by rw [List.length_map];have:=HFL.out.2;omega) (by have:=texts_len l HFL.out.2;omega)
    have HFB : Hid (fitB (l.map textP) = if 12 < (l.map textP).length ∨ 1000 < (joinC (l.map textP)).length then ([],4) else (joinC (l.map textP),0)):=rfl
    clear hr2
    generalize l.map textP = tx at *
    by_cases h1k : 1000 < (joinC tx).length
    ·have HE : Hid (partsB (bys s) = .error .long):=by show _ = _;rw [HF.out,if_pos h1k]
     rw [if_pos (.inr h1k)] at HFB
     rw [HFB.out] at HFT
     clear h1k HFB
     go_wp2_with (go_at_call 66;(with_reducible refine (HFT _ (Ext.refl _)).mono ?_);rintro e w3 ⟨rfl,hx3⟩;have HX3:=hid hx3;clear hx3)
     go_ret2
     exact ⟨.slice none 0 0,by rw [HE.out];rfl,by rw [HE.out];exact GrowS.nil (HX1.out.trans (HGR.out.ext.trans HX3.out))⟩
    ·have HE : Hid (partsB (bys s) = .ok tx):=by show _ = _;rw [HF.out,if_neg h1k]
     rw [if_neg (fun h=>h.elim HLT.out h1k)] at HFB
     rw [HFB.out] at HFT
     clear h1k HFB
     go_wp2_with (go_at_call 66;(with_reducible refine (HFT _ (Ext.refl _)).mono ?_);rintro e w3 ⟨rfl,hx3⟩;have HX3:=hid hx3;clear hx3)
     go_ret2
     refine ⟨_,by rw [HE.out];rfl,?_⟩
     rw [HE.out]
     have hz:=(HGR.out.later HX3.out).base HX1.out
     rw [show (strs tx).length = tx.length from List.length_map ..] at hz
     exact hz
theorem TextsOwn.says {w : World} {s : List UInt8} {e : Ending} {w' : World} (h : TextsOwn w s e w') : TextsSays w s e w':=by
 obtain ⟨v,h1,h2⟩:=h
 obtain ⟨A,c,rfl,h3⟩:=h2.row
 exact ⟨A,_,c,h1,h3,h2.ext⟩
theorem parts_any (s : ByteArray) (w : World) (hG : Gl w) : Calls Tryz.prog 38 #[.string s] w (TextsSays w (bys s)):=
 (parts_own s w hG).mono fun _ _ h=>h.says
def normalS (s : List UInt8) : List UInt8:=joinC (okL (partsB s))
def NormalSays (w : World) (s : List UInt8) (e : Ending) (w' : World) : Prop:=e = .returned (.tuple #[.string (str (normalS s)),.int .i64 (codeR (partsB s))]) ∧ Ext w w'
theorem texts_small (s : List UInt8) : (okL (partsB s)).length ≤ 12 ∧ (joinC (okL (partsB s))).length ≤ 1000:=by
 rw [partsB_parse]
 cases hp : parseS s with
 | error e=>simp [okL,joinC]
 | ok l=>
  have h:=parse_len hp
  simp only
  split
  ·simp [okL,joinC]
  ·simp only [okL]
   rw [List.length_map]
   omega
theorem dnnormal_any (s : ByteArray) (w : World) (hG : Gl w) : Calls Tryz.prog 45 #[.string s] w (NormalSays w (bys s)):=by
 have HPA:=parts_any s w hG
 unfold TextsSays at HPA
 have HN : Hid (normalS (bys s) = joinC (okL (partsB (bys s)))):=rfl
 have HSM:=hid (texts_small (bys s))
 have HCD : Hid (NormalSays w (bys s) = fun e w'=>e = .returned (.tuple #[.string (str (normalS (bys s))),.int .i64 (codeR (partsB (bys s)))]) ∧ Ext w w'):=rfl
 generalize okL (partsB (bys s)) = l at *
 generalize codeR (partsB (bys s)) = cd at *
 go_enter Tryz.func45,Tryz.ntmps45
 go_wp2_with (first
  | (go_at_call 38;(with_reducible refine HPA.mono ?_);rintro e w1 ⟨A1,n1,c1,rfl,hr1,hx1⟩;have HX1:=hid hx1;have HJ:=join_any (strs l) ⟨#[44]⟩ hr1 (by rw [List.length_map];have:=HSM.out.1;omega) (by rw [strs_data];show (Lib.join l [44]).length ≤ _;rw [join_c];have:=HSM.out.2;omega);rw [strs_bys,show bys ⟨#[44]⟩ = [44] from rfl,join_c,← HN.out] at HJ;clear hx1 hr1)
  | (go_at_call 39;(with_reducible refine HJ.mono ?_);rintro e w2 ⟨rfl,hx2⟩;have HX2:=hid hx2;clear hx2))
 go_ret2
 rw [HCD.out]
 exact ⟨rfl,HX1.out.trans HX2.out⟩
def tailC : List (List UInt8) → List UInt8
 | []=>[]
 | x :: t=>44 :: (x ++ tailC t)
theorem joinC_cons : ∀ (x : List UInt8) (t : List (List UInt8)),joinC (x :: t) = x ++ tailC t
 | x,[]=>by simp [joinC,tailC]
 | x,y :: t=>by
  have h:=joinC_cons y t
  rw [joinC,h,tailC]
def restC (j : Nat) (l : List (List UInt8)) : List UInt8:=if j = 0 then joinC l else tailC l
theorem restC_zero (x : List UInt8) (t : List (List UInt8)) : restC 0 (x :: t) = x ++ restC 1 t:=by unfold restC;rw [if_pos rfl,if_neg (by decide),joinC_cons]
theorem restC_succ {j : Nat} (h : ¬ j = 0) (x : List UInt8) (t : List (List UInt8)) : restC j (x :: t) = [44] ++ x ++ restC (j + 1) t:=by unfold restC;rw [if_neg h,if_neg (by omega),tailC];simp
theorem joined_any {S : Nat → Prop} {A : Option Addr} {n c : Nat} {l : List (List UInt8)} {w : World} (h : Row Elem.str S w A n c (strs l)) (hj : (joinC l).length ≤ 1000000000) :
 Calls Tryz.prog 43 #[.slice A n c] w fun e w'=>e = .returned (.string (str (joinC l))) ∧ Ext w w':=by
 have HR:=hid h
 have HLN : Hid (n = l.length):=by show _ = _;rw [h.len,List.length_map]
 have HJL:=hid hj
 have hn : n ≤ 9223372036854775807:=by have:=h.cap;have:=h.most;simp only [maxLen] at this;omega
 clear h hj
 go_enter Tryz.func43,Tryz.ntmps43
 go_wp2
 go_loop [3,7] (fun v i=>∃ (j : Nat) (acc : List UInt8),j ≤ n ∧ i = .int .i64 j ∧ v = .string (str acc) ∧ Hid (acc ++ restC j (l.drop j) = joinC l)) (fun _ i=>n - (intOf i).toNat)
 case atStart=>exact ⟨0,[],by omega,rfl,rfl,rfl⟩
 case round=>
  obtain ⟨j,acc,hj,rfl,rfl,HP⟩:=hrel
  by_cases hlt : j < n
  ·have hlt' : (j : Int) < (n : Int):=by omega
   obtain ⟨b,o,x,rfl,hx,e1⟩:=strs_row HR.out hlt
   have hd : Hid (l.drop j = x :: l.drop (j + 1)):=by
    show _ = _
    obtain ⟨h1,h2⟩:=List.getElem?_eq_some_iff.1 hx
    rw [List.drop_eq_getElem_cons h1,h2]
   clear hx
   by_cases hj0 : j = 0
   ·have tj : decide (0 < j) = false:=by rw [decide_eq_false_iff_not];omega
    have HP2 : acc ++ x ++ restC (j + 1) (l.drop (j + 1)) = joinC l:=by rw [← HP.out,hd.out,hj0,restC_zero];simp
    have hln:=congrArg List.length HP2
    simp only [List.length_append] at hln
    have z1 : ¬ 9223372036854775807 < acc.length + x.length:=by have:=HJL.out;omega
    have hz:=str_app acc x
    have HP3:=hid HP2
    clear hj0 HP2 hln
    go_wp2
    exact ⟨⟨j + 1,acc ++ x,by omega,by go_num,rfl,HP3⟩,by simp [intOf];omega⟩
   ·have tj : decide (0 < j) = true:=by rw [decide_eq_true_eq];omega
    have HP2 : (acc ++ [44]) ++ x ++ restC (j + 1) (l.drop (j + 1)) = joinC l:=by rw [← HP.out,hd.out,restC_succ hj0];simp
    have hln:=congrArg List.length HP2
    simp only [List.length_append,List.length_cons,List.length_nil] at hln
    have z0 : ¬ 9223372036854775807 < acc.length + 1:=by have:=HJL.out;omega
    obtain ⟨ac,hac⟩ : ∃ ac,ac = acc ++ [44]:=⟨_,rfl⟩
    have hz0 : (str acc ++ str [44]) = str ac:=by rw [hac];exact str_app _ _
    have z1 : ¬ 9223372036854775807 < ac.length + x.length:=by have:=HJL.out;rw [hac,List.length_append,List.length_cons,List.length_nil];omega
    have hz:=str_app ac x
    rw [← hac] at HP2
    have HP3:=hid HP2
    clear hj0 HP2 hln hac
    go_wp2
    exact ⟨⟨j + 1,ac ++ x,by omega,by go_num,rfl,HP3⟩,by simp [intOf];omega⟩
  ·obtain rfl : j = n:=by omega
   have HQ : Hid (joinC l = acc):=by
    show _ = _
    rw [← HP.out,List.drop_of_length_le (Nat.le_of_eq HLN.out.symm)]
    have : restC j [] = []:=by unfold restC;split <;> rfl
    rw [this,List.append_nil]
   go_wp2
   go_ret
   exact ⟨by rw [HQ.out];rfl,Ext.refl _⟩
theorem rparts_any (s : ByteArray) (w : World) (hG : Gl w) : Calls Tryz.prog 19 #[.string s] w (TextsSays w (bys s)):=by
 have HG:=hid hG
 have HPR : ∀ w,Gl w → Calls Tryz.prog 40 #[.string s] w (RDnSays w (bys s)):=fun w hG=>rdnsparse_any s w hG
 unfold RDnSays at HPR
 have HPB:=hid (partsB_parse (bys s))
 have HPF : Hid (∀ l,parseS (bys s) = .ok l → (∀ p ∈ l,formedA p = true) ∧ l.length ≤ 12):=fun l h=>⟨parse_formed h,parse_len h⟩
 clear hG
 cases hp : parseS (bys s) with
 | error er=>
  have HF : Hid (partsB (bys s) = .error er):=by show _ = _;rw [HPB.out,hp]
  have hne : (codeR (α:=List (List Ava)) (.error er) != 0) = true:=by cases er <;> rfl
  have HC : Hid (codeR (α:=List (List Ava)) (.error er) = codeR (α:=List (List UInt8)) (.error er)):=by cases er <;> rfl
  rw [hp] at HPR
  generalize codeR (α:=List (List Ava)) (.error er) = cd at *
  clear hp HPB HPF
  go_enter Tryz.func19,Tryz.ntmps19
  go_wp2_with (go_at_call 40;(with_reducible refine (HPR _ (HG.out.ext (Ext.refl _))).mono ?_);rintro e w1 ⟨A1,n1,c1,rfl,-,hx1⟩;have HX1:=hid hx1;clear hx1)
  go_ret2
  exact ⟨none,0,0,by rw [HF.out,← HC.out];rfl,by rw [HF.out];exact Row.nil _ _ _,HX1.out⟩
 | ok l=>
  have HF : Hid (partsB (bys s) = if 1000 < (joinC (l.map textP)).length then .error .long else .ok (l.map textP)):=by show _ = _;rw [HPB.out,hp]
  have HFL:=hid (HPF.out l hp)
  rw [hp] at HPR
  simp only [okL,codeR] at HPR
  clear hp HPB HPF
  go_enter Tryz.func19,Tryz.ntmps19
  go_wp2_with (go_at_call 40;(with_reducible refine (HPR _ (HG.out.ext (Ext.refl _))).mono ?_);rintro e w1 ⟨A1,n1,c1,rfl,hr1,hx1⟩;have HX1:=hid hx1;have HR1:=hid hr1;clear hx1 hr1)
  have HLN:=hid HR1.out.len
  have hl12 : n1 ≤ 12:=by rw [HR1.out.len];exact HFL.out.2
  go_loopw [6,22] (fun v i wr=>∃ j : Nat,j ≤ n1 ∧ i = .int .i64 j ∧ Hid (GrowS w1 wr v (strs ((l.take j).map textP)))) (fun _ i _=>n1 - (intOf i).toNat)
  case atStart=>exact ⟨0,by omega,rfl,GrowS.nil (Ext.refl _)⟩
  case round=>
   obtain ⟨j,hj,rfl,HGR⟩:=hrel
   by_cases hlt : j < n1
   ·have hlt' : (j : Int) < (n1 : Int):=by omega
    obtain ⟨b,o,vv,p,rfl,hp,-,⟨A2,n2,c2,rfl,hr2⟩,q2⟩:=(HR1.out.ext HGR.out.ext).at_ hlt
    have e2:=q2 0 _ rfl
    simp only [Elem.slc,Nat.add_zero,Nat.mul_one] at e2
    have HR2:=hid hr2
    have hfp:=HFL.out.1 p (List.mem_of_getElem? hp)
    have HTY:=hid (formed_types hfp)
    have HNP : ∀ w',Ext wr w' → Calls Tryz.prog 41 #[.slice A2 n2 c2] w' (NPSays w' p):=fun w' hx=>rnparts_any (HG.out.ext (HX1.out.trans (HGR.out.ext.trans hx))) (HR2.out.ext hx) (fun a ha=>by have:=HTY.out a ha;omega)
    unfold NPSays at HNP
    rw [hfp] at HNP
    simp only [eq_self,if_true] at HNP
    have HST : Hid (strs ((l.take (j + 1)).map textP) = strs ((l.take j).map textP) ++ [str (textP p)]):=by show _ = _;rw [List.take_add_one,hp];simp
    have HTL : Hid (((l.take j).map textP).length ≤ 12):=by show _ ≤ _;rw [List.length_map];have:=List.length_take_le j l;omega
    clear hp hr2 q2 hfp
    go_wp2_with (first
     | (go_at_call 41;(with_reducible refine (HNP _ (Ext.refl _)).mono ?_);rintro e w3 ⟨A3,n3,c3,rfl,hr3,hx3⟩;have HR3:=hid hr3;have HX3:=hid hx3;clear hr3 hx3)
     | (go_at_call 42;(with_reducible refine (rprint_any (HG.out.ext (HX1.out.trans (HGR.out.ext.trans HX3.out))) HR3.out (normA_types p HTY.out)).mono ?_);rintro e w4 ⟨rfl,hx4⟩;have HG4:=hid ((HGR.out.later HX3.out).later hx4);clear hx4)
     | (at_builtin;refine append_str1 rfl _ _ rfl _ _ rfl HG4.out rfl (by have:=HTL.out;rw [List.length_map];omega) ?_;intro v' w5 hg5;have HG5:=hid hg5;clear hg5))
    refine ⟨⟨j + 1,by omega,by go_num,?_⟩,by simp [intOf];omega⟩
    rw [HST.out]
    exact HG5
   ·obtain rfl : j = n1:=by omega
    have HTA : Hid (l.take j = l):=by show _ = _;rw [List.take_of_length_le (Nat.le_of_eq HLN.out.symm)]
    rw [HTA.out] at HGR
    obtain ⟨A2,c2,rfl,hr2⟩:=HGR.out.row
    rw [List.length_map] at hr2
    have HR2:=hid hr2
    have HTL:=hid (texts_len l HFL.out.2)
    clear hr2
    generalize l.map textP = tx at *
    have HFT : ∀ w',Ext wr w' → Calls Tryz.prog 43 #[.slice A2 tx.length c2] w' fun e w''=>e = .returned (.string (str (joinC tx))) ∧ Ext w' w'':=fun w' hx=>
     joined_any (HR2.out.ext hx) (by have:=HTL.out;omega)
    generalize joinC tx = jt at *
    by_cases h1k : 1000 < jt.length
    ·have h1k' : 1000 < (jt.length : Int):=by omega
     have HE : Hid (partsB (bys s) = .error .long):=by show _ = _;rw [HF.out,if_pos h1k]
     clear h1k
     go_wp2_with (go_at_call 43;(with_reducible refine (HFT _ (Ext.refl _)).mono ?_);rintro e w3 ⟨rfl,hx3⟩;have HX3:=hid hx3;clear hx3)
     go_ret2
     exact ⟨none,0,0,by rw [HE.out];rfl,by rw [HE.out];exact Row.nil _ _ _,HX1.out.trans (HGR.out.ext.trans HX3.out)⟩
    ·have h1k' : ¬ 1000 < (jt.length : Int):=by omega
     have HE : Hid (partsB (bys s) = .ok tx):=by show _ = _;rw [HF.out,if_neg h1k]
     clear h1k
     go_wp2_with (go_at_call 43;(with_reducible refine (HFT _ (Ext.refl _)).mono ?_);rintro e w3 ⟨rfl,hx3⟩;have HX3:=hid hx3;clear hx3)
     go_ret2
     refine ⟨A2,_,c2,by rw [HE.out];rfl,?_,HX1.out.trans (HGR.out.ext.trans HX3.out)⟩
     rw [HE.out]
     exact (HR2.out.ext HX3.out).mono fun b _ hb=>Nat.le_trans (ext_sz HX1.out) hb
end Go.Proofs.YtahahafhendgoaaGreatDoor
