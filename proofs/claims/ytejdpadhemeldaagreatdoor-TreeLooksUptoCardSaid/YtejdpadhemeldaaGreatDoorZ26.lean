/- Lemmas of the walk that the last text of this claim joins. -/
import Derived.Test.YtejdpadhemeldaaGreatDoorZ25
import Derived.BigQuiet
import Derived.Deep.QuietTactic
set_option maxHeartbeats 40000000
set_option linter.unusedVariables false
set_option linter.unusedSimpArgs false
namespace Go.Proofs.YtejdpadhemeldaaGreatDoor
open Go.RowKit
set_option maxRecDepth 100000
def tailC : List (List UInt8) → List UInt8
 | []=>[]
 | x :: t=>44 :: (x ++ tailC t)
theorem joinC_cons : ∀ (x : List UInt8) (t : List (List UInt8)),joinC (x :: t) = x ++ tailC t
 | x,[]=>by simp [joinC,tailC]
 | x,y :: t=>by
  have h:=joinC_cons y t
  rw [joinC,h,tailC]
def restC (j : Nat) (l : List (List UInt8)) : List UInt8:=if j = 0 then joinC l else tailC l
theorem restC_zero (x : List UInt8) (t : List (List UInt8)) : restC 0 (x :: t) = x ++ restC 1 t:=by unfold restC;rw [if_pos rfl,if_neg (by decide),joinC_cons]
theorem restC_succ {j : Nat} (h : ¬ j = 0) (x : List UInt8) (t : List (List UInt8)) : restC j (x :: t) = [44] ++ x ++ restC (j + 1) t:=by unfold restC;rw [if_neg h,if_neg (by omega),tailC];simp
theorem joined_any {S : Nat → Prop} {A : Option Addr} {n c : Nat} {l : List (List UInt8)} {w : World} (h : Row Elem.str S w A n c (strs l)) (hj : (joinC l).length ≤ 1000000000) :
 Calls Tryz.prog 45 #[.slice A n c] w fun e w'=>e = .returned (.string (str (joinC l))) ∧ Ext w w':=by
 have HR:=hid h
 have HLN : Hid (n = l.length):=by show _ = _;rw [h.len,List.length_map]
 have HJL:=hid hj
 have hn : n ≤ 9223372036854775807:=by have:=h.cap;have:=h.most;simp only [maxLen] at this;omega
 clear h hj
 go_enter Tryz.func45,Tryz.ntmps45
 go_wp2
 go_loop [3,7] (fun v i=>∃ (j : Nat) (acc : List UInt8),j ≤ n ∧ i = .int .i64 j ∧ v = .string (str acc) ∧ Hid (acc ++ restC j (l.drop j) = joinC l)) (fun _ i=>n - (intOf i).toNat)
 case atStart=>exact ⟨0,[],by omega,rfl,rfl,rfl⟩
 case round=>
  obtain ⟨j,acc,hj,rfl,rfl,HP⟩:=hrel
  by_cases hlt : j < n
  ·have hlt' : (j : Int) < (n : Int):=by omega
   obtain ⟨b,o,x,rfl,hx,e1⟩:=strs_row HR.out hlt
   have hd : Hid (l.drop j = x :: l.drop (j + 1)):=by
    show _ = _
    obtain ⟨h1,h2⟩:=List.getElem?_eq_some_iff.1 hx
    rw [List.drop_eq_getElem_cons h1,h2]
   clear hx
   by_cases hj0 : j = 0
   ·have tj : decide (0 < j) = false:=by rw [decide_eq_false_iff_not];omega
    have HP2 : acc ++ x ++ restC (j + 1) (l.drop (j + 1)) = joinC l:=by rw [← HP.out,hd.out,hj0,restC_zero];simp
    have hln:=congrArg List.length HP2
    simp only [List.length_append] at hln
    have z1 : ¬ 9223372036854775807 < acc.length + x.length:=by have:=HJL.out;omega
    have hz:=str_app acc x
    have HP3:=hid HP2
    clear hj0 HP2 hln
    go_wp2
    exact ⟨⟨j + 1,acc ++ x,by omega,by go_num,rfl,HP3⟩,by simp [intOf];omega⟩
   ·have tj : decide (0 < j) = true:=by rw [decide_eq_true_eq];omega
    have HP2 : (acc ++ [44]) ++ x ++ restC (j + 1) (l.drop (j + 1)) = joinC l:=by rw [← HP.out,hd.out,restC_succ hj0];simp
    have hln:=congrArg List.length HP2
    simp only [List.length_append,List.length_cons,List.length_nil] at hln
    have z0 : ¬ 9223372036854775807 < acc.length + 1:=by have:=HJL.out;omega
    obtain ⟨ac,hac⟩ : ∃ ac,ac = acc ++ [44]:=⟨_,rfl⟩
    have hz0 : (str acc ++ str [44]) = str ac:=by rw [hac];exact str_app _ _
    have z1 : ¬ 9223372036854775807 < ac.length + x.length:=by have:=HJL.out;rw [hac,List.length_append,List.length_cons,List.length_nil];omega
    have hz:=str_app ac x
    rw [← hac] at HP2
    have HP3:=hid HP2
    clear hj0 HP2 hln hac
    go_wp2
    exact ⟨⟨j + 1,ac ++ x,by omega,by go_num,rfl,HP3⟩,by simp [intOf];omega⟩
  ·obtain rfl : j = n:=by omega
   have HQ : Hid (joinC l = acc):=by
    show _ = _
    rw [← HP.out,List.drop_of_length_le (Nat.le_of_eq HLN.out.symm)]
    have : restC j [] = []:=by unfold restC;split <;> rfl
    rw [this,List.append_nil]
   go_wp2
   go_ret
   exact ⟨by rw [HQ.out];rfl,Ext.refl _⟩
theorem rparts_any (s : ByteArray) (w : World) (hG : Gl w) : Calls Tryz.prog 44 #[.string s] w (TextsSays w (bys s)):=by
 have HG:=hid hG
 have HPR : ∀ w,Gl w → Calls Tryz.prog 80 #[.string s] w (RDnSays w (bys s)):=fun w hG=>rdnsparse_any s w hG
 unfold RDnSays at HPR
 have HPB:=hid (partsB_parse (bys s))
 have HPF : Hid (∀ l,parseS (bys s) = .ok l → (∀ p ∈ l,formedA p = true) ∧ l.length ≤ 12):=fun l h=>⟨parse_formed h,parse_len h⟩
 clear hG
 cases hp : parseS (bys s) with
 | error er=>
  have HF : Hid (partsB (bys s) = .error er):=by show _ = _;rw [HPB.out,hp]
  have hne : (codeR (α:=List (List Ava)) (.error er) != 0) = true:=by cases er <;> rfl
  have HC : Hid (codeR (α:=List (List Ava)) (.error er) = codeR (α:=List (List UInt8)) (.error er)):=by cases er <;> rfl
  rw [hp] at HPR
  generalize codeR (α:=List (List Ava)) (.error er) = cd at *
  clear hp HPB HPF
  go_enter Tryz.func44,Tryz.ntmps44
  go_wp2_with (go_at_call 80;(with_reducible refine (HPR _ (HG.out.ext (Ext.refl _))).mono ?_);rintro e w1 ⟨A1,n1,c1,rfl,-,hx1⟩;have HX1:=hid hx1;clear hx1)
  go_ret2
  exact ⟨none,0,0,by rw [HF.out,← HC.out];rfl,by rw [HF.out];exact Row.nil _ _ _,HX1.out⟩
 | ok l=>
  have HF : Hid (partsB (bys s) = if 1000 < (joinC (l.map textP)).length then .error .long else .ok (l.map textP)):=by show _ = _;rw [HPB.out,hp]
  have HFL:=hid (HPF.out l hp)
  rw [hp] at HPR
  simp only [okL,codeR] at HPR
  clear hp HPB HPF
  go_enter Tryz.func44,Tryz.ntmps44
  go_wp2_with (go_at_call 80;(with_reducible refine (HPR _ (HG.out.ext (Ext.refl _))).mono ?_);rintro e w1 ⟨A1,n1,c1,rfl,hr1,hx1⟩;have HX1:=hid hx1;have HR1:=hid hr1;clear hx1 hr1)
  have HLN:=hid HR1.out.len
  have hl12 : n1 ≤ 12:=by rw [HR1.out.len];exact HFL.out.2
  go_loopw [6,22] (fun v i wr=>∃ j : Nat,j ≤ n1 ∧ i = .int .i64 j ∧ Hid (GrowS w1 wr v (strs ((l.take j).map textP)))) (fun _ i _=>n1 - (intOf i).toNat)
  case atStart=>exact ⟨0,by omega,rfl,GrowS.nil (Ext.refl _)⟩
  case round=>
   obtain ⟨j,hj,rfl,HGR⟩:=hrel
   by_cases hlt : j < n1
   ·have hlt' : (j : Int) < (n1 : Int):=by omega
    obtain ⟨b,o,vv,p,rfl,hp,-,⟨A2,n2,c2,rfl,hr2⟩,q2⟩:=(HR1.out.ext HGR.out.ext).at_ hlt
    have e2:=q2 0 _ rfl
    simp only [Elem.slc,Nat.add_zero,Nat.mul_one] at e2
    have HR2:=hid hr2
    have hfp:=HFL.out.1 p (List.mem_of_getElem? hp)
    have HTY:=hid (formed_types hfp)
    have HNP : ∀ w',Ext wr w' → Calls Tryz.prog 81 #[.slice A2 n2 c2] w' (NPSays w' p):=fun w' hx=>rnparts_any (HG.out.ext (HX1.out.trans (HGR.out.ext.trans hx))) (HR2.out.ext hx) (fun a ha=>by have:=HTY.out a ha;omega)
    unfold NPSays at HNP
    rw [hfp] at HNP
    simp only [eq_self,if_true] at HNP
    have HST : Hid (strs ((l.take (j + 1)).map textP) = strs ((l.take j).map textP) ++ [str (textP p)]):=by show _ = _;rw [List.take_add_one,hp];simp
    have HTL : Hid (((l.take j).map textP).length ≤ 12):=by show _ ≤ _;rw [List.length_map];have:=List.length_take_le j l;omega
    clear hp hr2 q2 hfp
    go_wp2_with (first
     | (go_at_call 81;(with_reducible refine (HNP _ (Ext.refl _)).mono ?_);rintro e w3 ⟨A3,n3,c3,rfl,hr3,hx3⟩;have HR3:=hid hr3;have HX3:=hid hx3;clear hr3 hx3)
     | (go_at_call 82;(with_reducible refine (rprint_any (HG.out.ext (HX1.out.trans (HGR.out.ext.trans HX3.out))) HR3.out (normA_types p HTY.out)).mono ?_);rintro e w4 ⟨rfl,hx4⟩;have HG4:=hid ((HGR.out.later HX3.out).later hx4);clear hx4)
     | (at_builtin;refine append_str1 rfl _ _ rfl _ _ rfl HG4.out rfl (by have:=HTL.out;rw [List.length_map];omega) ?_;intro v' w5 hg5;have HG5:=hid hg5;clear hg5))
    refine ⟨⟨j + 1,by omega,by go_num,?_⟩,by simp [intOf];omega⟩
    rw [HST.out]
    exact HG5
   ·obtain rfl : j = n1:=by omega
    have HTA : Hid (l.take j = l):=by show _ = _;rw [List.take_of_length_le (Nat.le_of_eq HLN.out.symm)]
    rw [HTA.out] at HGR
    obtain ⟨A2,c2,rfl,hr2⟩:=HGR.out.row
    rw [List.length_map] at hr2
    have HR2:=hid hr2
    have HTL:=hid (texts_len l HFL.out.2)
    clear hr2
    generalize l.map textP = tx at *
    have HFT : ∀ w',Ext wr w' → Calls Tryz.prog 45 #[.slice A2 tx.length c2] w' fun e w''=>e = .returned (.string (str (joinC tx))) ∧ Ext w' w'':=fun w' hx=>
     joined_any (HR2.out.ext hx) (by have:=HTL.out;omega)
    generalize joinC tx = jt at *
    by_cases h1k : 1000 < jt.length
    ·have h1k' : 1000 < (jt.length : Int):=by omega
     have HE : Hid (partsB (bys s) = .error .long):=by show _ = _;rw [HF.out,if_pos h1k]
     clear h1k
     go_wp2_with (go_at_call 45;(with_reducible refine (HFT _ (Ext.refl _)).mono ?_);rintro e w3 ⟨rfl,hx3⟩;have HX3:=hid hx3;clear hx3)
     go_ret2
     exact ⟨none,0,0,by rw [HE.out];rfl,by rw [HE.out];exact Row.nil _ _ _,HX1.out.trans (HGR.out.ext.trans HX3.out)⟩
    ·have h1k' : ¬ 1000 < (jt.length : Int):=by omega
     have HE : Hid (partsB (bys s) = .ok tx):=by show _ = _;rw [HF.out,if_neg h1k]
     clear h1k
     go_wp2_with (go_at_call 45;(with_reducible refine (HFT _ (Ext.refl _)).mono ?_);rintro e w3 ⟨rfl,hx3⟩;have HX3:=hid hx3;clear hx3)
     go_ret2
     refine ⟨A2,_,c2,by rw [HE.out];rfl,?_,HX1.out.trans (HGR.out.ext.trans HX3.out)⟩
     rw [HE.out]
     exact (HR2.out.ext HX3.out).mono fun b _ hb=>Nat.le_trans (ext_sz HX1.out) hb
theorem rnormal06_any (s : ByteArray) (w : World) (hG : Gl w) : Calls Tryz.prog 26 #[.string s] w (NormalSays w (bys s)):=by
 have HPA:=rparts_any s w hG
 unfold TextsSays at HPA
 have HN : Hid (normalS (bys s) = joinC (okL (partsB (bys s)))):=rfl
 have HSM:=hid (texts_small (bys s))
 have HCD : Hid (NormalSays w (bys s) = fun e w'=>e = .returned (.tuple #[.string (str (normalS (bys s))),.int .i64 (codeR (partsB (bys s)))]) ∧ Ext w w'):=rfl
 generalize okL (partsB (bys s)) = l at *
 generalize codeR (partsB (bys s)) = cd at *
 go_enter Tryz.func26,Tryz.ntmps26
 go_wp2_with (first
  | (go_at_call 44;(with_reducible refine HPA.mono ?_);rintro e w1 ⟨A1,n1,c1,rfl,hr1,hx1⟩;have HX1:=hid hx1;have HJ:=joined_any hr1 (by have:=HSM.out.2;omega);rw [← HN.out] at HJ;clear hx1 hr1)
  | (go_at_call 45;(with_reducible refine HJ.mono ?_);rintro e w2 ⟨rfl,hx2⟩;have HX2:=hid hx2;clear hx2))
 go_ret2
 rw [HCD.out]
 exact ⟨rfl,HX1.out.trans HX2.out⟩
end Go.Proofs.YtejdpadhemeldaaGreatDoor
namespace Go.Proofs.YtejdpadhemeldaaGreatDoor
open Go.RowKit
set_option maxRecDepth 100000
theorem take_eq_all {α : Type} {l l' : List α} {n : Nat} (h1 : n = l.length) (h2 : n = l'.length) (h : l.take n = l'.take n) : l = l':=by
 rwa [List.take_of_length_le (by omega),List.take_of_length_le (by omega)] at h
theorem CellsIn.drop {S : Nat → Prop} {w : World} {A : Option Addr} {vs : List Value} (h : CellsIn S w A vs) (k : Nat) : CellsIn S w (A.map (·.add k)) (vs.drop k):=by
 rcases h with h | ⟨b,off,hA,hS,hc⟩
 ·exact .inl (by simp [h])
 ·refine .inr ⟨b,off + k,by simp [hA,addr_add],hS,fun j u hj=>?_⟩
  rw [List.getElem?_drop] at hj
  rw [Nat.add_assoc]
  exact hc _ u hj
theorem CellsIn.take {S : Nat → Prop} {w : World} {A : Option Addr} {vs : List Value} (h : CellsIn S w A vs) (k : Nat) : CellsIn S w A (vs.take k):=by
 rcases h with h | ⟨b,off,hA,hS,hc⟩
 ·exact .inl (by simp [h])
 ·refine .inr ⟨b,off,hA,hS,fun j u hj=>hc j u ?_⟩
  rw [List.getElem?_take] at hj
  split at hj
  ·exact hj
  ·cases hj
theorem flatten_drop {K : Nat} : ∀ {vss : List (List Value)} (k : Nat),(∀ v ∈ vss,v.length = K) → (vss.drop k).flatten = vss.flatten.drop (k * K)
 | [],k,_=>by simp
 | v :: vss,0,_=>by simp
 | v :: vss,k + 1,h=>by
  have h0:=h v (by simp)
  have hd : v.drop ((k + 1) * K) = []:=List.drop_eq_nil_of_le (by rw [h0,Nat.succ_mul];omega)
  rw [List.drop_succ_cons,flatten_drop k (fun u hu=>h u (by simp [hu])),List.flatten_cons,List.drop_append,hd,h0,List.nil_append]
  congr 1
  rw [Nat.succ_mul];omega
theorem flatten_take {K : Nat} : ∀ {vss : List (List Value)} (k : Nat),(∀ v ∈ vss,v.length = K) → (vss.take k).flatten = vss.flatten.take (k * K)
 | [],k,_=>by simp
 | v :: vss,0,_=>by simp
 | v :: vss,k + 1,h=>by
  have h0:=h v (by simp)
  have hd : v.take ((k + 1) * K) = v:=List.take_of_length_le (by rw [h0,Nat.succ_mul];omega)
  rw [List.take_succ_cons,List.flatten_cons,flatten_take k (fun u hu=>h u (by simp [hu])),List.flatten_cons,List.take_append,hd,h0]
  congr 2
  rw [Nat.succ_mul];omega
section
variable {α : Type} {E : Elem α} {S : Nat → Prop} {w : World} {A : Option Addr} {n c : Nat} {l : List α}
theorem Row.lens {vss : List (List Value)} (h1 : n = l.length) (h4 : vss.length = n) (h6 : ∀ (i : Nat) v x,vss[i]? = some v → l[i]? = some x → E.R S w v x) : ∀ v ∈ vss,v.length = E.k:=by
 intro v hv
 obtain ⟨j,hj,rfl⟩:=List.mem_iff_getElem.1 hv
 exact E.len (h6 j vss[j] (l[j]'(by omega)) (List.getElem?_eq_getElem hj) (List.getElem?_eq_getElem (by omega)))
theorem Row.tail (h : Row E S w A n c l) {k : Nat} (hk : k ≤ n) : Row E S w (cutA A k c E.k) (n - k) (c - k) (l.drop k):=by
 obtain ⟨h1,h2,h3,vss,h4,h5,h6⟩:=h
 refine ⟨by rw [List.length_drop,h1],by omega,by omega,vss.drop k,by rw [List.length_drop,h4],?_,fun i v x hi hx=>h6 (k + i) v x (by rwa [List.getElem?_drop] at hi) (by rwa [List.getElem?_drop] at hx)⟩
 rw [flatten_drop k (Row.lens h1 h4 h6)]
 unfold cutA
 split
 ·rename_i hc
  refine .inl (List.drop_eq_nil_of_le ?_)
  have : vss.flatten.length = n * E.k:=by
   have e : ∀ (u : List (List Value)),(∀ v ∈ u,v.length = E.k) → u.flatten.length = u.length * E.k:=by
    intro u
    induction u with
    | nil=>intro _;simp
    | cons v t ih=>intro hh;rw [List.flatten_cons,List.length_append,ih (fun x hx=>hh x (by simp [hx])),hh v (by simp),List.length_cons,Nat.succ_mul];omega
   rw [e vss (Row.lens h1 h4 h6),h4]
  rw [this]
  exact Nat.mul_le_mul_right _ (by omega)
 ·exact h5.drop (k * E.k)
theorem Row.head (h : Row E S w A n c l) {k : Nat} (hk : k ≤ n) : Row E S w (cutA A 0 c E.k) k c (l.take k):=by
 obtain ⟨h1,h2,h3,vss,h4,h5,h6⟩:=h
 refine ⟨by rw [List.length_take];omega,by omega,h3,vss.take k,by rw [List.length_take];omega,?_,fun i v x hi hx=>?_⟩
 ·rw [flatten_take k (Row.lens h1 h4 h6)]
  unfold cutA
  split
  ·rename_i hc
   refine .inl ?_
   have : k = 0:=by omega
   subst this
   simp
  ·have:=(h5.drop 0).take (k * E.k)
   simpa using this
 ·rw [List.getElem?_take] at hi hx
  split at hi
  ·rename_i hlt
   rw [if_pos hlt] at hx
   exact h6 i v x hi hx
  ·cases hi
end
theorem elem_strs : Tryz.prog.underlying 36 = some (.slice (Tryz.prog.elem 36)):=by kernel_rfl
theorem size_str1 (w : World) : (sizeOf (Tryz.prog.elem 36)).run Tryz.prog w = .ok 1 w:=by kernel_rfl
theorem sslice_l (A : Option Addr) (n c l : Nat) (hlk : l ≤ n) :
 ∀ w,(Instr.sliceAt 36 (.slice A n c) (some (.int .i64 (l : Int))) none none).run Tryz.prog w = .ok (.slice (cutA A l c 1) (n - l) (c - l)) w:=fun w=>by
 have h1 : (l : Int) ≤ (n : Int):=by omega
 have:=run_slice_l (P:=Tryz.prog) w 36 A n c elem_strs .i64 (l : Int) (by omega) h1
 rw [run_sliceAt_slice w 36 _ _ _ _ elem_strs,this,size_str1]
 simp only [sliced,cutA,Result.andThen,Int.toNat_natCast]
theorem sslice_h (A : Option Addr) (n c k : Nat) (hlk : k ≤ c) :
 ∀ w,(Instr.sliceAt 36 (.slice A n c) none (some (.int .i64 (k : Int))) none).run Tryz.prog w = .ok (.slice (cutA A 0 c 1) k c) w:=fun w=>by
 have h2 : (k : Int) ≤ (c : Int):=by omega
 have:=run_slice_h (P:=Tryz.prog) w 36 A n c elem_strs .i64 (k : Int) (by omega) h2
 rw [run_sliceAt_slice w 36 _ _ _ _ elem_strs,this,size_str1]
 simp only [sliced,cutA,Result.andThen,Int.toNat_natCast,Nat.sub_zero]
end Go.Proofs.YtejdpadhemeldaaGreatDoor
