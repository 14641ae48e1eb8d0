/- Lemmas of the walk that the last text of this claim joins. -/
import Derived.Test.YtahahafhendgoaaGreatDoorZ45
import Derived.Test.YtahahafhendgoaaGreatDoorZ31
import Derived.Test.YtahahafhendgoaaGreatDoorZ35
import Derived.Test.YtahahafhendgoaaGreatDoorZ41
set_option maxHeartbeats 40000000
set_option linter.unusedVariables false
set_option linter.unusedSimpArgs false
namespace Go.Proofs.YtahahafhendgoaaGreatDoor
open Go.RowKit
open Go.Maps Go.MapKept Go.WideShapes Go.ChangeShapes Go.ChangeMaps
set_option maxRecDepth 100000
abbrev nilS : Value:=.slice none 0 0
def PSplitSays (w : World) (l : List Ent) (cs : List CutR) (sv : Int) (e : Ending) (w' : World) : Prop:=
 (OkOf l ∧ RightOk l cs sv ∧ ∃ A B m d,e = .returned (.tuple #[.agg #[.slice A sv.toNat sv.toNat,.slice B m d],.int .i64 0]) ∧ Row Elem.srw (fun _=>True) w' A sv.toNat sv.toNat (splitF' (sortN nmE l) (sortN nmQ cs) sv.toNat) ∧ Row Elem.cut (fun _=>True) w' B m d (topS (sortN nmQ cs)) ∧ Ext w w') ∨
 (¬ (OkOf l ∧ RightOk l cs sv) ∧ ∃ k : Int,((¬ OkOf l ∧ k = 2) ∨ (OkOf l ∧ k = 1)) ∧ e = .returned (.tuple #[.agg #[nilS,nilS],.int .i64 k]) ∧ Ext w w')
theorem ctxE_snoc {L : List Ent} {cs : List CutR} {j i : Nat} {x : Ent} (hj : L[j]? = some x) (hi : deepF cs (nmE x) = (i : Int)) : (fun a=>ctxE (L.take (j + 1)) cs a) = upd (fun a=>ctxE (L.take j) cs a) i (ctxE (L.take j) cs i ++ [x]):=by
 funext a
 unfold ctxE
 rw [List.take_add_one,hj,Option.toList_some,List.filter_append]
 by_cases h : a = i
 ·subst h
  rw [upd_same,List.filter_cons_of_pos (by simp [hi])]
  rfl
 ·rw [upd_other _ _ h,List.filter_cons_of_neg (by simp [hi];omega)]
  simp
def lsB (CS : List CutR) (k j : Nat) (a : Nat) : List CutR:=if a = k then (CS.take j).filter (fun c=>decide (upC CS c < 0)) else (CS.take j).filter (fun c=>decide (upC CS c = (a : Int)))
def lsC (L : List Ent) (CS : List CutR) (j : Nat) (t : Nat) : List Cxt:=((List.range j).filter fun i=>decide (((CS[i]?).map (·.server)).getD (-1) = (t : Int))).map (ctxAt L CS)
theorem ctxS_snoc {CS : List CutR} {j k : Nat} {c : CutR} (hj : CS[j]? = some c) {a : Nat} (ha : a ≠ k) (hu : upC CS c = (a : Int)) : lsB CS k (j + 1) = upd (lsB CS k j) a (lsB CS k j a ++ [c]):=by
 funext b
 unfold lsB
 rw [List.take_add_one,hj,Option.toList_some,List.filter_append,List.filter_append]
 by_cases h : b = a
 ·subst h
  rw [upd_same,if_neg ha,if_neg ha,List.filter_cons_of_pos (by simp [hu])]
  rfl
 ·rw [upd_other _ _ h]
  by_cases hb : b = k
  ·rw [if_pos hb,if_pos hb,List.filter_cons_of_neg (by rw [hu];simp)]
   simp
  ·rw [if_neg hb,if_neg hb,List.filter_cons_of_neg (by simp [hu];omega)]
   simp
theorem topS_snoc {CS : List CutR} {j k : Nat} {c : CutR} (hj : CS[j]? = some c) (hu : upC CS c < 0) : lsB CS k (j + 1) = upd (lsB CS k j) k (lsB CS k j k ++ [c]):=by
 funext b
 unfold lsB
 rw [List.take_add_one,hj,Option.toList_some,List.filter_append,List.filter_append]
 by_cases h : b = k
 ·subst h
  rw [upd_same,if_pos rfl,if_pos rfl,List.filter_cons_of_pos (by simp [hu])]
  rfl
 ·rw [upd_other _ _ h,if_neg h,if_neg h,List.filter_cons_of_neg (by simp;omega)]
  simp
theorem srv_snoc {L : List Ent} {CS : List CutR} {j t : Nat} {c : CutR} (hj : CS[j]? = some c) (ht : c.server = (t : Int)) : lsC L CS (j + 1) = upd (lsC L CS j) t (lsC L CS j t ++ [ctxAt L CS j]):=by
 funext b
 unfold lsC
 rw [List.range_succ,List.filter_append,List.map_append]
 by_cases h : b = t
 ·subst h
  rw [upd_same,List.filter_cons_of_pos (by simp [hj,ht])]
  rfl
 ·rw [upd_other _ _ h,List.filter_cons_of_neg (by simp [hj,ht];omega)]
  simp
theorem sorted_right {l : List Ent} {cs : List CutR} {sv : Int} (hN : Named l) (h : RightOk l cs sv) : (sortN nmQ cs).Perm cs:=(sortN_ok (h.self hN) h.apart).1
theorem covers_sorted {l : List Ent} {cs : List CutR} {sv : Int} (hok : OkOf l) (h : RightOk l cs sv) : ∀ e ∈ sortN nmE l,∃ i : Nat,deepF (sortN nmQ cs) (nmE e) = (i : Int) ∧ i < (sortN nmQ cs).length:=by
 have hN:=ok_named hok
 intro e he
 obtain ⟨c,hc,hu⟩:=covers hok h e ((sortN_ok hN.self hN.apart).1.mem_iff.1 he)
 obtain ⟨k,d,h1,h2,-⟩:=deep_some ((sorted_right hN h).mem_iff.2 hc) hu
 exact ⟨k,h1,(List.getElem?_eq_some_iff.1 h2).1⟩
theorem psplit_any {S S2 : Nat → Prop} {A : Option Addr} {n c : Nat} {l : List Ent} {B : Option Addr} {m d : Nat} {cs : List CutR} {w : World} (h : Row Elem.ent S w A n c l) (hc : Row Elem.cut S2 w B m d cs) (sv : Int) (hG : Gu w) (hf : ∀ e ∈ l,EntFits e) (hs1 : -9223372036854775808 ≤ sv) (hs2 : sv ≤ 9223372036854775807) :
 Calls Tryz.prog 7 #[.slice A n c,.slice B m d,.int .i64 sv] w (PSplitSays w l cs sv):=by
 have HG:=hid hG
 have HR:=hid h
 have HCU:=hid hc
 have HF:=hid hf
 have HB0:=hid (Bx.make (Ext.refl w) #[nilS,nilS] 29)
 have HOF : Calls Tryz.prog 13 #[.slice A n c] (w.alloc (.cells #[nilS,nilS] 29)) (OfSaysS (fun b=>S b ∧ b < w.heap.size) (w.alloc (.cells #[nilS,nilS] 29)) l):=treeofS_any (h.lt.ext HB0.out.ext) (hG.ext HB0.out.ext) hf
 have HR0 : Hid (∀ Bt b,treeS (fun b=>S b ∧ b < w.heap.size) (w.alloc (.cells #[nilS,nilS] 29)) Bt b → b ≠ w.heap.size):=fun Bt b hb=>by
  rcases hb.2 with h | h
  ·have:=h.1.2;omega
  ·simp only [World.alloc,Array.size_push] at h;omega
 clear h hc hG hf
 show Calls _ _ _ _ (fun e w'=>PSplitSays w l cs sv e w')
 by_cases hok : OkOf l
 ·have hof : Calls Tryz.prog 13 #[.slice A n c] (w.alloc (.cells #[nilS,nilS] 29)) fun e w''=>∃ g Bt es clock,e = .returned (.tuple #[.pointer (some ⟨g,0,none⟩),.int .i64 0]) ∧ TreeAt (treeS (fun b=>S b ∧ b < w.heap.size) (w.alloc (.cells #[nilS,nilS] 29)) Bt) w'' g Bt es clock l ∧ Ext (w.alloc (.cells #[nilS,nilS] 29)) w'':=HOF.mono fun e w'' h=>by
   rcases h with ⟨-,g,Bt,es,clock,h1,h2,-,-,h3⟩ | ⟨h1,-⟩
   ·exact ⟨g,Bt,es,clock,h1,h2,h3⟩
   ·exact absurd hok h1
  have HN:=hid (ok_named hok)
  have HLL : Hid (l.length ≤ 1000000):=by show _ ≤ _;have:=hok.1;omega
  have HOK:=hid hok
  clear HOF hok
  have HRI : ∀ g Bt es clock w',Ext w w' → TreeAt (treeS (fun b=>S b ∧ b < w.heap.size) (w.alloc (.cells #[nilS,nilS] 29)) Bt) w' g Bt es clock l → Calls Tryz.prog 14 #[.pointer (some ⟨g,0,none⟩),.slice B m d,.int .i64 sv] w' (RightSays w' l cs sv):=fun g Bt es clock w' hx ht=>right_any (ht.mono (T:=fun b=>b ≠ Bt) (fun b _ hb=>hb.1) (by simp)) (HCU.out.ext hx) sv (HG.out.ext hx) HF.out HN.out HLL.out hs1 hs2
  by_cases hr : RightOk l cs sv
  ·have hri : ∀ g Bt es clock w',Ext w w' → TreeAt (treeS (fun b=>S b ∧ b < w.heap.size) (w.alloc (.cells #[nilS,nilS] 29)) Bt) w' g Bt es clock l → Calls Tryz.prog 14 #[.pointer (some ⟨g,0,none⟩),.slice B m d,.int .i64 sv] w' fun e w''=>e = .returned (.bool true) ∧ Ext w' w'':=fun g Bt es clock w' hx ht=>(HRI g Bt es clock w' hx ht).mono fun e w'' ⟨b,h1,h2,h3⟩=>⟨by rw [h1,h2.2 hr],h3⟩
   have hsr : ∀ w',Ext w w' → Calls Tryz.prog 15 #[.slice B m d] w' fun e w''=>∃ A' n' c',e = .returned (.slice A' n' c') ∧ Row Elem.cut (fun b=>w'.heap.size ≤ b) w'' A' n' c' (sortN nmQ cs) ∧ Ext w' w'':=fun w' hx=>sorted_any (HCU.out.ext hx) (HG.out.gl.ext hx) (by have:=hr.few;omega) (hr.self HN.out) hr.apart
   have HRT:=hid hr
   have HCV:=hid (covers_sorted HOK.out hr)
   have HKL : Hid ((sortN nmQ cs).length ≤ 30):=by show _ ≤ _;rw [(sorted_right HN.out hr).length_eq];exact hr.few
   have HLS : Hid ((sortN nmE l).length ≤ 1000000):=by show _ ≤ _;rw [(sortN_ok HN.out.self HN.out.apart).1.length_eq];exact HLL.out
   obtain ⟨svn,hsvn⟩ : ∃ svn : Nat,sv = svn:=⟨sv.toNat,by have:=hr.srv;omega⟩
   have HSV : Hid (1 ≤ svn ∧ svn ≤ 8):=by show _ ∧ _;have:=hr.srv;omega
   have HSB : Hid (∀ c ∈ sortN nmQ cs,0 ≤ c.server ∧ c.server < (svn : Int)):=fun c hc=>by
    have:=hr.cut c ((sorted_right HN.out hr).mem_iff.1 hc)
    rw [← hsvn]
    exact ⟨this.1,this.2.1⟩
   have HFIN : Hid (∀ A B m d w',Row Elem.srw (fun _=>True) w' A svn svn (splitF' (sortN nmE l) (sortN nmQ cs) svn) → Row Elem.cut (fun _=>True) w' B m d (topS (sortN nmQ cs)) → Ext w w' → PSplitSays w l cs sv (.returned (.tuple #[.agg #[.slice A svn svn,.slice B m d],.int .i64 0])) w'):=fun A B m d w' q1 q2 q3=>.inl ⟨HOK.out,hr,A,B,m,d,by rw [show sv.toNat = svn by omega],by rw [show sv.toNat = svn by omega];exact q1,q2,q3⟩
   have HALL : ∀ g Bt es clock w1 w',Ext w w1 → w.heap.size < w1.heap.size → TreeAt (treeS (fun b=>S b ∧ b < w.heap.size) (w.alloc (.cells #[nilS,nilS] 29)) Bt) w1 g Bt es clock l → Ext w1 w' → Calls Tryz.prog 16 #[.pointer (some ⟨g,0,none⟩)] w' fun e w''=>∃ A n c,e = .returned (.slice A n c) ∧ Row Elem.ent (fun b=>b ≠ w.heap.size ∧ (b < w1.heap.size ∨ w'.heap.size ≤ b)) w'' A n c (sortN nmE l) ∧ Ext w' w'':=fun g Bt es clock w1 w' hx hl1 ht hx2=>
    (treeallS_any (ht.low.ext hx2) (HG.out.gl.ext (hx.trans hx2)) HLL.out HF.out HN.out).mono fun e w'' ⟨A,n,c,h1,h2,h3⟩=>⟨A,n,c,h1,h2.mono fun b _ hb=>by
      rcases hb with h | h
      ·exact ⟨HR0.out Bt b h.1,.inl h.2⟩
      ·exact ⟨by have:=ext_sz hx2;omega,.inr h⟩,h3⟩
   generalize hLd : sortN nmE l = L at *
   generalize hCd : sortN nmQ cs = CS at *
   clear hr HRI hLd hCd
   subst hsvn
   go_enter Tryz.func7,Tryz.ntmps7
   have hmk:=fun k (hk : k ≤ 65536)=>make_ctx k hk
   go_wp2_with (first
    | (go_at_call 13;(with_reducible refine hof.mono ?_);rintro e w1 ⟨g,Bt,es,clock,rfl,ht1,hx1⟩;have HT1:=hid ht1;have HB1:=hid (HB0.out.later hx1);clear ht1 hx1)
    | (go_at_call 14;(with_reducible refine (hri _ _ _ _ _ HB1.out.ext HT1.out).mono ?_);rintro e w2 ⟨rfl,hx2⟩;have HX12:=hid hx2;have HB2:=hid (HB1.out.later hx2);clear hx2)
    | (go_at_call 15;(with_reducible refine (hsr _ HB2.out.ext).mono ?_);rintro e w3 ⟨A3,n3,c3,rfl,hr3,hx3⟩;have HC3:=hid hr3;have HX13:=hid (HX12.out.trans hx3);have HB3:=hid (HB2.out.later hx3);have hmk3:=hmk n3 (by have:=HKL.out;have:=hr3.len;omega);have HN3:=hid hr3.len;have HXM:=hid (Ext.alloc w3 (.cells (ctxCells n3 (fun _=>ByteArray.empty) (fun _=>.slice none 0 0) (fun _=>.slice none 0 0)) 38));clear hr3 hx3)
    | (go_at_call 16;(with_reducible refine (HALL _ _ _ _ _ _ HB1.out.ext HB1.out.lt HT1.out (HX13.out.trans HXM.out)).mono ?_);rintro e wA ⟨A5,n5,c5,rfl,hr5,hx5⟩;have HA5:=hid hr5;have HXA:=hid (HXM.out.trans hx5);have HBA:=hid (HB3.out.later HXA.out);have HCA : Hid (wA.heap[w3.heap.size]? = some (.cells (ctxCells n3 (fun _=>ByteArray.empty) (fun _=>.slice none 0 0) (fun _=>.slice none 0 0)) 38 (0,0))):=((hx5.block _ (by simp)).trans (heap_alloc_new w3 _));clear hr5 hx5))
   have HX03:=hid (HB3.out.ext)
   have HSZ3 : Hid (w3.heap.size < wA.heap.size):=by show _ < _;have h1:=ext_sz HXA.out;have h2:=(Array.getElem?_eq_some_iff.1 HCA.out).1;omega
   have HA6:=hid (HA5.out.mono (T:=fun b=>b < wA.heap.size ∧ b ≠ w3.heap.size ∧ b ≠ w.heap.size) fun b hb h=>⟨hb,by
    have h1:=ext_sz HX13.out
    have h2 : (w3.alloc (.cells (ctxCells n3 (fun _=>ByteArray.empty) (fun _=>.slice none 0 0) (fun _=>.slice none 0 0)) 38)).heap.size = w3.heap.size + 1:=by simp
    rw [h2] at h
    rcases h.2 with h | h <;> omega,h.1⟩)
   have HRZ : Hid (w.heap.size < w3.heap.size):=HB3.out.lt
   have HC5:=hid (((HC3.out.mono (T:=fun b=>b < w3.heap.size) fun b hb _=>hb).ext HXA.out).mono (T:=fun b=>b < wA.heap.size ∧ b ≠ w3.heap.size) fun b hb h=>⟨hb,by omega⟩)
   have HL5:=hid HA5.out.len
   have hn5 : n5 ≤ 9223372036854775807:=by have:=HA5.out.cap;have:=HA5.out.most;simp only [maxLen] at this;omega
   have hn30 : n3 ≤ 30:=by have h1:=HN3.out;have h2:=HKL.out;omega
   clear HALL hri hsr hof HT1 hmk3 hmk HA5 HC3 HXM HB1 HB2 HB3
   go_loopw [45] (fun i wr=>∃ (j : Nat) (ve : Nat → Value),j ≤ n5 ∧ i = .int .i64 j ∧ Hid (wr.heap[w3.heap.size]? = some (.cells (ctxCells n3 (fun _=>ByteArray.empty) ve (fun _=>.slice none 0 0)) 38 (0,0))) ∧ Hid (Fam Elem.ent (fun b=>b < wA.heap.size ∧ b ≠ w.heap.size) 48 w3.heap.size w3 wA.heap.size n3 wr ve (fun a=>ctxE (L.take j) CS a)) ∧ Hid (Same (fun b=>b < wA.heap.size ∧ b ≠ w3.heap.size) wA wr ∧ wA.heap.size ≤ wr.heap.size ∧ Ext w3 wr)) (fun i _=>n5 - (intOf i).toNat)
   case atStart=>exact ⟨0,_,by omega,rfl,HCA.out,Fam.nil HXA.out (Nat.le_refl _) HSZ3.out,fun _ _=>rfl,Nat.le_refl _,HXA.out⟩
   case round=>
    obtain ⟨j,ve,hj,rfl,HCB,HFA,HSM⟩:=hrel
    by_cases hlt : j < n5
    ·obtain ⟨b1,o1,v1,x1,rfl,g1,-,⟨A1,n1,c1,rfl,r1⟩,q1⟩:=(HA6.out.same (fun b hb=>HSM.out.1 b ⟨hb.1,hb.2.1⟩)).at_ hlt
     have e10:=q1 0 _ rfl
     have e11:=q1 1 _ rfl
     simp only [Elem.ent,Nat.add_zero] at e10 e11
     obtain ⟨i,hi1,hi2⟩:=HCV.out x1 (List.mem_of_getElem? g1)
     have HGJ:=hid g1
     have HI:=hid hi1
     have hi2' : i < n3:=by have:=HN3.out;omega
     have HI2 : Hid (i < n3):=hi2'
     have hi3 : (i : Int) < (n3 : Int):=by omega
     have hlt' : (j : Int) < (n5 : Int):=by omega
     have HDE : ∀ w',Ext wr w' → Calls Tryz.prog 17 #[.slice A3 n3 c3,.string x1.name] w' fun e w''=>e = .returned (.int .i64 (i : Int)) ∧ Ext w' w'':=fun w' hx=>by
      have:=deepest_any ((HC5.out.same HSM.out.1).ext hx) x1.name (HG.out.gl.ext (HX03.out.trans (HSM.out.2.2.trans hx)))
      rwa [show deepF CS (bys x1.name) = (i : Int) from hi1] at this
     have HBX:=hid (Bx.make (Ext.refl wr) #[.string x1.name,.slice A1 n1 c1] 48)
     have b0:=HBX.out.cell (i:=0) rfl
     have HR1:=hid r1
     have HSZ : Hid (w3.heap.size < wA.heap.size ∧ wA.heap.size ≤ wr.heap.size):=⟨HSZ3.out,HSM.out.2.1⟩
     clear q1 g1 r1 hi1 hi2
     go_wp2_with (go_at_call 17;(with_reducible refine (HDE _ HBX.out.ext).mono ?_);rintro e w6 ⟨rfl,hx6⟩;have HB6:=hid (HBX.out.later hx6);have HX6:=hid (HBX.out.ext.trans hx6);clear hx6)
     clear HDE b0 e10 e11
     obtain ⟨S9,hS9⟩ : ∃ S : Nat → Prop,S = fun b=>b = wr.heap.size:=⟨_,rfl⟩
     have HS7 : Hid (S9 wr.heap.size):=by show S9 _;rw [hS9]
     have HSI : Hid (∀ b,S9 b → b = wr.heap.size):=fun b hb=>by rw [hS9] at hb;exact hb
     obtain ⟨PR,hPR⟩ : ∃ p,p = Pre.same S9:=⟨_,rfl⟩
     have HPS : Hid (∀ w w',Same S9 w w' → PR.r w w'):=fun w w' h=>by rw [hPR];exact h
     have HPT : Hid (∀ w w',PR.r w w' → Same S9 w w'):=fun w w' h=>by rw [hPR] at h;exact h
     clear hPR hS9
     refine wp_region_planR PR (.read 0 (.read 1 (.read 2 (.read 3 (.read 5 (.alt 4 (.main 6 (.main 7 (.read 8 (.read 9 (.main 10 .done))))) (.main 6 (.main 4 (.main 7 (.read 8 (.read 9 (.main 10 .done)))))))))))) (by kernel_rfl) (by kernel_rfl) ?_
     intro wD hxD
     have XR : Hid (PR.r wD wD):=PR.refl _
     have HXD:=hid (HX6.out.trans hxD)
     have HBD:=hid (HB6.out.later hxD)
     have HSR : Hid (∀ b,S9 b → b < wD.heap.size):=fun b hb=>by have h1:=HSI.out b hb;have h2:=HBD.out.lt;omega
     have HNE : Hid (∀ b,S9 b → b ≠ w3.heap.size):=fun b hb=>by have h1:=HSI.out b hb;have h2:=HSZ.out;omega
     have HNO : Hid (∀ b,S9 b → some b ≠ (ve i).ownBlock):=fun b hb e=>by have h1:=HSI.out b hb;have h2:=((HFA.out.row i HI2.out).lt e.symm).2;omega
     have HCD : Hid (wD.heap[w3.heap.size]? = some (.cells (ctxCells n3 (fun _=>ByteArray.empty) ve (fun _=>.slice none 0 0)) 38 (0,0))):=(HXD.out.block _ (by have:=HSZ.out;omega)).trans HCB.out
     have HFD:=hid (HFA.out.later HXD.out)
     have P1 : Hid (wD.cell? ⟨w3.heap.size,i * 3 + 1,none⟩ = some (ve i)):=by show _ = _;rw [cell_of_row _ _ _ _ _ _ HCD.out];exact ctx_at1 HI2.out _ _ _
     have hblk : ∀ w',PR.r wD w' → w'.heap[wr.heap.size]? = some (.cells #[.string x1.name,.slice A1 n1 c1] 48 (0,0)):=fun w' hk=>by rw [HPT.out _ _ hk _ HS7.out];exact HBD.out.blk
     have HROW:=hid (HFD.out.row i HI2.out)
     have HEL : Hid (Elem.ent.R (outer (fun b=>b < wA.heap.size ∧ b ≠ w.heap.size) (ve i) (some w3.heap.size)) wD [.string x1.name,.slice A1 n1 c1] x1):=⟨A1,n1,c1,rfl,(HR1.out.ext HXD.out).mono fun b _ hb=>⟨⟨hb.1,hb.2.2⟩,fun e=>by have:=HFA.out.high i HI2.out b e.symm;have:=hb.1;omega,fun e=>hb.2.1 (by injection e)⟩⟩
     have HBZ : Hid (wA.heap.size ≤ wD.heap.size):=Nat.le_trans HSZ.out.2 (ext_sz HXD.out)
     have HLT : Hid ((ctxE (L.take j) CS i).length ≤ 4000000):=by
      show _ ≤ _
      have h1:=List.length_filter_le (fun e=>decide (deepF CS (nmE e) = (i : Int))) (L.take j)
      have h2:=HLS.out
      rw [List.length_take] at h1
      unfold ctxE
      omega
     repeat' (first
      | ((first | refine walksR_move rfl rfl ?_ | refine walksR_assign rfl rfl ?_ | refine walksR_skip rfl rfl ?_);simp only [Act.put,Act.eval,evs])
      | (refine walksR_read (v:=.agg #[.string x1.name,.slice A1 n1 c1]) rfl rfl (fun w' hE=>run_load_row 48 (.tmp 12) rfl _ rfl _ _ _ (hblk w' (Pre.trans _ (Hid.out XR) hE)) Tryz.underlying48 rfl (by kernel_rfl)) ?_;simp only [Act.put,evp])
      | (refine walksR_unwanted rfl rfl ?_;simp only [Act.put,evp])
      | (refine walksR_read (v:=?_) rfl rfl (fun w' hE=>?_) ?_;rotate_left 1;(· ((try (have hEx:=Pre.trans _ (Hid.out XR) hE));go_simp;(try go_bits);with_reducible rfl));simp only [Act.put,evp])
      | (refine walksR_main rfl rfl (fun K hK=>?_);(first | (refine wp_load_cell 22 (.tmp 58) rfl ⟨w3.heap.size,i * 3 + 1,none⟩ rfl (ve i) (by first | exact P1.out | exact cell_later P1.out _ (Ext.alloc _ _)) (fun _=>by kernel_rfl) ?_) | (refine append_m1b_wp Tryz.underlying22 infoEnt rfl (by decide) (.tmp 59) (.tmp 61) rfl (ve i) _ rfl HROW.out (u:=[.string x1.name,.slice A1 n1 c1]) x1 HEL.out (by intro c hc;simp at hc;rcases hc with rfl | rfl <;> rfl) rfl rfl HLT.out ?_;intro v' w9 k1 k2 k3;have hs9 : PR.r _ w9:=HPS.out _ _ (fun b hb=>k2.block b (by have:=HSR.out b hb;simp only [World.alloc,Array.size_push];omega) (HNO.out b hb));obtain ⟨A6,c6,hv6,-⟩:=k1.row;obtain ⟨ln,hln⟩ : ∃ x,x = (ctxE (L.take j) CS i ++ [x1]).length:=⟨_,rfl⟩;rw [← hln] at hv6;subst hv6;have HST:=hid (fam_step HI2.out HCD.out HFD.out (fun b hb=>hb.1) HBZ.out k1 k2 k3 (ctx_at1 HI2.out _ _ _) (ctx_set1 HI2.out _ _ _ _));have n1':=HST.out.1.1;have f1:=HST.out.1.2;clear k1 k2 k3 hln));refine hK _ _ (by first | assumption | exact Pre.refl _ _ | exact Hid.out HPS _ _ (Same.alloc_of (Hid.out HSR) _) | exact Hid.out HPS _ _ (Same.set_of (Hid.out HNE) _) | exact Hid.out HPS _ _ (Same.allocs_of (Hid.out HSR) _ _)) ?_;clear hK K;try simp only [Act.put,evp])
      | (refine walksR_alt ?_ ?_)
      | (refine walksR_main rfl rfl (fun K hK=>?_);go_wp2_with (fail);refine hK _ _ (by first | assumption | exact Pre.refl _ _ | exact Hid.out HPS _ _ (Same.alloc_of (Hid.out HSR) _) | exact Hid.out HPS _ _ (Same.set_of (Hid.out HNE) _) | exact Hid.out HPS _ _ (Same.allocs_of (Hid.out HSR) _ _)) ?_;clear hK K;try simp only [Act.put,evp]))
     all_goals
      refine walksR_done ?_
      go_wp2
      refine ⟨⟨j + 1,upd ve i (.slice A6 ln c6),by omega,by go_num,HST.out.2.1,?_,?_,?_,HST.out.2.2.2.2.2⟩,by simp [intOf];omega⟩
      ·show Fam _ _ _ _ _ _ _ _ _ _
       rw [ctxE_snoc HGJ.out HI.out]
       exact HST.out.2.2.1
      ·intro b hb
       rw [HST.out.2.2.2.1 b hb.1 hb.2,HXD.out.block b (by have:=hb.1;have:=HSZ.out;omega)]
       exact HSM.out.1 b hb
      ·have h1:=HST.out.2.2.2.2.1
       have h2:=HBZ.out
       omega
    ·obtain rfl : j = n5:=by omega
     have hlt' : ¬ (j : Int) < (j : Int):=by omega
     rw [List.take_of_length_le (Nat.le_of_eq HL5.out.symm)] at HFA
     have HEN : Hid (∀ i,i < n3 → ∃ A c,ve i = .slice A (ctxE L CS i).length c ∧ Row Elem.ent (fun b=>b < wr.heap.size ∧ b ≠ w3.heap.size ∧ b ≠ w.heap.size) wr A (ctxE L CS i).length c (ctxE L CS i)):=fun i hi=>by
      obtain ⟨A,c,q1,q2⟩:=HFA.out.rows hi
      exact ⟨A,c,q1,q2.mono fun b _ hb=>⟨hb.2.1,hb.2.2,by
       rcases hb.1 with h | h
       ·exact h.2
       ·have:=HRZ.out;have:=HSZ3.out;omega⟩⟩
     obtain ⟨wB,hwB⟩ : ∃ x,x = wr:=⟨_,rfl⟩
     subst hwB
     have hms:=make_srv svn (by have:=HSV.out;omega)
     have HXV:=hid (Ext.alloc wB (.cells (srvCells svn (fun _=>.slice none 0 0)) 36))
     have HSV1 : Hid ((wB.alloc (.cells (srvCells svn (fun _=>.slice none 0 0)) 36)).heap.size = wB.heap.size + 1):=by show _ = _;simp
     have HBG:=hid (Bx.make HXV.out #[.slice (some ⟨wB.heap.size,0,none⟩) svn svn,.slice none 0 0] 29)
     rw [HSV1.out] at HBG
     obtain ⟨wG,hwG⟩ : ∃ x,x = (wB.alloc (.cells (srvCells svn (fun _=>.slice none 0 0)) 36)).alloc (.cells #[.slice (some ⟨wB.heap.size,0,none⟩) svn svn,.slice none 0 0] 29):=⟨_,rfl⟩
     have HXG : Hid (Ext wB wG):=by show Ext _ _;rw [hwG];exact HXV.out.trans (Ext.alloc _ _)
     have HSG : Hid (wG.heap.size = wB.heap.size + 2):=by show _ = _;rw [hwG];simp
     have HGB : Hid (wG.heap[wB.heap.size + 1]? = some (.cells #[.slice (some ⟨wB.heap.size,0,none⟩) svn svn,.slice none 0 0] 29 (0,0))):=by show _ = _;rw [hwG];exact HBG.out.blk
     have HVB : Hid (wG.heap[wB.heap.size]? = some (.cells (srvCells svn (fun _=>.slice none 0 0)) 36 (0,0))):=by show _ = _;rw [hwG,(Ext.alloc _ _).block _ (by rw [HSV1.out];omega)];exact heap_alloc_new wB _
     have HSZB : Hid (w.heap.size < w3.heap.size ∧ w3.heap.size < wA.heap.size ∧ wA.heap.size ≤ wB.heap.size ∧ wG.heap.size = wB.heap.size + 2):=⟨HRZ.out,HSZ3.out,HSM.out.2.1,HSG.out⟩
     have HCG : Hid (wG.heap[w3.heap.size]? = some (.cells (ctxCells n3 (fun _=>ByteArray.empty) ve (fun _=>.slice none 0 0)) 38 (0,0))):=(HXG.out.block _ (by have:=HSZB.out;omega)).trans HCB.out
     have HX3G:=hid (HSM.out.2.2.trans HXG.out)
     have HC7:=hid ((HC5.out.same HSM.out.1).ext HXG.out)
     have HL0 : Hid (lsB CS n3 0 = fun _=>[]):=by show _ = _;funext a;unfold lsB;simp
     go_wp2
     clear hms HFA HXV HBG
     go_loopw [71] (fun i wq=>∃ (j : Nat) (nm : Nat → ByteArray) (vs : Nat → Value),j ≤ n3 ∧ i = .int .i64 j ∧ Hid (wq.heap[w3.heap.size]? = some (.cells (ctxCells n3 nm ve vs) 38 (0,0))) ∧ Hid (∀ a,a < j → nm a = nmAt CS a) ∧ Hid (Fam Elem.cut (fun _=>False) 41 w3.heap.size w3 wG.heap.size (n3 + 1) wq vs (lsB CS n3 j)) ∧
      Hid (wq.heap[wB.heap.size + 1]? = some (.cells #[.slice (some ⟨wB.heap.size,0,none⟩) svn svn,vs n3] 29 (0,0))) ∧ Hid (Same (fun b=>b < wG.heap.size ∧ b ≠ w3.heap.size ∧ b ≠ wB.heap.size + 1) wG wq ∧ wG.heap.size ≤ wq.heap.size ∧ Ext w3 wq)) (fun i _=>n3 - (intOf i).toNat)
     case atStart=>
      rw [← hwG]
      exact ⟨0,_,fun _=>.slice none 0 0,by omega,rfl,HCG.out,fun a ha=>absurd ha (Nat.not_lt_zero a),by show Fam _ _ _ _ _ _ _ _ _ _;rw [HL0.out];exact Fam.nil HX3G.out (Nat.le_refl _) (by have:=HSZB.out;omega),HGB.out,fun _ _=>rfl,Nat.le_refl _,HX3G.out⟩
     case round=>
      obtain ⟨k,nm,vs,hk,rfl,HCK,HNM,HFB,HGK,HSK⟩:=hrel
      have HCR:=hid (HC7.out.same (w':=wr) (fun b hb=>HSK.out.1 b ⟨by have:=HSZB.out;have:=hb.1;omega,hb.2,by have:=HSZB.out;have:=hb.1;omega⟩))
      have HSZK : Hid (w3.heap.size < wA.heap.size ∧ wA.heap.size ≤ wB.heap.size ∧ wG.heap.size = wB.heap.size + 2 ∧ wG.heap.size ≤ wr.heap.size):=⟨HSZB.out.2.1,HSZB.out.2.2.1,HSZB.out.2.2.2,HSK.out.2.1⟩
      by_cases hlt : k < n3
      ·obtain ⟨b1,o1,v1,x1,rfl,g1,-,r1,q1⟩:=HCR.out.at_ hlt
       obtain ⟨nm1,sv1⟩:=x1
       cases r1
       have e10:=q1 0 _ rfl
       have e11:=q1 1 _ rfl
       simp only [Elem.cut,CutR.cells,Nat.add_zero] at e10 e11
       have HGJ:=hid g1
       have HKN : Hid (k < n3):=hlt
       have hlt' : (k : Int) < (n3 : Int):=by omega
       have HBX:=hid (Bx.make (Ext.refl wr) #[.string nm1,.int .i64 sv1] 41)
       have b0:=HBX.out.cell (i:=0) rfl
       have HC4 : Hid ((wr.alloc (.cells #[.string nm1,.int .i64 sv1] 41)).heap[w3.heap.size]? = some (.cells (ctxCells n3 nm ve vs) 38 (0,0))):=(HBX.out.ext.block _ (by have:=HSZK.out;omega)).trans HCK.out
       have p0 : (wr.alloc (.cells #[.string nm1,.int .i64 sv1] 41)).cell? ⟨w3.heap.size,k * 3,none⟩ = some (.string (nm k)):=by rw [cell_of_row _ _ _ _ _ _ HC4.out];exact ctx_at0 hlt _ _ _
       have f0 : (wr.alloc (.cells #[.string nm1,.int .i64 sv1] 41)).frozen? ⟨w3.heap.size,k * 3,none⟩ = false:=frozen_of_row _ _ _ _ _ HC4.out
       obtain ⟨wS,hwS⟩ : ∃ x,x = (wr.alloc (.cells #[.string nm1,.int .i64 sv1] 41)).setCell ⟨w3.heap.size,k * 3,none⟩ (.string nm1):=⟨_,rfl⟩
       have HCS : Hid (wS.heap[w3.heap.size]? = some (.cells (ctxCells n3 (upd nm k nm1) ve vs) 38 (0,0))):=by show _ = _;rw [hwS,heap_setCell_same _ _ _ _ _ _ HC4.out,ctx_set0 hlt]
       have HSO : Hid (∀ b,b < wr.heap.size → b ≠ w3.heap.size → wS.heap[b]? = wr.heap[b]?):=fun b hb hne=>by rw [hwS,heap_setCell_other _ _ _ _ hne];exact HBX.out.ext.block b hb
       have HFS : Hid (Fam Elem.cut (fun _=>False) 41 w3.heap.size w3 wG.heap.size (n3 + 1) wS vs (lsB CS n3 k)):=by show Fam _ _ _ _ _ _ _ _ _ _;rw [hwS];exact (HFB.out.later HBX.out.ext).setL _ _
       have HX3S : Hid (Ext w3 wS):=by show Ext _ _;rw [hwS];exact (HSK.out.2.2.trans HBX.out.ext).setCell (Nat.le_refl _) _
       have HSZS : Hid (wS.heap.size = wr.heap.size + 1):=by show _ = _;rw [hwS];simp
       have HBXS : Hid (Bx w3 wS wr.heap.size 41 #[.string nm1,.int .i64 sv1]):=⟨by have:=HSZK.out;omega,by rw [hwS,heap_setCell_other _ _ _ _ (show wr.heap.size ≠ w3.heap.size by have:=HSZK.out;omega)];exact HBX.out.blk,HX3S.out⟩
       have HCW:=hid (HCR.out.same (w':=wS) (fun b hb=>HSO.out b (by have:=HSZK.out;have:=hb.1;omega) hb.2))
       have HGS : Hid (wS.heap[wB.heap.size + 1]? = some (.cells #[.slice (some ⟨wB.heap.size,0,none⟩) svn svn,vs n3] 29 (0,0))):=(HSO.out _ (by have:=HSZK.out;omega) (by have:=HSZK.out;omega)).trans HGK.out
       have q0:=HBXS.out.cell (i:=0) rfl
       have HPA : ∀ w',Ext wS w' → Calls Tryz.prog 18 #[.string nm1] w' (ParentSays w' (bys nm1)):=fun w' hx=>dnparent_any nm1 w' (HG.out.gl.ext (HX03.out.trans (HX3S.out.trans hx)))
       unfold ParentSays at HPA
       have HDE : ∀ w',Ext wS w' → Calls Tryz.prog 17 #[.slice (some ⟨b1,o1,none⟩) n3 c3,.string (str (parentS (bys nm1)).1)] w' fun e w''=>e = .returned (.int .i64 (upC CS ⟨nm1,sv1⟩)) ∧ Ext w' w'':=fun w' hx=>by
        have:=deepest_any (HCW.out.ext hx) (str (parentS (bys nm1)).1) (HG.out.gl.ext (HX03.out.trans (HX3S.out.trans hx)))
        rwa [bys_str] at this
       have HUR : Hid (-1 ≤ upC CS ⟨nm1,sv1⟩ ∧ upC CS ⟨nm1,sv1⟩ < (n3 : Int)):=by show _ ∧ _;have:=deepF_range CS (parentS (nmQ ⟨nm1,sv1⟩)).1;have h2:=HN3.out;unfold upC;omega
       have HUE : Hid (∀ u,upC CS ⟨nm1,sv1⟩ = u → upC CS ⟨nm1,sv1⟩ = u):=fun _ h=>h
       have HNK : Hid (∀ a,a < k + 1 → upd nm k nm1 a = nmAt CS a):=fun a ha=>by
        by_cases e : a = k
        ·subst e;rw [upd_same];unfold nmAt;rw [HGJ.out];rfl
        ·rw [upd_other _ _ e];exact HNM.out a (by omega)
       obtain ⟨u,hu⟩ : ∃ u,u = upC CS ⟨nm1,sv1⟩:=⟨_,rfl⟩
       have HU : Hid (upC CS ⟨nm1,sv1⟩ = u):=hu.symm
       rw [← hu] at HDE HUR
       obtain ⟨ps,hps⟩ : ∃ ps,ps = str (parentS (bys nm1)).1:=⟨_,rfl⟩
       rw [← hps] at HPA HDE
       have HLB : Hid (∀ a,(lsB CS n3 k a).length ≤ 4000000):=fun a=>by
        have h1 : CS.length ≤ 30:=HKL.out
        have h3 : (CS.take k).length ≤ 30:=by rw [List.length_take];omega
        unfold lsB
        split
        ·have:=List.length_filter_le (fun c=>decide (upC CS c < 0)) (CS.take k);omega
        ·have:=List.length_filter_le (fun c=>decide (upC CS c = (a : Int))) (CS.take k);omega
       clear q1 g1 hu hps HUE HCR
       subst hwS
       by_cases hu0 : u < 0
       ·have hu1 : ¬ (0 : Int) ≤ u:=by omega
        have HU0 : Hid (upC CS ⟨nm1,sv1⟩ < 0):=by show _ < _;rw [HU.out];exact hu0
        clear hu0
        go_wp2_with (first
         | (go_at_call 18;(with_reducible refine (HPA _ (Ext.refl _)).mono ?_);rintro e w5 ⟨rfl,hx5⟩;have HX5:=hid hx5;clear hx5)
         | (go_at_call 17;(with_reducible refine (HDE _ HX5.out).mono ?_);rintro e w6 ⟨rfl,hx6⟩;have HX6:=hid (HX5.out.trans hx6);have HB6:=hid (HBXS.out.later HX6.out);have HF6:=hid (HFS.out.later HX6.out);have HG6:=hid ((HX6.out.block (wB.heap.size + 1) (by have:=HSZS.out;have:=HSZK.out;omega)).trans HGS.out);have HC6:=hid ((HX6.out.block w3.heap.size (by have:=HSZS.out;have:=HSZK.out;omega)).trans HCS.out);have HBZ : Hid (wG.heap.size ≤ w6.heap.size):=(by have h1:=ext_sz HX6.out;have h2:=HSZS.out;have h3:=HSZK.out;show _ ≤ _;omega);clear hx6;have c0:=HB6.out.cell (i:=0) rfl;have c1:=HB6.out.cell (i:=1) rfl;have gg : w6.cell? ⟨wB.heap.size + 1,1,none⟩ = some (vs n3):=(cell_of_row w6 (wB.heap.size + 1) 1 _ _ (0,0) HG6.out).trans rfl;have HROW:=hid (HF6.out.row n3 (by omega)))
         | (at_builtin;refine append_m1b Tryz.underlying27 infoCut rfl (by decide) rfl _ _ rfl (vs n3) _ rfl HROW.out (u:=[.string nm1,.int .i64 sv1]) (⟨nm1,sv1⟩ : CutR) rfl (by intro c hc;simp at hc;rcases hc with rfl | rfl <;> rfl) rfl rfl (HLB.out n3) ?_;intro v' w9 k1 k2 k3;obtain ⟨A6,c6,hv6,-⟩:=k1.row;obtain ⟨ln,hln⟩ : ∃ x,x = (lsB CS n3 k n3 ++ [(⟨nm1,sv1⟩ : CutR)]).length:=⟨_,rfl⟩;rw [← hln] at hv6;subst hv6;have HST:=hid (top_step (show n3 < n3 + 1 by omega) HG6.out HF6.out (fun b hb=>hb.elim) HBZ.out (by have:=HSZK.out;omega) (by have:=HSZK.out;omega) (fun h=>h) k1 k2 k3 (show (#[.slice (some ⟨wB.heap.size,0,none⟩) svn svn,vs n3] : Array Value)[1]? = some (vs n3) from rfl));have n1':=HST.out.1.1;have f1':=HST.out.1.2;clear k1 k2 k3 hln))
        refine ⟨⟨k + 1,upd nm k nm1,upd vs n3 (.slice A6 ln c6),by omega,by go_num,?_,HNK.out,?_,?_,?_,?_,HST.out.2.2.2.2.2⟩,by simp [intOf];omega⟩
        ·show _ = _
         rw [ctxCells_out,HST.out.2.2.2.1 _ (by have:=HSZK.out;omega) (by have:=HSZK.out;omega)]
         exact HC6.out
        ·show Fam _ _ _ _ _ _ _ _ _ _
         rw [topS_snoc HGJ.out HU0.out]
         exact HST.out.2.2.1
        ·show _ = _
         rw [upd_same]
         exact HST.out.2.1
        ·intro b hb
         rw [HST.out.2.2.2.1 b hb.1 hb.2.2,HX6.out.block b (by have:=HSZS.out;have:=HSZK.out;have:=hb.1;omega),HSO.out b (by have:=HSZK.out;have:=hb.1;omega) hb.2.1]
         exact HSK.out.1 b hb
        ·have h1:=HST.out.2.2.2.2.1
         have h2:=HBZ.out
         omega
       ·obtain ⟨a,rfl⟩ : ∃ a : Nat,u = a:=⟨u.toNat,by omega⟩
        have HAN : Hid (a < n3):=by show _ < _;have:=HUR.out.2;omega
        have han : (a : Int) < (n3 : Int):=by have:=HAN.out;omega
        clear hu0
        have HU1 : Hid (upC CS ⟨nm1,sv1⟩ = (a : Int)):=HU.out
        go_wp2_with (first
         | (go_at_call 18;(with_reducible refine (HPA _ (Ext.refl _)).mono ?_);rintro e w5 ⟨rfl,hx5⟩;have HX5:=hid hx5;clear hx5)
         | (go_at_call 17;(with_reducible refine (HDE _ HX5.out).mono ?_);rintro e w6 ⟨rfl,hx6⟩;have HX6:=hid (HX5.out.trans hx6);have HB6:=hid (HBXS.out.later HX6.out);have HF6:=hid (HFS.out.later HX6.out);have HG6:=hid ((HX6.out.block (wB.heap.size + 1) (by have:=HSZS.out;have:=HSZK.out;omega)).trans HGS.out);have HC6:=hid ((HX6.out.block w3.heap.size (by have:=HSZS.out;have:=HSZK.out;omega)).trans HCS.out);have HBZ : Hid (wG.heap.size ≤ w6.heap.size):=(by have h1:=ext_sz HX6.out;have h2:=HSZS.out;have h3:=HSZK.out;show _ ≤ _;omega);clear hx6))
        obtain ⟨S9,hS9⟩ : ∃ S : Nat → Prop,S = fun b=>b = wr.heap.size:=⟨_,rfl⟩
        have HS7 : Hid (S9 wr.heap.size):=by show S9 _;rw [hS9]
        have HSI : Hid (∀ b,S9 b → b = wr.heap.size):=fun b hb=>by rw [hS9] at hb;exact hb
        obtain ⟨PR,hPR⟩ : ∃ p,p = Pre.same S9:=⟨_,rfl⟩
        have HPS : Hid (∀ w w',Same S9 w w' → PR.r w w'):=fun w w' h=>by rw [hPR];exact h
        have HPT : Hid (∀ w w',PR.r w w' → Same S9 w w'):=fun w w' h=>by rw [hPR] at h;exact h
        clear hPR hS9 e10 e11 b0 p0 f0 q0
        refine wp_region_planR PR (.read 0 (.read 1 (.read 2 (.read 3 (.read 4 (.read 5 (.read 7 (.alt 6 (.main 8 (.main 9 (.read 10 (.read 11 (.main 12 .done))))) (.main 8 (.main 6 (.main 9 (.read 10 (.read 11 (.main 12 .done)))))))))))))) (by kernel_rfl) (by kernel_rfl) ?_
        intro wD hxD
        have XR : Hid (PR.r wD wD):=PR.refl _
        have HBD:=hid (HB6.out.later hxD)
        have HSR : Hid (∀ b,S9 b → b < wD.heap.size):=fun b hb=>by have h1:=HSI.out b hb;have h2:=HBD.out.lt;omega
        have HNE : Hid (∀ b,S9 b → b ≠ w3.heap.size):=fun b hb=>by have h1:=HSI.out b hb;have h2:=HSZK.out;omega
        have HFD:=hid (HF6.out.later hxD)
        have HNO : Hid (∀ b,S9 b → some b ≠ (vs a).ownBlock):=fun b hb e=>by have h1:=HSI.out b hb;have h2:=((HFB.out.row a (by have:=HAN.out;omega)).lt e.symm).2;omega
        have HCD:=hid ((hxD.block w3.heap.size (by have:=HBZ.out;have:=HSZK.out;omega)).trans HC6.out)
        have P1 : Hid (wD.cell? ⟨w3.heap.size,a * 3 + 2,none⟩ = some (vs a)):=by show _ = _;rw [cell_of_row _ _ _ _ _ _ HCD.out];exact ctx_at2 HAN.out _ _ _
        have hblk : ∀ w',PR.r wD w' → w'.heap[wr.heap.size]? = some (.cells #[.string nm1,.int .i64 sv1] 41 (0,0)):=fun w' hk=>by rw [HPT.out _ _ hk _ HS7.out];exact HBD.out.blk
        have HROW:=hid (HFD.out.row a (by have:=HAN.out;omega))
        have HBD2 : Hid (wG.heap.size ≤ wD.heap.size):=Nat.le_trans HBZ.out (ext_sz hxD)
        repeat' (first
         | ((first | refine walksR_move rfl rfl ?_ | refine walksR_assign rfl rfl ?_ | refine walksR_skip rfl rfl ?_);simp only [Act.put,Act.eval,evs])
         | (refine walksR_read (v:=.agg #[.string nm1,.int .i64 sv1]) rfl rfl (fun w' hE=>run_load_row 41 (.tmp 16) rfl _ rfl _ _ _ (hblk w' (Pre.trans _ (Hid.out XR) hE)) Tryz.underlying41 rfl (by kernel_rfl)) ?_;simp only [Act.put,evp])
         | (refine walksR_unwanted rfl rfl ?_;simp only [Act.put,evp])
         | (refine walksR_read (v:=?_) rfl rfl (fun w' hE=>?_) ?_;rotate_left 1;(· ((try (have hEx:=Pre.trans _ (Hid.out XR) hE));go_simp;(try go_bits);with_reducible rfl));simp only [Act.put,evp])
         | (refine walksR_main rfl rfl (fun K hK=>?_);(first | (refine wp_load_cell 27 (.tmp 98) rfl ⟨w3.heap.size,a * 3 + 2,none⟩ rfl (vs a) (by first | exact P1.out | exact cell_later P1.out _ (Ext.alloc _ _)) (fun _=>by kernel_rfl) ?_) | (refine append_m1b_wp Tryz.underlying27 infoCut rfl (by decide) (.tmp 99) (.tmp 101) rfl (vs a) _ rfl HROW.out (u:=[.string nm1,.int .i64 sv1]) (⟨nm1,sv1⟩ : CutR) rfl (by intro c hc;simp at hc;rcases hc with rfl | rfl <;> rfl) rfl rfl (HLB.out a) ?_;intro v' w9 k1 k2 k3;have hs9 : PR.r _ w9:=HPS.out _ _ (fun b hb=>k2.block b (by have:=HSR.out b hb;simp only [World.alloc,Array.size_push];omega) (HNO.out b hb));obtain ⟨A6,c6,hv6,-⟩:=k1.row;obtain ⟨ln,hln⟩ : ∃ x,x = (lsB CS n3 k a ++ [(⟨nm1,sv1⟩ : CutR)]).length:=⟨_,rfl⟩;rw [← hln] at hv6;subst hv6;have HST:=hid (fam_step (show a < n3 + 1 by have:=HAN.out;omega) HCD.out HFD.out (fun b hb=>hb.elim) HBD2.out k1 k2 k3 (ctx_at2 HAN.out _ _ _) (ctx_set2 HAN.out _ _ _ _));have n1':=HST.out.1.1;have f1':=HST.out.1.2;clear k1 k2 k3 hln));refine hK _ _ (by first | assumption | exact Pre.refl _ _ | exact Hid.out HPS _ _ (Same.alloc_of (Hid.out HSR) _) | exact Hid.out HPS _ _ (Same.set_of (Hid.out HNE) _) | exact Hid.out HPS _ _ (Same.allocs_of (Hid.out HSR) _ _)) ?_;clear hK K;try simp only [Act.put,evp])
         | (refine walksR_alt ?_ ?_)
         | (refine walksR_main rfl rfl (fun K hK=>?_);go_wp2_with (fail);refine hK _ _ (by first | assumption | exact Pre.refl _ _ | exact Hid.out HPS _ _ (Same.alloc_of (Hid.out HSR) _) | exact Hid.out HPS _ _ (Same.set_of (Hid.out HNE) _) | exact Hid.out HPS _ _ (Same.allocs_of (Hid.out HSR) _ _)) ?_;clear hK K;try simp only [Act.put,evp]))
        all_goals
         refine walksR_done ?_
         go_wp2
         refine ⟨⟨k + 1,upd nm k nm1,upd vs a (.slice A6 ln c6),by omega,by go_num,HST.out.2.1,HNK.out,?_,?_,?_,?_,HST.out.2.2.2.2.2⟩,by simp [intOf];omega⟩
         ·show Fam _ _ _ _ _ _ _ _ _ _
          rw [ctxS_snoc HGJ.out (show a ≠ n3 by have:=HAN.out;omega) HU1.out]
          exact HST.out.2.2.1
         ·show _ = _
          rw [upd_other _ _ (show n3 ≠ a by have:=HAN.out;omega),HST.out.2.2.2.1 _ (by have:=HSZK.out;omega) (by have:=HSZK.out;omega),hxD.block _ (by have:=HBZ.out;have:=HSZK.out;omega)]
          exact HG6.out
         ·intro b hb
          rw [HST.out.2.2.2.1 b hb.1 hb.2.1,hxD.block b (by have:=HBZ.out;have:=hb.1;omega),HX6.out.block b (by have:=HSZS.out;have:=HSZK.out;have:=hb.1;omega),HSO.out b (by have:=HSZK.out;have:=hb.1;omega) hb.2.1]
          exact HSK.out.1 b hb
         ·have h1:=HST.out.2.2.2.2.1
          have h2:=HBD2.out
          omega
      ·obtain rfl : n3 = k:=by omega
       have hlt' : ¬ (n3 : Int) < (n3 : Int):=by omega
       clear hlt
       obtain ⟨wC,hwC⟩ : ∃ x,x = wr:=⟨_,rfl⟩
       subst hwC
       have HLF : Hid (∀ a,lsB CS n3 n3 a = if a = n3 then topS CS else ctxS CS a):=fun a=>by
        unfold lsB topS ctxS
        rw [List.take_of_length_le (Nat.le_of_eq HN3.out.symm)]
       have HSN : Hid (∀ a,a < n3 → ∃ A c,vs a = .slice A (ctxS CS a).length c ∧ Row Elem.cut (fun b=>wG.heap.size ≤ b ∧ b < wC.heap.size) wC A (ctxS CS a).length c (ctxS CS a)):=fun a ha=>by
        obtain ⟨A,c,q1,q2⟩:=HFB.out.rows (show a < n3 + 1 by omega)
        rw [HLF.out a,if_neg (by omega)] at q1 q2
        exact ⟨A,c,q1,q2.mono fun b hb h=>⟨by rcases h.1 with h | h;exact h.elim;exact h,hb⟩⟩
       have HTP : Hid (∃ A c,vs n3 = .slice A (topS CS).length c ∧ Row Elem.cut (fun b=>wG.heap.size ≤ b ∧ b < wC.heap.size) wC A (topS CS).length c (topS CS)):=by
        show ∃ _,_
        obtain ⟨A,c,q1,q2⟩:=HFB.out.rows (show n3 < n3 + 1 by omega)
        rw [HLF.out n3,if_pos rfl] at q1 q2
        exact ⟨A,c,q1,q2.mono fun b hb h=>⟨by rcases h.1 with h | h;exact h.elim;exact h,hb⟩⟩
       have HSZC : Hid (w.heap.size < w3.heap.size ∧ w3.heap.size < wA.heap.size ∧ wA.heap.size ≤ wB.heap.size ∧ wG.heap.size = wB.heap.size + 2 ∧ wG.heap.size ≤ wC.heap.size):=⟨HSZB.out.1,HSZK.out⟩
       have HVC : Hid (wC.heap[wB.heap.size]? = some (.cells (srvCells svn (fun _=>.slice none 0 0)) 36 (0,0))):=(HSK.out.1 _ ⟨by have:=HSZC.out;omega,by have:=HSZC.out;omega,by omega⟩).trans HVB.out
       have HEC : Hid (∀ i,i < n3 → ∃ A c,ve i = .slice A (ctxE L CS i).length c ∧ Row Elem.ent (fun b=>b < wB.heap.size ∧ b ≠ w3.heap.size ∧ b ≠ w.heap.size) wC A (ctxE L CS i).length c (ctxE L CS i)):=fun i hi=>by
        obtain ⟨A,c,q1,q2⟩:=HEN.out i hi
        exact ⟨A,c,q1,(q2.ext HXG.out).same (fun b hb=>HSK.out.1 b ⟨by have:=HSZC.out;have:=hb.1;omega,hb.2.1,by have:=hb.1;omega⟩)⟩
       have HRC : Hid (wC.heap[w.heap.size]? = some (.cells #[nilS,nilS] 29 (0,0))):=by
        show _ = _
        rw [HSK.out.1 _ ⟨by have:=HSZC.out;omega,by have:=HSZC.out;omega,by have:=HSZC.out;omega⟩,HXG.out.block _ (by have:=HSZC.out;omega),HSM.out.1 _ ⟨by have:=HSZC.out;omega,by have:=HSZC.out;omega⟩]
        exact HBA.out.blk
       have HLC : Hid (lsC L CS 0 = fun _=>[]):=by show _ = _;funext a;rfl
       have HX3C:=hid HSK.out.2.2
       have HNMF:=hid HNM.out
       clear HFB HLF
       go_wp2
       go_loopw [114] (fun i wq=>∃ (j : Nat) (vv : Nat → Value),j ≤ n3 ∧ i = .int .i64 j ∧ Hid (wq.heap[wB.heap.size]? = some (.cells (srvCells svn vv) 36 (0,0))) ∧ Hid (Fam Elem.cxt (fun b=>b < wC.heap.size ∧ b ≠ w.heap.size) 38 wB.heap.size w3 wC.heap.size svn wq vv (lsC L CS j)) ∧
        Hid (Same (fun b=>b < wC.heap.size ∧ b ≠ wB.heap.size) wC wq ∧ wC.heap.size ≤ wq.heap.size ∧ Ext w3 wq)) (fun i _=>n3 - (intOf i).toNat)
       case atStart=>exact ⟨0,fun _=>.slice none 0 0,by omega,rfl,HVC.out,by show Fam _ _ _ _ _ _ _ _ _ _;rw [HLC.out];exact Fam.nil HX3C.out (by have:=HSZC.out;omega) (by have:=HSZC.out;omega),fun _ _=>rfl,Nat.le_refl _,HX3C.out⟩
       case round=>
        obtain ⟨j,vv,hj,rfl,HVQ,HFV,HSQ⟩:=hrel
        have HSZQ : Hid (wC.heap.size ≤ wr.heap.size):=HSQ.out.2.1
        have HGQ : Hid (wr.heap[wB.heap.size + 1]? = some (.cells #[.slice (some ⟨wB.heap.size,0,none⟩) svn svn,vs n3] 29 (0,0))):=(HSQ.out.1 _ ⟨by have:=HSZC.out;omega,by omega⟩).trans HGK.out
        by_cases hlt : j < n3
        ·obtain ⟨b1,o1,v1,x1,rfl,g1,-,r1,q1⟩:=(HCR.out.same (w':=wr) (fun b hb=>HSQ.out.1 b ⟨by have:=HSZC.out;have:=hb.1;omega,by have:=HSZC.out;have:=hb.1;omega⟩)).at_ hlt
         obtain ⟨nm1,sv1⟩:=x1
         cases r1
         have e10:=q1 0 _ rfl
         have e11:=q1 1 _ rfl
         simp only [Elem.cut,CutR.cells,Nat.add_zero] at e10 e11
         have hsb:=HSB.out _ (List.mem_of_getElem? g1)
         simp only at hsb
         obtain ⟨t,ht⟩ : ∃ t : Nat,sv1 = (t : Int):=⟨sv1.toNat,by omega⟩
         subst ht
         have HTN : Hid (t < svn):=by show _ < _;omega
         have htn : (t : Int) < (svn : Int):=hsb.2
         have hlt' : (j : Int) < (n3 : Int):=by omega
         have HGJ:=hid g1
         have HJN : Hid (j < n3):=hlt
         have HNJ : Hid (nmAt CS j = nm1):=by show _ = _;unfold nmAt;rw [g1];rfl
         obtain ⟨Ae,ce,hve,hre⟩:=HEC.out j hlt
         obtain ⟨As,cs',hvs,hrs⟩:=HSN.out j hlt
         obtain ⟨ne,hne⟩ : ∃ x,x = (ctxE L CS j).length:=⟨_,rfl⟩
         obtain ⟨ns,hns⟩ : ∃ x,x = (ctxS CS j).length:=⟨_,rfl⟩
         rw [← hne] at hve hre
         rw [← hns] at hvs hrs
         have HRE:=hid hre
         have HRS:=hid hrs
         have HVE:=hid hve
         have HVS:=hid hvs
         have HBX:=hid (Bx.make (Ext.refl wr) #[.string nm1,.int .i64 (t : Int)] 41)
         have b1':=HBX.out.cell (i:=1) rfl
         have gq : (wr.alloc (.cells #[.string nm1,.int .i64 (t : Int)] 41)).cell? ⟨wB.heap.size + 1,0,none⟩ = some (.slice (some ⟨wB.heap.size,0,none⟩) svn svn):=by
          rw [cell_of_row _ _ _ _ _ _ ((HBX.out.ext.block _ (by have:=HSZC.out;have:=HSZQ.out;omega)).trans HGQ.out)]
          rfl
         have HCQ : Hid (wr.heap[w3.heap.size]? = some (.cells (ctxCells n3 nm ve vs) 38 (0,0))):=(HSQ.out.1 _ ⟨by have:=HSZC.out;omega,by have:=HSZC.out;omega⟩).trans HCK.out
         have HLT : Hid ((lsC L CS j t).length ≤ 4000000):=by
          show _ ≤ _
          unfold lsC
          have h1:=List.length_filter_le (fun i=>decide (((CS[i]?).map (·.server)).getD (-1) = (t : Int))) (List.range j)
          rw [List.length_map]
          rw [List.length_range] at h1
          omega
         clear q1 g1 hre hrs hve hvs hne hns hsb
         go_wp2
         obtain ⟨S9,hS9⟩ : ∃ S : Nat → Prop,S = fun b=>b = w3.heap.size:=⟨_,rfl⟩
         have HS7 : Hid (S9 w3.heap.size):=by show S9 _;rw [hS9]
         have HSI : Hid (∀ b,S9 b → b = w3.heap.size):=fun b hb=>by rw [hS9] at hb;exact hb
         obtain ⟨PR,hPR⟩ : ∃ p,p = Pre.same S9:=⟨_,rfl⟩
         have HPS : Hid (∀ w w',Same S9 w w' → PR.r w w'):=fun w w' h=>by rw [hPR];exact h
         have HPT : Hid (∀ w w',PR.r w w' → Same S9 w w'):=fun w w' h=>by rw [hPR] at h;exact h
         clear hPR hS9 e10 e11 b1' gq
         refine wp_region_planR PR (.read 0 (.read 1 (.read 2 (.read 3 (.read 5 (.read 6 (.read 7 (.read 8 (.alt 4 (.main 9 (.main 10 (.read 11 (.read 12 (.main 13 .done))))) (.main 9 (.main 4 (.main 10 (.read 11 (.read 12 (.main 13 .done))))))))))))))) (by kernel_rfl) (by kernel_rfl) ?_
         intro wD hxD
         have XR : Hid (PR.r wD wD):=PR.refl _
         have HXD:=hid (HBX.out.ext.trans hxD)
         have HSZD : Hid (wr.heap.size < wD.heap.size):=by show _ < _;have h1:=ext_sz hxD;simp only [World.alloc,Array.size_push] at h1;omega
         have HSR : Hid (∀ b,S9 b → b < wD.heap.size):=fun b hb=>by have h1:=HSI.out b hb;have:=HSZC.out;have:=HSZQ.out;have:=HSZD.out;omega
         have HNE : Hid (∀ b,S9 b → b ≠ wB.heap.size):=fun b hb=>by have h1:=HSI.out b hb;have h2:=HSZC.out;omega
         have HFD:=hid (HFV.out.later HXD.out)
         have HNO : Hid (∀ b,S9 b → some b ≠ (vv t).ownBlock):=fun b hb e=>by have h1:=HSI.out b hb;have h2:=HFV.out.high t HTN.out b e.symm;have:=HSZC.out;omega
         have HCD:=hid ((HXD.out.block w3.heap.size (by have:=HSZC.out;have:=HSZQ.out;omega)).trans HCQ.out)
         have HVD:=hid ((HXD.out.block wB.heap.size (by have:=HSZC.out;have:=HSZQ.out;omega)).trans HVQ.out)
         have P1 : Hid (wD.cell? ⟨wB.heap.size,t,none⟩ = some (vv t)):=by show _ = _;rw [cell_of_row _ _ _ _ _ _ HVD.out];exact srv_at HTN.out _
         have c0 : ∀ w',PR.r wD w' → w'.cell? ⟨w3.heap.size,j * 3,none⟩ = some (.string nm1):=fun w' hk=>by rw [World.cell?_of_block (HPT.out _ _ hk _ HS7.out),cell_of_row _ _ _ _ _ _ HCD.out,ctx_at0 HJN.out,HNMF.out j HJN.out,HNJ.out]
         have c1' : ∀ w',PR.r wD w' → w'.cell? ⟨w3.heap.size,j * 3 + 1,none⟩ = some (.slice Ae ne ce):=fun w' hk=>by rw [World.cell?_of_block (HPT.out _ _ hk _ HS7.out),cell_of_row _ _ _ _ _ _ HCD.out,ctx_at1 HJN.out,HVE.out]
         have c2' : ∀ w',PR.r wD w' → w'.cell? ⟨w3.heap.size,j * 3 + 2,none⟩ = some (.slice As ns cs'):=fun w' hk=>by rw [World.cell?_of_block (HPT.out _ _ hk _ HS7.out),cell_of_row _ _ _ _ _ _ HCD.out,ctx_at2 HJN.out,HVS.out]
         have HROW:=hid (HFD.out.row t HTN.out)
         have HEL : Hid (Elem.cxt.R (outer (fun b=>b < wC.heap.size ∧ b ≠ w.heap.size) (vv t) (some wB.heap.size)) wD [.string nm1,.slice Ae ne ce,.slice As ns cs'] (ctxAt L CS j)):=by
          refine ⟨Ae,ne,ce,As,ns,cs',by show _ = [Value.string (nmAt CS j),_,_];rw [HNJ.out],?_,?_⟩
          ·refine ((HRE.out.same (w':=wr) (fun b hb=>HSQ.out.1 b ⟨by have:=HSZC.out;have:=hb.1;omega,by have:=hb.1;omega⟩)).ext HXD.out).mono fun b _ hb=>⟨⟨by have:=HSZC.out;have:=hb.1;omega,hb.2.2⟩,fun e=>by have:=HFV.out.high t HTN.out b e.symm;have:=HSZC.out;have:=hb.1;omega,fun e=>by injection e with e;have:=hb.1;omega⟩
          ·refine ((HRS.out.same (w':=wr) (fun b hb=>HSQ.out.1 b ⟨hb.2,by have:=HSZC.out;have:=hb.1;omega⟩)).ext HXD.out).mono fun b _ hb=>⟨⟨hb.2,by have:=HSZC.out;have:=hb.1;omega⟩,fun e=>by have:=HFV.out.high t HTN.out b e.symm;have:=hb.2;omega,fun e=>by injection e with e;have:=HSZC.out;have:=hb.1;omega⟩
         have HBD2 : Hid (wC.heap.size ≤ wD.heap.size):=by show _ ≤ _;have:=HSZQ.out;have:=HSZD.out;omega
         repeat' (first
          | ((first | refine walksR_move rfl rfl ?_ | refine walksR_assign rfl rfl ?_ | refine walksR_skip rfl rfl ?_);simp only [Act.put,Act.eval,evs])
          | (refine walksR_unwanted rfl rfl ?_;simp only [Act.put,evp])
          | (refine walksR_read (v:=?_) rfl rfl (fun w' hE=>?_) ?_;rotate_left 1;(· ((try (have hEx:=Pre.trans _ (Hid.out XR) hE));go_simp;(try go_bits);with_reducible rfl));simp only [Act.put,evp])
          | (refine walksR_main rfl rfl (fun K hK=>?_);(first | (refine wp_load_cell 34 (.tmp 127) rfl ⟨wB.heap.size,t,none⟩ rfl (vv t) (by first | exact P1.out | exact cell_later P1.out _ (Ext.alloc _ _)) (fun _=>by kernel_rfl) ?_) | (refine append_m1b_wp Tryz.underlying34 infoCxtP rfl (by decide) (.tmp 128) (.tmp 133) rfl (vv t) _ rfl HROW.out (u:=[.string nm1,.slice Ae ne ce,.slice As ns cs']) (ctxAt L CS j) HEL.out (by intro c hc;simp at hc;rcases hc with rfl | rfl | rfl <;> rfl) rfl rfl HLT.out ?_;intro v' w9 k1 k2 k3;have hs9 : PR.r _ w9:=HPS.out _ _ (fun b hb=>k2.block b (by have:=HSR.out b hb;simp only [World.alloc,Array.size_push];omega) (HNO.out b hb));obtain ⟨A6,c6,hv6,-⟩:=k1.row;obtain ⟨ln,hln⟩ : ∃ x,x = (lsC L CS j t ++ [ctxAt L CS j]).length:=⟨_,rfl⟩;rw [← hln] at hv6;subst hv6;have HST:=hid (fam_step HTN.out HVD.out HFD.out (fun b hb=>hb.1) HBD2.out k1 k2 k3 (srv_at HTN.out _) (srv_set HTN.out _ _));have n1':=HST.out.1.1;have f1':=HST.out.1.2;clear k1 k2 k3 hln));refine hK _ _ (by first | assumption | exact Pre.refl _ _ | exact Hid.out HPS _ _ (Same.alloc_of (Hid.out HSR) _) | exact Hid.out HPS _ _ (Same.set_of (Hid.out HNE) _) | exact Hid.out HPS _ _ (Same.allocs_of (Hid.out HSR) _ _)) ?_;clear hK K;try simp only [Act.put,evp])
          | (refine walksR_alt ?_ ?_)
          | (refine walksR_main rfl rfl (fun K hK=>?_);go_wp2_with (fail);refine hK _ _ (by first | assumption | exact Pre.refl _ _ | exact Hid.out HPS _ _ (Same.alloc_of (Hid.out HSR) _) | exact Hid.out HPS _ _ (Same.set_of (Hid.out HNE) _) | exact Hid.out HPS _ _ (Same.allocs_of (Hid.out HSR) _ _)) ?_;clear hK K;try simp only [Act.put,evp]))
         all_goals
          refine walksR_done ?_
          go_wp2
          refine ⟨⟨j + 1,upd vv t (.slice A6 ln c6),by omega,by go_num,HST.out.2.1,?_,?_,?_,HST.out.2.2.2.2.2⟩,by simp [intOf];omega⟩
          ·show Fam _ _ _ _ _ _ _ _ _ _
           rw [srv_snoc HGJ.out rfl]
           exact HST.out.2.2.1
          ·intro b hb
           rw [HST.out.2.2.2.1 b hb.1 hb.2,HXD.out.block b (by have:=HSZQ.out;have:=hb.1;omega)]
           exact HSQ.out.1 b hb
          ·have h1:=HST.out.2.2.2.2.1
           have h2:=HBD2.out
           omega
        ·obtain rfl : n3 = j:=by omega
         have hlt' : ¬ (n3 : Int) < (n3 : Int):=by omega
         have HVR : Hid (∀ s,s < svn → ∃ A c,vv s = .slice A (srvF L CS s).length c ∧ Row Elem.cxt (fun b=>b ≠ w.heap.size) wr A (srvF L CS s).length c (srvF L CS s)):=fun s hs=>by
          obtain ⟨A,c,q1,q2⟩:=HFV.out.rows hs
          have e : lsC L CS n3 s = srvF L CS s:=by unfold lsC srvF;rw [← HN3.out]
          rw [e] at q1 q2
          exact ⟨A,c,q1,q2.mono fun b _ hb=>by
           rcases hb.1 with h | h
           ·exact h.2
           ·have:=HSZC.out;omega⟩
         have HSRV : Hid (Row Elem.srw (fun b=>b ≠ w.heap.size) wr (some ⟨wB.heap.size,0,none⟩) svn svn (splitF' L CS svn)):=by
          refine ⟨by simp [splitF'],Nat.le_refl _,by simp only [maxLen];have:=HSV.out;omega,(List.range svn).map (fun s=>[vv s]),by simp,?_,?_⟩
          ·refine .inr ⟨wB.heap.size,0,rfl,by have:=HSZC.out;omega,fun i u hi=>?_⟩
           have e : ((List.range svn).map (fun s=>[vv s])).flatten = (List.range svn).map vv:=by
            rw [← List.flatMap_def]
            induction List.range svn with
            | nil=>rfl
            | cons a t ih=>simp [ih]
           rw [e,List.getElem?_map] at hi
           by_cases h : i < svn
           ·rw [List.getElem?_eq_getElem (by simpa using h)] at hi
            simp at hi
            subst hi
            rw [Nat.zero_add,cell_of_row _ _ _ _ _ _ HVQ.out]
            exact srv_at h _
           ·rw [List.getElem?_eq_none (by simpa using h)] at hi
            cases hi
          ·intro i v x hi hx
           by_cases h : i < svn
           ·unfold splitF' at hx
            rw [List.getElem?_map,List.getElem?_eq_getElem (by simpa using h)] at hi hx
            simp at hi hx
            subst hi hx
            obtain ⟨A,c,q1,q2⟩:=HVR.out i h
            exact ⟨A,_,c,by rw [q1],q2⟩
           ·rw [List.getElem?_map,List.getElem?_eq_none (by simpa using h)] at hi
            cases hi
         obtain ⟨At,ct,hvt,htr⟩:=HTP.out
         obtain ⟨nt,hnt⟩ : ∃ x,x = (topS CS).length:=⟨_,rfl⟩
         rw [← hnt] at hvt htr
         rw [hvt] at HGQ
         have HTOP : Hid (Row Elem.cut (fun b=>b ≠ w.heap.size) wr At nt ct (topS CS)):=(htr.same (w':=wr) (fun b hb=>HSQ.out.1 b ⟨hb.2,by have:=HSZC.out;have:=hb.1;omega⟩)).mono fun b _ hb=>by have:=HSZC.out;have:=hb.1;omega
         have HBE:=hid (show Bx w wr w.heap.size 29 #[nilS,nilS] from ⟨Nat.le_refl _,(HSQ.out.1 _ ⟨by have:=HSZC.out;omega,by have:=HSZC.out;omega⟩).trans HRC.out,HX03.out.trans HSQ.out.2.2⟩)
         have r0:=HBE.out.cell (i:=0) rfl
         have r1:=HBE.out.cell (i:=1) rfl
         have f0:=HBE.out.frozen 0
         have f1:=HBE.out.frozen 1
         have g0 : wr.cell? ⟨wB.heap.size + 1,0,none⟩ = some (.slice (some ⟨wB.heap.size,0,none⟩) svn svn):=(cell_of_row wr _ 0 _ _ (0,0) HGQ.out).trans rfl
         have g1 : wr.cell? ⟨wB.heap.size + 1,1,none⟩ = some (.slice At nt ct):=(cell_of_row wr _ 1 _ _ (0,0) HGQ.out).trans rfl
         clear hvt htr hnt
         go_wp2
         (try simp only [Exit.inBlock,Exit.then])
         have HBF:=(HBE.out.set0 (.slice (some ⟨wB.heap.size,0,none⟩) svn svn)).set1 (.slice At nt ct)
         refine ret_cell_tmp _ rfl rfl HBF Tryz.underlying29 rfl (by kernel_rfl) rfl ?_
         have hno : ¬ (w.heap.size ≠ w.heap.size):=fun h=>h rfl
         exact HFIN.out _ _ _ _ _ (((HSRV.out.aside hno 0 _).aside hno 1 _).mono fun _ _ _=>trivial) (((HTOP.out.aside hno 0 _).aside hno 1 _).mono fun _ _ _=>trivial) HBF.ext
  ·have hri : ∀ g Bt es clock w',Ext w w' → TreeAt (treeS (fun b=>S b ∧ b < w.heap.size) (w.alloc (.cells #[nilS,nilS] 29)) Bt) w' g Bt es clock l → Calls Tryz.prog 14 #[.pointer (some ⟨g,0,none⟩),.slice B m d,.int .i64 sv] w' fun e w''=>e = .returned (.bool false) ∧ Ext w' w'':=fun g Bt es clock w' hx ht=>(HRI g Bt es clock w' hx ht).mono fun e w'' ⟨b,h1,h2,h3⟩=>⟨by
    cases b with
    | true=>exact absurd (h2.1 rfl) hr
    | false=>exact h1,h3⟩
   have HE : Hid (¬ (OkOf l ∧ RightOk l cs sv)):=fun h=>hr h.2
   clear HRI hr
   go_enter Tryz.func7,Tryz.ntmps7
   go_wp2_with (first
    | (go_at_call 13;(with_reducible refine hof.mono ?_);rintro e w1 ⟨g,Bt,es,clock,rfl,ht1,hx1⟩;have HT1:=hid ht1;have HB1:=hid (HB0.out.later hx1);clear ht1 hx1)
    | (go_at_call 14;(with_reducible refine (hri _ _ _ _ _ HB1.out.ext HT1.out).mono ?_);rintro e w2 ⟨rfl,hx2⟩;have HB2:=hid (HB1.out.later hx2);have r0:=HB2.out.cell (i:=0) rfl;have r1:=HB2.out.cell (i:=1) rfl;have f0:=HB2.out.frozen 0;have f1:=HB2.out.frozen 1;clear hx2))
   (try simp only [Exit.inBlock,Exit.then])
   have HBF:=(HB2.out.set0 nilS).set1 nilS
   refine ret_cell_tmp _ rfl rfl HBF Tryz.underlying29 rfl (by kernel_rfl) rfl ?_
   exact .inr ⟨HE.out,1,.inr ⟨HOK.out,rfl⟩,rfl,HBF.ext⟩
 ·have hof : Calls Tryz.prog 13 #[.slice A n c] (w.alloc (.cells #[nilS,nilS] 29)) fun e w''=>e = .returned (.tuple #[.pointer none,.int .i64 2]) ∧ Ext (w.alloc (.cells #[nilS,nilS] 29)) w'':=HOF.mono fun e w'' h=>by
   rcases h with ⟨h1,-⟩ | ⟨-,h1,h2⟩
   ·exact absurd h1 hok
   ·exact ⟨h1,h2⟩
  have HE : Hid (¬ (OkOf l ∧ RightOk l cs sv)):=fun h=>hok h.1
  have HNO:=hid hok
  clear HOF hok
  go_enter Tryz.func7,Tryz.ntmps7
  go_wp2_with (go_at_call 13;(with_reducible refine hof.mono ?_);rintro e w1 ⟨rfl,hx1⟩;have HB1:=hid (HB0.out.later hx1);have r0:=HB1.out.cell (i:=0) rfl;have r1:=HB1.out.cell (i:=1) rfl;have f0:=HB1.out.frozen 0;have f1:=HB1.out.frozen 1;clear hx1)
  (try simp only [Exit.inBlock,Exit.then])
  have HBF:=(HB1.out.set0 nilS).set1 nilS
  refine ret_cell_tmp _ rfl rfl HBF Tryz.underlying29 rfl (by kernel_rfl) rfl ?_
  exact .inr ⟨HE.out,2,.inl ⟨HNO.out,rfl⟩,rfl,HBF.ext⟩
end Go.Proofs.YtahahafhendgoaaGreatDoor
namespace Go.Proofs.YtahahafhendgoaaGreatDoor
open Go.RowKit
set_option maxRecDepth 100000
theorem few15_any {S S2 : Nat → Prop} {A : Option Addr} {n c : Nat} {l : List Ent} {B : Option Addr} {m d : Nat} {cs : List CutR} {w : World} (h : Row Elem.ent S w A n c l) (hc : Row Elem.cut S2 w B m d cs) :
 Calls Tryz.prog 6 #[.slice A n c,.slice B m d] w (BoolSays w):=by
 have HR:=hid hc
 have hm : m ≤ 9223372036854775807:=by have:=hc.cap;have:=hc.most;simp only [maxLen] at this;omega
 have hn : n ≤ 9223372036854775807:=by have:=h.cap;have:=h.most;simp only [maxLen] at this;omega
 have HSM : ∀ w',Ext w w' → Calls Tryz.prog 12 #[.slice A n c] w' (BoolSays w'):=fun w' hx=>rsmall09_any (h.ext hx)
 unfold BoolSays at HSM
 clear h hc
 show Calls _ _ _ _ (fun e w'=>BoolSays w e w')
 go_enter Tryz.func6,Tryz.ntmps6
 go_wp2
 go_loopw [8] (fun i wr=>∃ j : Nat,j ≤ m ∧ i = .int .i64 j ∧ Hid (Ext w wr)) (fun i _=>m - (intOf i).toNat)
 case atStart=>exact ⟨0,by omega,rfl,Ext.refl w⟩
 case round=>
  obtain ⟨j,hj,rfl,hx⟩:=hrel
  by_cases hlt : j < m
  ·obtain ⟨b1,o1,v1,x1,rfl,g1,-,r1,q1⟩:=(HR.out.ext hx.out).at_ hlt
   obtain ⟨nm1,sv1⟩:=x1
   cases r1
   have e10:=q1 0 _ rfl
   simp only [Elem.cut,CutR.cells,Nat.add_zero] at e10
   have hlt' : (j : Int) < (m : Int):=by omega
   clear q1 g1
   by_cases h60 : 60 ≤ j
   ·have h60' : (60 : Int) ≤ (j : Int):=by omega
    clear h60
    go_wp2
    go_ret
    exact BoolSays.of rfl hx.out
   ·have h60' : ¬ (60 : Int) ≤ (j : Int):=by omega
    clear h60
    by_cases h3 : 3000 < nm1.size
    ·have h3' : (3000 : Int) < (nm1.size : Int):=by omega
     clear h3
     go_wp2
     go_ret
     exact BoolSays.of rfl hx.out
    ·have h3' : ¬ (3000 : Int) < (nm1.size : Int):=by omega
     clear h3
     go_wp2
     exact ⟨⟨j + 1,by omega,by go_num,hx.out⟩,by simp [intOf];omega⟩
  ·obtain rfl : j = m:=by omega
   have hlt' : ¬ (j : Int) < (j : Int):=by omega
   by_cases hh : n ≤ 100
   ·have hh' : (n : Int) ≤ 100:=by omega
    clear hh
    go_wp2_with (go_at_call 12;(with_reducible refine (HSM _ hx.out).mono ?_);rintro e w2 ⟨sm,rfl,hx2⟩;have HX2:=hid (hx.out.trans hx2);clear hx2;cases sm)
    all_goals go_ret
    all_goals exact BoolSays.of rfl HX2.out
   ·have hh' : ¬ (n : Int) ≤ 100:=by omega
    clear hh
    go_wp2_with (go_at_call 12;(with_reducible refine (HSM _ hx.out).mono ?_);rintro e w2 ⟨sm,rfl,hx2⟩;have HX2:=hid (hx.out.trans hx2);clear hx2;cases sm)
    all_goals go_ret
    all_goals exact BoolSays.of rfl HX2.out
def wk15 : Ent:=⟨⟨#[100,99,61,120]⟩,[wakeDC,wakeOC]⟩
def wkC : CutR:=⟨⟨#[100,99,61,120]⟩,0⟩
theorem wk_formed : formedE [100,99,61,120] [wakeDC,wakeOC] = true:=by decide +kernel
theorem wk_alias : (aliasE [wakeDC,wakeOC]).2 = false:=by decide +kernel
theorem wk_up : deepF [wkC] [] = -1:=by decide +kernel
theorem wk_fits : EntFits wk15:=⟨by decide,by decide,by decide,by decide,by decide⟩
theorem wk_ok : OkOf [wk15]:=by
 refine ⟨by decide,fun i e hi he=>?_,fun e he=>?_⟩
 ·obtain rfl : i = 0:=by simp at hi;omega
  simp at he
  subst he
  exact ⟨rfl,wk_formed⟩
 ·simp at he
  subst he
  unfold aboveE
  rw [bys_str,show bys wk15.name = [100,99,61,120] from rfl,wake_parent,if_pos rfl]
theorem wk_right : RightOk [wk15] [wkC] 1:=by
 refine ⟨⟨by decide,by decide⟩,by decide,fun c hc=>?_,List.pairwise_singleton _ _,fun e he _=>⟨wkC,by simp,?_⟩⟩
 ·simp at hc
  subst hc
  exact ⟨by decide,by decide,wk15,by simp,rfl,wk_alias⟩
 ·simp at he
  subst he
  rfl
theorem wk_top : (topS (sortN nmQ [wkC])).length = 1:=by
 have e : sortN nmQ [wkC] = [wkC]:=rfl
 have e2 : upC [wkC] wkC = -1:=by
  unfold upC
  rw [show nmQ wkC = [100,99,61,120] from rfl,wake_parent]
  exact wk_up
 rw [e]
 unfold topS
 rw [List.filter_cons_of_pos (by rw [e2];decide)]
 rfl
theorem wk_rows {w1 w2 w3 w4 w5 w6 : World} (e2 : w2 = w1.alloc (.cells #[.string ⟨#[120]⟩] 9)) (e3 : w3 = w2.alloc (.cells #[.string ⟨#[111]⟩] 9))
 (e4 : w4 = w3.alloc (.cells #[.string ⟨#[100,99]⟩,.slice (some ⟨w1.heap.size,0,none⟩) 1 1,.string ⟨#[111,98,106,101,99,116,67,108,97,115,115]⟩,.slice (some ⟨w1.heap.size + 1,0,none⟩) 1 1] 53))
 (e5 : w5 = w4.alloc (.cells #[.string ⟨#[100,99,61,120]⟩,.slice (some ⟨w1.heap.size + 1 + 1,0,none⟩) 2 2] 48)) (e6 : w6 = w5.alloc (.cells #[.string ⟨#[100,99,61,120]⟩,.int .i64 0] 41)) :
 Ext w1 w6 ∧ Row Elem.ent (fun _=>True) w6 (some ⟨w1.heap.size + 1 + 1 + 1,0,none⟩) 1 1 [wk15] ∧ Row Elem.cut (fun _=>True) w6 (some ⟨w1.heap.size + 1 + 1 + 1 + 1,0,none⟩) 1 1 [wkC]:=by
 have s2 : w2.heap.size = w1.heap.size + 1:=by rw [e2];simp
 have x2 : Ext w1 w2:=by rw [e2];exact Ext.alloc _ _
 have s3 : w3.heap.size = w1.heap.size + 1 + 1:=by rw [e3];simp [s2]
 have x3 : Ext w2 w3:=by rw [e3];exact Ext.alloc _ _
 have s4 : w4.heap.size = w1.heap.size + 1 + 1 + 1:=by rw [e4];simp [s3]
 have x4 : Ext w3 w4:=by rw [e4];exact Ext.alloc _ _
 have s5 : w5.heap.size = w1.heap.size + 1 + 1 + 1 + 1:=by rw [e5];simp [s4]
 have x5 : Ext w4 w5:=by rw [e5];exact Ext.alloc _ _
 have x6 : Ext w5 w6:=by rw [e6];exact Ext.alloc _ _
 have r1 : Row Elem.str (fun _=>True) w2 (some ⟨w1.heap.size,0,none⟩) 1 1 [⟨#[120]⟩]:=by rw [e2];exact Row.one (E:=Elem.str) (S:=fun _=>True) (v:=[.string ⟨#[120]⟩]) rfl _
 have r2 : Row Elem.str (fun _=>True) w3 (some ⟨w1.heap.size + 1,0,none⟩) 1 1 [⟨#[111]⟩]:=by rw [e3,← s2];exact Row.one (E:=Elem.str) (S:=fun _=>True) (v:=[.string ⟨#[111]⟩]) rfl _
 have q1:=r1.ext x3
 have r3 : Row Elem.att (fun _=>True) w4 (some ⟨w1.heap.size + 1 + 1,0,none⟩) 2 2 [wakeDC,wakeOC]:=by
  rw [e4,← s3]
  refine Row.lit2 (E:=Elem.att) (vss:=[[.string ⟨#[100,99]⟩,.slice (some ⟨w1.heap.size,0,none⟩) 1 1],[.string ⟨#[111,98,106,101,99,116,67,108,97,115,115]⟩,.slice (some ⟨w1.heap.size + 1,0,none⟩) 1 1]]) (l:=[wakeDC,wakeOC]) (fun i v x hv hx=>?_) rfl (by decide) _
  rcases i with _ | _ | i
  ·simp at hv hx;subst hv hx;exact ⟨_,_,_,rfl,q1⟩
  ·simp at hv hx;subst hv hx;exact ⟨_,_,_,rfl,r2⟩
  ·simp at hv
 have r4 : Row Elem.ent (fun _=>True) w5 (some ⟨w1.heap.size + 1 + 1 + 1,0,none⟩) 1 1 [wk15]:=by
  rw [e5,← s4]
  exact Row.one (E:=Elem.ent) (S:=fun _=>True) (v:=[.string ⟨#[100,99,61,120]⟩,.slice (some ⟨w1.heap.size + 1 + 1,0,none⟩) 2 2]) ⟨_,_,_,rfl,r3⟩ _
 have r5 : Row Elem.cut (fun _=>True) w6 (some ⟨w1.heap.size + 1 + 1 + 1 + 1,0,none⟩) 1 1 [wkC]:=by
  rw [e6,← s5]
  exact Row.one (E:=Elem.cut) (S:=fun _=>True) (v:=[.string ⟨#[100,99,61,120]⟩,.int .i64 0]) (show Elem.cut.R (fun _=>True) _ [.string ⟨#[100,99,61,120]⟩,.int .i64 0] wkC from rfl) _
 exact ⟨x2.trans (x3.trans (x4.trans (x5.trans x6))),r4.ext x6,r5⟩
theorem awake15_any (w : World) (hG : Gu w) : Calls Tryz.prog 5 #[] w fun e w'=>e = .returned (.bool true) ∧ Ext w w':=by
 have HSP : ∀ A1 B1 w6,Ext w w6 ∧ Row Elem.ent (fun _=>True) w6 A1 1 1 [wk15] ∧ Row Elem.cut (fun _=>True) w6 B1 1 1 [wkC] → Calls Tryz.prog 7 #[.slice A1 1 1,.slice B1 1 1,.int .i64 1] w6 fun e w'=>∃ A B d,e = .returned (.tuple #[.agg #[.slice A 1 1,.slice B 1 d],.int .i64 0]) ∧ Ext w6 w':=fun A1 B1 w6 hh=>
  (psplit_any hh.2.1 hh.2.2 1 (hG.ext hh.1) (fun e he=>by simp at he;subst he;exact wk_fits) (by decide) (by decide)).mono fun e w' h=>by
    rcases h with ⟨-,-,A,B,m,d,h1,-,h3,h4⟩ | ⟨h1,-⟩
    ·obtain rfl : m = 1:=by have:=h3.len;rw [wk_top] at this;exact this
     exact ⟨A,B,d,h1,h4⟩
    ·exact absurd ⟨wk_ok,wk_right⟩ h1
 clear hG
 go_enter Tryz.func5,Tryz.ntmps5
 go_wp2_with (go_at_call 7;(with_reducible refine (HSP _ _ _ (wk_rows rfl rfl rfl rfl rfl)).mono ?_);rintro e w7 ⟨A7,B7,d7,rfl,hx7⟩;have HX7:=hid ((wk_rows (w1:=w) rfl rfl rfl rfl rfl).1.trans hx7);have HBX:=hid (Bx.make (Ext.refl w7) #[.slice A7 1 1,.slice B7 1 d7] 29);have c0:=HBX.out.cell (i:=0) rfl;have c1:=HBX.out.cell (i:=1) rfl;clear hx7)
 go_ret
 exact ⟨rfl,HX7.out.trans HBX.out.ext⟩
theorem knows_under {l : List Ent} {cs : List CutR} {t : Nat} (hs : ∀ c ∈ cs,selfN (nmQ c) = true) {x : Cxt} (hx : x ∈ srvF l cs t) {c : CutR} (hc : c ∈ x.subs) : underS (bys c.name) (bys x.name) = true ∧ c.name ≠ x.name:=by
 unfold srvF at hx
 obtain ⟨i,hi,rfl⟩:=List.mem_map.1 hx
 have hil:=List.mem_range.1 (List.mem_filter.1 hi).1
 have hc' : c ∈ ctxS cs i:=hc
 unfold ctxS at hc'
 obtain ⟨hc1,hc2⟩:=List.mem_filter.1 hc'
 have hu : upC cs c = (i : Int):=by simpa using hc2
 unfold upC at hu
 have hself:=hs c hc1
 obtain ⟨h1,-,-⟩:=self_parts hself
 rcases deepF_is cs (parentS (nmQ c)).1 with ⟨h,-⟩ | ⟨k,dd,h,hk,hud,-⟩
 ·omega
 ·obtain rfl : k = i:=by omega
  have hn : (ctxAt l cs k).name = dd.name:=by show nmAt cs k = _;unfold nmAt;rw [hk];rfl
  rw [hn]
  refine ⟨under_parent h1 hud,fun e=>?_⟩
  have:=under_parent_deep h1 (depth_pos hself) hud
  have e2 : nmQ c = nmQ dd:=by show bys _ = bys _;rw [e]
  rw [e2] at this
  omega
def subN (x : List Cxt) : Nat:=(x.map fun y=>y.subs.length).sum
theorem sum_take_le (f : List Nat) (j : Nat) : (f.take j).sum ≤ f.sum:=by
 have:=List.take_append_drop j f
 calc (f.take j).sum ≤ (f.take j).sum + (f.drop j).sum:=Nat.le_add_right _ _
  _ = f.sum:=by rw [← List.sum_append,this]
theorem sum_take_next {f : List Nat} {j : Nat} {x : Nat} (h : f[j]? = some x) : (f.take (j + 1)).sum = (f.take j).sum + x:=by
 rw [List.take_add_one,h]
 simp
theorem partknows_any {S S2 : Nat → Prop} {A : Option Addr} {n c : Nat} {l : List Ent} {B : Option Addr} {m d : Nat} {cs : List CutR} {w : World} (h : Row Elem.ent S w A n c l) (hc : Row Elem.cut S2 w B m d cs) (sv : Int) (hG : Gu w) (hf : ∀ e ∈ l,EntFits e) (hs1 : -9223372036854775808 ≤ sv) (hs2 : sv ≤ 9223372036854775807) (hcl : cs.length ≤ 2000000) :
 Calls Tryz.prog 3 #[.slice A n c,.slice B m d,.int .i64 sv] w fun e w'=>e = .returned (.bool true) ∧ Ext w w':=by
 have HG:=hid hG
 have HML:=hid hc.len
 have HAW : ∀ w',Ext w w' → Calls Tryz.prog 5 #[] w' fun e w''=>e = .returned (.bool true) ∧ Ext w' w'':=fun w' hx=>awake15_any w' (hG.ext hx)
 have HFW : ∀ w',Ext w w' → Calls Tryz.prog 6 #[.slice A n c,.slice B m d] w' (BoolSays w'):=fun w' hx=>few15_any (h.ext hx) (hc.ext hx)
 unfold BoolSays at HFW
 have HCU : ∀ w',Ext w w' → Calls Tryz.prog 8 #[.slice B m d] w' fun e w''=>∃ A' n' c',e = .returned (.slice A' n' c') ∧ Row Elem.cut (fun b=>w'.heap.size ≤ b) w'' A' n' c' cs ∧ Ext w' w'':=fun w' hx=>cuts15_any (hc.ext hx) hcl
 have HSP : ∀ A' n' c' w',Ext w w' → Row Elem.cut (fun b=>w.heap.size ≤ b) w' A' n' c' cs → Calls Tryz.prog 7 #[.slice A n c,.slice A' n' c',.int .i64 sv] w' (PSplitSays w' l cs sv):=fun A' n' c' w' hx hr=>psplit_any (h.ext hx) hr sv (HG.out.ext hx) hf hs1 hs2
 by_cases hk : OkOf l ∧ RightOk l cs sv
 ·have hsp : ∀ A' n' c' w',Ext w w' → Row Elem.cut (fun b=>w.heap.size ≤ b) w' A' n' c' cs → Calls Tryz.prog 7 #[.slice A n c,.slice A' n' c',.int .i64 sv] w' fun e w''=>∃ A B m d,e = .returned (.tuple #[.agg #[.slice A sv.toNat sv.toNat,.slice B m d],.int .i64 0]) ∧ Row Elem.srw (fun _=>True) w'' A sv.toNat sv.toNat (splitF' (sortN nmE l) (sortN nmQ cs) sv.toNat) ∧ Row Elem.cut (fun _=>True) w'' B m d (topS (sortN nmQ cs)) ∧ Ext w' w'':=fun A' n' c' w' hx hr=>(HSP A' n' c' w' hx hr).mono fun e w'' h=>by
   rcases h with ⟨-,-,h⟩ | ⟨h1,-⟩
   ·exact h
   ·exact absurd hk h1
  have hN:=ok_named hk.1
  have hperm:=sorted_right hN hk.2
  have hself : ∀ c ∈ sortN nmQ cs,selfN (nmQ c) = true:=fun c hc=>hk.2.self hN c (hperm.mem_iff.1 hc)
  have hsb : ∀ c ∈ sortN nmQ cs,0 ≤ c.server ∧ c.server < (sv.toNat : Int):=fun c hc=>by
   have h1:=hk.2.cut c (hperm.mem_iff.1 hc)
   have h2:=hk.2.srv
   exact ⟨h1.1,by have:=h1.2.1;omega⟩
  have htot:=knows_all (l:=sortN nmE l) (cs:=sortN nmQ cs) (n:=sv.toNat) hsb
  rw [hperm.length_eq] at htot
  have HTOT : Hid ((topS (sortN nmQ cs)).length + ((splitF' (sortN nmE l) (sortN nmQ cs) sv.toNat).map subN).sum = cs.length):=htot
  have HCF : Hid (cs.length ≤ 30):=hk.2.few
  have HUN : Hid (∀ x ∈ splitF' (sortN nmE l) (sortN nmQ cs) sv.toNat,∀ y ∈ x,∀ c ∈ y.subs,underS (bys c.name) (bys y.name) = true ∧ c.name ≠ y.name):=fun x hx y hy c hc=>by
   unfold splitF' at hx
   obtain ⟨s,-,rfl⟩:=List.mem_map.1 hx
   exact knows_under hself hy hc
  obtain ⟨N,hNn⟩ : ∃ N,N = sv.toNat:=⟨_,rfl⟩
  have HNN : Hid (N ≤ 8):=by show _ ≤ _;have:=hk.2.srv;omega
  generalize splitF' (sortN nmE l) (sortN nmQ cs) sv.toNat = sp at *
  generalize topS (sortN nmQ cs) = tp at *
  rw [← hNn] at hsp
  clear HSP h hc hG hf hcl hk hN hperm hself hsb htot hNn
  go_enter Tryz.func3,Tryz.ntmps3
  go_wp2_with (first
   | (go_at_call 5;first
    | ((with_reducible refine (HAW _ (Ext.refl _)).mono ?_);rintro e w1 ⟨rfl,hx1⟩;have HX1:=hid hx1;clear hx1)
    | ((with_reducible refine (HAW _ HX2.out).mono ?_);rintro e w3 ⟨rfl,hx3⟩;have HX3:=hid (HX2.out.trans hx3);clear hx3))
   | (go_at_call 6;(with_reducible refine (HFW _ HX1.out).mono ?_);rintro e w2 ⟨sm,rfl,hx2⟩;have HX2:=hid (HX1.out.trans hx2);clear hx2;cases sm)
   | (go_at_call 8;(with_reducible refine (HCU _ HX2.out).mono ?_);rintro e w4 ⟨A4,n4,c4,rfl,hr4,hx4⟩;have HR4:=hid (hr4.mono (T:=fun b=>w.heap.size ≤ b) fun b _ hb=>Nat.le_trans (ext_sz HX2.out) hb);have HX4:=hid (HX2.out.trans hx4);clear hr4 hx4)
   | (go_at_call 7;(with_reducible refine (hsp _ _ _ _ HX4.out HR4.out).mono ?_);rintro e w5 ⟨A5,B5,m5,d5,rfl,hr5,ht5,hx5⟩;have HBX:=hid (Bx.make (Ext.refl w5) #[.slice A5 N N,.slice B5 m5 d5] 29);have HX5:=hid (HX4.out.trans (hx5.trans HBX.out.ext));have HR5:=hid (hr5.ext HBX.out.ext);have HT5:=hid ht5.len;have p0:=HBX.out.cell (i:=0) rfl;have p1:=HBX.out.cell (i:=1) rfl;clear hr5 ht5 hx5))
  ·go_ret
   exact ⟨rfl,HX3.out⟩
  have hn8 : N ≤ 8:=HNN.out
  have hm30 : m5 ≤ 30:=by have h1:=HT5.out;have h2:=HTOT.out;have h3:=HCF.out;omega
  clear HAW HFW HCU hsp
  go_loopw [9,39] (fun v i wr=>∃ j : Nat,j ≤ N ∧ i = .int .i64 j ∧ v = .int .i64 ((m5 + ((sp.take j).map subN).sum : Nat) : Int) ∧ Hid (Ext (w5.alloc (.cells #[.slice A5 N N,.slice B5 m5 d5] 29)) wr)) (fun _ i _=>N - (intOf i).toNat)
  case atStart=>exact ⟨0,by omega,rfl,by simp,Ext.refl _⟩
  case round=>
   obtain ⟨j,hj,rfl,rfl,hx⟩:=hrel
   by_cases hlt : j < N
   ·obtain ⟨b1,o1,v1,x1,rfl,g1,-,⟨A1,n1,c1,rfl,r1⟩,q1⟩:=(HR5.out.ext hx.out).at_ hlt
    have e1:=q1 0 _ rfl
    simp only [Elem.srw,Elem.slc,Nat.add_zero,Nat.mul_one] at e1
    have hlt' : (j : Int) < (N : Int):=by omega
    have HR1:=hid r1
    have HN1:=hid r1.len
    have HMX:=hid (List.mem_of_getElem? g1)
    have hT1 : ((sp.take (j + 1)).map subN).sum = ((sp.take j).map subN).sum + subN x1:=by
     have:=sum_take_next (f:=sp.map subN) (j:=j) (x:=subN x1) (by rw [List.getElem?_map,g1];rfl)
     rwa [← List.map_take,← List.map_take] at this
    have hT2 : ((sp.take (j + 1)).map subN).sum ≤ (sp.map subN).sum:=by
     have:=sum_take_le (sp.map subN) (j + 1)
     rwa [← List.map_take] at this
    obtain ⟨T0,hT0⟩ : ∃ T,T = m5 + ((sp.take j).map subN).sum:=⟨_,rfl⟩
    have HTJ : Hid (m5 + ((sp.take (j + 1)).map subN).sum = T0 + subN x1):=by show _ = _;omega
    have HB1 : Hid (T0 + subN x1 ≤ 30):=by show _ ≤ _;have h1:=HT5.out;have h2:=HTOT.out;have h3:=HCF.out;omega
    rw [← hT0]
    have hn1 : n1 ≤ 9223372036854775807:=by have:=r1.cap;have:=r1.most;simp only [maxLen] at this;omega
    have q0':=cell_later p0 _ hx.out
    clear q1 g1 r1 hT1 hT2 hT0
    obtain ⟨wo,hwo⟩ : ∃ x,x = wr:=⟨_,rfl⟩
    subst hwo
    go_wp2
    go_loopw [9,49] (fun v i wr=>∃ k : Nat,k ≤ n1 ∧ i = .int .i64 k ∧ v = .int .i64 ((T0 + subN (x1.take k) : Nat) : Int) ∧ Hid (Ext wo wr)) (fun _ i _=>n1 - (intOf i).toNat)
    case atStart=>exact ⟨0,by omega,rfl,by simp [subN],Ext.refl _⟩
    case round=>
     obtain ⟨k,hk,rfl,rfl,hy⟩:=hrel
     have q0:=cell_later q0' _ hy.out
     have e2:=cell_later e1 _ hy.out
     by_cases hlt2 : k < n1
     ·obtain ⟨b2,o2,v2,x2,rfl,g2,-,⟨A2,n2,c2,B3,m3,d3,rfl,r2,s2⟩,q2⟩:=(HR1.out.ext hy.out).at_ hlt2
      have e20:=q2 0 _ rfl
      have e21:=q2 1 _ rfl
      have e22:=q2 2 _ rfl
      simp only [Elem.cxt,Nat.add_zero] at e20 e21 e22
      have hlt2' : (k : Int) < (n1 : Int):=by omega
      have HS2:=hid s2
      have HM3:=hid s2.len
      have hm3 : m3 ≤ 9223372036854775807:=by have:=s2.cap;have:=s2.most;simp only [maxLen] at this;omega
      have HUX : Hid (∀ c ∈ x2.subs,underS (bys c.name) (bys x2.name) = true ∧ c.name ≠ x2.name):=HUN.out x1 HMX.out x2 (List.mem_of_getElem? g2)
      have hK1 : subN (x1.take (k + 1)) = subN (x1.take k) + m3:=by
       have:=sum_take_next (f:=x1.map fun y=>y.subs.length) (j:=k) (x:=x2.subs.length) (by rw [List.getElem?_map,g2];rfl)
       rw [← List.map_take,← List.map_take] at this
       unfold subN
       rw [this,HM3.out]
      have hK2 : subN (x1.take (k + 1)) ≤ subN x1:=by
       have:=sum_take_le (x1.map fun y=>y.subs.length) (k + 1)
       rwa [← List.map_take] at this
      obtain ⟨U0,hU0⟩ : ∃ U,U = T0 + subN (x1.take k):=⟨_,rfl⟩
      have HUJ : Hid (T0 + subN (x1.take (k + 1)) = U0 + m3):=by show _ = _;omega
      have hU30 : U0 + m3 ≤ 30:=by have:=HB1.out;omega
      rw [← hU0]
      have HBC:=hid (Bx.make (Ext.refl wr) #[.string x2.name,.slice A2 n2 c2,.slice B3 m3 d3] 38)
      have c0:=HBC.out.cell (i:=0) rfl
      have c2':=HBC.out.cell (i:=2) rfl
      have zU : (U0 : Int) + (m3 : Int) = ((U0 + m3 : Nat) : Int):=by omega
      obtain ⟨V0,hV0⟩ : ∃ V,V = U0 + m3:=⟨_,rfl⟩
      rw [← hV0] at zU
      have HV0:=hid hV0
      have hV30 : V0 ≤ 30:=by omega
      clear q2 g2 r2 s2 hK1 hK2 hU0 hV0
      obtain ⟨wp,hwp⟩ : ∃ x,x = wr:=⟨_,rfl⟩
      subst hwp
      go_wp2
      go_loopw [69] (fun i wr=>∃ t : Nat,t ≤ m3 ∧ i = .int .i64 t ∧ Hid (Ext (wp.alloc (.cells #[.string x2.name,.slice A2 n2 c2,.slice B3 m3 d3] 38)) wr)) (fun i _=>m3 - (intOf i).toNat)
      case atStart=>exact ⟨0,by omega,rfl,Ext.refl _⟩
      case round=>
       obtain ⟨t,ht,rfl,hz⟩:=hrel
       by_cases hlt3 : t < m3
       ·obtain ⟨b4,o4,v4,x4,rfl,g4,-,r4,q4⟩:=(HS2.out.ext (HBC.out.ext.trans hz.out)).at_ hlt3
        obtain ⟨nm4,sv4⟩:=x4
        cases r4
        have e40:=q4 0 _ rfl
        simp only [Elem.cut,CutR.cells,Nat.add_zero] at e40
        have hlt3' : (t : Int) < (m3 : Int):=by omega
        have HU4:=hid (HUX.out ⟨nm4,sv4⟩ (List.mem_of_getElem? g4))
        have f1 : (nm4.toList == x2.name.toList) = false:=str_ne HU4.out.2
        have HRU : ∀ w',Ext wr w' → Calls Tryz.prog 9 #[.string nm4,.string x2.name] w' fun e w''=>e = .returned (.bool true) ∧ Ext w' w'':=fun w' hx'=>(runder_any nm4 x2.name w' (HG.out.gl.ext (HX5.out.trans (hx.out.trans (hy.out.trans (HBC.out.ext.trans (hz.out.trans hx'))))))).mono fun e w'' h=>⟨by rw [h.1,show underS (bys nm4) (bys x2.name) = true from HU4.out.1],h.2⟩
        clear q4 g4
        go_wp2
        refine wp_region_plan (.read 0 (.read 1 (.read 2 (.read 3 (.read 4 (.read 5 (.read 6 (.read 7 (.main 8 (.read 9 (.read 10 (.read 11 (.read 12 (.read 13 (.read 14 (.read 15 (.read 16 (.read 17 (.read 18 (.read 19 (.read 20 .done))))))))))))))))))))) (by kernel_rfl) (by kernel_rfl) ?_
        intro wD hxD
        have XE : Hid (Ext wD wD):=Ext.refl _
        have pc0:=cell_later (cell_later c0 _ (hz.out.trans hxD))
        have pc2:=cell_later (cell_later c2' _ (hz.out.trans hxD))
        have pe0:=cell_later (cell_later e40 _ hxD)
        repeat' (first
         | ((first | refine walks_move rfl rfl ?_ | refine walks_assign rfl rfl ?_ | refine walks_skip rfl rfl ?_);simp only [Act.put,Act.eval,evs])
         | (refine walks_unwanted rfl rfl ?_;simp only [Act.put,evp])
         | (refine walks_read (v:=?_) rfl rfl (fun w' hE=>?_) ?_;rotate_left 1;(· ((try (have hEx:=Ext.trans (Hid.out XE) hE));go_simp;(try go_bits);with_reducible rfl));simp only [Act.put,evp])
         | (refine walks_alt ?_ ?_)
         | (refine walks_main rfl rfl (fun K hK=>?_);go_wp2_with ((go_at_call 9;(with_reducible refine (HRU _ (hxD.trans XE.out)).mono ?_);rintro e w2 ⟨rfl,hx2⟩;have XE':=hid (Ext.trans (Hid.out XE) hx2);clear XE;have XE:=XE';clear XE'));refine hK _ _ (by first | assumption | exact Ext.alloc _ _ | exact Ext.refl _) ?_;clear hK K;try simp only [Act.put,evp]))
        refine walks_done ?_
        go_wp2
        exact ⟨⟨t + 1,by omega,by go_num,hz.out.trans (hxD.trans XE.out)⟩,by simp [intOf];omega⟩
       ·obtain rfl : t = m3:=by omega
        have hlt3' : ¬ (t : Int) < (t : Int):=by omega
        go_wp2
        exact ⟨⟨k + 1,by omega,by go_num,by rw [HUJ.out,HV0.out],hy.out.trans (HBC.out.ext.trans hz.out)⟩,by simp [intOf];omega⟩
     ·obtain rfl : k = n1:=by omega
      have hlt2' : ¬ (k : Int) < (k : Int):=by omega
      have HKK : Hid (T0 + subN (x1.take k) = m5 + ((sp.take (j + 1)).map subN).sum):=by show _ = _;rw [List.take_of_length_le (Nat.le_of_eq HN1.out.symm),HTJ.out]
      rw [HKK.out]
      go_wp2
      exact ⟨⟨j + 1,by omega,by go_num,rfl,hx.out.trans hy.out⟩,by simp [intOf];omega⟩
   ·obtain rfl : j = N:=by omega
    have hlt' : ¬ (j : Int) < (j : Int):=by omega
    have hlen:=HR5.out.len
    have HEQ : Hid (m5 + ((sp.take j).map subN).sum = m):=by
     show _ = _
     rw [List.take_of_length_le (Nat.le_of_eq hlen.symm),HML.out,← HTOT.out,HT5.out]
    rw [HEQ.out]
    have hb : ((m : Int) == (m : Int)) = true:=by simp
    go_wp2
    go_ret
    exact ⟨rfl,HX5.out.trans hx.out⟩
 ·have hsp : ∀ A' n' c' w',Ext w w' → Row Elem.cut (fun b=>w.heap.size ≤ b) w' A' n' c' cs → Calls Tryz.prog 7 #[.slice A n c,.slice A' n' c',.int .i64 sv] w' fun e w''=>∃ k : Int,k ≠ 0 ∧ e = .returned (.tuple #[.agg #[nilS,nilS],.int .i64 k]) ∧ Ext w' w'':=fun A' n' c' w' hx hr=>(HSP A' n' c' w' hx hr).mono fun e w'' h=>by
   rcases h with ⟨h1,h2,-⟩ | ⟨-,k,h1,h2,h3⟩
   ·exact absurd ⟨h1,h2⟩ hk
   ·exact ⟨k,by rcases h1 with h | h <;> omega,h2,h3⟩
  clear HSP h hc hG hf hcl hk
  go_enter Tryz.func3,Tryz.ntmps3
  go_wp2_with (first
   | (go_at_call 5;first
    | ((with_reducible refine (HAW _ (Ext.refl _)).mono ?_);rintro e w1 ⟨rfl,hx1⟩;have HX1:=hid hx1;clear hx1)
    | ((with_reducible refine (HAW _ HX2.out).mono ?_);rintro e w3 ⟨rfl,hx3⟩;have HX3:=hid (HX2.out.trans hx3);clear hx3))
   | (go_at_call 6;(with_reducible refine (HFW _ HX1.out).mono ?_);rintro e w2 ⟨sm,rfl,hx2⟩;have HX2:=hid (HX1.out.trans hx2);clear hx2;cases sm)
   | (go_at_call 8;(with_reducible refine (HCU _ HX2.out).mono ?_);rintro e w4 ⟨A4,n4,c4,rfl,hr4,hx4⟩;have HR4:=hid (hr4.mono (T:=fun b=>w.heap.size ≤ b) fun b _ hb=>Nat.le_trans (ext_sz HX2.out) hb);have HX4:=hid (HX2.out.trans hx4);clear hr4 hx4)
   | (go_at_call 7;(with_reducible refine (hsp _ _ _ _ HX4.out HR4.out).mono ?_);rintro e w5 ⟨k,hk0,rfl,hx5⟩;have HX5:=hid (HX4.out.trans (hx5.trans (Ext.alloc w5 (.cells #[nilS,nilS] 29))));have hk1 : (k != 0) = true:=(by rw [bne_iff_ne];exact hk0);clear hk0 hx5))
  all_goals go_ret
  all_goals first | exact ⟨rfl,HX5.out⟩ | exact ⟨rfl,HX3.out⟩
end Go.Proofs.YtahahafhendgoaaGreatDoor
