/- Lemmas of the walk. -/
import Derived.Test.YtkjbokhnpphimaaGreatDoorV43
set_option maxHeartbeats 40000000
set_option linter.unusedVariables false
set_option linter.unusedSimpArgs false
namespace Go.Proofs.YtkjbokhnpphimaaGreatDoor
open Go.RowKit
open Go.Maps Go.MapKept Go.WideShapes Go.ChangeShapes Go.ChangeMaps
set_option maxRecDepth 100000
abbrev nilS:Value:=.slice none 0 0
def zdq(w:World)(l:List Ent)(cs:List CutR)(sv:Int)(e:Ending)(w':World):Prop:=
 (OkOf l∧RightOk l cs sv∧∃A B m d,e=.returned (.tuple #[.agg #[.slice A sv.toNat sv.toNat,.slice B m d],.int .i64 0])∧Row Elem.srw (fun _=>True) w' A sv.toNat sv.toNat (zaS (sortN nmE l) (sortN nmQ cs) sv.toNat)∧Row Elem.cut (fun _=>True) w' B m d (topS (sortN nmQ cs))∧Ext w w') ∨
 (¬(OkOf l∧RightOk l cs sv)∧∃k:Int,((¬OkOf l∧k=2)∨(OkOf l∧k=1))∧e=.returned (.tuple #[.agg #[nilS,nilS],.int .i64 k])∧Ext w w')
theorem zph{L:List Ent}{cs:List CutR}{j i:Nat}{x:Ent}(hj:L[j]?=some x)(hi:zdB cs (nmE x)=(i:Int)):(fun a=>ctxE (L.take (j+1)) cs a)=upd (fun a=>ctxE (L.take j) cs a) i (ctxE (L.take j) cs i++[x]):=by
 funext a
 unfold ctxE
 rw[List.take_add_one,hj,Option.toList_some,List.filter_append]
 by_cases h:a=i
 ·subst h
  rw[zbx,List.filter_cons_of_pos (by simp[hi])]
  rfl
 ·rw[za4 _ _ h,List.filter_cons_of_neg (by simp[hi];omega)]
  simp
def lsB(CS:List CutR)(k j:Nat)(a:Nat):List CutR:=if a=k then(CS.take j).filter (fun c=>decide (upC CS c<0)) else(CS.take j).filter (fun c=>decide (upC CS c=(a:Int)))
def lsC(L:List Ent)(CS:List CutR)(j:Nat)(t:Nat):List Cxt:=((List.range j).filter fun i=>decide (((CS[i]?).map (·.server)).getD (-1)=(t:Int))).map (znv L CS)
theorem zpB{CS:List CutR}{j k:Nat}{c:CutR}(hj:CS[j]?=some c){a:Nat}(ha:a≠k)(hu:upC CS c=(a:Int)):lsB CS k (j+1)=upd (lsB CS k j) a (lsB CS k j a++[c]):=by
 funext b
 unfold lsB
 rw[List.take_add_one,hj,Option.toList_some,List.filter_append,List.filter_append]
 by_cases h:b=a
 ·subst h
  rw[zbx,if_neg ha,if_neg ha,List.filter_cons_of_pos (by simp[hu])]
  rfl
 ·rw[za4 _ _ h]
  by_cases hb:b=k
  ·rw[if_pos hb,if_pos hb,List.filter_cons_of_neg (by rw[hu];simp)]
   simp
  ·rw[if_neg hb,if_neg hb,List.filter_cons_of_neg (by simp[hu];omega)]
   simp
theorem zom{CS:List CutR}{j k:Nat}{c:CutR}(hj:CS[j]?=some c)(hu:upC CS c<0):lsB CS k (j+1)=upd (lsB CS k j) k (lsB CS k j k++[c]):=by
 funext b
 unfold lsB
 rw[List.take_add_one,hj,Option.toList_some,List.filter_append,List.filter_append]
 by_cases h:b=k
 ·subst h
  rw[zbx,if_pos rfl,if_pos rfl,List.filter_cons_of_pos (by simp[hu])]
  rfl
 ·rw[za4 _ _ h,if_neg h,if_neg h,List.filter_cons_of_neg (by simp;omega)]
  simp
theorem zp9{L:List Ent}{CS:List CutR}{j t:Nat}{c:CutR}(hj:CS[j]?=some c)(ht:c.server=(t:Int)):lsC L CS (j+1)=upd (lsC L CS j) t (lsC L CS j t++[znv L CS j]):=by
 funext b
 unfold lsC
 rw[List.range_succ,List.filter_append,List.map_append]
 by_cases h:b=t
 ·subst h
  rw[zbx,List.filter_cons_of_pos (by simp[hj,ht])]
  rfl
 ·rw[za4 _ _ h,List.filter_cons_of_neg (by simp[hj,ht];omega)]
  simp
theorem zd0{l:List Ent}{cs:List CutR}{sv:Int}(hN:Named l)(h:RightOk l cs sv):(sortN nmQ cs).Perm cs:=(zbo (h.self hN) h.apart).1
theorem ziU{l:List Ent}{cs:List CutR}{sv:Int}(hok:OkOf l)(h:RightOk l cs sv):∀e∈sortN nmE l,∃i:Nat,zdB (sortN nmQ cs) (nmE e)=(i:Int)∧i<(sortN nmQ cs).length:=by
 have hN:=zcH hok
 intro e he
 obtain⟨c,hc,hu⟩:=zrn hok h e ((zbo hN.self hN.apart).1.mem_iff.1 he)
 obtain⟨k,d,h1,h2,-⟩:=zoN ((zd0 hN h).mem_iff.2 hc) hu
 exact⟨k,h1,(List.getElem?_eq_some_iff.1 h2).1⟩
theorem zeC{S S2:Nat→Prop}{A:Option Addr}{n c:Nat}{l:List Ent}{B:Option Addr}{m d:Nat}{cs:List CutR}{w:World}(h:Row Elem.ent S w A n c l)(hc:Row Elem.cut S2 w B m d cs)(sv:Int)(hG:Gu w)(hf:∀e∈l,EntFits e)(hs1:-9223372036854775808≤sv)(hs2:sv≤9223372036854775807) :
 Calls Tryz.prog 8 #[.slice A n c,.slice B m d,.int .i64 sv] w (zdq w l cs sv):=by
 have HG:=hid hG
 have HR:=hid h
 have HCU:=hid hc
 have HF:=hid hf
 have HB0:=hid (Bx.make (Ext.refl w) #[nilS,nilS] 29)
 have HOF:Calls Tryz.prog 24 #[.slice A n c] (w.alloc (.cells #[nilS,nilS] 29)) (zlN (fun b=>S b∧b<w.heap.size) (w.alloc (.cells #[nilS,nilS] 29)) l):=zlh (h.lt.ext HB0.out.ext) (hG.ext HB0.out.ext) hf
 have HR0:Hid (∀Bt b,zhe (fun b=>S b∧b<w.heap.size) (w.alloc (.cells #[nilS,nilS] 29)) Bt b→b≠w.heap.size):=fun Bt b hb=>by
  rcases hb.2 with h|h
  ·have:=h.1.2;omega
  ·simp only[World.alloc,Array.size_push] at h;omega
 clear h hc hG hf
 show Calls _ _ _ _ (fun e w'=>zdq w l cs sv e w')
 by_cases hok:OkOf l
 ·have hof:Calls Tryz.prog 24 #[.slice A n c] (w.alloc (.cells #[nilS,nilS] 29)) fun e w''=>∃g Bt es clock,e=.returned (.tuple #[.pointer (some ⟨g,0,none⟩),.int .i64 0])∧TreeAt (zhe (fun b=>S b∧b<w.heap.size) (w.alloc (.cells #[nilS,nilS] 29)) Bt) w'' g Bt es clock l∧Ext (w.alloc (.cells #[nilS,nilS] 29)) w'':=HOF.mono fun e w'' h=>by
   rcases h with⟨-,g,Bt,es,clock,h1,h2,-,-,h3⟩|⟨h1,-⟩
   ·exact⟨g,Bt,es,clock,h1,h2,h3⟩
   ·exact absurd hok h1
  have HN:=hid (zcH hok)
  have HLL:Hid (l.length≤1000000):=by show _≤_;have:=hok.1;omega
  have HOK:=hid hok
  clear HOF hok
  have HRI:∀g Bt es clock w',Ext w w'→TreeAt (zhe (fun b=>S b∧b<w.heap.size) (w.alloc (.cells #[nilS,nilS] 29)) Bt) w' g Bt es clock l→Calls Tryz.prog 25 #[.pointer (some ⟨g,0,none⟩),.slice B m d,.int .i64 sv] w' (RightSays w' l cs sv):=fun g Bt es clock w' hx ht=>zpg (ht.mono (T:=fun b=>b≠Bt) (fun b _ hb=>hb.1) (by simp)) (HCU.out.ext hx) sv (HG.out.ext hx) HF.out HN.out HLL.out hs1 hs2
  by_cases hr:RightOk l cs sv
  ·have hri:∀g Bt es clock w',Ext w w'→TreeAt (zhe (fun b=>S b∧b<w.heap.size) (w.alloc (.cells #[nilS,nilS] 29)) Bt) w' g Bt es clock l→Calls Tryz.prog 25 #[.pointer (some ⟨g,0,none⟩),.slice B m d,.int .i64 sv] w' fun e w''=>e=.returned (.bool true)∧Ext w' w'':=fun g Bt es clock w' hx ht=>(HRI g Bt es clock w' hx ht).mono fun e w'' ⟨b,h1,h2,h3⟩=>⟨by rw[h1,h2.2 hr],h3⟩
   have hsr:∀w',Ext w w'→Calls Tryz.prog 26 #[.slice B m d] w' fun e w''=>∃A' n' c',e=.returned (.slice A' n' c')∧Row Elem.cut (fun b=>w'.heap.size≤b) w'' A' n' c' (sortN nmQ cs)∧Ext w' w'':=fun w' hx=>zia (HCU.out.ext hx) (HG.out.gl.ext hx) (by have:=hr.few;omega) (hr.self HN.out) hr.apart
   have HRT:=hid hr
   have HCV:=hid (ziU HOK.out hr)
   have HKL:Hid ((sortN nmQ cs).length≤30):=by show _≤_;rw[(zd0 HN.out hr).length_eq];exact hr.few
   have HLS:Hid ((sortN nmE l).length≤1000000):=by show _≤_;rw[(zbo HN.out.self HN.out.apart).1.length_eq];exact HLL.out
   obtain⟨svn,hsvn⟩:∃svn:Nat,sv=svn:=⟨sv.toNat,by have:=hr.srv;omega⟩
   have HSV:Hid (1≤svn∧svn≤8):=by show _∧_;have:=hr.srv;omega
   have HSB:Hid (∀c∈sortN nmQ cs,0≤c.server∧c.server<(svn:Int)):=fun c hc=>by
    have:=hr.cut c ((zd0 HN.out hr).mem_iff.1 hc)
    rw[←hsvn]
    exact⟨this.1,this.2.1⟩
   have HFIN:Hid (∀A B m d w',Row Elem.srw (fun _=>True) w' A svn svn (zaS (sortN nmE l) (sortN nmQ cs) svn)→Row Elem.cut (fun _=>True) w' B m d (topS (sortN nmQ cs))→Ext w w'→zdq w l cs sv (.returned (.tuple #[.agg #[.slice A svn svn,.slice B m d],.int .i64 0])) w'):=fun A B m d w' q1 q2 q3=>.inl ⟨HOK.out,hr,A,B,m,d,by rw[show sv.toNat=svn by omega],by rw[show sv.toNat=svn by omega];exact q1,q2,q3⟩
   have HALL:∀g Bt es clock w1 w',Ext w w1→w.heap.size<w1.heap.size→TreeAt (zhe (fun b=>S b∧b<w.heap.size) (w.alloc (.cells #[nilS,nilS] 29)) Bt) w1 g Bt es clock l→Ext w1 w'→Calls Tryz.prog 27 #[.pointer (some ⟨g,0,none⟩)] w' fun e w''=>∃A n c,e=.returned (.slice A n c)∧Row Elem.ent (fun b=>b≠w.heap.size∧(b<w1.heap.size∨w'.heap.size≤b)) w'' A n c (sortN nmE l)∧Ext w' w'':=fun g Bt es clock w1 w' hx hl1 ht hx2=>
    (zjZ (ht.low.ext hx2) (HG.out.gl.ext (hx.trans hx2)) HLL.out HF.out HN.out).mono fun e w'' ⟨A,n,c,h1,h2,h3⟩=>⟨A,n,c,h1,h2.mono fun b _ hb=>by
      rcases hb with h|h
      ·exact⟨HR0.out Bt b h.1,.inl h.2⟩
      ·exact ⟨by have:=zaz hx2;omega,.inr h⟩,h3⟩
   generalize hLd:sortN nmE l=L at*
   generalize hCd:sortN nmQ cs=CS at*
   clear hr HRI hLd hCd
   subst hsvn
   go_enter Tryz.func8,Tryz.ntmps8
   have hmk:=fun k (hk:k≤65536)=>zqo k hk
   go_wp2_with (first
    |(go_at_call 24;(with_reducible refine hof.mono ?_);rintro e w1 ⟨g,Bt,es,clock,rfl,ht1,hx1⟩;have HT1:=hid ht1;have HB1:=hid (HB0.out.later hx1);clear ht1 hx1)
    |(go_at_call 25;(with_reducible refine(hri _ _ _ _ _ HB1.out.ext HT1.out).mono ?_);rintro e w2 ⟨rfl,hx2⟩;have HX12:=hid hx2;have HB2:=hid (HB1.out.later hx2);clear hx2)
    |(go_at_call 26;(with_reducible refine(hsr _ HB2.out.ext).mono ?_);rintro e w3 ⟨A3,n3,c3,rfl,hr3,hx3⟩;have HC3:=hid hr3;have HX13:=hid (HX12.out.trans hx3);have HB3:=hid (HB2.out.later hx3);have hmk3:=hmk n3 (by have:=HKL.out;have:=hr3.len;omega);have HN3:=hid hr3.len;have HXM:=hid (Ext.alloc w3 (.cells (zaN n3 (fun _=>ByteArray.empty) (fun _=>.slice none 0 0) (fun _=>.slice none 0 0)) 72));clear hr3 hx3)
    | (go_at_call 27;(with_reducible refine (HALL _ _ _ _ _ _ HB1.out.ext HB1.out.lt HT1.out (HX13.out.trans HXM.out)).mono ?_);rintro e wA ⟨A5,n5,c5,rfl,hr5,hx5⟩;have HA5:=hid hr5;have HXA:=hid (HXM.out.trans hx5);have HBA:=hid (HB3.out.later HXA.out);have HCA:Hid (wA.heap[w3.heap.size]?=some (.cells (zaN n3 (fun _=>ByteArray.empty) (fun _=>.slice none 0 0) (fun _=>.slice none 0 0)) 72 (0,0))):=((hx5.block _ (by simp)).trans (heap_alloc_new w3 _));clear hr5 hx5))
   have HX03:=hid (HB3.out.ext)
   have HSZ3:Hid (w3.heap.size<wA.heap.size):=by show _<_;have h1:=zaz HXA.out;have h2:=(Array.getElem?_eq_some_iff.1 HCA.out).1;omega
   have HA6:=hid (HA5.out.mono (T:=fun b=>b<wA.heap.size∧b≠w3.heap.size∧b≠w.heap.size) fun b hb h=>⟨hb,by
    have h1:=zaz HX13.out
    have h2:(w3.alloc (.cells (zaN n3 (fun _=>ByteArray.empty) (fun _=>.slice none 0 0) (fun _=>.slice none 0 0)) 72)).heap.size=w3.heap.size+1:=by simp
    rw[h2] at h
    rcases h.2 with h | h <;> omega,h.1⟩)
   have HRZ:Hid (w.heap.size<w3.heap.size):=HB3.out.lt
   have HC5:=hid (((HC3.out.mono (T:=fun b=>b<w3.heap.size) fun b hb _=>hb).ext HXA.out).mono (T:=fun b=>b<wA.heap.size∧b≠w3.heap.size) fun b hb h=>⟨hb,by omega⟩)
   have HL5:=hid HA5.out.len
   have hn5:n5≤9223372036854775807:=by have:=HA5.out.cap;have:=HA5.out.most;simp only[maxLen] at this;omega
   have hn30:n3≤30:=by have h1:=HN3.out;have h2:=HKL.out;omega
   clear HALL hri hsr hof HT1 hmk3 hmk HA5 HC3 HXM HB1 HB2 HB3
   go_loopw [45] (fun i wr=>∃(j:Nat) (ve:Nat→Value),j≤n5∧i=.int .i64 j∧Hid (wr.heap[w3.heap.size]?=some (.cells (zaN n3 (fun _=>ByteArray.empty) ve (fun _=>.slice none 0 0)) 72 (0,0)))∧Hid (Fam Elem.ent (fun b=>b<wA.heap.size∧b≠w.heap.size) 58 w3.heap.size w3 wA.heap.size n3 wr ve (fun a=>ctxE (L.take j) CS a))∧Hid (Same (fun b=>b<wA.heap.size∧b≠w3.heap.size) wA wr∧wA.heap.size≤wr.heap.size∧Ext w3 wr)) (fun i _=>n5-(intOf i).toNat)
   case atStart=>exact⟨0,_,by omega,rfl,HCA.out,Fam.nil HXA.out (Nat.le_refl _) HSZ3.out,fun _ _=>rfl,Nat.le_refl _,HXA.out⟩
   case round=>
    obtain⟨j,ve,hj,rfl,HCB,HFA,HSM⟩:=hrel
    by_cases hlt:j<n5
    ·obtain⟨b1,o1,v1,x1,rfl,g1,-,⟨A1,n1,c1,rfl,r1⟩,q1⟩:=(HA6.out.same (fun b hb=>HSM.out.1 b ⟨hb.1,hb.2.1⟩)).at_ hlt
     have e10:=q1 0 _ rfl
     have e11:=q1 1 _ rfl
     simp only[Elem.ent,Nat.add_zero] at e10 e11
     obtain⟨i,hi1,hi2⟩:=HCV.out x1 (List.mem_of_getElem? g1)
     have HGJ:=hid g1
     have HI:=hid hi1
     have hi2':i<n3:=by have:=HN3.out;omega
     have HI2:Hid (i<n3):=hi2'
     have hi3:(i:Int)<(n3:Int):=by omega
     have hlt':(j:Int)<(n5:Int):=by omega
     have HDE:∀w',Ext wr w'→Calls Tryz.prog 28 #[.slice A3 n3 c3,.string x1.name] w' fun e w''=>e=.returned (.int .i64 (i:Int))∧Ext w' w'':=fun w' hx=>by
      have:=zhu ((HC5.out.same HSM.out.1).ext hx) x1.name (HG.out.gl.ext (HX03.out.trans (HSM.out.2.2.trans hx)))
      rwa[show zdB CS (bys x1.name)=(i:Int) from hi1] at this
     have HBX:=hid (Bx.make (Ext.refl wr) #[.string x1.name,.slice A1 n1 c1] 58)
     have b0:=HBX.out.cell (i:=0) rfl
     have HR1:=hid r1
     have HSZ:Hid (w3.heap.size<wA.heap.size∧wA.heap.size≤wr.heap.size):=⟨HSZ3.out,HSM.out.2.1⟩
     clear q1 g1 r1 hi1 hi2
     go_wp2_with(go_at_call 28;(with_reducible refine(HDE _ HBX.out.ext).mono ?_);rintro e w6 ⟨rfl,hx6⟩;have HB6:=hid (HBX.out.later hx6);have HX6:=hid (HBX.out.ext.trans hx6);clear hx6)
     clear HDE b0 e10 e11
     obtain⟨S9,hS9⟩:∃S:Nat→Prop,S=fun b=>b=wr.heap.size:=⟨_,rfl⟩
     have HS7:Hid (S9 wr.heap.size):=by show S9 _;rw[hS9]
     have HSI:Hid (∀b,S9 b→b=wr.heap.size):=fun b hb=>by rw[hS9] at hb;exact hb
     obtain⟨PR,hPR⟩:∃p,p=Pre.same S9:=⟨_,rfl⟩
     have HPS:Hid (∀w w',Same S9 w w'→PR.r w w'):=fun w w' h=>by rw[hPR];exact h
     have HPT:Hid (∀w w',PR.r w w'→Same S9 w w'):=fun w w' h=>by rw[hPR] at h;exact h
     clear hPR hS9
     refine zbi PR (.read 0 (.read 1 (.read 2 (.read 3 (.read 5 (.alt 4 (.main 6 (.main 7 (.read 8 (.read 9 (.main 10 .done))))) (.main 6 (.main 4 (.main 7 (.read 8 (.read 9 (.main 10 .done)))))))))))) (by kernel_rfl) (by kernel_rfl) ?_
     intro wD hxD
     have XR:Hid (PR.r wD wD):=PR.refl _
     have HXD:=hid (HX6.out.trans hxD)
     have HBD:=hid (HB6.out.later hxD)
     have HSR:Hid (∀b,S9 b→b<wD.heap.size):=fun b hb=>by have h1:=HSI.out b hb;have h2:=HBD.out.lt;omega
     have HNE:Hid (∀b,S9 b→b≠w3.heap.size):=fun b hb=>by have h1:=HSI.out b hb;have h2:=HSZ.out;omega
     have HNO:Hid (∀b,S9 b→some b≠(ve i).ownBlock):=fun b hb e=>by have h1:=HSI.out b hb;have h2:=((HFA.out.row i HI2.out).lt e.symm).2;omega
     have HCD:Hid (wD.heap[w3.heap.size]?=some (.cells (zaN n3 (fun _=>ByteArray.empty) ve (fun _=>.slice none 0 0)) 72 (0,0))):=(HXD.out.block _ (by have:=HSZ.out;omega)).trans HCB.out
     have HFD:=hid (HFA.out.later HXD.out)
     have P1:Hid (wD.cell? ⟨w3.heap.size,i * 3+1,none⟩=some (ve i)):=by show _=_;rw[cell_of_row _ _ _ _ _ _ HCD.out];exact zk6 HI2.out _ _ _
     have hblk:∀w',PR.r wD w'→w'.heap[wr.heap.size]?=some (.cells #[.string x1.name,.slice A1 n1 c1] 58 (0,0)):=fun w' hk=>by rw[HPT.out _ _ hk _ HS7.out];exact HBD.out.blk
     have HROW:=hid (HFD.out.row i HI2.out)
     have HEL:Hid (Elem.ent.R (zcD (fun b=>b<wA.heap.size∧b≠w.heap.size) (ve i) (some w3.heap.size)) wD [.string x1.name,.slice A1 n1 c1] x1):=⟨A1,n1,c1,rfl,(HR1.out.ext HXD.out).mono fun b _ hb=>⟨⟨hb.1,hb.2.2⟩,fun e=>by have:=HFA.out.high i HI2.out b e.symm;have:=hb.1;omega,fun e=>hb.2.1 (by injection e)⟩⟩
     have HBZ:Hid (wA.heap.size≤wD.heap.size):=Nat.le_trans HSZ.out.2 (zaz HXD.out)
     have HLT:Hid ((ctxE (L.take j) CS i).length≤4000000):=by
      show _≤_
      have h1:=List.length_filter_le (fun e=>decide (zdB CS (nmE e)=(i:Int))) (L.take j)
      have h2:=HLS.out
      rw[List.length_take] at h1
      unfold ctxE
      omega
     repeat' ((first
      |refine zcb rfl rfl ?_
      |refine zby rfl rfl ?_
      |refine walksR_skip rfl rfl ?_
      |refine walksR_unwanted rfl rfl ?_
      |(refine za9 (v:=.agg #[.string x1.name,.slice A1 n1 c1]) rfl rfl (fun w' hE=>zcz 58 (.tmp 12) rfl _ rfl _ _ _ (hblk w' (Pre.trans _ (Hid.out XR) hE)) Tryz.underlying58 rfl (by kernel_rfl)) ?_)
      |(refine za9 (v:=?_) rfl rfl (fun w' hE=>?_) ?_;rotate_left 1;(· ((try(have hEx:=Pre.trans _ (Hid.out XR) hE));go_simp;(try go_bits);with_reducible rfl)))
      |(refine zba rfl rfl (fun K hK=>?_);(first|(refine zbs 22 (.tmp 58) rfl ⟨w3.heap.size,i * 3+1,none⟩ rfl (ve i) (by first|exact P1.out|exact zaa P1.out _ (Ext.alloc _ _)) (fun _=>by kernel_rfl) ?_)|(refine zcF Tryz.underlying22 zdP rfl (by decide) (.tmp 59) (.tmp 61) rfl (ve i) _ rfl HROW.out (u:=[.string x1.name,.slice A1 n1 c1]) x1 HEL.out (by intro c hc;simp at hc;rcases hc with rfl|rfl<;>rfl) rfl rfl HLT.out ?_;intro v' w9 k1 k2 k3;have hs9:PR.r _ w9:=HPS.out _ _ (fun b hb=>k2.block b (by have:=HSR.out b hb;simp only[World.alloc,Array.size_push];omega) (HNO.out b hb));obtain⟨A6,c6,hv6,-⟩:=k1.row;obtain⟨ln,hln⟩:∃x,x=(ctxE (L.take j) CS i++[x1]).length:=⟨_,rfl⟩;rw[←hln] at hv6;subst hv6;have HST:=hid (zjk HI2.out HCD.out HFD.out (fun b hb=>hb.1) HBZ.out k1 k2 k3 (zk6 HI2.out _ _ _) (zrl HI2.out _ _ _ _));have n1':=HST.out.1.1;have f1:=HST.out.1.2;clear k1 k2 k3 hln));refine hK _ _ (by first|assumption|exact Pre.refl _ _|exact Hid.out HPS _ _ (Same.alloc_of (Hid.out HSR) _)|exact Hid.out HPS _ _ (Same.set_of (Hid.out HNE) _)|exact Hid.out HPS _ _ (Same.allocs_of (Hid.out HSR) _ _)) ?_;clear hK K)
      |refine zcu ?_ ?_
      | (refine zba rfl rfl (fun K hK=>?_);go_wp2_with (fail);refine hK _ _ (by first | assumption | exact Pre.refl _ _ | exact Hid.out HPS _ _ (Same.alloc_of (Hid.out HSR) _) | exact Hid.out HPS _ _ (Same.set_of (Hid.out HNE) _) | exact Hid.out HPS _ _ (Same.allocs_of (Hid.out HSR) _ _)) ?_;clear hK K));try simp only [Act.put,Act.eval,evs])
     all_goals
      refine zcd ?_
      go_wp2
      refine⟨⟨j+1,upd ve i (.slice A6 ln c6),by omega,by go_num,HST.out.2.1,?_,?_,?_,HST.out.2.2.2.2.2⟩,by simp[intOf];omega⟩
      ·show Fam _ _ _ _ _ _ _ _ _ _
       rw[zph HGJ.out HI.out]
       exact HST.out.2.2.1
      ·intro b hb
       rw[HST.out.2.2.2.1 b hb.1 hb.2,HXD.out.block b (by have:=hb.1;have:=HSZ.out;omega)]
       exact HSM.out.1 b hb
      ·have h1:=HST.out.2.2.2.2.1
       have h2:=HBZ.out
       omega
    ·obtain rfl:j=n5:=by omega
     have hlt':¬(j:Int)<(j:Int):=by omega
     rw[List.take_of_length_le (Nat.le_of_eq HL5.out.symm)] at HFA
     have HEN:Hid (∀i,i<n3→∃A c,ve i=.slice A (ctxE L CS i).length c∧Row Elem.ent (fun b=>b<wr.heap.size∧b≠w3.heap.size∧b≠w.heap.size) wr A (ctxE L CS i).length c (ctxE L CS i)):=fun i hi=>by
      obtain⟨A,c,q1,q2⟩:=HFA.out.rows hi
      exact ⟨A,c,q1,q2.mono fun b _ hb=>⟨hb.2.1,hb.2.2,by
       rcases hb.1 with h|h
       ·exact h.2
       ·have:=HRZ.out;have:=HSZ3.out;omega⟩⟩
     obtain⟨wB,hwB⟩:∃x,x=wr:=⟨_,rfl⟩
     subst hwB
     have hms:=zqk svn (by have:=HSV.out;omega)
     have HXV:=hid (Ext.alloc wB (.cells (zbK svn (fun _=>.slice none 0 0)) 78))
     have HSV1:Hid ((wB.alloc (.cells (zbK svn (fun _=>.slice none 0 0)) 78)).heap.size=wB.heap.size+1):=by show _=_;simp
     have HBG:=hid (Bx.make HXV.out #[.slice (some ⟨wB.heap.size,0,none⟩) svn svn,.slice none 0 0] 29)
     rw[HSV1.out] at HBG
     obtain⟨wG,hwG⟩:∃x,x=(wB.alloc (.cells (zbK svn (fun _=>.slice none 0 0)) 78)).alloc (.cells #[.slice (some ⟨wB.heap.size,0,none⟩) svn svn,.slice none 0 0] 29):=⟨_,rfl⟩
     have HXG:Hid (Ext wB wG):=by show Ext _ _;rw[hwG];exact HXV.out.trans (Ext.alloc _ _)
     have HSG:Hid (wG.heap.size=wB.heap.size+2):=by show _=_;rw[hwG];simp
     have HGB:Hid (wG.heap[wB.heap.size+1]?=some (.cells #[.slice (some ⟨wB.heap.size,0,none⟩) svn svn,.slice none 0 0] 29 (0,0))):=by show _=_;rw[hwG];exact HBG.out.blk
     have HVB:Hid (wG.heap[wB.heap.size]?=some (.cells (zbK svn (fun _=>.slice none 0 0)) 78 (0,0))):=by show _=_;rw[hwG,(Ext.alloc _ _).block _ (by rw[HSV1.out];omega)];exact heap_alloc_new wB _
     have HSZB:Hid (w.heap.size<w3.heap.size∧w3.heap.size<wA.heap.size∧wA.heap.size≤wB.heap.size∧wG.heap.size=wB.heap.size+2):=⟨HRZ.out,HSZ3.out,HSM.out.2.1,HSG.out⟩
     have HCG:Hid (wG.heap[w3.heap.size]?=some (.cells (zaN n3 (fun _=>ByteArray.empty) ve (fun _=>.slice none 0 0)) 72 (0,0))):=(HXG.out.block _ (by have:=HSZB.out;omega)).trans HCB.out
     have HX3G:=hid (HSM.out.2.2.trans HXG.out)
     have HC7:=hid ((HC5.out.same HSM.out.1).ext HXG.out)
     have HL0:Hid (lsB CS n3 0=fun _=>[]):=by show _=_;funext a;unfold lsB;simp
     go_wp2
     clear hms HFA HXV HBG
     go_loopw [71] (fun i wq=>∃ (j:Nat) (nm:Nat→ByteArray) (vs:Nat→Value),j≤n3∧i=.int .i64 j∧Hid (wq.heap[w3.heap.size]?=some (.cells (zaN n3 nm ve vs) 72 (0,0)))∧Hid (∀ a,a<j→nm a=nmAt CS a)∧Hid (Fam Elem.cut (fun _=>False) 60 w3.heap.size w3 wG.heap.size (n3+1) wq vs (lsB CS n3 j)) ∧
      Hid (wq.heap[wB.heap.size+1]?=some (.cells #[.slice (some ⟨wB.heap.size,0,none⟩) svn svn,vs n3] 29 (0,0)))∧Hid (Same (fun b=>b<wG.heap.size∧b≠w3.heap.size∧b≠wB.heap.size+1) wG wq∧wG.heap.size≤wq.heap.size∧Ext w3 wq)) (fun i _=>n3-(intOf i).toNat)
     case atStart=>
      rw[←hwG]
      exact⟨0,_,fun _=>.slice none 0 0,by omega,rfl,HCG.out,fun a ha=>absurd ha (Nat.not_lt_zero a),by show Fam _ _ _ _ _ _ _ _ _ _;rw[HL0.out];exact Fam.nil HX3G.out (Nat.le_refl _) (by have:=HSZB.out;omega),HGB.out,fun _ _=>rfl,Nat.le_refl _,HX3G.out⟩
     case round=>
      obtain⟨k,nm,vs,hk,rfl,HCK,HNM,HFB,HGK,HSK⟩:=hrel
      have HCR:=hid (HC7.out.same (w':=wr) (fun b hb=>HSK.out.1 b ⟨by have:=HSZB.out;have:=hb.1;omega,hb.2,by have:=HSZB.out;have:=hb.1;omega⟩))
      have HSZK:Hid (w3.heap.size<wA.heap.size∧wA.heap.size≤wB.heap.size∧wG.heap.size=wB.heap.size+2∧wG.heap.size≤wr.heap.size):=⟨HSZB.out.2.1,HSZB.out.2.2.1,HSZB.out.2.2.2,HSK.out.2.1⟩
      by_cases hlt:k<n3
      ·obtain⟨b1,o1,v1,x1,rfl,g1,-,r1,q1⟩:=HCR.out.at_ hlt
       obtain⟨nm1,sv1⟩:=x1
       cases r1
       have e10:=q1 0 _ rfl
       have e11:=q1 1 _ rfl
       simp only[Elem.cut,CutR.cells,Nat.add_zero] at e10 e11
       have HGJ:=hid g1
       have HKN:Hid (k<n3):=hlt
       have hlt':(k:Int)<(n3:Int):=by omega
       have HBX:=hid (Bx.make (Ext.refl wr) #[.string nm1,.int .i64 sv1] 60)
       have b0:=HBX.out.cell (i:=0) rfl
       have HC4:Hid ((wr.alloc (.cells #[.string nm1,.int .i64 sv1] 60)).heap[w3.heap.size]?=some (.cells (zaN n3 nm ve vs) 72 (0,0))):=(HBX.out.ext.block _ (by have:=HSZK.out;omega)).trans HCK.out
       have p0:(wr.alloc (.cells #[.string nm1,.int .i64 sv1] 60)).cell? ⟨w3.heap.size,k * 3,none⟩=some (.string (nm k)):=by rw[cell_of_row _ _ _ _ _ _ HC4.out];exact zpd hlt _ _ _
       have f0:(wr.alloc (.cells #[.string nm1,.int .i64 sv1] 60)).frozen? ⟨w3.heap.size,k * 3,none⟩=false:=frozen_of_row _ _ _ _ _ HC4.out
       obtain⟨wS,hwS⟩:∃x,x=(wr.alloc (.cells #[.string nm1,.int .i64 sv1] 60)).setCell ⟨w3.heap.size,k * 3,none⟩ (.string nm1):=⟨_,rfl⟩
       have HCS:Hid (wS.heap[w3.heap.size]?=some (.cells (zaN n3 (upd nm k nm1) ve vs) 72 (0,0))):=by show _=_;rw[hwS,heap_setCell_same _ _ _ _ _ _ HC4.out,zqe hlt]
       have HSO:Hid (∀b,b<wr.heap.size→b≠w3.heap.size→wS.heap[b]?=wr.heap[b]?):=fun b hb hne=>by rw[hwS,heap_setCell_other _ _ _ _ hne];exact HBX.out.ext.block b hb
       have HFS:Hid (Fam Elem.cut (fun _=>False) 60 w3.heap.size w3 wG.heap.size (n3+1) wS vs (lsB CS n3 k)):=by show Fam _ _ _ _ _ _ _ _ _ _;rw[hwS];exact(HFB.out.later HBX.out.ext).setL _ _
       have HX3S:Hid (Ext w3 wS):=by show Ext _ _;rw[hwS];exact(HSK.out.2.2.trans HBX.out.ext).setCell (Nat.le_refl _) _
       have HSZS:Hid (wS.heap.size=wr.heap.size+1):=by show _=_;rw[hwS];simp
       have HBXS:Hid (Bx w3 wS wr.heap.size 60 #[.string nm1,.int .i64 sv1]):=⟨by have:=HSZK.out;omega,by rw[hwS,heap_setCell_other _ _ _ _ (show wr.heap.size≠w3.heap.size by have:=HSZK.out;omega)];exact HBX.out.blk,HX3S.out⟩
       have HCW:=hid (HCR.out.same (w':=wS) (fun b hb=>HSO.out b (by have:=HSZK.out;have:=hb.1;omega) hb.2))
       have HGS:Hid (wS.heap[wB.heap.size+1]?=some (.cells #[.slice (some ⟨wB.heap.size,0,none⟩) svn svn,vs n3] 29 (0,0))):=(HSO.out _ (by have:=HSZK.out;omega) (by have:=HSZK.out;omega)).trans HGK.out
       have q0:=HBXS.out.cell (i:=0) rfl
       have HPA:∀w',Ext wS w'→Calls Tryz.prog 29 #[.string nm1] w' (zcj w' (bys nm1)):=fun w' hx=>zd6 nm1 w' (HG.out.gl.ext (HX03.out.trans (HX3S.out.trans hx)))
       unfold zcj at HPA
       have HDE:∀w',Ext wS w'→Calls Tryz.prog 28 #[.slice (some ⟨b1,o1,none⟩) n3 c3,.string (str (zaT (bys nm1)).1)] w' fun e w''=>e=.returned (.int .i64 (upC CS ⟨nm1,sv1⟩))∧Ext w' w'':=fun w' hx=>by
        have:=zhu (HCW.out.ext hx) (str (zaT (bys nm1)).1) (HG.out.gl.ext (HX03.out.trans (HX3S.out.trans hx)))
        rwa[zao] at this
       have HUR:Hid (-1≤upC CS ⟨nm1,sv1⟩∧upC CS ⟨nm1,sv1⟩ < (n3:Int)):=by show _∧_;have:=zll CS (zaT (nmQ ⟨nm1,sv1⟩)).1;have h2:=HN3.out;unfold upC;omega
       have HUE:Hid (∀u,upC CS ⟨nm1,sv1⟩=u→upC CS ⟨nm1,sv1⟩=u):=fun _ h=>h
       have HNK:Hid (∀a,a<k+1→upd nm k nm1 a=nmAt CS a):=fun a ha=>by
        by_cases e:a=k
        ·subst e;rw[zbx];unfold nmAt;rw[HGJ.out];rfl
        ·rw[za4 _ _ e];exact HNM.out a (by omega)
       obtain⟨u,hu⟩:∃u,u=upC CS ⟨nm1,sv1⟩:=⟨_,rfl⟩
       have HU:Hid (upC CS ⟨nm1,sv1⟩=u):=hu.symm
       rw[←hu] at HDE HUR
       obtain⟨ps,hps⟩:∃ps,ps=str (zaT (bys nm1)).1:=⟨_,rfl⟩
       rw[←hps] at HPA HDE
       have HLB:Hid (∀a,(lsB CS n3 k a).length≤4000000):=fun a=>by
        have h1:CS.length≤30:=HKL.out
        have h3:(CS.take k).length≤30:=by rw[List.length_take];omega
        unfold lsB
        split
        ·have:=List.length_filter_le (fun c=>decide (upC CS c<0)) (CS.take k);omega
        ·have:=List.length_filter_le (fun c=>decide (upC CS c=(a:Int))) (CS.take k);omega
       clear q1 g1 hu hps HUE HCR
       subst hwS
       by_cases hu0:u<0
       ·have hu1:¬(0:Int)≤u:=by omega
        have HU0:Hid (upC CS ⟨nm1,sv1⟩ < 0):=by show _<_;rw[HU.out];exact hu0
        clear hu0
        go_wp2_with (first
         |(go_at_call 29;(with_reducible refine(HPA _ (Ext.refl _)).mono ?_);rintro e w5 ⟨rfl,hx5⟩;have HX5:=hid hx5;clear hx5)
         |(go_at_call 28;(with_reducible refine(HDE _ HX5.out).mono ?_);rintro e w6 ⟨rfl,hx6⟩;have HX6:=hid (HX5.out.trans hx6);have HB6:=hid (HBXS.out.later HX6.out);have HF6:=hid (HFS.out.later HX6.out);have HG6:=hid ((HX6.out.block (wB.heap.size+1) (by have:=HSZS.out;have:=HSZK.out;omega)).trans HGS.out);have HC6:=hid ((HX6.out.block w3.heap.size (by have:=HSZS.out;have:=HSZK.out;omega)).trans HCS.out);have HBZ:Hid (wG.heap.size≤w6.heap.size):=(by have h1:=zaz HX6.out;have h2:=HSZS.out;have h3:=HSZK.out;show _≤_;omega);clear hx6;have c0:=HB6.out.cell (i:=0) rfl;have c1:=HB6.out.cell (i:=1) rfl;have gg:w6.cell? ⟨wB.heap.size+1,1,none⟩=some (vs n3):=(cell_of_row w6 (wB.heap.size+1) 1 _ _ (0,0) HG6.out).trans rfl;have HROW:=hid (HF6.out.row n3 (by omega)))
         | (at_builtin;refine zf3 Tryz.underlying27 zhI rfl (by decide) rfl _ _ rfl (vs n3) _ rfl HROW.out (u:=[.string nm1,.int .i64 sv1]) (⟨nm1,sv1⟩:CutR) rfl (by intro c hc;simp at hc;rcases hc with rfl | rfl <;> rfl) rfl rfl (HLB.out n3) ?_;intro v' w9 k1 k2 k3;obtain ⟨A6,c6,hv6,-⟩:=k1.row;obtain ⟨ln,hln⟩:∃ x,x=(lsB CS n3 k n3++[(⟨nm1,sv1⟩:CutR)]).length:=⟨_,rfl⟩;rw [← hln] at hv6;subst hv6;have HST:=hid (zrm (show n3<n3+1 by omega) HG6.out HF6.out (fun b hb=>hb.elim) HBZ.out (by have:=HSZK.out;omega) (by have:=HSZK.out;omega) (fun h=>h) k1 k2 k3 (show (#[.slice (some ⟨wB.heap.size,0,none⟩) svn svn,vs n3]:Array Value)[1]?=some (vs n3) from rfl));have n1':=HST.out.1.1;have f1':=HST.out.1.2;clear k1 k2 k3 hln))
        refine⟨⟨k+1,upd nm k nm1,upd vs n3 (.slice A6 ln c6),by omega,by go_num,?_,HNK.out,?_,?_,?_,?_,HST.out.2.2.2.2.2⟩,by simp[intOf];omega⟩
        ·show _=_
         rw[zjU,HST.out.2.2.2.1 _ (by have:=HSZK.out;omega) (by have:=HSZK.out;omega)]
         exact HC6.out
        ·show Fam _ _ _ _ _ _ _ _ _ _
         rw[zom HGJ.out HU0.out]
         exact HST.out.2.2.1
        ·show _=_
         rw[zbx]
         exact HST.out.2.1
        ·intro b hb
         rw[HST.out.2.2.2.1 b hb.1 hb.2.2,HX6.out.block b (by have:=HSZS.out;have:=HSZK.out;have:=hb.1;omega),HSO.out b (by have:=HSZK.out;have:=hb.1;omega) hb.2.1]
         exact HSK.out.1 b hb
        ·have h1:=HST.out.2.2.2.2.1
         have h2:=HBZ.out
         omega
       ·obtain⟨a,rfl⟩:∃a:Nat,u=a:=⟨u.toNat,by omega⟩
        have HAN:Hid (a<n3):=by show _<_;have:=HUR.out.2;omega
        have han:(a:Int)<(n3:Int):=by have:=HAN.out;omega
        clear hu0
        have HU1:Hid (upC CS ⟨nm1,sv1⟩=(a:Int)):=HU.out
        go_wp2_with (first
         |(go_at_call 29;(with_reducible refine(HPA _ (Ext.refl _)).mono ?_);rintro e w5 ⟨rfl,hx5⟩;have HX5:=hid hx5;clear hx5)
         | (go_at_call 28;(with_reducible refine (HDE _ HX5.out).mono ?_);rintro e w6 ⟨rfl,hx6⟩;have HX6:=hid (HX5.out.trans hx6);have HB6:=hid (HBXS.out.later HX6.out);have HF6:=hid (HFS.out.later HX6.out);have HG6:=hid ((HX6.out.block (wB.heap.size+1) (by have:=HSZS.out;have:=HSZK.out;omega)).trans HGS.out);have HC6:=hid ((HX6.out.block w3.heap.size (by have:=HSZS.out;have:=HSZK.out;omega)).trans HCS.out);have HBZ:Hid (wG.heap.size≤w6.heap.size):=(by have h1:=zaz HX6.out;have h2:=HSZS.out;have h3:=HSZK.out;show _≤_;omega);clear hx6))
        obtain⟨S9,hS9⟩:∃S:Nat→Prop,S=fun b=>b=wr.heap.size:=⟨_,rfl⟩
        have HS7:Hid (S9 wr.heap.size):=by show S9 _;rw[hS9]
        have HSI:Hid (∀b,S9 b→b=wr.heap.size):=fun b hb=>by rw[hS9] at hb;exact hb
        obtain⟨PR,hPR⟩:∃p,p=Pre.same S9:=⟨_,rfl⟩
        have HPS:Hid (∀w w',Same S9 w w'→PR.r w w'):=fun w w' h=>by rw[hPR];exact h
        have HPT:Hid (∀w w',PR.r w w'→Same S9 w w'):=fun w w' h=>by rw[hPR] at h;exact h
        clear hPR hS9 e10 e11 b0 p0 f0 q0
        refine zbi PR (.read 0 (.read 1 (.read 2 (.read 3 (.read 4 (.read 5 (.read 7 (.alt 6 (.main 8 (.main 9 (.read 10 (.read 11 (.main 12 .done))))) (.main 8 (.main 6 (.main 9 (.read 10 (.read 11 (.main 12 .done)))))))))))))) (by kernel_rfl) (by kernel_rfl) ?_
        intro wD hxD
        have XR:Hid (PR.r wD wD):=PR.refl _
        have HBD:=hid (HB6.out.later hxD)
        have HSR:Hid (∀b,S9 b→b<wD.heap.size):=fun b hb=>by have h1:=HSI.out b hb;have h2:=HBD.out.lt;omega
        have HNE:Hid (∀b,S9 b→b≠w3.heap.size):=fun b hb=>by have h1:=HSI.out b hb;have h2:=HSZK.out;omega
        have HFD:=hid (HF6.out.later hxD)
        have HNO:Hid (∀b,S9 b→some b≠(vs a).ownBlock):=fun b hb e=>by have h1:=HSI.out b hb;have h2:=((HFB.out.row a (by have:=HAN.out;omega)).lt e.symm).2;omega
        have HCD:=hid ((hxD.block w3.heap.size (by have:=HBZ.out;have:=HSZK.out;omega)).trans HC6.out)
        have P1:Hid (wD.cell? ⟨w3.heap.size,a * 3+2,none⟩=some (vs a)):=by show _=_;rw[cell_of_row _ _ _ _ _ _ HCD.out];exact zlS HAN.out _ _ _
        have hblk:∀w',PR.r wD w'→w'.heap[wr.heap.size]?=some (.cells #[.string nm1,.int .i64 sv1] 60 (0,0)):=fun w' hk=>by rw[HPT.out _ _ hk _ HS7.out];exact HBD.out.blk
        have HROW:=hid (HFD.out.row a (by have:=HAN.out;omega))
        have HBD2:Hid (wG.heap.size≤wD.heap.size):=Nat.le_trans HBZ.out (zaz hxD)
        repeat' ((first
         |refine zcb rfl rfl ?_
         |refine zby rfl rfl ?_
         |refine walksR_skip rfl rfl ?_
         |refine walksR_unwanted rfl rfl ?_
         |(refine za9 (v:=.agg #[.string nm1,.int .i64 sv1]) rfl rfl (fun w' hE=>zcz 60 (.tmp 16) rfl _ rfl _ _ _ (hblk w' (Pre.trans _ (Hid.out XR) hE)) Tryz.underlying60 rfl (by kernel_rfl)) ?_)
         |(refine za9 (v:=?_) rfl rfl (fun w' hE=>?_) ?_;rotate_left 1;(· ((try(have hEx:=Pre.trans _ (Hid.out XR) hE));go_simp;(try go_bits);with_reducible rfl)))
         |(refine zba rfl rfl (fun K hK=>?_);(first|(refine zbs 27 (.tmp 98) rfl ⟨w3.heap.size,a * 3+2,none⟩ rfl (vs a) (by first|exact P1.out|exact zaa P1.out _ (Ext.alloc _ _)) (fun _=>by kernel_rfl) ?_)|(refine zcF Tryz.underlying27 zhI rfl (by decide) (.tmp 99) (.tmp 101) rfl (vs a) _ rfl HROW.out (u:=[.string nm1,.int .i64 sv1]) (⟨nm1,sv1⟩:CutR) rfl (by intro c hc;simp at hc;rcases hc with rfl|rfl<;>rfl) rfl rfl (HLB.out a) ?_;intro v' w9 k1 k2 k3;have hs9:PR.r _ w9:=HPS.out _ _ (fun b hb=>k2.block b (by have:=HSR.out b hb;simp only[World.alloc,Array.size_push];omega) (HNO.out b hb));obtain⟨A6,c6,hv6,-⟩:=k1.row;obtain⟨ln,hln⟩:∃x,x=(lsB CS n3 k a++[(⟨nm1,sv1⟩:CutR)]).length:=⟨_,rfl⟩;rw[←hln] at hv6;subst hv6;have HST:=hid (zjk (show a<n3+1 by have:=HAN.out;omega) HCD.out HFD.out (fun b hb=>hb.elim) HBD2.out k1 k2 k3 (zlS HAN.out _ _ _) (zqG HAN.out _ _ _ _));have n1':=HST.out.1.1;have f1':=HST.out.1.2;clear k1 k2 k3 hln));refine hK _ _ (by first|assumption|exact Pre.refl _ _|exact Hid.out HPS _ _ (Same.alloc_of (Hid.out HSR) _)|exact Hid.out HPS _ _ (Same.set_of (Hid.out HNE) _)|exact Hid.out HPS _ _ (Same.allocs_of (Hid.out HSR) _ _)) ?_;clear hK K)
         |refine zcu ?_ ?_
         | (refine zba rfl rfl (fun K hK=>?_);go_wp2_with (fail);refine hK _ _ (by first | assumption | exact Pre.refl _ _ | exact Hid.out HPS _ _ (Same.alloc_of (Hid.out HSR) _) | exact Hid.out HPS _ _ (Same.set_of (Hid.out HNE) _) | exact Hid.out HPS _ _ (Same.allocs_of (Hid.out HSR) _ _)) ?_;clear hK K));try simp only [Act.put,Act.eval,evs])
        all_goals
         refine zcd ?_
         go_wp2
         refine⟨⟨k+1,upd nm k nm1,upd vs a (.slice A6 ln c6),by omega,by go_num,HST.out.2.1,HNK.out,?_,?_,?_,?_,HST.out.2.2.2.2.2⟩,by simp[intOf];omega⟩
         ·show Fam _ _ _ _ _ _ _ _ _ _
          rw[zpB HGJ.out (show a≠n3 by have:=HAN.out;omega) HU1.out]
          exact HST.out.2.2.1
         ·show _=_
          rw[za4 _ _ (show n3≠a by have:=HAN.out;omega),HST.out.2.2.2.1 _ (by have:=HSZK.out;omega) (by have:=HSZK.out;omega),hxD.block _ (by have:=HBZ.out;have:=HSZK.out;omega)]
          exact HG6.out
         ·intro b hb
          rw[HST.out.2.2.2.1 b hb.1 hb.2.1,hxD.block b (by have:=HBZ.out;have:=hb.1;omega),HX6.out.block b (by have:=HSZS.out;have:=HSZK.out;have:=hb.1;omega),HSO.out b (by have:=HSZK.out;have:=hb.1;omega) hb.2.1]
          exact HSK.out.1 b hb
         ·have h1:=HST.out.2.2.2.2.1
          have h2:=HBD2.out
          omega
      ·obtain rfl:n3=k:=by omega
       have hlt':¬(n3:Int)<(n3:Int):=by omega
       clear hlt
       obtain⟨wC,hwC⟩:∃x,x=wr:=⟨_,rfl⟩
       subst hwC
       have HLF:Hid (∀a,lsB CS n3 n3 a=if a=n3 then topS CS else ctxS CS a):=fun a=>by
        unfold lsB topS ctxS
        rw[List.take_of_length_le (Nat.le_of_eq HN3.out.symm)]
       have HSN:Hid (∀a,a<n3→∃A c,vs a=.slice A (ctxS CS a).length c∧Row Elem.cut (fun b=>wG.heap.size≤b∧b<wC.heap.size) wC A (ctxS CS a).length c (ctxS CS a)):=fun a ha=>by
        obtain⟨A,c,q1,q2⟩:=HFB.out.rows (show a<n3+1 by omega)
        rw[HLF.out a,if_neg (by omega)] at q1 q2
        exact⟨A,c,q1,q2.mono fun b hb h=>⟨by rcases h.1 with h|h;exact h.elim;exact h,hb⟩⟩
       have HTP:Hid (∃A c,vs n3=.slice A (topS CS).length c∧Row Elem.cut (fun b=>wG.heap.size≤b∧b<wC.heap.size) wC A (topS CS).length c (topS CS)):=by
        show ∃_,_
        obtain⟨A,c,q1,q2⟩:=HFB.out.rows (show n3<n3+1 by omega)
        rw[HLF.out n3,if_pos rfl] at q1 q2
        exact⟨A,c,q1,q2.mono fun b hb h=>⟨by rcases h.1 with h|h;exact h.elim;exact h,hb⟩⟩
       have HSZC:Hid (w.heap.size<w3.heap.size∧w3.heap.size<wA.heap.size∧wA.heap.size≤wB.heap.size∧wG.heap.size=wB.heap.size+2∧wG.heap.size≤wC.heap.size):=⟨HSZB.out.1,HSZK.out⟩
       have HVC:Hid (wC.heap[wB.heap.size]?=some (.cells (zbK svn (fun _=>.slice none 0 0)) 78 (0,0))):=(HSK.out.1 _ ⟨by have:=HSZC.out;omega,by have:=HSZC.out;omega,by omega⟩).trans HVB.out
       have HEC:Hid (∀i,i<n3→∃A c,ve i=.slice A (ctxE L CS i).length c∧Row Elem.ent (fun b=>b<wB.heap.size∧b≠w3.heap.size∧b≠w.heap.size) wC A (ctxE L CS i).length c (ctxE L CS i)):=fun i hi=>by
        obtain⟨A,c,q1,q2⟩:=HEN.out i hi
        exact⟨A,c,q1,(q2.ext HXG.out).same (fun b hb=>HSK.out.1 b ⟨by have:=HSZC.out;have:=hb.1;omega,hb.2.1,by have:=hb.1;omega⟩)⟩
       have HRC:Hid (wC.heap[w.heap.size]?=some (.cells #[nilS,nilS] 29 (0,0))):=by
        show _=_
        rw[HSK.out.1 _ ⟨by have:=HSZC.out;omega,by have:=HSZC.out;omega,by have:=HSZC.out;omega⟩,HXG.out.block _ (by have:=HSZC.out;omega),HSM.out.1 _ ⟨by have:=HSZC.out;omega,by have:=HSZC.out;omega⟩]
        exact HBA.out.blk
       have HLC:Hid (lsC L CS 0=fun _=>[]):=by show _=_;funext a;rfl
       have HX3C:=hid HSK.out.2.2
       have HNMF:=hid HNM.out
       clear HFB HLF
       go_wp2
       go_loopw [114] (fun i wq=>∃ (j:Nat) (vv:Nat→Value),j≤n3∧i=.int .i64 j∧Hid (wq.heap[wB.heap.size]?=some (.cells (zbK svn vv) 78 (0,0)))∧Hid (Fam Elem.cxt (fun b=>b<wC.heap.size∧b≠w.heap.size) 72 wB.heap.size w3 wC.heap.size svn wq vv (lsC L CS j)) ∧
        Hid (Same (fun b=>b<wC.heap.size∧b≠wB.heap.size) wC wq∧wC.heap.size≤wq.heap.size∧Ext w3 wq)) (fun i _=>n3-(intOf i).toNat)
       case atStart=>exact⟨0,fun _=>.slice none 0 0,by omega,rfl,HVC.out,by show Fam _ _ _ _ _ _ _ _ _ _;rw[HLC.out];exact Fam.nil HX3C.out (by have:=HSZC.out;omega) (by have:=HSZC.out;omega),fun _ _=>rfl,Nat.le_refl _,HX3C.out⟩
       case round=>
        obtain⟨j,vv,hj,rfl,HVQ,HFV,HSQ⟩:=hrel
        have HSZQ:Hid (wC.heap.size≤wr.heap.size):=HSQ.out.2.1
        have HGQ:Hid (wr.heap[wB.heap.size+1]?=some (.cells #[.slice (some ⟨wB.heap.size,0,none⟩) svn svn,vs n3] 29 (0,0))):=(HSQ.out.1 _ ⟨by have:=HSZC.out;omega,by omega⟩).trans HGK.out
        by_cases hlt:j<n3
        ·obtain⟨b1,o1,v1,x1,rfl,g1,-,r1,q1⟩:=(HCR.out.same (w':=wr) (fun b hb=>HSQ.out.1 b ⟨by have:=HSZC.out;have:=hb.1;omega,by have:=HSZC.out;have:=hb.1;omega⟩)).at_ hlt
         obtain⟨nm1,sv1⟩:=x1
         cases r1
         have e10:=q1 0 _ rfl
         have e11:=q1 1 _ rfl
         simp only[Elem.cut,CutR.cells,Nat.add_zero] at e10 e11
         have hsb:=HSB.out _ (List.mem_of_getElem? g1)
         simp only at hsb
         obtain⟨t,ht⟩:∃t:Nat,sv1=(t:Int):=⟨sv1.toNat,by omega⟩
         subst ht
         have HTN:Hid (t<svn):=by show _<_;omega
         have htn:(t:Int)<(svn:Int):=hsb.2
         have hlt':(j:Int)<(n3:Int):=by omega
         have HGJ:=hid g1
         have HJN:Hid (j<n3):=hlt
         have HNJ:Hid (nmAt CS j=nm1):=by show _=_;unfold nmAt;rw[g1];rfl
         obtain⟨Ae,ce,hve,hre⟩:=HEC.out j hlt
         obtain⟨As,cs',hvs,hrs⟩:=HSN.out j hlt
         obtain⟨ne,hne⟩:∃x,x=(ctxE L CS j).length:=⟨_,rfl⟩
         obtain⟨ns,hns⟩:∃x,x=(ctxS CS j).length:=⟨_,rfl⟩
         rw[←hne] at hve hre
         rw[←hns] at hvs hrs
         have HRE:=hid hre
         have HRS:=hid hrs
         have HVE:=hid hve
         have HVS:=hid hvs
         have HBX:=hid (Bx.make (Ext.refl wr) #[.string nm1,.int .i64 (t:Int)] 60)
         have b1':=HBX.out.cell (i:=1) rfl
         have gq:(wr.alloc (.cells #[.string nm1,.int .i64 (t:Int)] 60)).cell? ⟨wB.heap.size+1,0,none⟩=some (.slice (some ⟨wB.heap.size,0,none⟩) svn svn):=by
          rw[cell_of_row _ _ _ _ _ _ ((HBX.out.ext.block _ (by have:=HSZC.out;have:=HSZQ.out;omega)).trans HGQ.out)]
          rfl
         have HCQ:Hid (wr.heap[w3.heap.size]?=some (.cells (zaN n3 nm ve vs) 72 (0,0))):=(HSQ.out.1 _ ⟨by have:=HSZC.out;omega,by have:=HSZC.out;omega⟩).trans HCK.out
         have HLT:Hid ((lsC L CS j t).length≤4000000):=by
          show _≤_
          unfold lsC
          have h1:=List.length_filter_le (fun i=>decide (((CS[i]?).map (·.server)).getD (-1)=(t:Int))) (List.range j)
          rw[List.length_map]
          rw[List.length_range] at h1
          omega
         clear q1 g1 hre hrs hve hvs hne hns hsb
         go_wp2
         obtain⟨S9,hS9⟩:∃S:Nat→Prop,S=fun b=>b=w3.heap.size:=⟨_,rfl⟩
         have HS7:Hid (S9 w3.heap.size):=by show S9 _;rw[hS9]
         have HSI:Hid (∀b,S9 b→b=w3.heap.size):=fun b hb=>by rw[hS9] at hb;exact hb
         obtain⟨PR,hPR⟩:∃p,p=Pre.same S9:=⟨_,rfl⟩
         have HPS:Hid (∀w w',Same S9 w w'→PR.r w w'):=fun w w' h=>by rw[hPR];exact h
         have HPT:Hid (∀w w',PR.r w w'→Same S9 w w'):=fun w w' h=>by rw[hPR] at h;exact h
         clear hPR hS9 e10 e11 b1' gq
         refine zbi PR (.read 0 (.read 1 (.read 2 (.read 3 (.read 5 (.read 6 (.read 7 (.read 8 (.alt 4 (.main 9 (.main 10 (.read 11 (.read 12 (.main 13 .done))))) (.main 9 (.main 4 (.main 10 (.read 11 (.read 12 (.main 13 .done))))))))))))))) (by kernel_rfl) (by kernel_rfl) ?_
         intro wD hxD
         have XR:Hid (PR.r wD wD):=PR.refl _
         have HXD:=hid (HBX.out.ext.trans hxD)
         have HSZD:Hid (wr.heap.size<wD.heap.size):=by show _<_;have h1:=zaz hxD;simp only[World.alloc,Array.size_push] at h1;omega
         have HSR:Hid (∀b,S9 b→b<wD.heap.size):=fun b hb=>by have h1:=HSI.out b hb;have:=HSZC.out;have:=HSZQ.out;have:=HSZD.out;omega
         have HNE:Hid (∀b,S9 b→b≠wB.heap.size):=fun b hb=>by have h1:=HSI.out b hb;have h2:=HSZC.out;omega
         have HFD:=hid (HFV.out.later HXD.out)
         have HNO:Hid (∀b,S9 b→some b≠(vv t).ownBlock):=fun b hb e=>by have h1:=HSI.out b hb;have h2:=HFV.out.high t HTN.out b e.symm;have:=HSZC.out;omega
         have HCD:=hid ((HXD.out.block w3.heap.size (by have:=HSZC.out;have:=HSZQ.out;omega)).trans HCQ.out)
         have HVD:=hid ((HXD.out.block wB.heap.size (by have:=HSZC.out;have:=HSZQ.out;omega)).trans HVQ.out)
         have P1:Hid (wD.cell? ⟨wB.heap.size,t,none⟩=some (vv t)):=by show _=_;rw[cell_of_row _ _ _ _ _ _ HVD.out];exact zo6 HTN.out _
         have c0:∀w',PR.r wD w'→w'.cell? ⟨w3.heap.size,j * 3,none⟩=some (.string nm1):=fun w' hk=>by rw[World.cell?_of_block (HPT.out _ _ hk _ HS7.out),cell_of_row _ _ _ _ _ _ HCD.out,zpd HJN.out,HNMF.out j HJN.out,HNJ.out]
         have c1':∀w',PR.r wD w'→w'.cell? ⟨w3.heap.size,j * 3+1,none⟩=some (.slice Ae ne ce):=fun w' hk=>by rw[World.cell?_of_block (HPT.out _ _ hk _ HS7.out),cell_of_row _ _ _ _ _ _ HCD.out,zk6 HJN.out,HVE.out]
         have c2':∀w',PR.r wD w'→w'.cell? ⟨w3.heap.size,j * 3+2,none⟩=some (.slice As ns cs'):=fun w' hk=>by rw[World.cell?_of_block (HPT.out _ _ hk _ HS7.out),cell_of_row _ _ _ _ _ _ HCD.out,zlS HJN.out,HVS.out]
         have HROW:=hid (HFD.out.row t HTN.out)
         have HEL:Hid (Elem.cxt.R (zcD (fun b=>b<wC.heap.size∧b≠w.heap.size) (vv t) (some wB.heap.size)) wD [.string nm1,.slice Ae ne ce,.slice As ns cs'] (znv L CS j)):=by
          refine⟨Ae,ne,ce,As,ns,cs',by show _=[Value.string (nmAt CS j),_,_];rw[HNJ.out],?_,?_⟩
          ·refine((HRE.out.same (w':=wr) (fun b hb=>HSQ.out.1 b ⟨by have:=HSZC.out;have:=hb.1;omega,by have:=hb.1;omega⟩)).ext HXD.out).mono fun b _ hb=>⟨⟨by have:=HSZC.out;have:=hb.1;omega,hb.2.2⟩,fun e=>by have:=HFV.out.high t HTN.out b e.symm;have:=HSZC.out;have:=hb.1;omega,fun e=>by injection e with e;have:=hb.1;omega⟩
          ·refine((HRS.out.same (w':=wr) (fun b hb=>HSQ.out.1 b ⟨hb.2,by have:=HSZC.out;have:=hb.1;omega⟩)).ext HXD.out).mono fun b _ hb=>⟨⟨hb.2,by have:=HSZC.out;have:=hb.1;omega⟩,fun e=>by have:=HFV.out.high t HTN.out b e.symm;have:=hb.2;omega,fun e=>by injection e with e;have:=HSZC.out;have:=hb.1;omega⟩
         have HBD2:Hid (wC.heap.size≤wD.heap.size):=by show _≤_;have:=HSZQ.out;have:=HSZD.out;omega
         repeat' ((first
          |refine zcb rfl rfl ?_
          |refine zby rfl rfl ?_
          |refine walksR_skip rfl rfl ?_
          |refine walksR_unwanted rfl rfl ?_
          |(refine za9 (v:=?_) rfl rfl (fun w' hE=>?_) ?_;rotate_left 1;(· ((try(have hEx:=Pre.trans _ (Hid.out XR) hE));go_simp;(try go_bits);with_reducible rfl)))
          |(refine zba rfl rfl (fun K hK=>?_);(first|(refine zbs 68 (.tmp 127) rfl ⟨wB.heap.size,t,none⟩ rfl (vv t) (by first|exact P1.out|exact zaa P1.out _ (Ext.alloc _ _)) (fun _=>by kernel_rfl) ?_)|(refine zcF Tryz.underlying68 zmh rfl (by decide) (.tmp 128) (.tmp 133) rfl (vv t) _ rfl HROW.out (u:=[.string nm1,.slice Ae ne ce,.slice As ns cs']) (znv L CS j) HEL.out (by intro c hc;simp at hc;rcases hc with rfl|rfl|rfl<;>rfl) rfl rfl HLT.out ?_;intro v' w9 k1 k2 k3;have hs9:PR.r _ w9:=HPS.out _ _ (fun b hb=>k2.block b (by have:=HSR.out b hb;simp only[World.alloc,Array.size_push];omega) (HNO.out b hb));obtain⟨A6,c6,hv6,-⟩:=k1.row;obtain⟨ln,hln⟩:∃x,x=(lsC L CS j t++[znv L CS j]).length:=⟨_,rfl⟩;rw[←hln] at hv6;subst hv6;have HST:=hid (zjk HTN.out HVD.out HFD.out (fun b hb=>hb.1) HBD2.out k1 k2 k3 (zo6 HTN.out _) (zrR HTN.out _ _));have n1':=HST.out.1.1;have f1':=HST.out.1.2;clear k1 k2 k3 hln));refine hK _ _ (by first|assumption|exact Pre.refl _ _|exact Hid.out HPS _ _ (Same.alloc_of (Hid.out HSR) _)|exact Hid.out HPS _ _ (Same.set_of (Hid.out HNE) _)|exact Hid.out HPS _ _ (Same.allocs_of (Hid.out HSR) _ _)) ?_;clear hK K)
          |refine zcu ?_ ?_
          | (refine zba rfl rfl (fun K hK=>?_);go_wp2_with (fail);refine hK _ _ (by first | assumption | exact Pre.refl _ _ | exact Hid.out HPS _ _ (Same.alloc_of (Hid.out HSR) _) | exact Hid.out HPS _ _ (Same.set_of (Hid.out HNE) _) | exact Hid.out HPS _ _ (Same.allocs_of (Hid.out HSR) _ _)) ?_;clear hK K));try simp only [Act.put,Act.eval,evs])
         all_goals
          refine zcd ?_
          go_wp2
          refine⟨⟨j+1,upd vv t (.slice A6 ln c6),by omega,by go_num,HST.out.2.1,?_,?_,?_,HST.out.2.2.2.2.2⟩,by simp[intOf];omega⟩
          ·show Fam _ _ _ _ _ _ _ _ _ _
           rw[zp9 HGJ.out rfl]
           exact HST.out.2.2.1
          ·intro b hb
           rw[HST.out.2.2.2.1 b hb.1 hb.2,HXD.out.block b (by have:=HSZQ.out;have:=hb.1;omega)]
           exact HSQ.out.1 b hb
          ·have h1:=HST.out.2.2.2.2.1
           have h2:=HBD2.out
           omega
        ·obtain rfl:n3=j:=by omega
         have hlt':¬(n3:Int)<(n3:Int):=by omega
         have HVR:Hid (∀s,s<svn→∃A c,vv s=.slice A (srvF L CS s).length c∧Row Elem.cxt (fun b=>b≠w.heap.size) wr A (srvF L CS s).length c (srvF L CS s)):=fun s hs=>by
          obtain⟨A,c,q1,q2⟩:=HFV.out.rows hs
          have e:lsC L CS n3 s=srvF L CS s:=by unfold lsC srvF;rw[←HN3.out]
          rw[e] at q1 q2
          exact ⟨A,c,q1,q2.mono fun b _ hb=>by
           rcases hb.1 with h|h
           ·exact h.2
           ·have:=HSZC.out;omega⟩
         have HSRV:Hid (Row Elem.srw (fun b=>b≠w.heap.size) wr (some ⟨wB.heap.size,0,none⟩) svn svn (zaS L CS svn)):=by
          refine⟨by simp[zaS],Nat.le_refl _,by simp only[maxLen];have:=HSV.out;omega,(List.range svn).map (fun s=>[vv s]),by simp,?_,?_⟩
          ·refine .inr ⟨wB.heap.size,0,rfl,by have:=HSZC.out;omega,fun i u hi=>?_⟩
           have e:((List.range svn).map (fun s=>[vv s])).flatten=(List.range svn).map vv:=by
            rw[←List.flatMap_def]
            induction List.range svn with
            |nil=>rfl
            |cons a t ih=>simp[ih]
           rw[e,List.getElem?_map] at hi
           by_cases h:i<svn
           ·rw[List.getElem?_eq_getElem (by simpa using h)] at hi
            simp at hi
            subst hi
            rw[Nat.zero_add,cell_of_row _ _ _ _ _ _ HVQ.out]
            exact zo6 h _
           ·rw[List.getElem?_eq_none (by simpa using h)] at hi
            cases hi
          ·intro i v x hi hx
           by_cases h:i<svn
           ·unfold zaS at hx
            rw[List.getElem?_map,List.getElem?_eq_getElem (by simpa using h)] at hi hx
            simp at hi hx
            subst hi hx
            obtain⟨A,c,q1,q2⟩:=HVR.out i h
            exact⟨A,_,c,by rw[q1],q2⟩
           ·rw[List.getElem?_map,List.getElem?_eq_none (by simpa using h)] at hi
            cases hi
         obtain⟨At,ct,hvt,htr⟩:=HTP.out
         obtain⟨nt,hnt⟩:∃x,x=(topS CS).length:=⟨_,rfl⟩
         rw[←hnt] at hvt htr
         rw[hvt] at HGQ
         have HTOP:Hid (Row Elem.cut (fun b=>b≠w.heap.size) wr At nt ct (topS CS)):=(htr.same (w':=wr) (fun b hb=>HSQ.out.1 b ⟨hb.2,by have:=HSZC.out;have:=hb.1;omega⟩)).mono fun b _ hb=>by have:=HSZC.out;have:=hb.1;omega
         have HBE:=hid (show Bx w wr w.heap.size 29 #[nilS,nilS] from⟨Nat.le_refl _,(HSQ.out.1 _ ⟨by have:=HSZC.out;omega,by have:=HSZC.out;omega⟩).trans HRC.out,HX03.out.trans HSQ.out.2.2⟩)
         have r0:=HBE.out.cell (i:=0) rfl
         have r1:=HBE.out.cell (i:=1) rfl
         have f0:=HBE.out.frozen 0
         have f1:=HBE.out.frozen 1
         have g0:wr.cell? ⟨wB.heap.size+1,0,none⟩=some (.slice (some ⟨wB.heap.size,0,none⟩) svn svn):=(cell_of_row wr _ 0 _ _ (0,0) HGQ.out).trans rfl
         have g1:wr.cell? ⟨wB.heap.size+1,1,none⟩=some (.slice At nt ct):=(cell_of_row wr _ 1 _ _ (0,0) HGQ.out).trans rfl
         clear hvt htr hnt
         go_wp2
         (try simp only[Exit.inBlock,Exit.then])
         have HBF:=(HBE.out.set0 (.slice (some ⟨wB.heap.size,0,none⟩) svn svn)).set1 (.slice At nt ct)
         refine zaq _ rfl rfl HBF Tryz.underlying29 rfl (by kernel_rfl) rfl ?_
         have hno:¬(w.heap.size≠w.heap.size):=fun h=>h rfl
         exact HFIN.out _ _ _ _ _ (((HSRV.out.aside hno 0 _).aside hno 1 _).mono fun _ _ _=>trivial) (((HTOP.out.aside hno 0 _).aside hno 1 _).mono fun _ _ _=>trivial) HBF.ext
  ·have hri:∀ g Bt es clock w',Ext w w'→TreeAt (zhe (fun b=>S b∧b<w.heap.size) (w.alloc (.cells #[nilS,nilS] 29)) Bt) w' g Bt es clock l→Calls Tryz.prog 25 #[.pointer (some ⟨g,0,none⟩),.slice B m d,.int .i64 sv] w' fun e w''=>e=.returned (.bool false)∧Ext w' w'':=fun g Bt es clock w' hx ht=>(HRI g Bt es clock w' hx ht).mono fun e w'' ⟨b,h1,h2,h3⟩=>⟨by
    cases b with
    |true=>exact absurd (h2.1 rfl) hr
    | false=>exact h1,h3⟩
   have HE:Hid (¬(OkOf l∧RightOk l cs sv)):=fun h=>hr h.2
   clear HRI hr
   go_enter Tryz.func8,Tryz.ntmps8
   go_wp2_with (first
    |(go_at_call 24;(with_reducible refine hof.mono ?_);rintro e w1 ⟨g,Bt,es,clock,rfl,ht1,hx1⟩;have HT1:=hid ht1;have HB1:=hid (HB0.out.later hx1);clear ht1 hx1)
    | (go_at_call 25;(with_reducible refine (hri _ _ _ _ _ HB1.out.ext HT1.out).mono ?_);rintro e w2 ⟨rfl,hx2⟩;have HB2:=hid (HB1.out.later hx2);have r0:=HB2.out.cell (i:=0) rfl;have r1:=HB2.out.cell (i:=1) rfl;have f0:=HB2.out.frozen 0;have f1:=HB2.out.frozen 1;clear hx2))
   (try simp only[Exit.inBlock,Exit.then])
   have HBF:=(HB2.out.set0 nilS).set1 nilS
   refine zaq _ rfl rfl HBF Tryz.underlying29 rfl (by kernel_rfl) rfl ?_
   exact .inr ⟨HE.out,1,.inr ⟨HOK.out,rfl⟩,rfl,HBF.ext⟩
 ·have hof:Calls Tryz.prog 24 #[.slice A n c] (w.alloc (.cells #[nilS,nilS] 29)) fun e w''=>e=.returned (.tuple #[.pointer none,.int .i64 2])∧Ext (w.alloc (.cells #[nilS,nilS] 29)) w'':=HOF.mono fun e w'' h=>by
   rcases h with⟨h1,-⟩|⟨-,h1,h2⟩
   ·exact absurd h1 hok
   ·exact⟨h1,h2⟩
  have HE:Hid (¬(OkOf l∧RightOk l cs sv)):=fun h=>hok h.1
  have HNO:=hid hok
  clear HOF hok
  go_enter Tryz.func8,Tryz.ntmps8
  go_wp2_with(go_at_call 24;(with_reducible refine hof.mono ?_);rintro e w1 ⟨rfl,hx1⟩;have HB1:=hid (HB0.out.later hx1);have r0:=HB1.out.cell (i:=0) rfl;have r1:=HB1.out.cell (i:=1) rfl;have f0:=HB1.out.frozen 0;have f1:=HB1.out.frozen 1;clear hx1)
  (try simp only[Exit.inBlock,Exit.then])
  have HBF:=(HB1.out.set0 nilS).set1 nilS
  refine zaq _ rfl rfl HBF Tryz.underlying29 rfl (by kernel_rfl) rfl ?_
  exact .inr ⟨HE.out,2,.inl ⟨HNO.out,rfl⟩,rfl,HBF.ext⟩
end Go.Proofs.YtkjbokhnpphimaaGreatDoor
