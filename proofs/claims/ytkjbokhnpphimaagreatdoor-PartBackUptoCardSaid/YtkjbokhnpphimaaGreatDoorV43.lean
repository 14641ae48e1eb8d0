/- Lemmas of the walk. -/
import Derived.Test.YtkjbokhnpphimaaGreatDoorV42
set_option maxHeartbeats 40000000
set_option linter.unusedVariables false
set_option linter.unusedSimpArgs false
namespace Go.Proofs.YtkjbokhnpphimaaGreatDoor
open Go.RowKit
open Go.Maps
set_option maxRecDepth 100000
theorem zjK(l:List Ent):zhg (sortN nmE l) []=((sortN nmE l).filter fun e=>decide ((zaT (nmE e)).1=[])).map (·.name):=by
 have h:zaJ (zak [])=0:=rfl
 have h2:za3 []=[]:=rfl
 unfold zhg
 rw[if_pos h]
 congr 2
theorem zpW{l:List Ent}{cs:List CutR}{sv:Int}(hN:Named l)(h1:1≤sv∧sv≤8)(h2:cs.length≤30)(h3:∀c∈cs,zo4 l sv c)(h4:Apart nmQ cs) :
 ((zhg (sortN nmE l) []).any fun x=>!zcP (cs.map (·.name)) x)=false↔RightOk l cs sv:=by
 have hp:=(zbo hN.self hN.apart).1
 rw[zjK]
 constructor
 ·intro h
  refine⟨h1,h2,h3,h4,fun e he hpe=>?_⟩
  rw[List.any_eq_false] at h
  have:=h e.name (List.mem_map.2 ⟨e,List.mem_filter.2 ⟨hp.mem_iff.2 he,by rw[decide_eq_true hpe]⟩,rfl⟩)
  simp only[Bool.not_eq_true,Bool.not_eq_false'] at this
  unfold zcP at this
  rw[List.any_eq_true] at this
  obtain⟨t,ht,hte⟩:=this
  obtain⟨c,hc,rfl⟩:=List.mem_map.1 ht
  exact⟨c,hc,by simpa using hte⟩
 ·intro h
  rw[List.any_eq_false]
  intro x hx
  obtain⟨e,he,rfl⟩:=List.mem_map.1 hx
  obtain⟨he1,he2⟩:=List.mem_filter.1 he
  obtain⟨c,hc,hn⟩:=h.top e (hp.mem_iff.1 he1) (by simpa using he2)
  have:zcP (cs.map (·.name)) e.name=true:=by
   unfold zcP
   rw[List.any_eq_true]
   exact⟨c.name,List.mem_map.2 ⟨c,hc,rfl⟩,by simpa using hn⟩
  rw[this]
  simp
theorem znB{cs:List CutR}{j:Nat}{c:CutR}(h:Apart nmQ (cs.take j))(hc:cs[j]?=some c)(hn:zcP ((cs.take j).map (·.name)) c.name=false):Apart nmQ (cs.take (j+1)):=by
 rw[List.take_add_one,hc]
 show List.Pairwise _ _
 rw[Option.toList_some,List.pairwise_append]
 refine⟨h,List.pairwise_singleton _ _,fun a ha b hb=>?_⟩
 simp at hb
 subst hb
 unfold zcP at hn
 rw[List.any_eq_false] at hn
 have:=hn a.name (List.mem_map.2 ⟨a,ha,rfl⟩)
 intro e
 apply this
 simp only[decide_eq_true_eq]
 rw[←zaK a.name,←zaK b.name]
 exact congrArg str e
theorem zq5{cs:List CutR}{j:Nat}{c:CutR}(hc:cs[j]?=some c)(hn:zcP ((cs.take j).map (·.name)) c.name=true):¬Apart nmQ cs:=by
 intro h
 unfold zcP at hn
 rw[List.any_eq_true] at hn
 obtain⟨t,ht,hte⟩:=hn
 obtain⟨a,ha,rfl⟩:=List.mem_map.1 ht
 obtain⟨i,hi⟩:=List.getElem?_of_mem ha
 have hij:i<j:=by
  have:=(List.getElem?_eq_some_iff.1 hi).1
  rw[List.length_take] at this
  omega
 rw[List.getElem?_take_of_lt hij] at hi
 have hil:=(List.getElem?_eq_some_iff.1 hi).1
 have hjl:=(List.getElem?_eq_some_iff.1 hc).1
 have:=List.pairwise_iff_getElem.1 h i j hil hjl hij
 rw[List.getElem?_eq_getElem hil] at hi
 rw[List.getElem?_eq_getElem hjl] at hc
 injection hi with hi
 injection hc with hc
 rw[hi,hc] at this
 exact this (by show bys _=bys _;rw[of_decide_eq_true hte])
def RightSays(w:World)(l:List Ent)(cs:List CutR)(sv:Int)(e:Ending)(w':World):Prop:=∃b:Bool,e=.returned (.bool b)∧(b=true↔RightOk l cs sv)∧Ext w w'
theorem RightSays.no{w w':World}{l:List Ent}{cs:List CutR}{sv:Int}(h:¬RightOk l cs sv)(hx:Ext w w'):RightSays w l cs sv (.returned (.bool false)) w':=⟨false,rfl,by simp[h],hx⟩
theorem zpg{S:Nat→Prop}{A:Option Addr}{n c:Nat}{cs:List CutR}{w:World}{g Bt:Nat}{es:Array MapEntry}{clock:Nat}{l:List Ent}(ht:TreeAt (fun b=>b≠Bt) w g Bt es clock l)(h:Row Elem.cut S w A n c cs)(sv:Int)(hG:Gu w)(hf:∀e∈l,EntFits e)(hN:Named l)(hll:l.length≤1000000)(hs1:-9223372036854775808≤sv)(hs2:sv≤9223372036854775807) :
 Calls Tryz.prog 25 #[.pointer (some ⟨g,0,none⟩),.slice A n c,.int .i64 sv] w (RightSays w l cs sv):=by
 have HL:=hid h.len
 have HR:=hid h
 have HT:=hid ht
 have HG:=hid hG
 have HF:=hid hf
 have HN:=hid hN
 have HLL:=hid hll
 have hnl:n≤9223372036854775807:=by have:=h.cap;have:=h.most;simp only[maxLen] at this;omega
 clear h ht hG hf hN hll
 show Calls _ _ _ _ (fun e w'=>RightSays w l cs sv e w')
 by_cases h1:sv<1
 ·have HE:Hid (¬RightOk l cs sv):=fun h=>by have:=h.srv;omega
  go_enter Tryz.func25,Tryz.ntmps25
  go_wp2
  go_ret
  exact RightSays.no HE.out (Ext.refl _)
 by_cases h2:8<sv
 ·have HE:Hid (¬RightOk l cs sv):=fun h=>by have:=h.srv;omega
  go_enter Tryz.func25,Tryz.ntmps25
  go_wp2
  go_ret
  exact RightSays.no HE.out (Ext.refl _)
 by_cases h3:30<n
 ·have HE:Hid (¬RightOk l cs sv):=fun h=>by have:=h.few;have:=HL.out;omega
  have h3':(30:Int)<(n:Int):=by omega
  clear h3
  go_enter Tryz.func25,Tryz.ntmps25
  go_wp2
  go_ret
  exact RightSays.no HE.out (Ext.refl _)
 have h3':¬(30:Int)<(n:Int):=by omega
 have HS18:Hid (1≤sv∧sv≤8):=⟨by omega,by omega⟩
 have hn30:n≤30:=by omega
 have HCF:Hid (cs.length≤30):=by show _≤_;rw[←HL.out];exact hn30
 have HMK:=hid (MSet.made w)
 have HBS0:=hid (Bx.make (Ext.alloc w (.map #[] 0)) #[.map (some w.heap.size)] 115)
 rw[show(w.alloc (.map #[] 0)).heap.size=w.heap.size+1 by simp] at HBS0
 have HMS0:=hid (HMK.out.ext (Ext.alloc (w.alloc (.map #[] 0)) (.cells #[.map (some w.heap.size)] 115)))
 clear h3
 go_enter Tryz.func25,Tryz.ntmps25
 have hmm:=@run_makeMap Tryz.prog
 go_wp2
 clear h1 h2 h3' hmm
 go_loopw [28] (fun i wr=>∃j:Nat,j≤n∧i=.int .i64 j∧Hid (Bx w wr (w.heap.size+1) 115 #[.map (some w.heap.size)])∧Hid (MSet wr w.heap.size j ((cs.take j).map (·.name)))∧Hid ((∀c∈cs.take j,zo4 l sv c)∧Apart nmQ (cs.take j))) (fun i _=>n-(intOf i).toNat)
 case atStart=>exact⟨0,by omega,rfl,HBS0.out,HMS0.out,by simp,List.Pairwise.nil⟩
 case round=>
  obtain⟨j,hj,rfl,HBS,HMS,HGD⟩:=hrel
  have hlts:=HBS.out.lt
  by_cases hlt:j<n
  ·obtain⟨b1,o1,v1,x1,rfl,g1,-,r1,q1⟩:=(HR.out.ext HBS.out.ext).at_ hlt
   obtain⟨nm1,sv1⟩:=x1
   cases r1
   have e10:=q1 0 _ rfl
   have e11:=q1 1 _ rfl
   simp only[Elem.cut,CutR.cells,Nat.add_zero] at e10 e11
   have hlt':(j:Int)<(n:Int):=by omega
   have HGJ:=hid g1
   have HMEM:Hid ((⟨nm1,sv1⟩:CutR)∈cs):=List.mem_of_getElem? g1
   have HBC:=hid (Bx.make (Ext.refl wr) #[.string nm1,.int .i64 sv1] 60)
   have HTG:∀w',Ext wr w'→Calls Tryz.prog 52 #[.pointer (some ⟨g,0,none⟩),.string nm1] w' (zjl w' (getO l (bys nm1))):=fun w' hx=>zqN (HT.out.ext (HBS.out.ext.trans hx)) nm1 (HG.out.gl.ext (HBS.out.ext.trans hx)) HF.out
   unfold zjl at HTG
   have HGI:=hid (zqX HN.out sv (⟨nm1,sv1⟩:CutR))
   have hov:∀a∈((getO l (bys nm1)).getD zkM).atts,a.vals.length≤8796093022208:=by
    cases ho:getO l (bys nm1) with
    |none=>intro a ha;simp[zkM] at ha
    |some e=>
     have hm:e∈l:=by
      unfold getO at ho
      split at ho
      ·exact List.mem_of_find?_eq_some ho
      ·cases ho
     exact(HF.out e hm).vals
   have HSZ:Hid (((getO l (bys nm1)).getD zkM).name=nm1→(getO l (bys nm1)).isSome=true→nm1.size≤maxLen):=fun h k=>by
    cases ho:getO l (bys nm1) with
    |none=>rw[ho] at k;cases k
    |some e=>
     rw[ho] at h
     have hm:e∈l:=by
      unfold getO at ho
      split at ho
      ·exact List.mem_of_find?_eq_some ho
      ·cases ho
     have:=(HF.out e hm).name
     rw[←h]
     simp only[Option.getD_some,maxLen]
     omega
   simp only at HGI
   generalize (getO l (bys nm1)).isSome=ob at*
   generalize (getO l (bys nm1)).getD zkM=ox at*
   have HAL:∀A' n' c' w',Ext wr w'→Row Elem.att (fun _=>True) w' A' n' c' ox.atts→Calls Tryz.prog 53 #[.agg #[.string ox.name,.slice A' n' c']] w' (zdn w' ox.atts):=fun A' n' c' w' hx hr=>zkl hr ox.name (HG.out.ext (HBS.out.ext.trans hx)) hov
   unfold zdn at HAL
   have HNG:Hid (¬zo4 l sv ⟨nm1,sv1⟩→¬RightOk l cs sv):=fun h k=>h (k.cut _ HMEM.out)
   generalize (zcV ox.atts).2=al at*
   generalize str (zcV ox.atts).1=at1 at*
   clear hov q1 g1
   cases ob with
   |false=>
    have HE:Hid (¬RightOk l cs sv):=HNG.out (fun h=>by have:=(HGI.out.1 h).1;cases this)
    go_wp2_with((first|(go_at_call 52;(with_reducible refine(HTG _ HBC.out.ext).mono ?_);rintro e w4 ⟨A4,n4,c4,rfl,hr4,hx4⟩;have HX4:=hid (hx4.trans (Ext.alloc w4 (.cells #[.string ox.name,.slice A4 n4 c4] 58)));have HE4:=hid (Bx.make (Ext.refl w4) #[.string ox.name,.slice A4 n4 c4] 58);have HR4:=hid (hr4.ext (Ext.alloc w4 (.cells #[.string ox.name,.slice A4 n4 c4] 58)));have HC4:=hid (HBC.out.later HX4.out);have q0:=HE4.out.cell (i:=0) rfl;have q1:=HE4.out.cell (i:=1) rfl;clear hr4 hx4)|(go_at_call 53;(with_reducible refine(HAL _ _ _ _ HC4.out.ext HR4.out).mono ?_);rintro e w5 ⟨rfl,hx5⟩;have HX5:=hid (HC4.out.ext.trans hx5);have HC5:=hid (HC4.out.later hx5);have HE5:=hid (HE4.out.later hx5);have p0:=HC5.out.cell (i:=0) rfl;have p1:=HC5.out.cell (i:=1) rfl;have r0:=HE5.out.cell (i:=0) rfl;have r1:=HE5.out.cell (i:=1) rfl;have s0:=(HBS.out.later HX5.out).cell (i:=0) rfl;have HM5:=hid (HMS.out.ext HX5.out);(try have hlk:=HLK.out _ HM5.out);clear hx5) ))
    go_ret
    exact RightSays.no HE.out (HBS.out.ext.trans HX5.out)
   |true=>
    cases al with
    |true=>
     have HE:Hid (¬RightOk l cs sv):=HNG.out (fun h=>by have:=(HGI.out.1 h).2.1;cases this)
     go_wp2_with((first|(go_at_call 52;(with_reducible refine(HTG _ HBC.out.ext).mono ?_);rintro e w4 ⟨A4,n4,c4,rfl,hr4,hx4⟩;have HX4:=hid (hx4.trans (Ext.alloc w4 (.cells #[.string ox.name,.slice A4 n4 c4] 58)));have HE4:=hid (Bx.make (Ext.refl w4) #[.string ox.name,.slice A4 n4 c4] 58);have HR4:=hid (hr4.ext (Ext.alloc w4 (.cells #[.string ox.name,.slice A4 n4 c4] 58)));have HC4:=hid (HBC.out.later HX4.out);have q0:=HE4.out.cell (i:=0) rfl;have q1:=HE4.out.cell (i:=1) rfl;clear hr4 hx4)|(go_at_call 53;(with_reducible refine(HAL _ _ _ _ HC4.out.ext HR4.out).mono ?_);rintro e w5 ⟨rfl,hx5⟩;have HX5:=hid (HC4.out.ext.trans hx5);have HC5:=hid (HC4.out.later hx5);have HE5:=hid (HE4.out.later hx5);have p0:=HC5.out.cell (i:=0) rfl;have p1:=HC5.out.cell (i:=1) rfl;have r0:=HE5.out.cell (i:=0) rfl;have r1:=HE5.out.cell (i:=1) rfl;have s0:=(HBS.out.later HX5.out).cell (i:=0) rfl;have HM5:=hid (HMS.out.ext HX5.out);(try have hlk:=HLK.out _ HM5.out);clear hx5) ))
     go_ret
     exact RightSays.no HE.out (HBS.out.ext.trans HX5.out)
    |false=>
     by_cases hne:ox.name=nm1
     ·have HSZ2:=hid (HSZ.out hne rfl)
      have t1:(ox.name.toList==nm1.toList)=true:=zco hne
      have HNE:=hid hne
      clear hne
      have HLK:Hid (∀w',MSet w' w.heap.size j ((cs.take j).map (·.name))→(Instr.lookup 115 (.map (some w.heap.size)) (.string nm1) false).run Tryz.prog w'=.ok (.bool (zcP ((cs.take j).map (·.name)) nm1)) w'):=fun w' h=>h.look_run nm1 HSZ2.out
      cases hsn:zcP ((cs.take j).map (·.name)) nm1 with
      |true=>
       have HE:Hid (¬RightOk l cs sv):=fun k=>zq5 HGJ.out hsn k.apart
       rw[hsn] at HLK
       clear hsn
       go_wp2_with((first|(go_at_call 52;(with_reducible refine(HTG _ HBC.out.ext).mono ?_);rintro e w4 ⟨A4,n4,c4,rfl,hr4,hx4⟩;have HX4:=hid (hx4.trans (Ext.alloc w4 (.cells #[.string ox.name,.slice A4 n4 c4] 58)));have HE4:=hid (Bx.make (Ext.refl w4) #[.string ox.name,.slice A4 n4 c4] 58);have HR4:=hid (hr4.ext (Ext.alloc w4 (.cells #[.string ox.name,.slice A4 n4 c4] 58)));have HC4:=hid (HBC.out.later HX4.out);have q0:=HE4.out.cell (i:=0) rfl;have q1:=HE4.out.cell (i:=1) rfl;clear hr4 hx4)|(go_at_call 53;(with_reducible refine(HAL _ _ _ _ HC4.out.ext HR4.out).mono ?_);rintro e w5 ⟨rfl,hx5⟩;have HX5:=hid (HC4.out.ext.trans hx5);have HC5:=hid (HC4.out.later hx5);have HE5:=hid (HE4.out.later hx5);have p0:=HC5.out.cell (i:=0) rfl;have p1:=HC5.out.cell (i:=1) rfl;have r0:=HE5.out.cell (i:=0) rfl;have r1:=HE5.out.cell (i:=1) rfl;have s0:=(HBS.out.later HX5.out).cell (i:=0) rfl;have HM5:=hid (HMS.out.ext HX5.out);(try have hlk:=HLK.out _ HM5.out);clear hx5)))
       go_ret
       exact RightSays.no HE.out (HBS.out.ext.trans HX5.out)
      |false=>
       have HAP:=hid (znB HGD.out.2 HGJ.out hsn)
       rw[hsn] at HLK
       clear hsn
       by_cases hv1:sv1<0
       ·have HE:Hid (¬RightOk l cs sv):=HNG.out (fun h=>by have:=(HGI.out.1 h).2.2.2.1;omega)
        go_wp2_with((first|(go_at_call 52;(with_reducible refine(HTG _ HBC.out.ext).mono ?_);rintro e w4 ⟨A4,n4,c4,rfl,hr4,hx4⟩;have HX4:=hid (hx4.trans (Ext.alloc w4 (.cells #[.string ox.name,.slice A4 n4 c4] 58)));have HE4:=hid (Bx.make (Ext.refl w4) #[.string ox.name,.slice A4 n4 c4] 58);have HR4:=hid (hr4.ext (Ext.alloc w4 (.cells #[.string ox.name,.slice A4 n4 c4] 58)));have HC4:=hid (HBC.out.later HX4.out);have q0:=HE4.out.cell (i:=0) rfl;have q1:=HE4.out.cell (i:=1) rfl;clear hr4 hx4)|(go_at_call 53;(with_reducible refine(HAL _ _ _ _ HC4.out.ext HR4.out).mono ?_);rintro e w5 ⟨rfl,hx5⟩;have HX5:=hid (HC4.out.ext.trans hx5);have HC5:=hid (HC4.out.later hx5);have HE5:=hid (HE4.out.later hx5);have p0:=HC5.out.cell (i:=0) rfl;have p1:=HC5.out.cell (i:=1) rfl;have r0:=HE5.out.cell (i:=0) rfl;have r1:=HE5.out.cell (i:=1) rfl;have s0:=(HBS.out.later HX5.out).cell (i:=0) rfl;have HM5:=hid (HMS.out.ext HX5.out);(try have hlk:=HLK.out _ HM5.out);clear hx5)))
        go_ret
        exact RightSays.no HE.out (HBS.out.ext.trans HX5.out)
       by_cases hv2:sv≤sv1
       ·have HE:Hid (¬RightOk l cs sv):=HNG.out (fun h=>by have:=(HGI.out.1 h).2.2.2.2;omega)
        go_wp2_with((first|(go_at_call 52;(with_reducible refine(HTG _ HBC.out.ext).mono ?_);rintro e w4 ⟨A4,n4,c4,rfl,hr4,hx4⟩;have HX4:=hid (hx4.trans (Ext.alloc w4 (.cells #[.string ox.name,.slice A4 n4 c4] 58)));have HE4:=hid (Bx.make (Ext.refl w4) #[.string ox.name,.slice A4 n4 c4] 58);have HR4:=hid (hr4.ext (Ext.alloc w4 (.cells #[.string ox.name,.slice A4 n4 c4] 58)));have HC4:=hid (HBC.out.later HX4.out);have q0:=HE4.out.cell (i:=0) rfl;have q1:=HE4.out.cell (i:=1) rfl;clear hr4 hx4)|(go_at_call 53;(with_reducible refine(HAL _ _ _ _ HC4.out.ext HR4.out).mono ?_);rintro e w5 ⟨rfl,hx5⟩;have HX5:=hid (HC4.out.ext.trans hx5);have HC5:=hid (HC4.out.later hx5);have HE5:=hid (HE4.out.later hx5);have p0:=HC5.out.cell (i:=0) rfl;have p1:=HC5.out.cell (i:=1) rfl;have r0:=HE5.out.cell (i:=0) rfl;have r1:=HE5.out.cell (i:=1) rfl;have s0:=(HBS.out.later HX5.out).cell (i:=0) rfl;have HM5:=hid (HMS.out.ext HX5.out);(try have hlk:=HLK.out _ HM5.out);clear hx5)))
        go_ret
        exact RightSays.no HE.out (HBS.out.ext.trans HX5.out)
       have HGD2:Hid (∀c∈cs.take (j+1),zo4 l sv c):=fun c hc=>by
        rw[List.take_add_one,HGJ.out] at hc
        rcases List.mem_append.1 hc with h|h
        ·exact HGD.out.1 c h
        ·simp at h;rw[h];exact HGI.out.2 ⟨rfl,rfl,HNE.out,by omega,by omega⟩
       have HTK:Hid ((cs.take j).map (·.name)++[nm1]=(cs.take (j+1)).map (·.name)):=by show _=_;rw[List.take_add_one,HGJ.out,List.map_append];rfl
       go_wp2_with((first|(go_at_call 52;(with_reducible refine(HTG _ HBC.out.ext).mono ?_);rintro e w4 ⟨A4,n4,c4,rfl,hr4,hx4⟩;have HX4:=hid (hx4.trans (Ext.alloc w4 (.cells #[.string ox.name,.slice A4 n4 c4] 58)));have HE4:=hid (Bx.make (Ext.refl w4) #[.string ox.name,.slice A4 n4 c4] 58);have HR4:=hid (hr4.ext (Ext.alloc w4 (.cells #[.string ox.name,.slice A4 n4 c4] 58)));have HC4:=hid (HBC.out.later HX4.out);have q0:=HE4.out.cell (i:=0) rfl;have q1:=HE4.out.cell (i:=1) rfl;clear hr4 hx4)|(go_at_call 53;(with_reducible refine(HAL _ _ _ _ HC4.out.ext HR4.out).mono ?_);rintro e w5 ⟨rfl,hx5⟩;have HX5:=hid (HC4.out.ext.trans hx5);have HC5:=hid (HC4.out.later hx5);have HE5:=hid (HE4.out.later hx5);have p0:=HC5.out.cell (i:=0) rfl;have p1:=HC5.out.cell (i:=1) rfl;have r0:=HE5.out.cell (i:=0) rfl;have r1:=HE5.out.cell (i:=1) rfl;have s0:=(HBS.out.later HX5.out).cell (i:=0) rfl;have HM5:=hid (HMS.out.ext HX5.out);(try have hlk:=HLK.out _ HM5.out);clear hx5)|(at_mapUpdate;refine zqs rfl _ _ _ rfl HM5.out (by simp only[maxLen];omega) rfl _ HSZ2.out rfl rfl ?_;intro w6 hm6 hg6;have HM6:=hid hm6;have HB6:=hid ((HBS.out.later HX5.out).grown hg6 (fun e=>by injection e with e;omega) (Below.grown (Below.refl _ _) hg6 (HBS.out.ext.trans HX5.out).size (fun k hk=>by injection hk with hk;omega)));clear hm6 hg6)))
       exact⟨⟨j+1,by omega,by go_num,HB6.out,by rw[←HTK.out];exact HM6.out,HGD2.out,HAP.out⟩,by simp[intOf];omega⟩
     ·have HE:Hid (¬RightOk l cs sv):=HNG.out (fun h=>hne (HGI.out.1 h).2.2.1)
      have t1:(ox.name.toList==nm1.toList)=false:=zch hne
      clear hne
      go_wp2_with((first|(go_at_call 52;(with_reducible refine(HTG _ HBC.out.ext).mono ?_);rintro e w4 ⟨A4,n4,c4,rfl,hr4,hx4⟩;have HX4:=hid (hx4.trans (Ext.alloc w4 (.cells #[.string ox.name,.slice A4 n4 c4] 58)));have HE4:=hid (Bx.make (Ext.refl w4) #[.string ox.name,.slice A4 n4 c4] 58);have HR4:=hid (hr4.ext (Ext.alloc w4 (.cells #[.string ox.name,.slice A4 n4 c4] 58)));have HC4:=hid (HBC.out.later HX4.out);have q0:=HE4.out.cell (i:=0) rfl;have q1:=HE4.out.cell (i:=1) rfl;clear hr4 hx4)|(go_at_call 53;(with_reducible refine(HAL _ _ _ _ HC4.out.ext HR4.out).mono ?_);rintro e w5 ⟨rfl,hx5⟩;have HX5:=hid (HC4.out.ext.trans hx5);have HC5:=hid (HC4.out.later hx5);have HE5:=hid (HE4.out.later hx5);have p0:=HC5.out.cell (i:=0) rfl;have p1:=HC5.out.cell (i:=1) rfl;have r0:=HE5.out.cell (i:=0) rfl;have r1:=HE5.out.cell (i:=1) rfl;have s0:=(HBS.out.later HX5.out).cell (i:=0) rfl;have HM5:=hid (HMS.out.ext HX5.out);(try have hlk:=HLK.out _ HM5.out);clear hx5) ))
      go_ret
      exact RightSays.no HE.out (HBS.out.ext.trans HX5.out)
  ·obtain rfl:j=n:=by omega
   have hlt':¬(j:Int)<(j:Int):=by omega
   rw[List.take_of_length_le (Nat.le_of_eq HL.out.symm)] at HMS HGD
   have HRE:=hid (zpW HN.out HS18.out HCF.out HGD.out.1 HGD.out.2)
   have HKZ:Hid (∀x∈zhg (sortN nmE l) [],x.size≤maxLen):=fun x hx=>by
    rw[zjK] at hx
    obtain⟨e,he,rfl⟩:=List.mem_map.1 hx
    have:=(HF.out e ((zbo HN.out.self HN.out.apart).1.mem_iff.1 (List.mem_filter.1 he).1)).name
    simp only[maxLen]
    omega
   have HKI:Calls Tryz.prog 55 #[.pointer (some ⟨g,0,none⟩),.string ⟨#[]⟩] wr (zfc wr (zhg (sortN nmE l) [])):=zi3 (HT.out.ext HBS.out.ext) ⟨#[]⟩ (HG.out.gl.ext HBS.out.ext) HLL.out HN.out
   unfold zfc at HKI
   have HCO:∀A' n' c' w',Ext wr w'→Row Elem.str (fun _=>True) w' A' n' c' (zhg (sortN nmE l) [])→Calls Tryz.prog 54 #[.slice A' n' c',.func (.func 56) #[] #[.pointer (some ⟨w.heap.size+1,0,none⟩)]] w' fun e w''=>e=.returned (.bool ((zhg (sortN nmE l) []).any fun x=>!zcP (cs.map (·.name)) x))∧Ext w' w'':=
    fun A' n' c' w' hx hr=>zgs hr (w.heap.size+1) w.heap.size j _ HKZ.out ((HBS.out.later hx).cell (i:=0) rfl) (HMS.out.ext hx)
   have hmf:∀(fn:Fn) (first cap:Array Value) (w:World),(Instr.makeFunc fn first cap).run Tryz.prog w=.ok (.func fn first cap) w:=fun _ _ _ _=>rfl
   generalize zhg (sortN nmE l) []=ks at*
   generalize (ks.any fun x=>!zcP (cs.map (·.name)) x)=q at*
   go_wp2_with (first
    |(go_at_call 55;(with_reducible refine HKI.mono ?_);rintro e w6 ⟨A6,n6,c6,rfl,hr6,hx6⟩;have HR6:=hid hr6;have HX6:=hid hx6;clear hr6 hx6)
    | (go_at_call 54;(with_reducible refine (HCO _ _ _ _ HX6.out HR6.out).mono ?_);rintro e w7 ⟨rfl,hx7⟩;have HX7:=hid (HBS.out.ext.trans (HX6.out.trans hx7));clear hx7))
   go_ret
   refine⟨!q,rfl,?_,HX7.out⟩
   rw[←HRE.out]
   cases q<;>simp
end Go.Proofs.YtkjbokhnpphimaaGreatDoor
