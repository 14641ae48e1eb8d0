/- Lemmas of the walk. -/
import Derived.Test.YtioglicfndkgiaaGreatDoorZ26
import Derived.Test.YtioglicfndkgiaaGreatDoorZ15
import Derived.Test.YtioglicfndkgiaaGreatDoorZ43
import Derived.Test.YtioglicfndkgiaaGreatDoorZ29
import Derived.Test.YtioglicfndkgiaaGreatDoorZ45
import Derived.Test.YtioglicfndkgiaaGreatDoorZ27
import Derived.Test.YtioglicfndkgiaaGreatDoorZ44
import Derived.Test.YtioglicfndkgiaaGreatDoorRows
import Derived.Test.YtioglicfndkgiaaGreatDoorZ07
import Derived.Test.YtioglicfndkgiaaGreatDoorZ14
import Derived.Test.YtioglicfndkgiaaGreatDoorShl
import Derived.Lib.LaidU8
import Derived.PinnedBridge
import Derived.Stop.LaidErr
import Derived.Shelf.Vars
import Derived.MakeChecks
import Derived.ProofKit
set_option maxHeartbeats 40000000
set_option linter.unusedVariables false
set_option linter.unusedSimpArgs false
namespace Go.Proofs.YtioglicfndkgiaaGreatDoor
open Go.RowKit
set_option maxRecDepth 100000
structure Ctx where
 name:ByteArray
 ents:List Ent
def Elem.ctx:Elem Ctx:=
 ⟨3,by decide,fun S w v a=>∃ A n c B m d,v=[.string a.name,.slice A n c,.slice B m d]∧Row Elem.ent S w A n c a.ents,fun ⟨_,_,_,_,_,_,h,_⟩=>by rw [h];rfl,fun ⟨A,n,c,B,m,d,h,hr⟩ hk=>⟨A,n,c,B,m,d,h,hr.same hk⟩,fun ⟨A,n,c,B,m,d,h,hr⟩ hs=>⟨A,n,c,B,m,d,h,hr.mono hs⟩⟩
def Elem.srv:Elem (List Ctx):=Elem.slc Elem.ctx
def zoB (c:List Ctx):List Ent:=c.flatMap (·.ents)
def zgh (s:List (List Ctx)):List Ent:=s.flatMap zoB
def zb9:List UInt8:=[117,115,101,114,80,97,115,115,119,111,114,100]
def zll (s:List (List Ctx)) (name pw:List UInt8):List UInt8 × Int:=
 if name=[] then (if pw=[] then ([],0) else ([],49))
 else if zap (zac name)≠0 then ([],34)
 else if pw=[] then ([],53)
 else match (zgh s).find? (fun x=>decide (x.name=str (zaG name))) with
  | some x=>if hasE zb9 pw (za7 zb9 x.atts) then (zaG name,0) else ([],49)
  | none=>([],49)
theorem zdz {α β:Type} {f:α→List β} {P:β→Bool} {l:List α} {i:Nat} {y:α} (h:((l.take i).flatMap f).find? P=none) (hy:l[i]?=some y) (h2:(f y).find? P=none):((l.take (i+1)).flatMap f).find? P=none:=by
 rw [List.take_add_one,hy,List.flatMap_append,List.find?_append,h]
 simpa using h2
theorem ziU {α β:Type} {f:α→List β} {P:β→Bool} {l:List α} {i:Nat} {y:α} {x:β} (h:((l.take i).flatMap f).find? P=none) (hy:l[i]?=some y) (h2:(f y).find? P=some x):(l.flatMap f).find? P=some x:=by
 obtain ⟨hj,he⟩:=List.getElem?_eq_some_iff.1 hy
 rw [← List.take_append_drop i l,List.flatMap_append,List.find?_append,h,List.drop_eq_getElem_cons hj,he,List.flatMap_cons,List.find?_append,h2]
 rfl
def zeE (w:World) (s:List (List Ctx)) (name pw:List UInt8) (e:Ending) (w':World):Prop:=e=.returned (.tuple #[.string (str (zll s name pw).1),.int .i64 (zll s name pw).2])∧Ext w w'
theorem zmw {S:Nat→Prop} {A B:Option Addr} {n c m d:Nat} {s:List (List Ctx)} {w:World} (h:Row Elem.srv S w A n c s) (name pw:ByteArray) (hG:Gl w) (hv:∀ x∈zgh s,∀ a∈x.atts,a.vals.length≤8796093022208) :
 Calls Tryz.prog 13 #[.agg #[.slice A n c,.slice B m d],.string name,.string pw] w (zeE w s (bys name) (bys pw)):=by
 have HG:=hid hG
 have HN:∀ w,Gl w→Calls Tryz.prog 25 #[.string name] w (zaM w (bys name)):=fun w hG=>zbx name w hG
 unfold zaM at HN
 have HBD:Hid (zll s (bys name) (bys pw)=(if bys name=[] then (if bys pw=[] then ([],0) else ([],49))
  else if zap (zac (bys name))≠0 then ([],34) else if bys pw=[] then ([],53)
  else match (zgh s).find? (fun x=>decide (x.name=str (zaG (bys name)))) with
  | some x=>if hasE zb9 (bys pw) (za7 zb9 x.atts) then (zaG (bys name),0) else ([],49)
  | none=>([],49):List UInt8 × Int)):=rfl
 have HR:=hid h
 have HV:=hid hv
 have hn:n≤9223372036854775807:=by have:=h.cap;have:=h.most;simp only [maxLen] at this;omega
 clear hG hv h
 have bn:∀ x:ByteArray,x.size=0→bys x=[]:=fun x h=>by rw [zbt h];rfl
 have bq:∀ x:ByteArray,¬ x.size=0→bys x≠[]:=fun x h e=>h (by rw [← zaf,e];rfl)
 have HBN:=hid bn
 have HBQ:=hid bq
 clear bn bq
 show Calls _ _ _ _ (fun e w'=>zeE w s (bys name) (bys pw) e w')
 unfold zeE
 generalize zll s (bys name) (bys pw)=R at *
 by_cases h1:name.size=0
 ·have e1:=zcf h1
  rw [HBN.out name h1,if_pos rfl] at HBD
  by_cases h2:pw.size=0
  ·have e2:=zcf h2
   rw [HBN.out pw h2,if_pos rfl] at HBD
   clear h1 h2
   go_enter Tryz.func13,Tryz.ntmps13
   go_wp2_with (go_at_call 25;(with_reducible refine (HN _ (HG.out.ext (Ext.alloc _ _))).mono ?_);rintro e w1 ⟨rfl,hx1⟩;have HX1:=hid (Ext.trans (Ext.alloc _ _) hx1);clear hx1)
   go_ret2
   exact ⟨by rw [HBD.out];rfl,HX1.out⟩
  ·have e2:=zdn h2
   rw [if_neg (HBQ.out pw h2)] at HBD
   clear h1 h2
   go_enter Tryz.func13,Tryz.ntmps13
   go_wp2_with (go_at_call 25;(with_reducible refine (HN _ (HG.out.ext (Ext.alloc _ _))).mono ?_);rintro e w1 ⟨rfl,hx1⟩;have HX1:=hid (Ext.trans (Ext.alloc _ _) hx1);clear hx1)
   go_ret2
   exact ⟨by rw [HBD.out];rfl,HX1.out⟩
 ·have e1:=zdn h1
  rw [if_neg (HBQ.out name h1)] at HBD
  generalize zap (zac (bys name))=cd at *
  by_cases h3:cd=0
  ·subst h3
   rw [if_neg (by simp)] at HBD
   by_cases h2:pw.size=0
   ·have e2:=zcf h2
    rw [HBN.out pw h2,if_pos rfl] at HBD
    clear h1 h2
    go_enter Tryz.func13,Tryz.ntmps13
    go_wp2_with (go_at_call 25;(with_reducible refine (HN _ (HG.out.ext (Ext.alloc _ _))).mono ?_);rintro e w1 ⟨rfl,hx1⟩;have HX1:=hid (Ext.trans (Ext.alloc _ _) hx1);clear hx1)
    go_ret2
    exact ⟨by rw [HBD.out];rfl,HX1.out⟩
   ·have e2:=zdn h2
    rw [if_neg (HBQ.out pw h2)] at HBD
    have HB0:Hid ((zgh s).find? (fun x=>decide (x.name=str (zaG (bys name))))=none→R=([],49)):=fun e=>by rw [HBD.out,e]
    have HB1:Hid (∀ x,(zgh s).find? (fun x=>decide (x.name=str (zaG (bys name))))=some x→R=if hasE zb9 (bys pw) (za7 zb9 x.atts) then (zaG (bys name),0) else ([],49)):=fun x e=>by rw [HBD.out,e]
    clear HBD
    generalize hP:(fun x:Ent=>decide (x.name=str (zaG (bys name))))=P at *
    have HP:∀ x:Ent,Hid (decide (x.name=str (zaG (bys name)))=P x):=fun x=>by rw [← hP];rfl
    clear hP
    have HHAS:∀ (x:Ent) (A1:Option Addr) n1 c1 (w':World),(∀ a∈x.atts,a.vals.length≤8796093022208)→Ext w w'→Row Elem.att S w' A1 n1 c1 x.atts →
     Calls Tryz.prog 26 #[.agg #[.string x.name,.slice A1 n1 c1],.string ⟨#[117,115,101,114,80,97,115,115,119,111,114,100]⟩,.string pw] w' fun e w''=>e=.returned (.bool (hasE zb9 (bys pw) (za7 zb9 x.atts)))∧Ext w' w'':=
     fun x A1 n1 c1 w' hq hx hr=>zoO hr ⟨#[117,115,101,114,80,97,115,115,119,111,114,100]⟩ x.name pw (HG.out.ext hx) (by decide) (by decide) (by decide) hq
    clear h1 h2
    generalize hns:str (zaG (bys name))=ns at *
    have HNS:=hid hns
    clear hns
    go_enter Tryz.func13,Tryz.ntmps13
    go_wp2_with (go_at_call 25;(with_reducible refine (HN _ (HG.out.ext (Ext.alloc _ _))).mono ?_);rintro e w1 ⟨rfl,hx1⟩;have HX1:=hid (Ext.trans (Ext.alloc _ _) hx1);have cB:=((Bx.make (Ext.refl w) #[.slice A n c,.slice B m d] 33).later hx1).cell (i:=0) rfl;clear hx1)
    go_loopw [40] (fun i wr=>∃ j:Nat,j≤n∧i=.int .i64 j∧Hid (((s.take j).flatMap zoB).find? P=none)∧Hid (Ext w wr)) (fun i _=>n-(intOf i).toNat)
    case atStart=>exact ⟨0,by omega,rfl,by simp [Hid],HX1.out⟩
    case round=>
     obtain ⟨j,hj,rfl,Htk,hx⟩:=hrel
     by_cases hlt:j<n
     ·obtain ⟨b1,o1,v1,x1,rfl,g1,-,⟨A1,n1,c1,rfl,r1⟩,q1⟩:=HR.out.at_ hlt
      have e10:=zaa (q1 0 _ rfl) _ hx.out
      simp only [Elem.srv,Elem.slc,Nat.add_zero,Nat.mul_one] at e10
      have hn1:n1≤9223372036854775807:=by have:=r1.cap;have:=r1.most;simp only [maxLen] at this;omega
      have R1:=hid r1
      clear q1 r1
      have Hg:=hid g1
      clear g1
      go_wp2
      clear e10
      go_loopw [47] (fun i wr=>∃ k:Nat,k≤n1∧i=.int .i64 k∧Hid (((x1.take k).flatMap (·.ents)).find? P=none)∧Hid (Ext w wr)) (fun i _=>n1-(intOf i).toNat)
      case atStart=>exact ⟨0,by omega,rfl,by simp [Hid],hx.out.trans (Ext.alloc _ _)⟩
      case round=>
       obtain ⟨k,hk,rfl,Htk2,hx2⟩:=hrel
       by_cases hlt2:k<n1
       ·obtain ⟨b2,o2,v2,x2,rfl,g2,-,⟨A2,n2,c2,B2,m2,d2,rfl,r2⟩,q2⟩:=R1.out.at_ hlt2
        have e20:=zaa (q2 0 _ rfl) _ hx2.out
        have e21:=zaa (q2 1 _ rfl) _ hx2.out
        have e22:=zaa (q2 2 _ rfl) _ hx2.out
        simp only [Elem.ctx,Nat.add_zero] at e20 e21 e22
        have hn2:n2≤9223372036854775807:=by have:=r2.cap;have:=r2.most;simp only [maxLen] at this;omega
        have R2:=hid r2
        clear q2 r2
        have Hg2:=hid g2
        clear g2
        go_wp2
        clear e20 e21 e22
        go_loopw [54] (fun i wr=>∃ p:Nat,p≤n2∧i=.int .i64 p∧Hid ((x2.ents.take p).find? P=none)∧Hid (Ext w wr)) (fun i _=>n2-(intOf i).toNat)
        case atStart=>exact ⟨0,by omega,rfl,by simp [Hid],hx2.out.trans (Ext.alloc _ _)⟩
        case round=>
         obtain ⟨p,hm,rfl,Htk3,hx3⟩:=hrel
         by_cases hlt3:p<n2
         ·obtain ⟨b3,o3,v3,x3,rfl,g3,-,⟨A3,n3,c3,rfl,r3⟩,q3⟩:=R2.out.at_ hlt3
          have e30:=zaa (q3 0 _ rfl) _ hx3.out
          have e31:=zaa (q3 1 _ rfl) _ hx3.out
          simp only [Elem.ent,Nat.add_zero] at e30 e31
          have R3:=hid r3
          clear q3 r3
          have Hg3:=hid g3
          clear g3
          by_cases he:x3.name=ns
          ·have HPT:Hid (P x3=true):=by show _=_;rw [← (HP x3).out];exact decide_eq_true he
           have HM:Hid (∀ a∈x3.atts,a.vals.length≤8796093022208):=
            HV.out x3 (List.mem_flatMap.2 ⟨x1,List.mem_of_getElem? Hg.out,List.mem_flatMap.2 ⟨x2,List.mem_of_getElem? Hg2.out,List.mem_of_getElem? Hg3.out⟩⟩)
           have HF:=hid (HB1.out x3 (ziU Htk.out Hg.out (ziU Htk2.out Hg2.out (zl0 Htk3.out Hg3.out HPT.out))))
           have s1:=zes he
           have HH:∀ (w':World),Ext w w'→Calls Tryz.prog 26 #[.agg #[.string x3.name,.slice A3 n3 c3],.string ⟨#[117,115,101,114,80,97,115,115,119,111,114,100]⟩,.string pw] w' fun e w''=>e=.returned (.bool (hasE zb9 (bys pw) (za7 zb9 x3.atts)))∧Ext w' w'':=
            fun w' hx'=>HHAS x3 A3 n3 c3 w' HM.out hx' (R3.out.ext hx')
           clear he HHAS HN
           generalize hasE zb9 (bys pw) (za7 zb9 x3.atts)=hb at *
           cases hb
           all_goals
            go_wp2_with (go_at_call 26;(with_reducible refine (HH _ (hx3.out.trans (Ext.alloc _ _))).mono ?_);rintro e w4 ⟨rfl,hx4⟩;have HX4:=hid ((hx3.out.trans (Ext.alloc _ _)).trans hx4);clear hx4)
            go_ret2
            exact ⟨by rw [HF.out];(try rw [← HNS.out]);rfl,HX4.out⟩
          ·have HPT:Hid (P x3=false):=by show _=_;rw [← (HP x3).out];exact decide_eq_false he
           have s1:=zd9 he
           clear he
           go_wp2
           exact ⟨⟨p+1,by omega,by go_num,zcB Htk3.out Hg3.out HPT.out,hx3.out.trans (Ext.alloc _ _)⟩,by simp [intOf];omega⟩
         ·obtain rfl:p=n2:=by omega
          have h9:=Htk3.out
          rw [List.take_of_length_le (Nat.le_of_eq R2.out.len.symm)] at h9
          have H9:=hid h9
          clear h9
          go_wp2
          exact ⟨⟨k+1,by omega,by go_num,zdz Htk2.out Hg2.out H9.out,hx3.out⟩,by simp [intOf];omega⟩
       ·obtain rfl:k=n1:=by omega
        have h9:=Htk2.out
        rw [List.take_of_length_le (Nat.le_of_eq R1.out.len.symm)] at h9
        have H9:=hid h9
        clear h9
        go_wp2
        exact ⟨⟨j+1,by omega,by go_num,zdz Htk.out Hg.out H9.out,hx2.out⟩,by simp [intOf];omega⟩
     ·obtain rfl:j=n:=by omega
      have h9:=Htk.out
      rw [List.take_of_length_le (Nat.le_of_eq HR.out.len.symm)] at h9
      have HF:=hid (HB0.out h9)
      clear h9
      go_wp2
      go_ret2
      exact ⟨by rw [HF.out];rfl,hx.out⟩
  ·have k3:(cd != 0)=true:=by rw [bne_iff_ne];exact h3
   rw [if_pos h3] at HBD
   clear h1 h3
   go_enter Tryz.func13,Tryz.ntmps13
   go_wp2_with (go_at_call 25;(with_reducible refine (HN _ (HG.out.ext (Ext.alloc _ _))).mono ?_);rintro e w1 ⟨rfl,hx1⟩;have HX1:=hid (Ext.trans (Ext.alloc _ _) hx1);clear hx1)
   go_ret2
   exact ⟨by rw [HBD.out];rfl,HX1.out⟩
end Go.Proofs.YtioglicfndkgiaaGreatDoor
namespace Go.Proofs.YtioglicfndkgiaaGreatDoor
theorem Row.map {α β:Type} {E:Elem α} {E':Elem β} {f:α→β} {S:Nat→Prop} {w:World} {A:Option Addr} {n c:Nat} {l:List α} (hR:∀ S w v x,E.R S w v x→E'.R S w v (f x)) (h:Row E S w A n c l):Row E' S w A n c (l.map f):=by
 obtain ⟨h1,h2,h3,vss,h4,h5,h6⟩:=h
 exact ⟨by rw [List.length_map];exact h1,h2,h3,vss,h4,h5,fun i v x hv hx=>by
  rw [List.getElem?_map] at hx
  obtain ⟨y,hy,rfl⟩:=Option.map_eq_some_iff.1 hx
  exact hR _ _ _ _ (h6 i v y hv hy)⟩
def ctxC (y:Cxt):Ctx:=⟨y.name,y.ents⟩
def ze3 (s:List (List Cxt)):List (List Ctx):=s.map fun x=>x.map ctxC
theorem zr9 {S:Nat→Prop} {w:World} {A:Option Addr} {n c:Nat} {s:List (List Cxt)} (h:Row Elem.srw S w A n c s):Row Elem.srv S w A n c (ze3 s):=
 Row.map (fun S w v x hx=>by
  obtain ⟨A,n,c,e,hr⟩:=hx
  exact ⟨A,n,c,e,Row.map (fun S w v y hy=>by
   obtain ⟨A,n,c,B,m,d,e,hr,-⟩:=hy
   exact ⟨A,n,c,B,m,d,e,hr⟩) hr⟩) h
theorem ze9 {L:List Ent} {Q:List CutR} {N:Nat} {e:Ent}:e∈zgh (ze3 (zaZ L Q N)) ↔ ∃ s:Nat,s<N∧∃ (i:Nat) (d:CutR),Q[i]?=some d∧d.server=(s:Int)∧e∈L∧zaJ Q (nmE e)=(i:Int):=by
 unfold zgh ze3 zaZ
 simp only [List.mem_flatMap,List.mem_map,List.mem_range]
 constructor
 ·rintro ⟨x,⟨y,⟨s,hs,rfl⟩,rfl⟩,hx⟩
  refine ⟨s,hs,?_⟩
  unfold zoB at hx
  simp only [List.mem_flatMap,List.mem_map] at hx
  obtain ⟨z,⟨u,hu,rfl⟩,hz⟩:=hx
  unfold srvF at hu
  obtain ⟨i,hi,rfl⟩:=List.mem_map.1 hu
  obtain ⟨hi1,hi2⟩:=List.mem_filter.1 hi
  have hil:=List.mem_range.1 hi1
  rw [List.getElem?_eq_getElem hil] at hi2
  have hz':e∈L.filter fun e=>decide (zaJ Q (nmE e)=(i:Int)):=hz
  obtain ⟨h1,h2⟩:=List.mem_filter.1 hz'
  exact ⟨i,_,List.getElem?_eq_getElem hil,by simpa using hi2,h1,of_decide_eq_true h2⟩
 ·rintro ⟨s,hs,i,d,hd,hds,h1,h2⟩
  refine ⟨_,⟨_,⟨s,hs,rfl⟩,rfl⟩,?_⟩
  unfold zoB
  simp only [List.mem_flatMap,List.mem_map]
  refine ⟨_,⟨zlE L Q i,?_,rfl⟩,?_⟩
  ·unfold srvF
   exact List.mem_map.2 ⟨i,List.mem_filter.2 ⟨List.mem_range.2 (List.getElem?_eq_some_iff.1 hd).1,by rw [hd];simpa using hds⟩,rfl⟩
  ·show e∈L.filter fun e=>decide (zaJ Q (nmE e)=(i:Int))
   exact List.mem_filter.2 ⟨h1,decide_eq_true h2⟩
theorem zm5 {l:List Ent} {cs:List CutR} {sv:Int} {N:Nat} (hok:OkOf l) (hr:RightOk l cs sv) (hNs:N=sv.toNat) {x:Ent} (hx:x∈l) (pw:List UInt8) :
 zll (ze3 (zaZ (sortN nmE l) (sortN nmQ cs) N)) (nmE x) pw=if pw=[] then ([],53) else if hasE zb9 pw (za7 zb9 x.atts) then (nmE x,0) else ([],49):=by
 have hN:=zd1 hok
 have hperm:=zci hN hr
 have hpe:=(zcd (f:=nmE) hN.self hN.apart).1
 obtain ⟨h1,h2,h3⟩:=za2 (hN.self x hx)
 have hin:x∈zgh (ze3 (zaZ (sortN nmE l) (sortN nmQ cs) N)):=by
  obtain ⟨c,hc,hu⟩:=zrD hok hr x hx
  obtain ⟨k,d,e1,e2,-⟩:=zfC (hperm.mem_iff.2 hc) hu
  have hd:=hr.cut d (hperm.mem_iff.1 (List.mem_of_getElem? e2))
  have hsv:=hr.srv
  exact ze9.2 ⟨d.server.toNat,by have:=hd.1;have:=hd.2.1;omega,k,d,e2,by have:=hd.1;omega,hpe.mem_iff.2 hx,e1⟩
 have hone:∀ e∈zgh (ze3 (zaZ (sortN nmE l) (sortN nmQ cs) N)),e.name=x.name→e=x:=fun e he hn=>by
  obtain ⟨-,-,-,-,-,-,h4,-⟩:=ze9.1 he
  exact hN.apart.one (hpe.mem_iff.1 h4) hx (by unfold nmE;rw [hn])
 have hf:(zgh (ze3 (zaZ (sortN nmE l) (sortN nmQ cs) N))).find? (fun y=>decide (y.name=str (zaG (nmE x))))=some x:=by
  have hnm:str (zaG (nmE x))=x.name:=by rw [h2];try exact zaN _
  rw [hnm]
  cases hc:(zgh (ze3 (zaZ (sortN nmE l) (sortN nmQ cs) N))).find? (fun y=>decide (y.name=x.name)) with
  | none=>
   have:=List.find?_eq_none.1 hc x hin
   simp at this
  | some y=>
   have h4:=List.mem_of_find?_eq_some hc
   have h5:=List.find?_some hc
   rw [hone y h4 (of_decide_eq_true h5)]
 unfold zll
 rw [if_neg h3,if_neg (by omega),hf]
 by_cases hp:pw=[]
 ·rw [if_pos hp,if_pos hp]
 ·rw [if_neg hp,if_neg hp]
  simp only [h2]
theorem znU {L:List Ent} {Q:List CutR} {N:Nat} {P:Ent→Prop} (h:∀ e∈L,P e):∀ e∈zgh (ze3 (zaZ L Q N)),P e:=fun e he=>by
 obtain ⟨-,-,-,-,-,-,h4,-⟩:=ze9.1 he
 exact h e h4
end Go.Proofs.YtioglicfndkgiaaGreatDoor
namespace Go.Proofs.YtioglicfndkgiaaGreatDoor
open Go.RowKit
set_option maxRecDepth 100000
def wakeE:Ent:=⟨⟨#[100,99,61,120]⟩,[⟨⟨#[100,99]⟩,[⟨#[120]⟩]⟩,⟨⟨#[111,98,106,101,99,116,67,108,97,115,115]⟩,[⟨#[111]⟩]⟩,⟨⟨#[117,115,101,114,80,97,115,115,119,111,114,100]⟩,[⟨#[112,119]⟩]⟩]⟩
def zpe:List (List Ctx):=[[⟨⟨#[100,99,61,120]⟩,[wakeE]⟩]]
theorem zoJ:zll zpe [68,67,61,88] [112,119]=([100,99,61,120],0):=by decide +kernel
theorem Row.new {α:Type} {E:Elem α} {w:World} {vss:List (List Value)} {l:List α} (h:∀ (i:Nat) v x,vss[i]?=some v→l[i]?=some x→E.R (fun _=>True) w v x) (hl:vss.length=l.length) (hm:l.length≤maxLen) (t:TypeId) :
 Row E (fun _=>True) (w.alloc (.cells vss.flatten.toArray t)) (some ⟨w.heap.size,0,none⟩) l.length l.length l:=by
 have hx:Ext w (w.alloc (.cells vss.flatten.toArray t)):=Ext.alloc _ _
 refine ⟨rfl,Nat.le_refl _,hm,vss,hl,.inr ⟨w.heap.size,0,rfl,trivial,fun j u hj=>?_⟩,fun i v x hi hxx=>?_⟩
 ·rw [Nat.zero_add,cell_of_row _ _ j vss.flatten.toArray t (0,0) (heap_alloc_new w _)]
  simpa using hj
 ·exact (E.same (E.mono (h i v x hi hxx) (T:=fun b=>True∧b<w.heap.size) (fun b hb _=>⟨trivial,hb⟩)) fun b hb=>hx.block b hb.2) |> fun q=>E.mono q fun _ _ _=>trivial
theorem zqp {α β:Type} {a b c v:α} {x y z u:β} {i:Nat} (h:[a,b,c][i]?=some v) (k:[x,y,z][i]?=some u):v=a∧u=x∨v=b∧u=y∨v=c∧u=z:=by
 rcases i with _ | _ | _ | i
 ·simp at h k;exact .inl ⟨h.symm,k.symm⟩
 ·simp at h k;exact .inr (.inl ⟨h.symm,k.symm⟩)
 ·simp at h k;exact .inr (.inr ⟨h.symm,k.symm⟩)
 ·simp at h
theorem zpM {w w1 w2 w3 w4 w5 w6 w7 w8:World}
 (e1:w1=w.alloc (.cells #[.string ⟨#[120]⟩] 9))
 (e2:w2=w1.alloc (.cells #[.string ⟨#[111]⟩] 9))
 (e3:w3=w2.alloc (.cells #[.string ⟨#[112,119]⟩] 9))
 (e4:w4=w3.alloc (.cells #[.string ⟨#[100,99]⟩,.slice (some ⟨w.heap.size,0,none⟩) 1 1,.string ⟨#[111,98,106,101,99,116,67,108,97,115,115]⟩,.slice (some ⟨w.heap.size+1,0,none⟩) 1 1,.string ⟨#[117,115,101,114,80,97,115,115,119,111,114,100]⟩,.slice (some ⟨w.heap.size+1+1,0,none⟩) 1 1] 57))
 (e5:w5=w4.alloc (.cells #[.string ⟨#[100,99,61,120]⟩,.slice (some ⟨w.heap.size+1+1+1,0,none⟩) 3 3] 44))
 (e6:w6=w5.alloc (.cells #[.string ⟨#[100,99,61,120]⟩,.slice (some ⟨w.heap.size+1+1+1,0,none⟩) 3 3] 44))
 (e7:w7=w6.alloc (.cells #[.string ⟨#[100,99,61,120]⟩,.slice (some ⟨w.heap.size+1+1+1+1+1,0,none⟩) 1 1,.slice none 0 0] 41))
 (e8:w8=w7.alloc (.cells #[.slice (some ⟨w.heap.size+1+1+1+1+1+1,0,none⟩) 1 1] 39)):Ext w w8∧Row Elem.srv (fun _=>True) w8 (some ⟨w.heap.size+1+1+1+1+1+1+1,0,none⟩) 1 1 zpe:=by
 have s1:w1.heap.size=w.heap.size+1:=by rw [e1];simp
 have x1:Ext w w1:=by rw [e1];exact Ext.alloc _ _
 have s2:w2.heap.size=w.heap.size+1+1:=by rw [e2];simp [s1]
 have x2:Ext w1 w2:=by rw [e2];exact Ext.alloc _ _
 have s3:w3.heap.size=w.heap.size+1+1+1:=by rw [e3];simp [s2]
 have x3:Ext w2 w3:=by rw [e3];exact Ext.alloc _ _
 have s4:w4.heap.size=w.heap.size+1+1+1+1:=by rw [e4];simp [s3]
 have x4:Ext w3 w4:=by rw [e4];exact Ext.alloc _ _
 have s5:w5.heap.size=w.heap.size+1+1+1+1+1:=by rw [e5];simp [s4]
 have x5:Ext w4 w5:=by rw [e5];exact Ext.alloc _ _
 have s6:w6.heap.size=w.heap.size+1+1+1+1+1+1:=by rw [e6];simp [s5]
 have x6:Ext w5 w6:=by rw [e6];exact Ext.alloc _ _
 have s7:w7.heap.size=w.heap.size+1+1+1+1+1+1+1:=by rw [e7];simp [s6]
 have x7:Ext w6 w7:=by rw [e7];exact Ext.alloc _ _
 have s8:w8.heap.size=w.heap.size+1+1+1+1+1+1+1+1:=by rw [e8];simp [s7]
 have x8:Ext w7 w8:=by rw [e8];exact Ext.alloc _ _
 have r1:Row Elem.str (fun _=>True) w1 (some ⟨w.heap.size,0,none⟩) 1 1 [⟨#[120]⟩]:=by rw [e1];exact Row.one (E:=Elem.str) (S:=fun _=>True) (v:=[.string ⟨#[120]⟩]) rfl _
 have r2:Row Elem.str (fun _=>True) w2 (some ⟨w.heap.size+1,0,none⟩) 1 1 [⟨#[111]⟩]:=by rw [e2,← s1];exact Row.one (E:=Elem.str) (S:=fun _=>True) (v:=[.string ⟨#[111]⟩]) rfl _
 have r3:Row Elem.str (fun _=>True) w3 (some ⟨w.heap.size+1+1,0,none⟩) 1 1 [⟨#[112,119]⟩]:=by rw [e3,← s2];exact Row.one (E:=Elem.str) (S:=fun _=>True) (v:=[.string ⟨#[112,119]⟩]) rfl _
 have q1:=((r1.ext x2).ext x3)
 have q2:=r2.ext x3
 have r4:Row Elem.att (fun _=>True) w4 (some ⟨w.heap.size+1+1+1,0,none⟩) 3 3 wakeE.atts:=by
  rw [e4,← s3]
  refine Row.new (E:=Elem.att) (vss:=[[.string ⟨#[100,99]⟩,.slice (some ⟨w.heap.size,0,none⟩) 1 1],[.string ⟨#[111,98,106,101,99,116,67,108,97,115,115]⟩,.slice (some ⟨w.heap.size+1,0,none⟩) 1 1],[.string ⟨#[117,115,101,114,80,97,115,115,119,111,114,100]⟩,.slice (some ⟨w.heap.size+1+1,0,none⟩) 1 1]]) (l:=wakeE.atts) (fun i v x hv hx=>?_) rfl (by decide) _
  rcases zqp hv hx with ⟨rfl,rfl⟩ | ⟨rfl,rfl⟩ | ⟨rfl,rfl⟩
  ·exact ⟨_,_,_,rfl,q1⟩
  ·exact ⟨_,_,_,rfl,q2⟩
  ·exact ⟨_,_,_,rfl,r3⟩
 have q4:=r4.ext x5
 have r6:Row Elem.ent (fun _=>True) w6 (some ⟨w.heap.size+1+1+1+1+1,0,none⟩) 1 1 [wakeE]:=by
  rw [e6,← s5]
  exact Row.one (E:=Elem.ent) (S:=fun _=>True) (v:=[.string ⟨#[100,99,61,120]⟩,.slice (some ⟨w.heap.size+1+1+1,0,none⟩) 3 3]) ⟨_,_,_,rfl,q4⟩ _
 have r7:Row Elem.ctx (fun _=>True) w7 (some ⟨w.heap.size+1+1+1+1+1+1,0,none⟩) 1 1 [⟨⟨#[100,99,61,120]⟩,[wakeE]⟩]:=by
  rw [e7,← s6]
  exact Row.one (E:=Elem.ctx) (S:=fun _=>True) (v:=[.string ⟨#[100,99,61,120]⟩,.slice (some ⟨w.heap.size+1+1+1+1+1,0,none⟩) 1 1,.slice none 0 0]) ⟨_,_,_,_,_,_,rfl,r6⟩ _
 refine ⟨(((((((x1.trans x2).trans x3).trans x4).trans x5).trans x6).trans x7).trans x8),?_⟩
 rw [e8,← s7]
 exact Row.one (E:=Elem.srv) (S:=fun _=>True) (v:=[.slice (some ⟨w.heap.size+1+1+1+1+1+1,0,none⟩) 1 1]) ⟨_,_,_,rfl,r7⟩ _
theorem zog (w:World) (hG:Gl w):Calls Tryz.prog 12 #[] w fun e w'=>e=.returned (.bool true)∧Ext w w':=by
 have HB:∀ (A:Option Addr) w8,Ext w w8∧Row Elem.srv (fun _=>True) w8 A 1 1 zpe→Calls Tryz.prog 13 #[.agg #[.slice A 1 1,.slice none 0 0],.string ⟨#[68,67,61,88]⟩,.string ⟨#[112,119]⟩] w8 fun e w'=>
  e=.returned (.tuple #[.string ⟨#[100,99,61,120]⟩,.int .i64 0])∧Ext w w':=fun A w8 h=>by
  have:=zmw (B:=none) (m:=0) (d:=0) h.2 ⟨#[68,67,61,88]⟩ ⟨#[112,119]⟩ (hG.ext h.1) (by
   intro x hx a ha
   have:x=wakeE:=by simpa [zgh,zoB,zpe] using hx
   subst this
   have h3:∀ a∈wakeE.atts,a.vals.length≤8796093022208:=by decide
   exact h3 a ha)
  refine this.mono fun e w' hh=>?_
  unfold zeE at hh
  have hw:zll zpe (bys ⟨#[68,67,61,88]⟩) (bys ⟨#[112,119]⟩)=([100,99,61,120],0):=zoJ
  rw [hw] at hh
  exact ⟨hh.1,h.1.trans hh.2⟩
 clear hG
 go_enter Tryz.func12,Tryz.ntmps12
 go_wp2_with (go_at_call 13;(with_reducible refine (HB _ _ (zpM rfl rfl rfl rfl rfl rfl rfl rfl)).mono ?_);rintro e w9 ⟨rfl,hx9⟩;have HX9:=hid hx9;clear hx9)
 go_ret
 exact ⟨rfl,HX9.out⟩
theorem ziO:(zar zb9).2≠4∧(zar zb9).2≠5:=by decide +kernel
theorem zf3 {S S2:Nat→Prop} {A:Option Addr} {n c:Nat} {l:List Ent} {B:Option Addr} {m d:Nat} {cs:List CutR} {w:World} (h:Row Elem.ent S w A n c l) (hc:Row Elem.cut S2 w B m d cs) (sv ix:Int) (pw:ByteArray) (hG:Gu w) (hf:∀ e∈l,EntFits e) (hs1:-9223372036854775808≤sv) (hs2:sv≤9223372036854775807) (hi1:0≤ix) (hi2:ix≤255) (hcl:cs.length≤2000000) :
 Calls Tryz.prog 4 #[.slice A n c,.slice B m d,.int .i64 sv,.int .u8 ix,.string pw] w fun e w'=>e=.returned (.bool true)∧Ext w w':=by
 have HG:=hid hG
 have HAW:∀ w',Ext w w'→Calls Tryz.prog 12 #[] w' fun e w''=>e=.returned (.bool true)∧Ext w' w'':=fun w' hx=>zog w' (hG.gl.ext hx)
 have HFW:∀ w',Ext w w'→Calls Tryz.prog 7 #[.slice A n c,.slice B m d] w' (BoolSays w'):=fun w' hx=>zj0 (h.ext hx) (hc.ext hx)
 unfold BoolSays at HFW
 have HCU:∀ w',Ext w w'→Calls Tryz.prog 9 #[.slice B m d] w' fun e w''=>∃ A' n' c',e=.returned (.slice A' n' c')∧Row Elem.cut (fun b=>w'.heap.size≤b) w'' A' n' c' cs∧Ext w' w'':=fun w' hx=>ziq (hc.ext hx) hcl
 have HSP:∀ A' n' c' w',Ext w w'→Row Elem.cut (fun b=>w.heap.size≤b) w' A' n' c' cs→Calls Tryz.prog 11 #[.slice A n c,.slice A' n' c',.int .i64 sv] w' (zdB w' l cs sv):=fun A' n' c' w' hx hr=>ziR (h.ext hx) hr sv (HG.out.ext hx) hf hs1 hs2
 by_cases hn:n=0
 ·subst hn
  clear HSP HCU h hc hG hf hcl hi1 hi2 hs1 hs2
  go_enter Tryz.func4,Tryz.ntmps4
  go_wp2_with (first
   | (go_at_call 12;first
    | ((with_reducible refine (HAW _ (Ext.refl _)).mono ?_);rintro e w1 ⟨rfl,hx1⟩;have HX1:=hid hx1;clear hx1)
    | ((with_reducible refine (HAW _ HX2.out).mono ?_);rintro e w3 ⟨rfl,hx3⟩;have HX3:=hid (HX2.out.trans hx3);clear hx3))
   | (go_at_call 7;(with_reducible refine (HFW _ HX1.out).mono ?_);rintro e w2 ⟨sm,rfl,hx2⟩;have HX2:=hid (HX1.out.trans hx2);clear hx2;cases sm)
   | fail)
  all_goals go_ret
  all_goals exact ⟨rfl,HX3.out⟩
 by_cases h3:3000<pw.size
 ·have h3':(3000:Int)<(pw.size:Int):=by omega
  have hne:((n:Int)==0)=false:=by rw [beq_eq_false_iff_ne];omega
  clear HSP HCU h hc hG hf hcl h3 hn hi1 hi2 hs1 hs2
  go_enter Tryz.func4,Tryz.ntmps4
  go_wp2_with (first
   | (go_at_call 12;first
    | ((with_reducible refine (HAW _ (Ext.refl _)).mono ?_);rintro e w1 ⟨rfl,hx1⟩;have HX1:=hid hx1;clear hx1)
    | ((with_reducible refine (HAW _ HX2.out).mono ?_);rintro e w3 ⟨rfl,hx3⟩;have HX3:=hid (HX2.out.trans hx3);clear hx3))
   | (go_at_call 7;(with_reducible refine (HFW _ HX1.out).mono ?_);rintro e w2 ⟨sm,rfl,hx2⟩;have HX2:=hid (HX1.out.trans hx2);clear hx2;cases sm)
   | fail)
  all_goals go_ret
  all_goals exact ⟨rfl,HX3.out⟩
 have h3':¬ (3000:Int)<(pw.size:Int):=by omega
 have hne:((n:Int)==0)=false:=by rw [beq_eq_false_iff_ne];omega
 clear h3
 by_cases hk:OkOf l∧RightOk l cs sv
 ·have hsp:∀ A' n' c' w',Ext w w'→Row Elem.cut (fun b=>w.heap.size≤b) w' A' n' c' cs→Calls Tryz.prog 11 #[.slice A n c,.slice A' n' c',.int .i64 sv] w' fun e w''=>∃ A B m d,e=.returned (.tuple #[.agg #[.slice A sv.toNat sv.toNat,.slice B m d],.int .i64 0])∧Row Elem.srw (fun _=>True) w'' A sv.toNat sv.toNat (zaZ (sortN nmE l) (sortN nmQ cs) sv.toNat)∧Ext w' w'':=fun A' n' c' w' hx hr=>(HSP A' n' c' w' hx hr).mono fun e w'' h=>by
   rcases h with ⟨-,-,A,B,m,d,h1,h2,-,h3⟩ | ⟨h1,-⟩
   ·exact ⟨A,B,m,d,h1,h2,h3⟩
   ·exact absurd hk h1
  obtain ⟨i,rfl⟩:∃ i:Nat,ix=i:=⟨ix.toNat,by omega⟩
  have hl3:(i:Int).tmod (n:Int)=((i % n:Nat):Int):=(Int.ofNat_tmod i n).symm
  have hkn:i % n<n:=Nat.mod_lt _ (by omega)
  generalize i % n=k at *
  have hkn':(k:Int)<(n:Int):=by omega
  have hi3:i≤255:=by omega
  have hn9:n≤9223372036854775807:=by have:=h.cap;have:=h.most;simp only [maxLen] at this;omega
  have hN:=zd1 hk.1
  obtain ⟨b1,o1,v1,x,rfl,g1,-,⟨A1,n1,c1,rfl,r1⟩,q1⟩:=h.at_ hkn
  have e0:=q1 0 _ rfl
  have e1:=q1 1 _ rfl
  simp only [Elem.ent,Nat.add_zero] at e0 e1
  have hxm:x∈l:=List.mem_of_getElem? g1
  have hpe:=(zcd (f:=nmE) hN.self hN.apart).1
  obtain ⟨N,hNn⟩:∃ N,N=sv.toNat:=⟨_,rfl⟩
  have hBS:=zm5 hk.1 hk.2 hNn hxm (bys pw)
  have hsv:=znU (L:=sortN nmE l) (Q:=sortN nmQ cs) (N:=N) (P:=fun e=>∀ a∈e.atts,a.vals.length≤8796093022208) (fun e he=>(hf e (hpe.mem_iff.1 he)).vals)
  have HBJ:∀ A' B' m' d' w',Ext w w'→Row Elem.srw (fun _=>True) w' A' N N (zaZ (sortN nmE l) (sortN nmQ cs) N)→Calls Tryz.prog 13 #[.agg #[.slice A' N N,.slice B' m' d'],.string x.name,.string pw] w' (zeE w' (ze3 (zaZ (sortN nmE l) (sortN nmQ cs) N)) (nmE x) (bys pw)):=fun A' B' m' d' w' hx hr=>zmw (zr9 hr) x.name pw (hG.gl.ext hx) hsv
  have HH:∀ w',Ext w w'→Calls Tryz.prog 14 #[.agg #[.string x.name,.slice A1 n1 c1],.string ⟨#[117,115,101,114,80,97,115,115,119,111,114,100]⟩,.string pw] w' fun e w''=>e=.returned (.bool (hasE zb9 (bys pw) (za7 zb9 x.atts)))∧Ext w' w'':=fun w' hx=>by
   have:=zqF (r1.ext hx) ⟨#[117,115,101,114,80,97,115,115,119,111,114,100]⟩ x.name pw (hG.gl.ext hx) (by decide) (hf x hxm).vals
   rw [show bys ⟨#[117,115,101,114,80,97,115,115,119,111,114,100]⟩=zb9 from rfl,zsJ ziO.1 ziO.2] at this
   exact this
  unfold zeE at HBJ
  rw [hBS] at HBJ
  rw [← hNn] at hsp
  have f1:(x.name.toList==x.name.toList)=true:=beq_self_eq_true _
  have hsx:str (nmE x)=x.name:=zaN _
  clear hBS hsv hpe hN q1 g1 r1 HSP h hc hG hf hcl hk hxm hNn hi1 hi2 hs1 hs2 hn9
  generalize zaZ (sortN nmE l) (sortN nmQ cs) N=sp at *
  by_cases h2:pw.size=0
  ·have e2:=zcf h2
   have HBI:∀ A' B' m' d' w',Ext w w'→Row Elem.srw (fun _=>True) w' A' N N sp→Calls Tryz.prog 13 #[.agg #[.slice A' N N,.slice B' m' d'],.string x.name,.string pw] w' fun e w''=>e=.returned (.tuple #[.string ⟨#[]⟩,.int .i64 53])∧Ext w' w'':=fun A' B' m' d' w' hx hr=>by
    have:=HBJ A' B' m' d' w' hx hr
    rw [if_pos (by rw [zbt h2];rfl)] at this
    exact this
   clear HBJ hsx h2
   go_enter Tryz.func4,Tryz.ntmps4
   go_wp2_with (first
    | (go_at_call 12;first
     | ((with_reducible refine (HAW _ (Ext.refl _)).mono ?_);rintro e w1 ⟨rfl,hx1⟩;have HX1:=hid hx1;clear hx1)
     | ((with_reducible refine (HAW _ HX2.out).mono ?_);rintro e w3 ⟨rfl,hx3⟩;have HX3:=hid (HX2.out.trans hx3);clear hx3))
    | (go_at_call 7;(with_reducible refine (HFW _ HX1.out).mono ?_);rintro e w2 ⟨sm,rfl,hx2⟩;have HX2:=hid (HX1.out.trans hx2);clear hx2;cases sm)
    | (go_at_call 9;(with_reducible refine (HCU _ HX2.out).mono ?_);rintro e w4 ⟨A4,n4,c4,rfl,hr4,hx4⟩;have HR4:=hid (hr4.mono (T:=fun b=>w.heap.size≤b) fun b _ hb=>Nat.le_trans (zaD HX2.out) hb);have HX4:=hid (HX2.out.trans hx4);clear hr4 hx4)
    | (go_at_call 11;(with_reducible refine (hsp _ _ _ _ HX4.out HR4.out).mono ?_);rintro e w8 ⟨A8,B8,m8,d8,rfl,hr8,hx8⟩;have HBX:=hid (Bx.make (Ext.refl w8) #[.slice A8 N N,.slice B8 m8 d8] 33);have HBE:=hid (Bx.make (Ext.refl (w8.alloc (.cells #[.slice A8 N N,.slice B8 m8 d8] 33))) #[.string x.name,.slice A1 n1 c1] 44);have z0:=zaa e0 _ (HX4.out.trans (hx8.trans HBX.out.ext));have z1:=zaa e1 _ (HX4.out.trans (hx8.trans HBX.out.ext));have HX8:=hid (HX4.out.trans (hx8.trans (HBX.out.ext.trans HBE.out.ext)));have HR8:=hid (hr8.ext (HBX.out.ext.trans HBE.out.ext));have p0:=zaa (HBX.out.cell (i:=0) rfl) _ HBE.out.ext;have p1:=zaa (HBX.out.cell (i:=1) rfl) _ HBE.out.ext;have hsz:(w8.alloc (.cells #[.slice A8 N N,.slice B8 m8 d8] 33)).heap.size=w8.heap.size+1:=(by simp);have x0:=HBE.out.cell (i:=0) rfl;have x1':=HBE.out.cell (i:=1) rfl;rw [hsz] at x0 x1';clear hr8 hx8 hsz)
    | (go_at_call 13;(with_reducible refine (HBI _ _ _ _ _ HX8.out HR8.out).mono ?_);rintro e w9 ⟨rfl,hx9⟩;have y0:=zaa x0 _ hx9;have y1:=zaa x1' _ hx9;have HX9:=hid (HX8.out.trans hx9);clear x0 x1' p0 p1 z0 z1 hx9)
    | (go_at_call 14;(with_reducible refine (HH _ HX9.out).mono ?_);rintro e w10 ⟨rfl,hx10⟩;have q0:=zaa y0 _ hx10;have HX10:=hid (HX9.out.trans hx10);clear y0 y1 hx10))
   all_goals go_ret
   all_goals first | exact ⟨rfl,HX10.out⟩ | exact ⟨rfl,HX9.out⟩ | exact ⟨rfl,HX3.out⟩
  ·have e2:=zdn h2
   have hpn:¬ bys pw=[]:=fun e=>h2 (by rw [← zaf,e];rfl)
   rw [if_neg hpn] at HBJ
   clear h2 hpn
   generalize hasE zb9 (bys pw) (za7 zb9 x.atts)=hb at *
   cases hb
   ·have HBI:∀ A' B' m' d' w',Ext w w'→Row Elem.srw (fun _=>True) w' A' N N sp→Calls Tryz.prog 13 #[.agg #[.slice A' N N,.slice B' m' d'],.string x.name,.string pw] w' fun e w''=>e=.returned (.tuple #[.string ⟨#[]⟩,.int .i64 49])∧Ext w' w'':=HBJ
    clear HBJ hsx
    go_enter Tryz.func4,Tryz.ntmps4
    go_wp2_with (first
     | (go_at_call 12;first
      | ((with_reducible refine (HAW _ (Ext.refl _)).mono ?_);rintro e w1 ⟨rfl,hx1⟩;have HX1:=hid hx1;clear hx1)
      | ((with_reducible refine (HAW _ HX2.out).mono ?_);rintro e w3 ⟨rfl,hx3⟩;have HX3:=hid (HX2.out.trans hx3);clear hx3))
     | (go_at_call 7;(with_reducible refine (HFW _ HX1.out).mono ?_);rintro e w2 ⟨sm,rfl,hx2⟩;have HX2:=hid (HX1.out.trans hx2);clear hx2;cases sm)
     | (go_at_call 9;(with_reducible refine (HCU _ HX2.out).mono ?_);rintro e w4 ⟨A4,n4,c4,rfl,hr4,hx4⟩;have HR4:=hid (hr4.mono (T:=fun b=>w.heap.size≤b) fun b _ hb=>Nat.le_trans (zaD HX2.out) hb);have HX4:=hid (HX2.out.trans hx4);clear hr4 hx4)
     | (go_at_call 11;(with_reducible refine (hsp _ _ _ _ HX4.out HR4.out).mono ?_);rintro e w8 ⟨A8,B8,m8,d8,rfl,hr8,hx8⟩;have HBX:=hid (Bx.make (Ext.refl w8) #[.slice A8 N N,.slice B8 m8 d8] 33);have HBE:=hid (Bx.make (Ext.refl (w8.alloc (.cells #[.slice A8 N N,.slice B8 m8 d8] 33))) #[.string x.name,.slice A1 n1 c1] 44);have z0:=zaa e0 _ (HX4.out.trans (hx8.trans HBX.out.ext));have z1:=zaa e1 _ (HX4.out.trans (hx8.trans HBX.out.ext));have HX8:=hid (HX4.out.trans (hx8.trans (HBX.out.ext.trans HBE.out.ext)));have HR8:=hid (hr8.ext (HBX.out.ext.trans HBE.out.ext));have p0:=zaa (HBX.out.cell (i:=0) rfl) _ HBE.out.ext;have p1:=zaa (HBX.out.cell (i:=1) rfl) _ HBE.out.ext;have hsz:(w8.alloc (.cells #[.slice A8 N N,.slice B8 m8 d8] 33)).heap.size=w8.heap.size+1:=(by simp);have x0:=HBE.out.cell (i:=0) rfl;have x1':=HBE.out.cell (i:=1) rfl;rw [hsz] at x0 x1';clear hr8 hx8 hsz)
     | (go_at_call 13;(with_reducible refine (HBI _ _ _ _ _ HX8.out HR8.out).mono ?_);rintro e w9 ⟨rfl,hx9⟩;have y0:=zaa x0 _ hx9;have y1:=zaa x1' _ hx9;have HX9:=hid (HX8.out.trans hx9);clear x0 x1' p0 p1 z0 z1 hx9)
     | (go_at_call 14;(with_reducible refine (HH _ HX9.out).mono ?_);rintro e w10 ⟨rfl,hx10⟩;have q0:=zaa y0 _ hx10;have HX10:=hid (HX9.out.trans hx10);clear y0 y1 hx10))
    all_goals go_ret
    all_goals first | exact ⟨rfl,HX10.out⟩ | exact ⟨rfl,HX9.out⟩ | exact ⟨rfl,HX3.out⟩
   ·have HBI:∀ A' B' m' d' w',Ext w w'→Row Elem.srw (fun _=>True) w' A' N N sp→Calls Tryz.prog 13 #[.agg #[.slice A' N N,.slice B' m' d'],.string x.name,.string pw] w' fun e w''=>e=.returned (.tuple #[.string x.name,.int .i64 0])∧Ext w' w'':=fun A' B' m' d' w' hx hr=>by
     have:=HBJ A' B' m' d' w' hx hr
     rw [if_pos rfl,hsx] at this
     exact this
    clear HBJ hsx
    go_enter Tryz.func4,Tryz.ntmps4
    go_wp2_with (first
     | (go_at_call 12;first
      | ((with_reducible refine (HAW _ (Ext.refl _)).mono ?_);rintro e w1 ⟨rfl,hx1⟩;have HX1:=hid hx1;clear hx1)
      | ((with_reducible refine (HAW _ HX2.out).mono ?_);rintro e w3 ⟨rfl,hx3⟩;have HX3:=hid (HX2.out.trans hx3);clear hx3))
     | (go_at_call 7;(with_reducible refine (HFW _ HX1.out).mono ?_);rintro e w2 ⟨sm,rfl,hx2⟩;have HX2:=hid (HX1.out.trans hx2);clear hx2;cases sm)
     | (go_at_call 9;(with_reducible refine (HCU _ HX2.out).mono ?_);rintro e w4 ⟨A4,n4,c4,rfl,hr4,hx4⟩;have HR4:=hid (hr4.mono (T:=fun b=>w.heap.size≤b) fun b _ hb=>Nat.le_trans (zaD HX2.out) hb);have HX4:=hid (HX2.out.trans hx4);clear hr4 hx4)
     | (go_at_call 11;(with_reducible refine (hsp _ _ _ _ HX4.out HR4.out).mono ?_);rintro e w8 ⟨A8,B8,m8,d8,rfl,hr8,hx8⟩;have HBX:=hid (Bx.make (Ext.refl w8) #[.slice A8 N N,.slice B8 m8 d8] 33);have HBE:=hid (Bx.make (Ext.refl (w8.alloc (.cells #[.slice A8 N N,.slice B8 m8 d8] 33))) #[.string x.name,.slice A1 n1 c1] 44);have z0:=zaa e0 _ (HX4.out.trans (hx8.trans HBX.out.ext));have z1:=zaa e1 _ (HX4.out.trans (hx8.trans HBX.out.ext));have HX8:=hid (HX4.out.trans (hx8.trans (HBX.out.ext.trans HBE.out.ext)));have HR8:=hid (hr8.ext (HBX.out.ext.trans HBE.out.ext));have p0:=zaa (HBX.out.cell (i:=0) rfl) _ HBE.out.ext;have p1:=zaa (HBX.out.cell (i:=1) rfl) _ HBE.out.ext;have hsz:(w8.alloc (.cells #[.slice A8 N N,.slice B8 m8 d8] 33)).heap.size=w8.heap.size+1:=(by simp);have x0:=HBE.out.cell (i:=0) rfl;have x1':=HBE.out.cell (i:=1) rfl;rw [hsz] at x0 x1';clear hr8 hx8 hsz)
     | (go_at_call 13;(with_reducible refine (HBI _ _ _ _ _ HX8.out HR8.out).mono ?_);rintro e w9 ⟨rfl,hx9⟩;have y0:=zaa x0 _ hx9;have y1:=zaa x1' _ hx9;have HX9:=hid (HX8.out.trans hx9);clear x0 x1' p0 p1 z0 z1 hx9)
     | (go_at_call 14;(with_reducible refine (HH _ HX9.out).mono ?_);rintro e w10 ⟨rfl,hx10⟩;have q0:=zaa y0 _ hx10;have HX10:=hid (HX9.out.trans hx10);clear y0 y1 hx10))
    all_goals go_ret
    all_goals first | exact ⟨rfl,HX10.out⟩ | exact ⟨rfl,HX9.out⟩ | exact ⟨rfl,HX3.out⟩
 ·have hsp:∀ A' n' c' w',Ext w w'→Row Elem.cut (fun b=>w.heap.size≤b) w' A' n' c' cs→Calls Tryz.prog 11 #[.slice A n c,.slice A' n' c',.int .i64 sv] w' fun e w''=>∃ k:Int,k≠0∧e=.returned (.tuple #[.agg #[nilS,nilS],.int .i64 k])∧Ext w' w'':=fun A' n' c' w' hx hr=>(HSP A' n' c' w' hx hr).mono fun e w'' h=>by
   rcases h with ⟨h1,h2,-⟩ | ⟨-,k,h1,h2,h3⟩
   ·exact absurd ⟨h1,h2⟩ hk
   ·exact ⟨k,by rcases h1 with h | h <;> omega,h2,h3⟩
  clear HSP h hc hG hf hcl hk hi1 hi2 hs1 hs2 hn
  go_enter Tryz.func4,Tryz.ntmps4
  go_wp2_with (first
   | (go_at_call 12;first
    | ((with_reducible refine (HAW _ (Ext.refl _)).mono ?_);rintro e w1 ⟨rfl,hx1⟩;have HX1:=hid hx1;clear hx1)
    | ((with_reducible refine (HAW _ HX2.out).mono ?_);rintro e w3 ⟨rfl,hx3⟩;have HX3:=hid (HX2.out.trans hx3);clear hx3))
   | (go_at_call 7;(with_reducible refine (HFW _ HX1.out).mono ?_);rintro e w2 ⟨sm,rfl,hx2⟩;have HX2:=hid (HX1.out.trans hx2);clear hx2;cases sm)
   | (go_at_call 9;(with_reducible refine (HCU _ HX2.out).mono ?_);rintro e w4 ⟨A4,n4,c4,rfl,hr4,hx4⟩;have HR4:=hid (hr4.mono (T:=fun b=>w.heap.size≤b) fun b _ hb=>Nat.le_trans (zaD HX2.out) hb);have HX4:=hid (HX2.out.trans hx4);clear hr4 hx4)
   | (go_at_call 11;(with_reducible refine (hsp _ _ _ _ HX4.out HR4.out).mono ?_);rintro e w8 ⟨k,hk0,rfl,hx8⟩;have HX8:=hid (HX4.out.trans (hx8.trans (Ext.alloc w8 (.cells #[nilS,nilS] 33))));have hk1:(k != 0)=true:=(by rw [bne_iff_ne];exact hk0);clear hk0 hx8))
  all_goals go_ret
  all_goals first | exact ⟨rfl,HX8.out⟩ | exact ⟨rfl,HX3.out⟩
theorem zg6 : "*" ++ "errors.errorString" = "*errors.errorString" := by decide
theorem zkq (u:TypeId) (h:Tryz.prog.typeName? 3 u=some "*errors.errorString"):u=269:=
 typeName_ptr_named (nm := "errors.errorString") (by rw [zg6];kernel_rfl) (by kernel_rfl) (by decide) u (by rw [zg6];exact h)
theorem zp6:(Rows.laid_internal_strconv_uint64pow10:DataW Unit)=Lib.tabData .u64 Lib.pow10Tab:=by kernel_rfl
theorem zga {W:World} (h:laidMetH Tryz.prog Rows.authPasswordsUptoRow.laid W) (hs:W.ShapedOpen Tryz.prog):Gl W:=by
 rw [MakeChecks.laidMetH_plain _ _ _ (by kernel_rfl)] at h
 have h2:laidMet Tryz.prog (("internal/strconv.uint64pow10", Lib.tabData .u64 Lib.pow10Tab)::Rows.authPasswordsUptoRow.laid.drop 3) W:=by
  have:=h.tail.tail
  rw [← zp6]
  exact this
 have h4:laidMet Tryz.prog (("strconv.ErrRange", .iface "*errors.errorString" (.ptr (.agg [.lit (.string [118,97,108,117,101,32,111,117,116,32,111,102,32,114,97,110,103,101])])))::Rows.authPasswordsUptoRow.laid.drop 5) W:=h2.tail.tail
 have h5:laidMet Tryz.prog (("strconv.ErrSyntax", .iface "*errors.errorString" (.ptr (.agg [.lit (.string [105,110,118,97,108,105,100,32,115,121,110,116,97,120])])))::Rows.authPasswordsUptoRow.laid.drop 6) W:=h4.tail
 obtain ⟨a0,s0,hv0,-,-,-⟩:=laid_sentinel h4 gRng (by kernel_rfl) Tryz.underlying134 zkq Tryz.underlying269 Tryz.underlying271 rfl rfl Tryz.underlying9 (by kernel_rfl) (by kernel_rfl)
 obtain ⟨a1,s1,hv1,-,-,-⟩:=laid_sentinel h5 gSyn (by kernel_rfl) Tryz.underlying134 zkq Tryz.underlying269 Tryz.underlying271 rfl rfl Tryz.underlying9 (by kernel_rfl) (by kernel_rfl)
 refine ⟨?_,⟨_,_,hv1⟩,⟨_,_,hv0⟩,?_⟩
 ·exact cell_of_shapedOpen_int (t:=3) (k:=.i64) (zero:=#[.int .i64 0]) hs (of_decide_eq_true (by kernel_rfl)) (by kernel_rfl) rfl (by kernel_rfl) (by kernel_rfl) Tryz.underlying3
 ·exact Lib.tabIs_of_head gPow (by kernel_rfl) Tryz.underlying262 Tryz.underlying188 (by kernel_rfl) (by kernel_rfl) h2
theorem zqc:(Rows.laid_unicode_utf8_acceptRanges:DataW Unit)=Lib.acceptData:=by kernel_rfl
theorem zgl {W:World} (h:laidMetH Tryz.prog Rows.authPasswordsUptoRow.laid W):Ug W:=by
 rw [MakeChecks.laidMetH_plain _ _ _ (by kernel_rfl)] at h
 have h3:Lib.VarReads Tryz.prog W "unicode/utf8.first" Lib.firstData:=by
  rw [← Pinned.utf8First_eq]
  exact Lib.laidMet.reads h (show (("unicode/utf8.first", Rows.laid_unicode_utf8_first):String × DataW Unit)∈Rows.authPasswordsUptoRow.laid from .tail _ (.tail _ (.tail _ (.tail _ (.tail _ (.tail _ (.head _)))))))
 have h4:Lib.VarReads Tryz.prog W "unicode/utf8.acceptRanges" Lib.acceptData:=by
  rw [← zqc]
  exact Lib.laidMet.reads h (show (("unicode/utf8.acceptRanges", Rows.laid_unicode_utf8_acceptRanges):String × DataW Unit)∈Rows.authPasswordsUptoRow.laid from .tail _ (.tail _ (.tail _ (.head _))))
 exact utf8Tabs_of_reads Tryz.lays260 ⟨by kernel_rfl,by kernel_rfl,by kernel_rfl,by kernel_rfl,by kernel_rfl,by kernel_rfl,by kernel_rfl⟩ h3 h4
theorem zgo {W:World} (h:laidMetH Tryz.prog Rows.authPasswordsUptoRow.laid W) (hs:W.ShapedOpen Tryz.prog):Gu W:=⟨zga h hs,zgl h⟩
theorem zsH {n:Int} (h:(Lit.int .u8 n).wf=true):0≤n∧n≤255:=by
 rw [show (Lit.int .u8 n).wf=(decide (IntKind.u8.min≤n) && decide (n≤IntKind.u8.max)) from rfl,Bool.and_eq_true,decide_eq_true_iff,decide_eq_true_iff] at h
 have e1:IntKind.u8.min=0:=by decide +kernel
 have e2:IntKind.u8.max=255:=by decide +kernel
 rw [e1,e2] at h
 exact h
theorem zkN {n:Int} (h:(Lit.int .i64 n).wf=true):-9223372036854775808≤n∧n≤9223372036854775807:=by
 rw [show (Lit.int .i64 n).wf=(decide (IntKind.i64.min≤n) && decide (n≤IntKind.i64.max)) from rfl,Bool.and_eq_true,decide_eq_true_iff,decide_eq_true_iff] at h
 have e1:IntKind.i64.min = -9223372036854775808:=by decide +kernel
 have e2:IntKind.i64.max=9223372036854775807:=by decide +kernel
 rw [e1,e2] at h
 exact h
end Go.Proofs.YtioglicfndkgiaaGreatDoor
