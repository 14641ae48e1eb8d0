/- Lemmas of the walk. -/
import Derived.Test.YtkjbokhnpphimaaGreatDoorV44
import Derived.Test.YtkjbokhnpphimaaGreatDoorV45
set_option maxHeartbeats 40000000
set_option linter.unusedVariables false
set_option linter.unusedSimpArgs false
namespace Go.Proofs.YtkjbokhnpphimaaGreatDoor
open Go.RowKit
set_option maxRecDepth 100000
structure Two(w wr:World)(vl vc:Value)(l:List Ent)(q:List CutR):Prop where
 l:GrowM Elem.ent (fun _=>True) 58 vc.ownBlock w wr vl l
 q:GrowM Elem.cut (fun _=>True) 60 vl.ownBlock w wr vc q
section
variable {w wr w':World}{vl vc v':Value}{l l':List Ent}{q q':List CutR}
theorem Two.nil(hx:Ext w wr):Two w wr (.slice none 0 0) (.slice none 0 0) [] []:=⟨GrowM.nil hx (fun g hg=>by cases hg),GrowM.nil hx (fun g hg=>by cases hg)⟩
theorem Two.later(h:Two w wr vl vc l q)(hx:Ext wr w'):Two w w' vl vc l q:=⟨h.l.later hx,h.q.later hx⟩
theorem Two.growQ{o:Obj}(h:Two w wr vl vc l q)(k1:GrowM Elem.cut (fun _=>True) 60 vl.ownBlock w w' v' q')(k2:(wr.alloc o).grownBy w' vc.ownBlock)(k3:v'.ownBlock=vc.ownBlock∨v'.ownBlock=some (wr.alloc o).heap.size):Two w w' vl v' l q':=
 ⟨(h.l.later (Ext.alloc _ _)).beside k2 k3 ((Below.refl _ _).grown k2 (zaz (h.q.ext.trans (Ext.alloc _ _))) (fun k hk=>(h.q.lt hk).1)) (fun b hb=>(k1.lt hb).2),k1⟩
theorem Two.growL{o:Obj}(h:Two w wr vl vc l q)(k1:GrowM Elem.ent (fun _=>True) 58 vc.ownBlock w w' v' l')(k2:(wr.alloc o).grownBy w' vl.ownBlock)(k3:v'.ownBlock=vl.ownBlock∨v'.ownBlock=some (wr.alloc o).heap.size):Two w w' v' vc l' q:=
 ⟨k1,(h.q.later (Ext.alloc _ _)).beside k2 k3 ((Below.refl _ _).grown k2 (zaz (h.q.ext.trans (Ext.alloc _ _))) (fun k hk=>(h.l.lt hk).1)) (fun b hb=>(k1.lt hb).2)⟩
theorem GrowM.rowNN{α:Type}{E:Elem α}{S:Nat→Prop}{T:TypeId}{L:Option Nat}{w wr:World}{v:Value}{l:List α}(h:GrowM E S T L w wr v l):∃A n c,v=.slice A n c∧Row E (fun _=>True) wr A n c l:=by
 obtain⟨A,c,h1,h2⟩:=h.row
 exact⟨A,_,c,h1,zgT h2⟩
def zhh(w w':World)(vl vc:Value)(l:List Ent)(q:List CutR):Prop:=(∃A n c,vl=.slice A n c∧Row Elem.ent (fun _=>True) w' A n c (sortN nmE l))∧(∃B m d,vc=.slice B m d∧Row Elem.cut (fun _=>True) w' B m d q)∧Ext w w'
theorem Two.sort(h:Two w wr vl vc l q)(hG:Gl w)(hn:l.length≤4000000)(hs:∀e∈l,zbZ (nmE e)=true)(ha:Apart nmE l) :
 Calls Tryz.prog 43 #[vl] wr fun e w'=>e=.returned (.tuple #[])∧zhh w w' vl vc l q:=by
 rcases h.l.forms with⟨rfl,hz⟩|⟨g,n,c,rfl,hn9⟩
 ·refine(zgr wr).mono fun e w' ⟨h1,hx⟩=>⟨h1,⟨none,0,0,rfl,?_⟩,(h.q.later hx).rowNN,h.l.ext.trans hx⟩
  rw[hz]
  exact Row.nil _ _ _
 ·have h2:GrowM Elem.ent (fun b=>some b≠vc.ownBlock) 58 none w wr (.slice (some ⟨g,0,none⟩) n c) l:=by
   obtain⟨⟨vss,q1,q2,q3⟩,q4,q5⟩:=h.l
   exact⟨⟨vss,q1,q2,fun i u x hi hl=>Elem.ent.mono (q3 i u x hi hl) fun b _ hb=>⟨hb.2.2,hb.2.1,by simp⟩⟩,q4,fun k hk=>by cases hk⟩
  refine(zga h2 hG (by rw[hn9];exact hn) hs ha).mono fun e w' ⟨h3,h4,h5⟩=>⟨h3,h4.rowNN,?_,h4.ext⟩
  exact (GrowM.kept (L:=g) h.q h5 fun b hb=>by
   have e:g=b:=Option.some.inj hb
   subst e
   exact ⟨(h.l.lt rfl).1,(h.q.apart _ rfl).1,.inl rfl⟩).rowNN
end
def zl4(w:World)(s:List (List Cxt))(t:List CutR)(e:Ending)(w':World):Prop:=
 (JoinOk s t∧∃A n c B m d,e=.returned (.tuple #[.slice A n c,.slice B m d,.int .i64 0])∧Row Elem.ent (fun _=>True) w' A n c (sortN nmE (zbj s))∧Row Elem.cut (fun _=>True) w' B m d (sortN nmQ (zbf s))∧Ext w w') ∨
 (¬JoinOk s t∧e=.returned (.tuple #[nilS,nilS,.int .i64 2])∧Ext w w')
theorem zoB{S:Nat→Prop}{w:World}{A:Option Addr}{n c:Nat}{B:Option Addr}{m d:Nat}{s:List (List Cxt)}{t:List CutR}(h:CfgAt S w A n c B m d s t)(hG:Gu w)(hf:∀x∈s,∀y∈x,y.ents.length≤2000000∧∀e∈y.ents,EntFits e) :
 Calls Tryz.prog 14 #[.agg #[.slice A n c,.slice B m d]] w (zl4 w s t):=by
 have HG:=hid hG
 have HR:=hid (h.srv.mono (T:=fun b=>b<w.heap.size) fun b hb _=>hb)
 have HLN:Hid (n=s.length):=h.srv.len
 have HF:=hid hf
 have hn:n≤9223372036854775807:=by have:=h.srv.cap;have:=h.srv.most;simp only[maxLen] at this;omega
 have HSM:∀(T:Nat→Prop) A' n' c' B' m' d' s' t' w',Ext w w'→CfgAt T w' A' n' c' B' m' d' s' t'→Calls Tryz.prog 42 #[.agg #[.slice A' n' c',.slice B' m' d'],.agg #[.slice A n c,.slice B m d]] w' fun e w''=>e=.returned (.bool (decide (s'=s∧t'=t)))∧Ext w' w'':=fun T A' n' c' B' m' d' s' t' w' hx hc=>zpk hc (h.ext hx)
 have HB0:=hid (Bx.make (Ext.refl w) #[.slice A n c,.slice B m d] 29)
 show Calls _ _ _ _ (fun e w'=>zl4 w s t e w')
 clear h hG hf
 go_enter Tryz.func14,Tryz.ntmps14
 have b0:=HB0.out.cell (i:=0) rfl
 go_wp2
 obtain⟨w1,hw1⟩:∃x,x=w.alloc (.cells #[.slice A n c,.slice B m d] 29):=⟨_,rfl⟩
 rw[←hw1] at HB0 ⊢
 have HX1:Hid (Ext w w1):=HB0.out.ext
 have HZ1:Hid (w.heap.size<w1.heap.size):=HB0.out.lt
 clear b0 hw1
 go_loopw [5,6,18] (fun vl vc i wr=>∃j:Nat,j≤n∧i=.int .i64 j∧Hid (Two w1 wr vl vc (zbj (s.take j)) (zbf (s.take j)))∧Hid ((zbf (s.take j)).length≤30∧(zbj (s.take j)).length≤400)) (fun _ _ i _=>n-(intOf i).toNat)
 case atStart=>exact⟨0,by omega,rfl,Two.nil (Ext.refl _),by simp[zbf],by simp[zbj]⟩
 case round=>
  obtain⟨j,hj,rfl,HT,HBD⟩:=hrel
  obtain⟨wo,hwo⟩:∃x,x=wr:=⟨_,rfl⟩
  subst hwo
  have HXO:=hid HT.out.l.ext
  by_cases hlt:j<n
  ·obtain⟨b1,o1,v1,x1,rfl,g1,-,⟨A1,n1,c1,rfl,r1⟩,q1⟩:=HR.out.at_ hlt
   have e1:=zaa (zaa (q1 0 _ rfl) _ HX1.out) _ HXO.out
   simp only[Elem.srw,Elem.slc,Nat.add_zero,Nat.mul_one] at e1
   have R1:=hid r1
   have HL1:Hid (n1=x1.length):=r1.len
   have hn1:n1≤9223372036854775807:=by have:=r1.cap;have:=r1.most;simp only[maxLen] at this;omega
   have HLN1:=hid (ziF g1)
   have HQN1:=hid (ziA g1)
   have HQLE:Hid (∀k,k≤x1.length→(zbf (s.take j)).length+k≤(zbf s).length):=fun k hk=>zmb g1 hk
   have HLLE:Hid (∀k,(zbj (s.take j)).length+((x1.take k).flatMap (·.ents)).length≤(zbj s).length):=fun k=>zmz g1 k
   have HFX:=hid (HF.out x1 (List.mem_of_getElem? g1))
   have HBS:=hid (Bx.make (Ext.refl wo) #[.slice A1 n1 c1] 78)
   have s0:=HBS.out.cell (i:=0) rfl
   clear q1 g1 r1
   generalize hL0:zbj (s.take j)=L0 at*
   generalize hQ0:zbf (s.take j)=Q0 at*
   clear hL0 hQ0
   go_wp2
   obtain⟨wi,hwi⟩:∃x,x=wo.alloc (.cells #[.slice A1 n1 c1] 78):=⟨_,rfl⟩
   have HTI:Hid (Two w1 wi (_) (_) L0 Q0):=HT.out.later (by rw[hwi];exact Ext.alloc _ _)
   rw[←hwi]
   clear hwi s0 e1
   go_loopw [5,6,26] (fun vl vc i wr=>∃k:Nat,k≤n1∧i=.int .i64 k∧Hid (Two w1 wr vl vc (L0++(x1.take k).flatMap (·.ents)) (Q0++zdU j (x1.take k)))∧Hid ((Q0++zdU j (x1.take k)).length≤30∧(L0++(x1.take k).flatMap (·.ents)).length≤400)) (fun _ _ i _=>n1-(intOf i).toNat)
   case atStart=>exact⟨0,by omega,rfl,by show Two _ _ _ _ _ _;simpa[zdU] using HTI.out,by show _∧_;simpa[zdU] using HBD.out⟩
   case round=>
    obtain⟨k,hk,rfl,HI,HBI⟩:=hrel
    have HXI:=hid HI.out.l.ext
    by_cases hlt2:k<n1
    ·obtain⟨b2,o2,v2,x2,rfl,g2,-,⟨A2,n2,c2,B3,m3,d3,rfl,r2,s2⟩,q2⟩:=(R1.out.ext (HX1.out.trans HXI.out)).at_ hlt2
     have e20:=q2 0 _ rfl
     have e21:=q2 1 _ rfl
     have e22:=q2 2 _ rfl
     simp only[Elem.cxt,Nat.add_zero] at e20 e21 e22
     have HX2:=hid (zmK (i:=j) g2)
     have HE2:=hid (zkr g2)
     have HF2:=hid (HFX.out x2 (List.mem_of_getElem? g2))
     have HL2:Hid (n2=x2.ents.length):=r2.len
     have R2:=hid r2
     have hn2:n2≤9223372036854775807:=by have:=r2.cap;have:=r2.most;simp only[maxLen] at this;omega
     have HKL:Hid (k+1≤x1.length):=by show _≤_;have:=HL1.out;omega
     have HBX:=hid (Bx.make (Ext.refl wr) #[.string x2.name,.slice A2 n2 c2,.slice B3 m3 d3] 72)
     have p0:=HBX.out.cell (i:=0) rfl
     have HLQ:Hid ((Q0++zdU j (x1.take k)).length≤4000000):=by show _≤_;have:=HBI.out.1;omega
     generalize hQ1:Q0++zdU j (x1.take k)=Q1 at*
     generalize hL1:L0++(x1.take k).flatMap (·.ents)=L1 at*
     have HQ1:=hid hQ1
     have HL1':=hid hL1
     clear q2 g2 r2 s2 hQ1 hL1
     go_wp2_with(at_builtin;(refine zf3 Tryz.underlying27 zhI rfl (by decide) rfl _ _ rfl _ _ rfl (HI.out.q.later HBX.out.ext) (u:=[.string x2.name,.int .i64 j]) ⟨x2.name,j⟩ rfl (by intro c hc;simp at hc;rcases hc with rfl|rfl<;>rfl) rfl (by simp) HLQ.out ?_;intro v' w3 k1 k2 k3;have HT3:=hid ((HI.out.later HBX.out.ext).growQ k1 k2 k3);have P1:Hid (w3.cell? ⟨wr.heap.size,1,none⟩=some (.slice A2 n2 c2)):=((World.cell?_of_block (a:=⟨wr.heap.size,1,none⟩) (k2.block _ (by simp only[World.alloc,Array.size_push];omega) (fun e=>Nat.lt_irrefl _ (HI.out.q.lt e.symm).2))).trans (zaa (HBX.out.cell (i:=1) rfl) _ (Ext.alloc _ _)));have p1:=P1.out;obtain⟨A6,q6,c6,rfl,hr6⟩:=k1.rowNN;have HQ6:=hid hr6.len;clear k1 k2 k3 hr6))
     clear p0 p1 e20 e21 e22
     have HLL1:Hid (L1.length≤400):=HBI.out.2
     obtain⟨wz,hwz⟩:∃x,x=w3:=⟨_,rfl⟩
     subst hwz
     go_loopw [5,40] (fun vl i wr=>∃z:Nat,z≤n2∧i=.int .i64 z∧Hid (Two w1 wr vl (.slice A6 q6 c6) (L1++x2.ents.take z) (Q1++[⟨x2.name,(j:Int)⟩]))) (fun _ i _=>n2-(intOf i).toNat)
     case atStart=>exact⟨0,by omega,rfl,by show Two _ _ _ _ _ _;simpa using HT3.out⟩
     case round=>
      obtain⟨z,hz,rfl,HTT⟩:=hrel
      by_cases hlt3:z<n2
      ·obtain⟨b4,o4,v4,x4,rfl,g4,-,⟨A4,n4,c4,rfl,r4⟩,q4⟩:=(((R2.out.mono (T:=fun b=>b<w.heap.size) fun b _ hb=>hb).same fun b hb=>(HTT.out.l.ext.block b (by have:=HZ1.out;omega)).trans (HXI.out.block b (by have:=HZ1.out;omega)).symm)).at_ hlt3
       have e40:=q4 0 _ rfl
       have e41:=q4 1 _ rfl
       simp only[Elem.ent,Nat.add_zero] at e40 e41
       have HF4:=hid (HF2.out.2 x4 (List.mem_of_getElem? g4))
       have HTK:Hid (x2.ents.take (z+1)=x2.ents.take z++[x4]):=by show _=_;rw[List.take_add_one,g4];rfl
       have HB4:=hid (Bx.make (Ext.refl wr) #[.string x4.name,.slice A4 n4 c4] 58)
       have y0:=HB4.out.cell (i:=0) rfl
       have y1:=HB4.out.cell (i:=1) rfl
       have HCP:Calls Tryz.prog 41 #[.agg #[.string x4.name,.slice A4 n4 c4]] (wr.alloc (.cells #[.string x4.name,.slice A4 n4 c4] 58)) (zbU (fun b=>b<w.heap.size) (wr.alloc (.cells #[.string x4.name,.slice A4 n4 c4] 58)) x4.name x4.atts):=zfn (r4.ext HB4.out.ext) x4.name HF4.out.few HF4.out.vals
       unfold zbU at HCP
       have HLT:Hid ((L1++x2.ents.take z).length≤4000000):=by
        show _≤_
        have h1:=HLL1.out
        have h2:=HF2.out.1
        rw[List.length_append,List.length_take]
        omega
       clear q4 g4 r4
       go_wp2_with (first
        |(go_at_call 41;(with_reducible refine HCP.mono ?_);rintro e5 w5 ⟨A5,n5,c5,rfl,hr5,hx5⟩;have HX5:=hid (HB4.out.ext.trans hx5);have HE5:=hid (HTT.out.l.new (w1:=w5) (u:=[.string x4.name,.slice A5 n5 c5]) (x:=x4) (S':=fun b=>b<w.heap.size∨wr.heap.size≤b) (fun _ _ _=>trivial) (fun b hb=>by(rcases hb with hb|hb);(exact .inl (Nat.lt_trans hb HZ1.out));(exact .inr hb)) ⟨A5,n5,c5,rfl,hr5.mono fun b _ hb=>by(rcases hb with hb|hb);(exact .inl hb);(simp only[World.alloc,Array.size_push] at hb;exact .inr (by omega))⟩);have HT5:=hid (HTT.out.later HX5.out);clear hr5 hx5)
        | (at_builtin;refine zf3 Tryz.underlying22 zdP rfl (by decide) rfl _ _ rfl _ _ rfl HT5.out.l (u:=[.string x4.name,.slice A5 n5 c5]) x4 HE5.out (by intro c hc;simp at hc;rcases hc with rfl | rfl <;> rfl) rfl rfl HLT.out ?_;intro v6 w6 k1 k2 k3;have HT6:=hid (HT5.out.growL k1 k2 k3);clear k1 k2 k3))
       exact⟨⟨z+1,by omega,by go_num,by rw[HTK.out,←List.append_assoc];exact HT6⟩,by simp[intOf];omega⟩
      ·obtain rfl:z=n2:=by omega
       have HTE:Hid (x2.ents.take z=x2.ents):=by show _=_;rw[List.take_of_length_le (Nat.le_of_eq HL2.out.symm)]
       rw[HTE.out] at HTT
       obtain⟨A7,n7,c7,rfl,hr7⟩:=HTT.out.l.rowNN
       have HN7:Hid (n7=(L1++x2.ents).length):=hr7.len
       have HEL:Hid (L0++(x1.take (k+1)).flatMap (·.ents)=L1++x2.ents):=by show _=_;rw[HE2.out,←List.append_assoc,HL1'.out]
       have HEQ:Hid (Q0++zdU j (x1.take (k+1))=Q1++[⟨x2.name,(j:Int)⟩]):=by show _=_;rw[HX2.out,←List.append_assoc,HQ1.out]
       have HQB:Hid (q6≤(zbf s).length):=by
        show _≤_
        have h1:=HQLE.out _ HKL.out
        rw[HQ6.out,←HEQ.out,List.length_append,zoP HKL.out]
        exact h1
       have HLB:Hid (n7≤(zbj s).length):=by
        show _≤_
        have h1:=HLLE.out (k+1)
        rw[HN7.out,←HEL.out,List.length_append]
        exact h1
       clear hr7
       by_cases h30:30<q6
       ·have h30':(30:Int)<(q6:Int):=by omega
        have HNO:Hid (¬JoinOk s t):=fun h=>by have h1:=h.few;have h2:=HQB.out;omega
        clear h30
        go_wp2
        go_ret3
        exact .inr ⟨HNO.out,rfl,HX1.out.trans HTT.out.l.ext⟩
       have h30':¬(30:Int)<(q6:Int):=by omega
       have HB3:Hid (q6≤30):=by show _≤_;omega
       clear h30
       by_cases h4:400<n7
       ·have h4':(400:Int)<(n7:Int):=by omega
        have HNO:Hid (¬JoinOk s t):=fun h=>by have h1:=h.most;have h2:=HLB.out;omega
        clear h4
        go_wp2
        go_ret3
        exact .inr ⟨HNO.out,rfl,HX1.out.trans HTT.out.l.ext⟩
       have h4':¬(400:Int)<(n7:Int):=by omega
       have HB4:Hid (n7≤400):=by show _≤_;omega
       clear h4
       go_wp2
       refine⟨⟨k+1,by omega,by go_num,?_,?_⟩,by simp[intOf];omega⟩
       ·rw[HEL.out,HEQ.out]
        exact HTT
       ·rw[HEL.out,HEQ.out,←HQ6.out,←HN7.out]
        exact⟨HB3.out,HB4.out⟩
    ·obtain rfl:k=n1:=by omega
     have HTF:Hid (x1.take k=x1):=by show _=_;rw[List.take_of_length_le (Nat.le_of_eq HL1.out.symm)]
     rw[HTF.out,←HLN1.out,←HQN1.out] at HI HBI
     go_wp2
     exact⟨⟨j+1,by omega,by go_num,HI,HBI⟩,by simp[intOf];omega⟩
  ·obtain rfl:j=n:=by omega
   have hlt':¬(j:Int)<(j:Int):=by omega
   rw[zmZ HLN.out,znD HLN.out] at HT HBD
   have HMM:=hid HBD.out
   obtain⟨A5,n5,c5,rfl,hr5⟩:=HT.out.l.rowNN
   obtain⟨A6,n6,c6,rfl,hr6⟩:=HT.out.q.rowNN
   have HXW:=hid (HX1.out.trans HXO.out)
   have HFA:Hid (∀e∈zbj s,EntFits e):=fun e he=>by
    obtain⟨x,hx,he⟩:=List.mem_flatMap.1 he
    obtain⟨y,hy,he⟩:=List.mem_flatMap.1 he
    exact(HF.out x hx y hy).2 e he
   have HSP:Calls Tryz.prog 8 #[.slice A5 n5 c5,.slice A6 n6 c6,.int .i64 (j:Int)] wo (zdq wo (zbj s) (zbf s) (j:Int)):=zeC hr5 hr6 (j:Int) (HG.out.ext HXW.out) HFA.out (by omega) (by omega)
   have n0:=(HB0.out.later HXO.out).cell (i:=0) rfl
   clear hr5 hr6
   by_cases hk:OkOf (zbj s)∧RightOk (zbj s) (zbf s) (j:Int)
   ·have hsp:Calls Tryz.prog 8 #[.slice A5 n5 c5,.slice A6 n6 c6,.int .i64 (j:Int)] wo fun e w''=>∃A B m d,e=.returned (.tuple #[.agg #[.slice A j j,.slice B m d],.int .i64 0])∧CfgAt (fun _=>True) w'' A j j B m d (zaS (sortN nmE (zbj s)) (sortN nmQ (zbf s)) j) (topS (sortN nmQ (zbf s)))∧Ext wo w'':=HSP.mono fun e w'' h=>by
     rcases h with⟨-,-,A,B,m,d,h1,h2,h3,h4⟩|⟨h1,-⟩
     ·rw[Int.toNat_natCast] at h1 h2
      exact⟨A,B,m,d,h1,⟨h2,h3⟩,h4⟩
     ·exact absurd hk h1
    have hN:=zcH hk.1
    have HTS:∀w',Ext wo w'→Calls Tryz.prog 43 #[.slice A5 n5 c5] w' fun e w''=>e=.returned (.tuple #[])∧zhh w1 w'' (.slice A5 n5 c5) (.slice A6 n6 c6) (zbj s) (zbf s):=fun w' hx=>(HT.out.later hx).sort (HG.out.gl.ext HX1.out) (by have:=HMM.out.2;omega) hN.self hN.apart
    unfold zhh at HTS
    have HSD:∀A' n' c' w',Ext w w'→Row Elem.cut (fun _=>True) w' A' n' c' (zbf s)→Calls Tryz.prog 26 #[.slice A' n' c'] w' fun e w''=>∃A2 n2 c2,e=.returned (.slice A2 n2 c2)∧Row Elem.cut (fun b=>w'.heap.size≤b) w'' A2 n2 c2 (sortN nmQ (zbf s))∧Ext w' w'':=fun A' n' c' w' hx hr=>zia hr (HG.out.gl.ext hx) (by have:=HMM.out.1;omega) (hk.2.self hN) hk.2.apart
    by_cases hst:zaS (sortN nmE (zbj s)) (sortN nmQ (zbf s)) j=s∧topS (sortN nmQ (zbf s))=t
    ·have HOK:Hid (JoinOk s t):=⟨HMM.out.1,HMM.out.2,hk.1,by rw[←HLN.out];exact hk.2,by rw[←HLN.out];exact hst.1,hst.2⟩
     have hsm:∀A' B' m' d' w',Ext w w'→CfgAt (fun _=>True) w' A' j j B' m' d' (zaS (sortN nmE (zbj s)) (sortN nmQ (zbf s)) j) (topS (sortN nmQ (zbf s)))→Calls Tryz.prog 42 #[.agg #[.slice A' j j,.slice B' m' d'],.agg #[.slice A j c,.slice B m d]] w' fun e w''=>e=.returned (.bool true)∧Ext w' w'':=fun A' B' m' d' w' hx hc=>by
      have:=HSM _ _ _ _ _ _ _ _ _ _ hx hc
      rwa[decide_eq_true hst] at this
     generalize zaS (sortN nmE (zbj s)) (sortN nmQ (zbf s)) j=s9 at*
     generalize topS (sortN nmQ (zbf s))=t9 at*
     clear HSP HSM hk hN hst
     go_wp2_with (first
      |(go_at_call 8;(with_reducible refine hsp.mono ?_);rintro e w5 ⟨A9,B9,m9,d9,rfl,hr9,hx9⟩;have HB9:=hid (Bx.make (Ext.refl w5) #[.slice A9 j j,.slice B9 m9 d9] 29);have HY9:=hid (hx9.trans HB9.out.ext);have HR9:=hid (hr9.ext HB9.out.ext);have z0:=HB9.out.cell (i:=0) rfl;have z1:=HB9.out.cell (i:=1) rfl;have y0:=(HB0.out.later (HXO.out.trans HY9.out)).cell (i:=0) rfl;have y1:=(HB0.out.later (HXO.out.trans HY9.out)).cell (i:=1) rfl;clear hr9 hx9)
      |(go_at_call 42;(with_reducible refine(hsm _ _ _ _ _ (HXW.out.trans HY9.out) HR9.out).mono ?_);rintro e w6 ⟨rfl,hx6⟩;have HY6:=hid (HY9.out.trans hx6);clear hx6 z0 z1 y0 y1)
      |(go_at_call 43;(with_reducible refine(HTS _ HY6.out).mono ?_);rintro e w7 ⟨rfl,⟨A7,n7,c7,he7,hr7⟩,⟨B7,m7,d7,hc7,hq7⟩,hx7⟩;cases he7;cases hc7;have HR7:=hid hr7;have HQ7:=hid hq7;have HX7:=hid (HX1.out.trans hx7);clear hr7 hq7 hx7)
      | (go_at_call 26;(with_reducible refine (HSD _ _ _ _ HX7.out HQ7.out).mono ?_);rintro e w8 ⟨A8,n8,c8,rfl,hr8,hx8⟩;have HR8:=hid hr8;have HR78:=hid (HR7.out.ext hx8);have HX8:=hid (HX7.out.trans hx8);clear hr8 hx8))
     go_ret3
     exact .inl ⟨HOK.out,_,_,_,_,_,_,rfl,HR78.out,HR8.out.mono fun _ _ _=>trivial,HX8.out⟩
    ·have HNO:Hid (¬JoinOk s t):=fun h=>hst ⟨by rw[HLN.out];exact h.srv,h.top⟩
     have hsm:∀A' B' m' d' w',Ext w w'→CfgAt (fun _=>True) w' A' j j B' m' d' (zaS (sortN nmE (zbj s)) (sortN nmQ (zbf s)) j) (topS (sortN nmQ (zbf s)))→Calls Tryz.prog 42 #[.agg #[.slice A' j j,.slice B' m' d'],.agg #[.slice A j c,.slice B m d]] w' fun e w''=>e=.returned (.bool false)∧Ext w' w'':=fun A' B' m' d' w' hx hc=>by
      have:=HSM _ _ _ _ _ _ _ _ _ _ hx hc
      rwa[decide_eq_false hst] at this
     generalize zaS (sortN nmE (zbj s)) (sortN nmQ (zbf s)) j=s9 at*
     generalize topS (sortN nmQ (zbf s))=t9 at*
     clear HSP HSM hk hN hst HTS HSD
     go_wp2_with (first
      |(go_at_call 8;(with_reducible refine hsp.mono ?_);rintro e w5 ⟨A9,B9,m9,d9,rfl,hr9,hx9⟩;have HB9:=hid (Bx.make (Ext.refl w5) #[.slice A9 j j,.slice B9 m9 d9] 29);have HY9:=hid (hx9.trans HB9.out.ext);have HR9:=hid (hr9.ext HB9.out.ext);have z0:=HB9.out.cell (i:=0) rfl;have z1:=HB9.out.cell (i:=1) rfl;have y0:=(HB0.out.later (HXO.out.trans HY9.out)).cell (i:=0) rfl;have y1:=(HB0.out.later (HXO.out.trans HY9.out)).cell (i:=1) rfl;clear hr9 hx9)
      | (go_at_call 42;(with_reducible refine (hsm _ _ _ _ _ (HXW.out.trans HY9.out) HR9.out).mono ?_);rintro e w6 ⟨rfl,hx6⟩;have HY6:=hid (HY9.out.trans hx6);clear hx6 z0 z1 y0 y1))
     go_ret3
     exact .inr ⟨HNO.out,rfl,HXW.out.trans HY6.out⟩
   ·have hsp:Calls Tryz.prog 8 #[.slice A5 n5 c5,.slice A6 n6 c6,.int .i64 (j:Int)] wo fun e w''=>∃k:Int,(k != 0)=true∧e=.returned (.tuple #[.agg #[nilS,nilS],.int .i64 k])∧Ext wo w'':=HSP.mono fun e w'' h=>by
     rcases h with⟨h1,h2,-⟩|⟨-,k,h1,h2,h3⟩
     ·exact absurd ⟨h1,h2⟩ hk
     ·exact⟨k,by rw[bne_iff_ne];rcases h1 with h|h<;>omega,h2,h3⟩
    have HNO:Hid (¬JoinOk s t):=fun h=>hk ⟨h.ok,by rw[HLN.out];exact h.right⟩
    clear HSP HSM hk
    go_wp2_with(go_at_call 8;(with_reducible refine hsp.mono ?_);rintro e w5 ⟨k,hk1,rfl,hx9⟩;have HY9:=hid (hx9.trans (Ext.alloc w5 (.cells #[nilS,nilS] 29)));clear hx9)
    go_ret3
    exact .inr ⟨HNO.out,rfl,HXW.out.trans HY9.out⟩
end Go.Proofs.YtkjbokhnpphimaaGreatDoor
