/- Lemmas of the walk. -/
import Derived.Test.YtkjbokhnpphimaaGreatDoorV28
set_option maxHeartbeats 40000000
set_option linter.unusedVariables false
set_option linter.unusedSimpArgs false
namespace Go.Proofs.YtkjbokhnpphimaaGreatDoor
section
open Go.RowKit
set_option maxRecDepth 100000
theorem zkN{k:Nat}:∀{vss:List (List Value)} {j r:Nat} {v:List Value} (u:Value),(∀v∈vss,v.length=k)→vss[j]?=some v→r<k→vss.flatten.set (j * k+r) u=(vss.set j (v.set r u)).flatten
 |[],j,r,v,u,_,h,_=>by simp at h
 |a::l,0,r,v,u,hl,h,hr=>by
  simp at h
  subst h
  rw[Nat.zero_mul,Nat.zero_add,List.flatten_cons,List.set_cons_zero,List.flatten_cons,List.set_append_left _ _ (by rw[hl a (by simp)];exact hr)]
 |a::l,j+1,r,v,u,hl,h,hr=>by
  have ih:=zkN (vss:=l) (j:=j) (r:=r) (v:=v) u (fun v hv=>hl v (by simp[hv])) (by simpa using h) hr
  have ha:=hl a (by simp)
  rw[List.flatten_cons,List.set_cons_succ,List.flatten_cons,←ih,List.set_append_right _ _ (by rw[ha,Nat.succ_mul];omega),ha]
  congr 2
  rw[Nat.succ_mul];omega
section
variable {S:Nat→Prop}{T:TypeId}{w wr w':World}{v:Value}{l:List Att}{g n cap:Nat}
theorem GrowM.form{α:Type}{E:Elem α}{L:Option Nat}{l:List α}(h:GrowM E S T L w wr v l)(hl:0<l.length):∃g cap,v=.slice (some ⟨g,0,none⟩) l.length cap:=by
 obtain⟨⟨vss,h1,h2,h3⟩,h4,h5⟩:=h
 rcases h2.2 with⟨h',h0⟩|⟨g,cap,cur,h',hb,hg,hnc,hcm,hcs,htake⟩
 ·omega
 ·exact⟨g,cap,h'⟩
theorem GrowM.att_at(h:GrowM Elem.att S T none w wr (.slice (some ⟨g,0,none⟩) l.length cap) l){j:Nat}{x:Att}(hj:l[j]?=some x) :
 ∃A1 n1 c1,wr.cell? ⟨g,j * 2,none⟩=some (.string x.type)∧wr.cell? ⟨g,j * 2+1,none⟩=some (.slice A1 n1 c1)∧Row Elem.str (zcD S (.slice (some ⟨g,0,none⟩) l.length cap) none) wr A1 n1 c1 x.vals:=by
 obtain⟨⟨vss,h1,h2,h3⟩,h4,h5⟩:=h
 have hjl:=(List.getElem?_eq_some_iff.1 hj).1
 have hv:vss[j]?=some (vss[j]'(by omega)):=List.getElem?_eq_getElem (by omega)
 obtain⟨A1,n1,c1,e,hr⟩:=h3 j _ x hv hj
 have hk:∀v∈vss,v.length=2:=fun v hv'=>by
  obtain⟨i,hi,rfl⟩:=List.mem_iff_getElem.1 hv'
  exact Elem.att.len (h3 i vss[i] (l[i]'(by omega)) (List.getElem?_eq_getElem hi) (List.getElem?_eq_getElem (by omega)))
 refine⟨A1,n1,c1,?_,?_,hr⟩
 ·rw[World.ownsRow.cellAt (size:=2) h2 (j * 2) (by omega)]
  have:=zci hk hv (j:=0) (u:=.string x.type) (by rw[e];rfl)
  simpa using this
 ·rw[World.ownsRow.cellAt (size:=2) h2 (j * 2+1) (by omega)]
  exact zci hk hv (j:=1) (u:=.slice A1 n1 c1) (by rw[e];rfl)
theorem GrowM.thaw{α:Type}{E:Elem α}{l:List α}(h:GrowM E S T none w wr (.slice (some ⟨g,0,none⟩) l.length cap) l)(j:Nat):wr.frozen? ⟨g,j,none⟩=false:=by
 obtain⟨⟨vss,h1,h2,h3⟩,h4,h5⟩:=h
 exact World.ownsRow.frozenAt h2 j
theorem GrowM.putAtt(h:GrowM Elem.att S T none w wr (.slice (some ⟨g,0,none⟩) l.length cap) l){j:Nat}{x:Att}(hj:l[j]?=some x){A':Option Addr}{n' c':Nat}(hr:Row Elem.str (zcD S (.slice (some ⟨g,0,none⟩) l.length cap) none) wr A' n' c' x.vals) :
 GrowM Elem.att S T none w (wr.setCell ⟨g,j * 2+1,none⟩ (.slice A' n' c')) (.slice (some ⟨g,0,none⟩) l.length cap) l:=by
 have hlt:=h.lt (b:=g) rfl
 obtain⟨⟨vss,h1,h2,h3⟩,h4,h5⟩:=h
 have hjl:=(List.getElem?_eq_some_iff.1 hj).1
 have hv:vss[j]?=some (vss[j]'(by omega)):=List.getElem?_eq_getElem (by omega)
 obtain⟨A1,n1,c1,e,-⟩:=h3 j _ x hv hj
 have hk:∀v∈vss,v.length=2:=fun v hv'=>by
  obtain⟨i,hi,rfl⟩:=List.mem_iff_getElem.1 hv'
  exact Elem.att.len (h3 i vss[i] (l[i]'(by omega)) (List.getElem?_eq_getElem hi) (List.getElem?_eq_getElem (by omega)))
 obtain⟨k1,k2⟩:=World.ownsRow.stored h2 (j * 2+1) (.slice A' n' c')
 rw[zkN _ hk hv (by decide)] at k1
 have hkeep:∀b,zcD S (.slice (some ⟨g,0,none⟩) l.length cap) none b→(wr.setCell ⟨g,j * 2+1,none⟩ (.slice A' n' c')).heap[b]?=wr.heap[b]?:=fun b hb=>heap_setCell_other _ _ _ _ (fun e=>hb.2.1 (by rw[e];rfl))
 refine⟨⟨_,by rw[List.length_set];exact h1,k1,fun i u y hi hy=>?_⟩,h4.setCell hlt.1 _,fun g' hg=>by cases hg⟩
 by_cases hij:j=i
 ·subst hij
  rw[List.getElem?_set_self (by omega)] at hi
  rw[hj] at hy
  injection hi with hi
  injection hy with hy
  subst hi hy
  rw[e]
  exact⟨A',n',c',rfl,hr.same fun b hb=>hkeep b hb⟩
 ·rw[List.getElem?_set_ne hij] at hi
  exact Elem.att.same (h3 i u y hi hy) fun b hb=>hkeep b hb
end
theorem GrowM.base{α:Type}{E:Elem α}{S:Nat→Prop}{T:TypeId}{w0 w wr:World}{v:Value}{l:List α}(h:GrowM E S T none w wr v l)(hx:Ext w0 w):GrowM E S T none w0 wr v l:=by
 obtain⟨⟨vss,h1,h2,h3⟩,h4,h5⟩:=h
 exact⟨⟨vss,h1,zgL h2 (zaz hx),h3⟩,hx.trans h4,fun g hg=>by cases hg⟩
theorem GrowM.other{α:Type}{E:Elem α}{S:Nat→Prop}{T:TypeId}{w wr:World}{v:Value}{l:List α}(h:GrowM E S T none w wr v l){k:Nat}(hS:¬S k)(hv:v.ownBlock≠some k)(hk:w.heap.size≤k)(i:Nat)(z:Value):GrowM E S T none w (wr.setCell ⟨k,i,none⟩ z) v l:=by
 obtain⟨⟨vss,h1,h2,h3⟩,h4,h5⟩:=h
 refine⟨⟨vss,h1,?_,fun i' u x hi hl=>zbe (h3 i' u x hi hl) (fun b hb _=>heap_setCell_other _ _ _ _ (fun e=>hS (by have e2:b=k:=e;rw[←e2];exact hb.1))) (fun b hb _=>hb)⟩,h4.setCell hk _,fun g hg=>by cases hg⟩
 obtain⟨q1,q2⟩:=h2
 refine⟨q1,?_⟩
 rcases q2 with q2|⟨k',cap,cur,e1,e2,e3,e4⟩
 ·exact .inl q2
 ·refine .inr ⟨k',cap,cur,e1,e2,?_,e4⟩
  rw[heap_setCell_other _ _ _ _ (fun e=>hv (by rw[e1];exact congrArg some e))]
  exact e3
def zbU(S:Nat→Prop)(w:World)(nm:ByteArray)(l:List Att)(e:Ending)(w':World):Prop:=∃A n c,e=.returned (.agg #[.string nm,.slice A n c])∧Row Elem.att (fun b=>S b∨w.heap.size≤b) w' A n c l∧Ext w w'
theorem zfn{S:Nat→Prop}{A:Option Addr}{n c:Nat}{l:List Att}{w:World}(h:Row Elem.att S w A n c l)(nm:ByteArray)(hl:l.length≤4000000)(hv:∀a∈l,a.vals.length≤8796093022208) :
 Calls Tryz.prog 41 #[.agg #[.string nm,.slice A n c]] w (zbU S w nm l):=by
 have HL:=hid hl
 have HV:=hid hv
 have HB0:=hid (((Bx.make (Ext.refl w) #[.string nm,.slice A n c] 58).later (Ext.alloc _ (.cells #[.string ⟨#[]⟩,.slice none 0 0] 58))))
 have HB1:=hid (Bx.make (Ext.alloc w (.cells #[.string nm,.slice A n c] 58)) #[.string ⟨#[]⟩,.slice none 0 0] 58)
 rw[show(w.alloc (.cells #[.string nm,.slice A n c] 58)).heap.size=w.heap.size+1 by simp] at HB1
 have HCA:∀w',Ext w w'→Calls Tryz.prog 80 #[.slice A n c] w' fun e w''=>∃v,e=.returned v∧GrowM Elem.att (fun b=>S b∧b<w.heap.size) 55 none w' w'' v l:=fun w' hx=>zjP (h.lt.ext hx) hl
 show Calls _ _ _ _ (fun e w'=>zbU S w nm l e w')
 clear h hl hv
 go_enter Tryz.func41,Tryz.ntmps41
 go_wp2_with(go_at_call 80;(with_reducible refine(HCA _ HB0.out.ext).mono ?_);rintro e w2 ⟨v2,rfl,hg2⟩;obtain⟨ln,hln⟩:∃x,x=l.length:=⟨_,rfl⟩;obtain⟨A2,c2,hv2,hr2⟩:=hg2.row;rw[←hln] at hv2;subst hv2;have HLN:=hid hln;have HG2:=hid (hg2.mono (S':=fun x=>(S x∧x<w.heap.size)∨w.heap.size+2≤x) (fun _ h=>.inl h));have HB2:=hid (HB0.out.later hg2.ext);have HB3:=hid (HB1.out.later hg2.ext);have p1:=HB2.out.cell (i:=1) rfl;have q1:=HB2.out.frozen 1;clear hg2 hr2 hln)
 have hz1:((w.alloc (.cells #[.string nm,.slice A n c] 58)).alloc (.cells #[.string ⟨#[]⟩,.slice none 0 0] 58)).heap.size=w.heap.size+1+1:=by simp
 have HLOW:Hid (∀b,(Value.slice A2 ln c2).ownBlock=some b→w.heap.size+2≤b):=fun b hb=>by have:=(HG2.out.lt hb).1;omega
 have HGW:=hid ((HG2.out.base HB0.out.ext).other (k:=w.heap.size) (by omega) (HG2.out.low (by omega)) (Nat.le_refl _) 1 (.slice A2 ln c2))
 have HBS:=hid (HB2.out.set1 (.slice A2 ln c2))
 have HBT:=hid (HB3.out.aside (Nat.le_refl _) (by omega) 1 (.slice A2 ln c2))
 have hln:ln≤4000000:=by have h1:=HLN.out;have h2:=HL.out;omega
 clear hz1 HG2
 go_loopw [12] (fun i wr=>∃j:Nat,j≤ln∧i=.int .i64 j∧Hid (GrowM Elem.att (fun x=>(S x∧x<w.heap.size)∨w.heap.size+2≤x) 55 none w wr (.slice A2 ln c2) l)∧Hid (Bx w wr w.heap.size 58 #[.string nm,.slice A2 ln c2])∧Hid (Bx w wr (w.heap.size+1) 58 #[.string ⟨#[]⟩,.slice none 0 0])) (fun i _=>ln-(intOf i).toNat)
 case atStart=>exact⟨0,by omega,rfl,HGW.out,HBS.out,HBT.out⟩
 case round=>
  obtain⟨j,hj,rfl,HGR,HBR,HBU⟩:=hrel
  clear p1 q1
  by_cases hlt:j<ln
  ·obtain⟨g,cap,hvf⟩:=HGR.out.form (by have:=HLN.out;omega)
   obtain rfl:=HLN.out
   injection hvf with y1 y2 y3
   subst y1 y3
   obtain⟨x,hxj⟩:∃x,l[j]?=some x:=⟨_,List.getElem?_eq_getElem hlt⟩
   obtain⟨A1,n1,c1,e0,e1,hr1⟩:=HGR.out.att_at hxj
   have HXJ:=hid hxj
   have HR1:=hid hr1
   have HGL:=hid (HLOW.out g rfl)
   have HGT:=hid (HGR.out.lt (b:=g) rfl)
   have HCL:∀w',Ext wr w'→Calls Tryz.prog 81 #[.slice A1 n1 c1] w' fun e w''=>∃A' n' c',e=.returned (.slice A' n' c')∧Row Elem.str (fun b=>w'.heap.size≤b) w'' A' n' c' x.vals∧Ext w' w'':=fun w' hx=>zgf (hr1.ext hx) (HV.out x (List.mem_of_getElem? hxj))
   have HB4:=hid (Bx.make HBR.out.ext #[.string x.type,.slice A1 n1 c1] 55)
   clear hxj hr1
   go_wp2
   refine zap g (.read 0 (.read 1 (.read 2 (.read 3 (.main 4 (.main 5 (.read 6 (.read 7 (.main 8 .done))))))))) (by kernel_rfl) (by kernel_rfl) ?_
   intro wD hxD
   have XB:Hid (Below g wD wD):=Below.refl _ _
   have HSW:Hid (g≤wD.heap.size):=by show _≤_;have h1:=hxD.size;simp only[World.alloc,Array.size_push] at h1;have h2:=HGT.out.2;omega
   have HX1:=hid ((Ext.alloc wr (.cells #[.string x.type,.slice A1 n1 c1] 55)).trans hxD)
   have HB5:=hid (HB4.out.later hxD)
   have HBX:=hid (HBR.out.later HX1.out)
   have hxf:Below g wr wD:=Below.mono HX1.out (by have h2:=HGT.out.2;omega)
   have pe:∀w',Below g wD w'→w'.cell? ⟨w.heap.size,1,none⟩=some (.slice (some ⟨g,0,none⟩) l.length c2):=zr4 (HBR.out.cell (i:=1) rfl) (by have:=HGL.out;show w.heap.size<g;omega) hxf
   clear hxf e0 e1
   repeat' ((first
    |refine zaF rfl rfl ?_
    |refine zaw rfl rfl ?_
    |refine walksB_skip rfl rfl ?_
    |refine walksB_unwanted rfl rfl ?_
    |(refine zaC (v:=?_) rfl rfl (fun w' hE=>?_) ?_;rotate_left 1;(· ((try(have hEx:=Below.trans (Hid.out XB) hE));go_simp;(try go_bits);with_reducible rfl)))
    |(refine zam rfl rfl (fun K hK=>?_);(first|(refine zbs 53 (.tmp 20) rfl ⟨wr.heap.size,1,none⟩ rfl (.slice A1 n1 c1) (HB5.out.cell (i:=1) rfl) (fun _=>by kernel_rfl) ?_));refine hK _ _ (by first|assumption|exact Below.refl _ _|exact Below.mono (Ext.alloc _ _) (Hid.out HSW)|exact Below.setCell (p:=⟨_,_,_⟩) (Below.refl _ _) (Nat.le_refl _) _) ?_;clear hK K)
    |refine zaL ?_ ?_
    | (refine zam rfl rfl (fun K hK=>?_);go_wp2_with ((go_at_call 81;(with_reducible refine (HCL _ HX1.out).mono ?_);rintro e w5 ⟨A5,n5,c5,rfl,hr5,hx5⟩;have HX5:=hid (HX1.out.trans hx5);have HR5:=hid hr5;have hs5:=Below.mono hx5 (Hid.out HSW);have HG6:=hid (HGR.out.later HX5.out);obtain ⟨A6,n6,c6,-,e6,-⟩:=HG6.out.att_at HXJ.out;have f6:=HG6.out.thaw (j * 2+1);clear hr5 hx5;replace XB:=hid (Below.trans (Hid.out XB) (hs5))));refine hK _ _ (by first | assumption | exact Below.refl _ _ | exact Below.mono (Ext.alloc _ _) (Hid.out HSW) | exact Below.setCell (p:=⟨_,_,_⟩) (Below.refl _ _) (Nat.le_refl _) _) ?_;clear hK K));try simp only [Act.put,Act.eval,evs])
   all_goals
    refine zaG ?_
    go_wp2
    have hzx:=HX1.out.size
    have hgt:=HGT.out.2
    have hgl:=HGL.out
    refine⟨⟨j+1,by omega,by go_num,HG6.out.putAtt HXJ.out (HR5.out.mono fun b _ hb=>?_),(HBR.out.later HX5.out).aside (by omega) (by omega) (j * 2+1) _,(HBU.out.later HX5.out).aside (by omega) (by omega) (j * 2+1) _⟩,by simp[intOf];omega⟩
    have hb2:wD.heap.size≤b:=hb
    refine⟨.inr (by omega),fun e=>?_,by simp⟩
    have e2:some b=some g:=e
    injection e2 with e2
    omega
  ·obtain rfl:j=ln:=by omega
   have n0:=HBR.out.cell (i:=0) rfl
   have n1:=HBR.out.cell (i:=1) rfl
   have r0:=HBU.out.cell (i:=0) rfl
   have r1:=HBU.out.cell (i:=1) rfl
   have f0:=HBU.out.frozen 0
   have f1:=HBU.out.frozen 1
   go_wp2
   (try simp only[Exit.inBlock,Exit.then])
   have HBF:=(HBU.out.set0 (.string nm)).set1 (.slice A2 j c2)
   have hno:(Value.slice A2 j c2).ownBlock≠some (w.heap.size+1):=fun e=>by have:=HLOW.out _ e;omega
   have HGF:=(HGR.out.other (k:=w.heap.size+1) (by omega) hno (by omega) 0 (.string nm)).other (k:=w.heap.size+1) (by omega) hno (by omega) 1 (.slice A2 j c2)
   refine zjC _ rfl rfl HBF Tryz.underlying58 rfl (by kernel_rfl) rfl ?_
   obtain⟨A9,c9,hv9,hr9⟩:=HGF.row
   injection hv9 with y1 y2 y3
   subst y1 y3
   refine⟨A2,j,c2,rfl,?_,HBF.ext⟩
   rw[←y2] at hr9
   refine hr9.mono (T:=fun b=>S b∨w.heap.size≤b) fun b _ hb=>?_
   rcases hb with(hb|hb)|hb
   ·exact .inl hb.1
   ·exact .inr (by omega)
   ·exact .inr hb
end
section
open Go.RowKit
set_option maxRecDepth 100000
theorem zeG{S T:Nat→Prop}{A B:Option Addr}{n c m d:Nat}{l r:List ByteArray}{w:World}(h:Row Elem.str S w A n c l)(k:Row Elem.str T w B m d r) :
 Calls Tryz.prog 129 #[.slice A n c,.slice B m d] w fun e w'=>e=.returned (.bool (decide (l=r)))∧Ext w w':=by
 have hl:=hid h.len
 have kl:=hid k.len
 have hnl:n≤9223372036854775807:=by have:=h.cap;have:=h.most;simp only[maxLen] at this;omega
 have hml:m≤9223372036854775807:=by have:=k.cap;have:=k.most;simp only[maxLen] at this;omega
 by_cases hnm:n=m
 ·subst hnm
  have kl2:=kl
  clear kl
  go_enter Tryz.func129,Tryz.ntmps129
  go_wp2
  go_loopw [13] (fun i wr=>∃j:Nat,j≤n∧i=.int .i64 j∧Hid (l.take j=r.take j)∧Hid (Ext w wr)) (fun i _=>n-(intOf i).toNat)
  case atStart=>exact⟨0,by omega,rfl,by simp[Hid],Ext.refl w⟩
  case round=>
   obtain⟨j,hj,rfl,Htk,hx⟩:=hrel
   by_cases hlt:j<n
   ·obtain⟨b1,o1,rfl,c1⟩:=(h.ext hx.out).str_cell (by omega)
    obtain⟨b2,o2,rfl,c2⟩:=(k.ext hx.out).str_cell (by omega)
    have e1:=c1 j hlt
    have e2:=c2 j hlt
    clear c1 c2
    have g1:l[j]?=some (l[j]?.getD ByteArray.empty):=by have:=hl.out;rw[List.getElem?_eq_getElem (by omega)];simp
    have g2:r[j]?=some (r[j]?.getD ByteArray.empty):=by have:=kl2.out;rw[List.getElem?_eq_getElem (by omega)];simp
    have Hg:=hid (And.intro g1 g2)
    clear g1 g2
    generalize l[j]?.getD ByteArray.empty=x1 at*
    generalize r[j]?.getD ByteArray.empty=x2 at*
    by_cases he:x1=x2
    ·have He:=hid he
     have Hne:=zco he
     clear he
     go_wp2
     refine zac (.read 0 (.read 1 (.read 2 (.read 3 (.read 4 (.read 5 (.read 6 (.read 7 (.read 8 .done))))))))) (by kernel_rfl) (by kernel_rfl) ?_
     intro wD hxD
     have c1:=zaa (zaa e1 _ hxD)
     have c2:=zaa (zaa e2 _ hxD)
     repeat' ((first
      |refine zaf rfl rfl ?_
      |refine zad rfl rfl ?_
      |refine zai rfl rfl ?_
      |refine zab rfl rfl ?_
      |(refine zae (v:=?_) rfl rfl (fun w' hE=>?_) ?_;rotate_left 1;(· ((try(have hEx:=Ext.trans (Hid.out XE) hE));go_simp;(try go_bits);with_reducible rfl)))
      |refine walks_alt ?_ ?_
      | (refine zah rfl rfl (fun K hK=>?_);go_wp2_with (fail);refine hK _ _ (by first | assumption | exact Ext.alloc _ _ | exact Ext.refl _) ?_;clear hK K));try simp only [Act.put,Act.eval,evs])
     refine zag ?_
     go_wp2
     refine⟨⟨j+1,by omega,by go_num,?_,hx.out.trans hxD⟩,by simp[intOf];omega⟩
     show _=_
     rw[List.take_add_one,List.take_add_one,Htk.out,Hg.out.1,Hg.out.2,He.out]
    ·have He:=hid he
     have Hne:=zch he
     clear he
     go_wp2
     refine zac (.read 0 (.read 1 (.read 2 (.read 3 (.read 4 (.read 5 (.read 6 (.read 7 (.read 8 .done))))))))) (by kernel_rfl) (by kernel_rfl) ?_
     intro wD hxD
     have c1:=zaa (zaa e1 _ hxD)
     have c2:=zaa (zaa e2 _ hxD)
     repeat' ((first
      |refine zaf rfl rfl ?_
      |refine zad rfl rfl ?_
      |refine zai rfl rfl ?_
      |refine zab rfl rfl ?_
      |(refine zae (v:=?_) rfl rfl (fun w' hE=>?_) ?_;rotate_left 1;(· ((try(have hEx:=Ext.trans (Hid.out XE) hE));go_simp;(try go_bits);with_reducible rfl)))
      |refine walks_alt ?_ ?_
      | (refine zah rfl rfl (fun K hK=>?_);go_wp2_with (fail);refine hK _ _ (by first | assumption | exact Ext.alloc _ _ | exact Ext.refl _) ?_;clear hK K));try simp only [Act.put,Act.eval,evs])
     refine zag ?_
     go_wp2
     go_ret
     refine⟨?_,hx.out.trans hxD⟩
     rw[decide_eq_false (fun e=>by subst e;exact He.out (Option.some.inj (Hg.out.1.symm.trans Hg.out.2)))]
     rfl
   ·obtain rfl:j=n:=by omega
    go_wp2
    go_ret
    refine⟨?_,hx.out⟩
    rw[decide_eq_true (za7 hl.out kl2.out Htk.out)]
    rfl
 ·have hne:((n:Int) != (m:Int))=true:=by rw[bne_iff_ne];omega
  have hfin:Hid (decide (l=r)=false):=by
   show _=_
   rw[decide_eq_false]
   intro e
   subst e
   have:=hl.out
   have:=kl.out
   omega
  clear hnm
  go_enter Tryz.func129,Tryz.ntmps129
  go_wp2
  go_ret
  exact⟨by rw[hfin.out];rfl,Ext.refl w⟩
def zf0(x y:List (List UInt8)):Option (List (List UInt8)):=if y.length≤x.length∧x.drop (x.length-y.length)=y then some (x.take (x.length-y.length)) else none
def zjj(S:Nat→Prop)(w:World)(x y:List (List UInt8))(e:Ending)(w':World):Prop:=
 ∃A n c,e=.returned (.tuple #[.slice A n c,.bool (zf0 x y).isSome])∧Row Elem.str S w' A n c (strs ((zf0 x y).getD []))∧Ext w w'
theorem zqB{a b:List (List UInt8)}:strs a=strs b↔a=b:=⟨fun h=>by rw[←zc5 a,h,zc5],fun h=>by rw[h]⟩
theorem zq0{S T:Nat→Prop}{A B:Option Addr}{n c m d:Nat}{x y:List (List UInt8)}{w:World}(h:Row Elem.str S w A n c (strs x))(k:Row Elem.str T w B m d (strs y)) :
 Calls Tryz.prog 109 #[.slice A n c,.slice B m d] w (zjj S w x y):=by
 have hx:n=x.length:=by rw[h.len,List.length_map]
 have hy:m=y.length:=by rw[k.len,List.length_map]
 have hn:n≤9223372036854775807:=by have:=h.cap;have:=h.most;simp only[maxLen] at this;omega
 have hm:m≤9223372036854775807:=by have:=k.cap;have:=k.most;simp only[maxLen] at this;omega
 have HR:=hid h
 have HK:=hid k
 have HD:Hid (zf0 x y=if y.length≤x.length∧x.drop (x.length-y.length)=y then some (x.take (x.length-y.length)) else none):=rfl
 rw[←hx,←hy] at HD
 by_cases hlt:n<m
 ·have t1:(n:Int)-(m:Int)<0:=by omega
  have HF:Hid (zf0 x y=none):=by show _=_;rw[HD.out,if_neg (fun h=>by omega)]
  clear hx hy h k HD
  go_enter Tryz.func109,Tryz.ntmps109
  go_wp2
  go_ret2
  exact⟨none,0,0,by rw[HF.out];rfl,by rw[HF.out];exact Row.nil _ _ _,Ext.refl _⟩
 ·obtain⟨q,hq⟩:∃q,q=n-m:=⟨_,rfl⟩
  have t0:(n:Int)-(m:Int)=(q:Int):=by omega
  have t1:¬(q:Int)<0:=by omega
  have hs1:=zmy A n c q (by omega)
  have hs2:=zmu A n c q (by have:=h.cap;omega)
  have HT:=hid (h.tail (k:=q) (by omega))
  have HH:=hid (h.head (k:=q) (by omega))
  have HQ:∀w',Ext w w'→Calls Tryz.prog 129 #[.slice (cutA A q c 1) (n-q) (c-q),.slice B m d] w' fun e w''=>e=.returned (.bool (decide (x.drop q=y)))∧Ext w' w'':=fun w' hx=>by
   have:=zeG (HT.out.ext hx) (HK.out.ext hx)
   have e:decide ((strs x).drop q=strs y)=decide (x.drop q=y):=by
    have e2:(strs x).drop q=strs (x.drop q):=by rw[←List.map_drop]
    rw[e2,Bool.eq_iff_iff,decide_eq_true_eq,decide_eq_true_eq,zqB]
   rw[e] at this
   exact this
  rw[←hq] at HD
  by_cases he:x.drop q=y
  ·have HF:Hid (zf0 x y=some (x.take q)):=by show _=_;rw[HD.out,if_pos ⟨by omega,he⟩]
   rw[decide_eq_true he] at HQ
   have hql:q≤c:=by have:=h.cap;omega
   clear hx hy h k HD he hq
   go_enter Tryz.func109,Tryz.ntmps109
   go_wp2_with(go_at_call 129;(with_reducible refine(HQ _ (Ext.refl _)).mono ?_);rintro e w1 ⟨rfl,hx1⟩;have HX1:=hid hx1;clear hx1)
   go_ret2
   refine⟨_,_,_,by rw[HF.out];rfl,?_,HX1.out⟩
   rw[HF.out]
   have:=HH.out.ext HX1.out
   rw[←List.map_take] at this
   exact this
  ·have HF:Hid (zf0 x y=none):=by show _=_;rw[HD.out,if_neg (fun h=>he h.2)]
   rw[decide_eq_false he] at HQ
   clear hx hy h k HD he hq
   go_enter Tryz.func109,Tryz.ntmps109
   go_wp2_with(go_at_call 129;(with_reducible refine(HQ _ (Ext.refl _)).mono ?_);rintro e w1 ⟨rfl,hx1⟩;have HX1:=hid hx1;clear hx1)
   go_ret2
   exact⟨none,0,0,by rw[HF.out];rfl,by rw[HF.out];exact Row.nil _ _ _,HX1.out⟩
def zbG(a b:List UInt8):Bool:=decide (zaJ (zak a)=0)&&decide (zaJ (zak b)=0)&&(zf0 (okL (zak a)) (okL (zak b))).isSome
theorem zpA(a b:ByteArray)(w:World)(hG:Gl w):Calls Tryz.prog 62 #[.string a,.string b] w fun e w'=>e=.returned (.bool (zbG (bys a) (bys b)))∧Ext w w':=by
 have HG:=hid hG
 have HPA:∀w,Gl w→Calls Tryz.prog 63 #[.string a] w (zbL w (bys a)):=fun w hG=>zeh a w hG
 have HPB:∀w,Gl w→Calls Tryz.prog 63 #[.string b] w (zbL w (bys b)):=fun w hG=>zeh b w hG
 unfold zbL at HPA HPB
 have HRS:∀(S T:Nat→Prop) A B n c m d w,Row Elem.str S w A n c (strs (okL (zak (bys a))))→Row Elem.str T w B m d (strs (okL (zak (bys b)))) →
  Calls Tryz.prog 109 #[.slice A n c,.slice B m d] w (zjj S w (okL (zak (bys a))) (okL (zak (bys b)))):=fun S T A B n c m d w h k=>zq0 h k
 unfold zjj at HRS
 have HUD:Hid (zbG (bys a) (bys b)=(decide (zaJ (zak (bys a))=0)&&decide (zaJ (zak (bys b))=0)&&(zf0 (okL (zak (bys a))) (okL (zak (bys b)))).isSome)):=rfl
 clear hG
 generalize zak (bys a)=pa at*
 generalize zak (bys b)=pb at*
 generalize zbG (bys a) (bys b)=u at*
 have HRD:=hid (Eq.refl ((zf0 (okL pa) (okL pb)).isSome))
 have c1:(zaJ pa==0)=true∨(zaJ pa==0)=false:=by cases zaJ pa==0<;>simp
 have c2:(zaJ pb==0)=true∨(zaJ pb==0)=false:=by cases zaJ pb==0<;>simp
 have c3:Hid ((zf0 (okL pa) (okL pb)).isSome=true)∨Hid ((zf0 (okL pa) (okL pb)).isSome=false):=by cases(zf0 (okL pa) (okL pb)).isSome<;>simp[Hid]
 have e1:decide (zaJ pa=0)=(zaJ pa==0):=rfl
 have e2:decide (zaJ pb=0)=(zaJ pb==0):=rfl
 rw[e1,e2] at HUD
 clear e1 e2
 generalize zaJ pa=ca at*
 generalize zaJ pb=cb at*
 generalize okL pa=la at*
 generalize okL pb=lb at*
 rcases c1 with c1|c1<;>rcases c2 with c2|c2<;>rcases c3 with c3|c3
 all_goals
  rw[c1,c2,c3.out] at HUD
  go_enter Tryz.func62,Tryz.ntmps62
  go_wp2_with (
   first
   | (go_at_call 63;first
       |((with_reducible refine(HPA _ HG.out).mono ?_);rintro e w1 ⟨A1,n1,k1,rfl,hr1,hx1⟩;have HR1:=hid hr1;have HX1:=hid hx1;clear hr1 hx1)
       | ((with_reducible refine (HPB _ (HG.out.ext HX1.out)).mono ?_);rintro e w2 ⟨A2,n2,k2,rfl,hr2,hx2⟩;have HR2:=hid hr2;have HX2:=hid hx2;clear hr2 hx2))
   | (go_at_call 109;(with_reducible refine (HRS _ _ _ _ _ _ _ _ _ (HR1.out.ext HX2.out) HR2.out).mono ?_);rintro e w3 ⟨A3,n3,k3,rfl,hr3,hx3⟩;have HX3:=hid hx3;rw [c3.out];clear hr3 hx3))
  all_goals go_ret
  all_goals exact⟨by rw[HUD.out];rfl,(HX1.out.trans HX2.out).trans HX3.out⟩
end
section
structure CutR where
 name:ByteArray
 server:Int
def zbT(s:List UInt8):Int:=((okL (zak s)).length:Int)
def zcI(nm:List UInt8)(i:Nat)(st:Int×Int)(c:CutR):Int×Int:=if decide (st.2<zbT (bys c.name))&&zbG nm (bys c.name) then((i:Int),zbT (bys c.name)) else st
def zbH(nm:List UInt8):Nat→Int×Int→List CutR→Int×Int
 |_,st,[]=>st
 |i,st,c::t=>zbH nm (i+1) (zcI nm i st c) t
def zdB(l:List CutR)(nm:List UInt8):Int:=(zbH nm 0 (-1,-1) l).1
theorem zfk(nm:List UInt8):∀(l k:List CutR) (i:Nat) (st:Int×Int),zbH nm i st (l++k)=zbH nm (i+l.length) (zbH nm i st l) k
 |[],k,i,st=>by simp[zbH]
 |c::t,k,i,st=>by
  simp only[List.cons_append,zbH,List.length_cons]
  rw[zfk nm t k]
  congr 1
  omega
theorem zhE{nm:List UInt8}{l:List CutR}{j:Nat}{c:CutR}(h:l[j]?=some c):zbH nm 0 (-1,-1) (l.take (j+1))=zcI nm j (zbH nm 0 (-1,-1) (l.take j)) c:=by
 have hj:=(List.getElem?_eq_some_iff.1 h).1
 rw[List.take_add_one,h,zfk]
 simp only[Option.toList_some,zbH,List.length_take]
 congr 1
 omega
theorem zgd(nm:List UInt8):∀(l:List CutR) (i:Nat) (st:Int×Int),-1≤st.1→st.1<i→-1≤(zbH nm i st l).1∧(zbH nm i st l).1<i+l.length
 |[],i,st,h1,h2=>by simp only[zbH,List.length_nil];omega
 |c::t,i,st,h1,h2=>by
  have h3:-1≤(zcI nm i st c).1∧(zcI nm i st c).1<(i+1:Nat):=by
   unfold zcI
   split<;>(try simp only)<;>omega
  have:=zgd nm t (i+1) (zcI nm i st c) h3.1 h3.2
  simp only[zbH,List.length_cons]
  omega
theorem zll(l:List CutR)(nm:List UInt8):-1≤zdB l nm∧zdB l nm<l.length:=by
 have:=zgd nm l 0 (-1,-1) (by decide) (by decide)
 unfold zdB
 omega
section
variable {held:Int→Bool}{near:Int→Int × Bool}{n:Int}
end
end
section
open Go.RowKit
set_option maxRecDepth 100000
def CutR.cells(c:CutR):List Value:=[.string c.name,.int .i64 c.server]
def Elem.cut:Elem CutR:=⟨2,by decide,fun _ _ v x=>v=x.cells,fun h=>by rw[h];rfl,fun h _=>h,fun h _=>h⟩
structure Cxt where
 name:ByteArray
 ents:List Ent
 subs:List CutR
def Elem.cxt:Elem Cxt:=
 ⟨3,by decide,fun S w v a=>∃ A n c B m d,v=[.string a.name,.slice A n c,.slice B m d]∧Row Elem.ent S w A n c a.ents∧Row Elem.cut S w B m d a.subs,fun ⟨_,_,_,_,_,_,h,_⟩=>by rw [h];rfl,
  fun ⟨A,n,c,B,m,d,h,hr,hs⟩ hk=>⟨A,n,c,B,m,d,h,hr.same hk,hs.same hk⟩,fun ⟨A,n,c,B,m,d,h,hr,hs⟩ k=>⟨A,n,c,B,m,d,h,hr.mono k,hs.mono k⟩⟩
abbrev Elem.srw:Elem (List Cxt):=Elem.slc Elem.cxt
theorem zhI:(Tryz.prog.info? 60).map (fun i=>(i.zero,i.size,i.bytes))=some (some (.agg #[.string ByteArray.empty,.int .i64 0]),Elem.cut.k,24):=by kernel_rfl
def zkp:Att:=⟨⟨#[111,98,106,101,99,116,67,108,97,115,115]⟩,[⟨#[111]⟩]⟩
def zkd:Att:=⟨⟨#[100,99]⟩,[⟨#[120]⟩]⟩
end
section
open Go.RowKit
open Go.Maps Go.MapKept
set_option maxRecDepth 100000
theorem Row.lit2{α:Type}{E:Elem α}{w:World}{vss:List (List Value)}{l:List α}(h:∀(i:Nat) v x,vss[i]?=some v→l[i]?=some x→E.R (fun _=>True) w v x)(hl:vss.length=l.length)(hm:l.length≤maxLen)(t:TypeId) :
 Row E (fun _=>True) (w.alloc (.cells vss.flatten.toArray t)) (some ⟨w.heap.size,0,none⟩) l.length l.length l:=by
 have hx:Ext w (w.alloc (.cells vss.flatten.toArray t)):=Ext.alloc _ _
 refine⟨rfl,Nat.le_refl _,hm,vss,hl,.inr ⟨w.heap.size,0,rfl,trivial,fun j u hj=>?_⟩,fun i v x hi hxx=>?_⟩
 ·rw[Nat.zero_add,cell_of_row _ _ j vss.flatten.toArray t (0,0) (heap_alloc_new w _)]
  simpa using hj
 ·exact(E.same (E.mono (h i v x hi hxx) (T:=fun b=>True∧b<w.heap.size) (fun b hb _=>⟨trivial,hb⟩)) fun b hb=>hx.block b hb.2) |> fun q=>E.mono q fun _ _ _=>trivial
theorem zhc:zaT [100,99,61,120]=([],true):=by decide +kernel
end
section
open Go.RowKit
set_option maxRecDepth 100000
theorem zpw(s:ByteArray)(w:World)(hG:Gl w):Calls Tryz.prog 61 #[.string s] w fun e w'=>e=.returned (.int .i64 (zbT (bys s)))∧Ext w w':=by
 have HP:=zeh s w hG
 unfold zbL at HP
 have HD:Hid (zbT (bys s)=((okL (zak (bys s))).length:Int)):=rfl
 have HLS:∀(S:Nat→Prop) w A n c,Row Elem.str S w A n c (strs (okL (zak (bys s))))→n=(okL (zak (bys s))).length:=fun S w A n c h=>by rw[h.len,List.length_map]
 generalize okL (zak (bys s))=l at*
 generalize zaJ (zak (bys s))=cd at*
 go_enter Tryz.func61,Tryz.ntmps61
 go_wp2_with(go_at_call 63;(with_reducible refine HP.mono ?_);rintro e w1 ⟨A1,n1,c1,rfl,hr1,hx1⟩;have HN:=hid (HLS _ _ _ _ _ hr1);have HX1:=hid hx1;clear hx1 hr1)
 go_ret
 exact⟨by rw[HD.out,HN.out];(try rfl),HX1.out⟩
theorem zhu{S:Nat→Prop}{A:Option Addr}{n c:Nat}{l:List CutR}{w:World}(h:Row Elem.cut S w A n c l)(name:ByteArray)(hG:Gl w) :
 Calls Tryz.prog 28 #[.slice A n c,.string name] w fun e w'=>e=.returned (.int .i64 (zdB l (bys name)))∧Ext w w':=by
 have HG:=hid hG
 have HR:=hid h
 have HLN:=hid h.len
 have hn:n≤9223372036854775807:=by have:=h.cap;have:=h.most;simp only[maxLen] at this;omega
 have HD:∀(s:ByteArray) w,Gl w→Calls Tryz.prog 61 #[.string s] w fun e w'=>e=.returned (.int .i64 (zbT (bys s)))∧Ext w w':=fun s w hG=>zpw s w hG
 have HU:∀(s:ByteArray) w,Gl w→Calls Tryz.prog 62 #[.string name,.string s] w fun e w'=>e=.returned (.bool (zbG (bys name) (bys s)))∧Ext w w':=fun s w hG=>zpA name s w hG
 clear h hG
 go_enter Tryz.func28,Tryz.ntmps28
 go_wp2
 go_loopw [5,6,12] (fun b d i wr=>∃(j:Nat),j≤n∧i=.int .i64 j∧b=.int .i64 (zbH (bys name) 0 (-1,-1) (l.take j)).1∧d=.int .i64 (zbH (bys name) 0 (-1,-1) (l.take j)).2∧Hid (Ext w wr)) (fun _ _ i _=>n-(intOf i).toNat)
 case atStart=>exact⟨0,by omega,rfl,rfl,rfl,Ext.refl _⟩
 case round=>
  obtain⟨j,hj,rfl,rfl,rfl,hx⟩:=hrel
  by_cases hlt:j<n
  ·obtain⟨b1,o1,v1,x1,rfl,g1,-,r1,q1⟩:=(HR.out.ext hx.out).at_ hlt
   have HTK:=hid (zhE (nm:=bys name) g1)
   have HDX:=HD x1.name
   have HUX:=HU x1.name
   have HSD:Hid (zcI (bys name) j (zbH (bys name) 0 (-1,-1) (l.take j)) x1=if decide ((zbH (bys name) 0 (-1,-1) (l.take j)).2<zbT (bys x1.name))&&zbG (bys name) (bys x1.name) then((j:Int),zbT (bys x1.name)) else zbH (bys name) 0 (-1,-1) (l.take j)):=rfl
   clear HD HU g1
   generalize zbT (bys x1.name)=dx at*
   generalize zbG (bys name) (bys x1.name)=ux at*
   obtain⟨nm1,sv1⟩:=x1
   cases r1
   have e10:=q1 0 _ rfl
   have e11:=q1 1 _ rfl
   simp only[Elem.cut,Nat.add_zero] at e10 e11
   simp only at HDX HUX
   clear q1
   have HB0:=hid (Bx.make hx.out #[.string nm1,.int .i64 sv1] 60)
   generalize zbH (bys name) 0 (-1,-1) (l.take j)=st at*
   obtain⟨st2,hst2⟩:∃x,x=zbH (bys name) 0 (-1,-1) (l.take (j+1)):=⟨_,rfl⟩
   rw[←hst2] at HTK
   have HS2:=hid hst2
   clear hst2
   obtain⟨s1,s2⟩:=st
   obtain⟨z1,z2⟩:=st2
   simp only at HSD
   by_cases hd:s2<dx
   ·rw[decide_eq_true hd,Bool.true_and] at HSD
    cases ux
    focus
     rw[if_neg (by decide)] at HSD
     have HE:=hid (HTK.out.trans HSD.out)
     go_wp2_with (first
      |(go_at_call 61;(with_reducible refine(HDX _ (HG.out.ext HB0.out.ext)).mono ?_);rintro e w1 ⟨rfl,hx1⟩;have HB1:=hid (HB0.out.later hx1);have a0:=HB1.out.cell (i:=0) rfl;clear hx1)
      | (go_at_call 62;(with_reducible refine (HUX _ (HG.out.ext HB1.out.ext)).mono ?_);rintro e w2 ⟨rfl,hx2⟩;have HX2:=hid (HB1.out.ext.trans hx2);clear hx2))
     obtain⟨rfl,rfl⟩:z1=s1∧z2=s2:=by have:=HE.out;injection this with a b;exact⟨a,b⟩
    rotate_left
    focus
     rw[if_pos rfl] at HSD
     have HE:=hid (HTK.out.trans HSD.out)
     go_wp2_with (first
      |(go_at_call 61;(with_reducible refine(HDX _ (HG.out.ext HB0.out.ext)).mono ?_);rintro e w1 ⟨rfl,hx1⟩;have HB1:=hid (HB0.out.later hx1);have a0:=HB1.out.cell (i:=0) rfl;clear hx1)
      | (go_at_call 62;(with_reducible refine (HUX _ (HG.out.ext HB1.out.ext)).mono ?_);rintro e w2 ⟨rfl,hx2⟩;have HX2:=hid (HB1.out.ext.trans hx2);clear hx2))
     obtain⟨rfl,rfl⟩:z1=(j:Int)∧z2=dx:=by have:=HE.out;injection this with a b;exact⟨a,b⟩
    rotate_left
    all_goals
     exact⟨⟨j+1,by omega,by go_num,by rw[←HS2.out],by rw[←HS2.out],HX2.out⟩,by simp[intOf];omega⟩
   ·rw[decide_eq_false hd,Bool.false_and,if_neg (by decide)] at HSD
    have HE:=hid (HTK.out.trans HSD.out)
    go_wp2_with (first
     | (go_at_call 61;(with_reducible refine (HDX _ (HG.out.ext HB0.out.ext)).mono ?_);rintro e w1 ⟨rfl,hx1⟩;have HB1:=hid (HB0.out.later hx1);have a0:=HB1.out.cell (i:=0) rfl;clear hx1))
    obtain⟨rfl,rfl⟩:z1=s1∧z2=s2:=by have:=HE.out;injection this with a b;exact⟨a,b⟩
    exact⟨⟨j+1,by omega,by go_num,by rw[←HS2.out],by rw[←HS2.out],HB1.out.ext⟩,by simp[intOf];omega⟩
  ·obtain rfl:j=n:=by omega
   have HF:Hid (zdB l (bys name)=(zbH (bys name) 0 (-1,-1) (l.take j)).1):=by show _=_;rw[List.take_of_length_le (Nat.le_of_eq HLN.out.symm)];rfl
   go_wp2
   go_ret
   exact⟨by rw[HF.out];(try rfl),hx.out⟩
theorem zfy{S T:Nat→Prop}{A B:Option Addr}{n c m d:Nat}{l r:List ByteArray}{w:World}(h:Row Elem.str S w A n c l)(k:Row Elem.str T w B m d r) :
 Calls Tryz.prog 131 #[.slice A n c,.slice B m d] w fun e w'=>e=.returned (.bool (decide (l=r)))∧Ext w w':=by
 have hl:=hid h.len
 have kl:=hid k.len
 have hnl:n≤9223372036854775807:=by have:=h.cap;have:=h.most;simp only[maxLen] at this;omega
 have hml:m≤9223372036854775807:=by have:=k.cap;have:=k.most;simp only[maxLen] at this;omega
 by_cases hnm:n=m
 ·subst hnm
  have kl2:=kl
  clear kl
  go_enter Tryz.func131,Tryz.ntmps131
  go_wp2
  go_loopw [13] (fun i wr=>∃j:Nat,j≤n∧i=.int .i64 j∧Hid (l.take j=r.take j)∧Hid (Ext w wr)) (fun i _=>n-(intOf i).toNat)
  case atStart=>exact⟨0,by omega,rfl,by simp[Hid],Ext.refl w⟩
  case round=>
   obtain⟨j,hj,rfl,Htk,hx⟩:=hrel
   by_cases hlt:j<n
   ·obtain⟨b1,o1,rfl,c1⟩:=(h.ext hx.out).str_cell (by omega)
    obtain⟨b2,o2,rfl,c2⟩:=(k.ext hx.out).str_cell (by omega)
    have e1:=c1 j hlt
    have e2:=c2 j hlt
    clear c1 c2
    have g1:l[j]?=some (l[j]?.getD ByteArray.empty):=by have:=hl.out;rw[List.getElem?_eq_getElem (by omega)];simp
    have g2:r[j]?=some (r[j]?.getD ByteArray.empty):=by have:=kl2.out;rw[List.getElem?_eq_getElem (by omega)];simp
    have Hg:=hid (And.intro g1 g2)
    clear g1 g2
    generalize l[j]?.getD ByteArray.empty=x1 at*
    generalize r[j]?.getD ByteArray.empty=x2 at*
    by_cases he:x1=x2
    ·have He:=hid he
     have Hne:=zco he
     clear he
     go_wp2
     refine zac (.read 0 (.read 1 (.read 2 (.read 3 (.read 4 (.read 5 (.read 6 (.read 7 (.read 8 .done))))))))) (by kernel_rfl) (by kernel_rfl) ?_
     intro wD hxD
     have c1:=zaa (zaa e1 _ hxD)
     have c2:=zaa (zaa e2 _ hxD)
     repeat' ((first
      |refine zaf rfl rfl ?_
      |refine zad rfl rfl ?_
      |refine zai rfl rfl ?_
      |refine zab rfl rfl ?_
      |(refine zae (v:=?_) rfl rfl (fun w' hE=>?_) ?_;rotate_left 1;(· ((try(have hEx:=Ext.trans (Hid.out XE) hE));go_simp;(try go_bits);with_reducible rfl)))
      |refine walks_alt ?_ ?_
      | (refine zah rfl rfl (fun K hK=>?_);go_wp2_with (fail);refine hK _ _ (by first | assumption | exact Ext.alloc _ _ | exact Ext.refl _) ?_;clear hK K));try simp only [Act.put,Act.eval,evs])
     refine zag ?_
     go_wp2
     refine⟨⟨j+1,by omega,by go_num,?_,hx.out.trans hxD⟩,by simp[intOf];omega⟩
     show _=_
     rw[List.take_add_one,List.take_add_one,Htk.out,Hg.out.1,Hg.out.2,He.out]
    ·have He:=hid he
     have Hne:=zch he
     clear he
     go_wp2
     refine zac (.read 0 (.read 1 (.read 2 (.read 3 (.read 4 (.read 5 (.read 6 (.read 7 (.read 8 .done))))))))) (by kernel_rfl) (by kernel_rfl) ?_
     intro wD hxD
     have c1:=zaa (zaa e1 _ hxD)
     have c2:=zaa (zaa e2 _ hxD)
     repeat' ((first
      |refine zaf rfl rfl ?_
      |refine zad rfl rfl ?_
      |refine zai rfl rfl ?_
      |refine zab rfl rfl ?_
      |(refine zae (v:=?_) rfl rfl (fun w' hE=>?_) ?_;rotate_left 1;(· ((try(have hEx:=Ext.trans (Hid.out XE) hE));go_simp;(try go_bits);with_reducible rfl)))
      |refine walks_alt ?_ ?_
      | (refine zah rfl rfl (fun K hK=>?_);go_wp2_with (fail);refine hK _ _ (by first | assumption | exact Ext.alloc _ _ | exact Ext.refl _) ?_;clear hK K));try simp only [Act.put,Act.eval,evs])
     refine zag ?_
     go_wp2
     go_ret
     refine⟨?_,hx.out.trans hxD⟩
     rw[decide_eq_false (fun e=>by subst e;exact He.out (Option.some.inj (Hg.out.1.symm.trans Hg.out.2)))]
     rfl
   ·obtain rfl:j=n:=by omega
    go_wp2
    go_ret
    refine⟨?_,hx.out⟩
    rw[decide_eq_true (za7 hl.out kl2.out Htk.out)]
    rfl
 ·have hne:((n:Int) != (m:Int))=true:=by rw[bne_iff_ne];omega
  have hfin:Hid (decide (l=r)=false):=by
   show _=_
   rw[decide_eq_false]
   intro e
   subst e
   have:=hl.out
   have:=kl.out
   omega
  clear hnm
  go_enter Tryz.func131,Tryz.ntmps131
  go_wp2
  go_ret
  exact⟨by rw[hfin.out];rfl,Ext.refl w⟩
theorem att_eq{a b:Att}:a=b↔a.type=b.type∧a.vals=b.vals:=by
 obtain⟨t,v⟩:=a
 obtain⟨u,x⟩:=b
 simp
instance:DecidableEq Att:=fun _ _=>decidable_of_iff _ att_eq.symm
theorem zar{a b:Bool}(h:a=b):Ending.returned (.bool b)=.returned (.bool a):=by rw[h]
theorem zpm(a b:Att):decide (a=b)=(decide (a.type=b.type)&&decide (a.vals=b.vals)):=by
 rw[Bool.eq_iff_iff];simp[att_eq]
theorem ziP{S T:Nat→Prop}{A B:Option Addr}{n c m d:Nat}{l r:List Att}{w:World}(h:Row Elem.att S w A n c l)(k:Row Elem.att T w B m d r) :
 Calls Tryz.prog 91 #[.slice A n c,.slice B m d] w fun e w'=>e=.returned (.bool (decide (l=r)))∧Ext w w':=by
 have hl:=hid h.len
 have kl:=hid k.len
 have hnl:n≤9223372036854775807:=by have:=h.cap;have:=h.most;simp only[maxLen] at this;omega
 have hml:m≤9223372036854775807:=by have:=k.cap;have:=k.most;simp only[maxLen] at this;omega
 by_cases hnm:n=m
 ·subst hnm
  have kl2:=kl
  clear kl
  go_enter Tryz.func91,Tryz.ntmps91
  go_wp2
  go_loopw [13] (fun i wr=>∃j:Nat,j≤n∧i=.int .i64 j∧Hid (l.take j=r.take j)∧Hid (Ext w wr)) (fun i _=>n-(intOf i).toNat)
  case atStart=>exact⟨0,by omega,rfl,by simp[Hid],Ext.refl w⟩
  case round=>
   obtain⟨j,hj,rfl,Htk,hx⟩:=hrel
   by_cases hlt:j<n
   ·obtain⟨b1,o1,v1,x1,rfl,g1,_,⟨A1,n1,c1,rfl,r1⟩,q1⟩:=(h.ext hx.out).at_ hlt
    obtain⟨b2,o2,v2,x2,rfl,g2,_,⟨A2,n2,c2,rfl,r2⟩,q2⟩:=(k.ext hx.out).at_ hlt
    have e10:=q1 0 _ rfl;have e11:=q1 1 _ rfl;have e20:=q2 0 _ rfl;have e21:=q2 1 _ rfl
    clear q1 q2
    simp only[Elem.att,Nat.add_zero] at e10 e11 e20 e21
    have Hg:=hid (And.intro g1 g2)
    clear g1 g2
    have hd:=hid (zpm x1 x2)
    by_cases ht:x1.type=x2.type
    ·have f1:=zco ht
     by_cases hv:x1.vals=x2.vals
     ·have Hd:=hid (decide_eq_true hv)
      have Hx:Hid (x1=x2):=att_eq.2 ⟨ht,hv⟩
      clear ht hv
      go_wp2
      refine zac (.read 0 (.read 1 (.read 2 (.read 3 (.read 4 (.read 5 (.read 6 (.read 7 (.read 8 (.read 9 (.read 10 (.read 11 (.read 12 (.read 13 (.read 14 (.read 15 (.read 16 (.read 17 (.read 18 (.read 19 (.read 20 (.read 21 (.main 22 (.read 23 (.read 24 .done))))))))))))))))))))))))) (by kernel_rfl) (by kernel_rfl) ?_
      intro wD hxD
      have c10:=zaa (zaa e10 _ hxD);have c11:=zaa (zaa e11 _ hxD);have c20:=zaa (zaa e20 _ hxD);have c21:=zaa (zaa e21 _ hxD)
      repeat' ((first
       |refine zaf rfl rfl ?_
       |refine zad rfl rfl ?_
       |refine zai rfl rfl ?_
       |refine zab rfl rfl ?_
       |(refine zae (v:=?_) rfl rfl (fun w' hE=>?_) ?_;rotate_left 1;(· ((try(have hEx:=Ext.trans (Hid.out XE) hE));go_simp;(try go_bits);with_reducible rfl)))
       |refine walks_alt ?_ ?_
       | (refine zah rfl rfl (fun K hK=>?_);go_wp2_with ((go_at_call 131;(with_reducible refine (zfy (r1.ext hxD) (r2.ext hxD)).mono ?_);rintro e w1 ⟨he,hx1⟩;rw [Hd.out] at he;subst he));refine hK _ _ (by first | assumption | exact Ext.alloc _ _ | exact Ext.refl _) ?_;clear hK K));try simp only [Act.put,Act.eval,evs])
      refine zag ?_
      go_wp2
      refine⟨⟨j+1,by omega,by go_num,?_,hx.out.trans (hxD.trans hx1)⟩,by simp[intOf];omega⟩
      show _=_
      rw[List.take_add_one,List.take_add_one,Htk.out,Hg.out.1,Hg.out.2,Hx.out]
     ·have Hd:=hid (decide_eq_false hv)
      have Hx:Hid (¬x1=x2):=fun e=>hv (att_eq.1 e).2
      clear ht hv
      go_wp2
      refine zac (.read 0 (.read 1 (.read 2 (.read 3 (.read 4 (.read 5 (.read 6 (.read 7 (.read 8 (.read 9 (.read 10 (.read 11 (.read 12 (.read 13 (.read 14 (.read 15 (.read 16 (.read 17 (.read 18 (.read 19 (.read 20 (.read 21 (.main 22 (.read 23 (.read 24 .done))))))))))))))))))))))))) (by kernel_rfl) (by kernel_rfl) ?_
      intro wD hxD
      have c10:=zaa (zaa e10 _ hxD);have c11:=zaa (zaa e11 _ hxD);have c20:=zaa (zaa e20 _ hxD);have c21:=zaa (zaa e21 _ hxD)
      repeat' ((first
       |refine zaf rfl rfl ?_
       |refine zad rfl rfl ?_
       |refine zai rfl rfl ?_
       |refine zab rfl rfl ?_
       |(refine zae (v:=?_) rfl rfl (fun w' hE=>?_) ?_;rotate_left 1;(· ((try(have hEx:=Ext.trans (Hid.out XE) hE));go_simp;(try go_bits);with_reducible rfl)))
       |refine walks_alt ?_ ?_
       | (refine zah rfl rfl (fun K hK=>?_);go_wp2_with ((go_at_call 131;(with_reducible refine (zfy (r1.ext hxD) (r2.ext hxD)).mono ?_);rintro e w1 ⟨he,hx1⟩;rw [Hd.out] at he;subst he));refine hK _ _ (by first | assumption | exact Ext.alloc _ _ | exact Ext.refl _) ?_;clear hK K));try simp only [Act.put,Act.eval,evs])
      refine zag ?_
      go_wp2
      go_ret
      exact⟨zar (decide_eq_false (fun e=>by subst e;exact Hx.out (Option.some.inj (Hg.out.1.symm.trans Hg.out.2)))),hx.out.trans (hxD.trans hx1)⟩
    ·have f1:=zch ht
     have Hx:Hid (¬x1=x2):=fun e=>ht (att_eq.1 e).1
     clear ht
     go_wp2
     refine zac (.read 0 (.read 1 (.read 2 (.read 3 (.read 4 (.read 5 (.read 6 (.read 7 (.read 8 (.read 9 (.read 10 (.read 11 (.read 12 (.read 13 (.read 14 (.read 15 (.read 16 (.read 17 (.read 18 (.read 19 (.read 20 (.read 21 (.main 22 (.read 23 (.read 24 .done))))))))))))))))))))))))) (by kernel_rfl) (by kernel_rfl) ?_
     intro wD hxD
     have c10:=zaa (zaa e10 _ hxD);have c11:=zaa (zaa e11 _ hxD);have c20:=zaa (zaa e20 _ hxD);have c21:=zaa (zaa e21 _ hxD)
     repeat' ((first
      |refine zaf rfl rfl ?_
      |refine zad rfl rfl ?_
      |refine zai rfl rfl ?_
      |refine zab rfl rfl ?_
      |(refine zae (v:=?_) rfl rfl (fun w' hE=>?_) ?_;rotate_left 1;(· ((try(have hEx:=Ext.trans (Hid.out XE) hE));go_simp;(try go_bits);with_reducible rfl)))
      |refine walks_alt ?_ ?_
      | (refine zah rfl rfl (fun K hK=>?_);go_wp2_with (fail);refine hK _ _ (by first | assumption | exact Ext.alloc _ _ | exact Ext.refl _) ?_;clear hK K));try simp only [Act.put,Act.eval,evs])
     refine zag ?_
     go_wp2
     go_ret
     exact⟨zar (decide_eq_false (fun e=>by subst e;exact Hx.out (Option.some.inj (Hg.out.1.symm.trans Hg.out.2)))),hx.out.trans hxD⟩
   ·obtain rfl:j=n:=by omega
    go_wp2
    go_ret
    exact⟨zar (decide_eq_true (za7 hl.out kl2.out Htk.out)),hx.out⟩
 ·have hne:((n:Int) != (m:Int))=true:=by rw[bne_iff_ne];omega
  have hfin:Hid (decide (l=r)=false):=by
   refine decide_eq_false fun e=>?_
   subst e
   have:=hl.out
   have:=kl.out
   omega
  clear hnm
  go_enter Tryz.func91,Tryz.ntmps91
  go_wp2
  go_ret
  exact⟨zar hfin.out,Ext.refl w⟩
theorem ent_eq{a b:Ent}:a=b↔a.name=b.name∧a.atts=b.atts:=by
 obtain⟨t,v⟩:=a
 obtain⟨u,x⟩:=b
 simp
instance:DecidableEq Ent:=fun _ _=>decidable_of_iff _ ent_eq.symm
theorem zpn(a b:Ent):decide (a=b)=(decide (a.name=b.name)&&decide (a.atts=b.atts)):=by
 rw[Bool.eq_iff_iff];simp[ent_eq]
theorem zoD{S T:Nat→Prop}{a b:Ent}{A B:Option Addr}{n c m d:Nat}{w:World}(h:Row Elem.att S w A n c a.atts)(k:Row Elem.att T w B m d b.atts) :
 Calls Tryz.prog 44 #[.agg #[.string a.name,.slice A n c],.agg #[.string b.name,.slice B m d]] w fun e w'=>e=.returned (.bool (decide (a=b)))∧Ext w w':=by
 have hd:=hid (zpn a b)
 by_cases he:a.name=b.name
 ·have hf:=hid (show decide (a=b)=decide (a.atts=b.atts) by rw[hd.out,decide_eq_true he,Bool.true_and])
  have hs:=zco he
  clear he
  go_enter Tryz.func44,Tryz.ntmps44
  go_wp2_with(go_at_call 91;(with_reducible refine(ziP (h.ext ((Ext.alloc _ _).trans (Ext.alloc _ _))) (k.ext ((Ext.alloc _ _).trans (Ext.alloc _ _)))).mono ?_);rintro e w1 ⟨rfl,hx1⟩)
  go_ret
  exact⟨zar hf.out,((Ext.alloc _ _).trans (Ext.alloc _ _)).trans hx1⟩
 ·have hf:=hid (show decide (a=b)=false by rw[hd.out,decide_eq_false he,Bool.false_and])
  have hs:=zch he
  clear he
  go_enter Tryz.func44,Tryz.ntmps44
  go_wp2
  go_ret
  exact⟨zar hf.out,(Ext.alloc _ _).trans (Ext.alloc _ _)⟩
theorem zlX{S T:Nat→Prop}{A B:Option Addr}{n c m d:Nat}{l r:List Att}{w:World}(h:Row Elem.att S w A n c l)(k:Row Elem.att T w B m d r)
 (HEQ:∀(x y:Att) A1 n1 c1 A2 n2 c2 w',Ext w w'→Row Elem.str S w' A1 n1 c1 x.vals→Row Elem.str T w' A2 n2 c2 y.vals→Calls Tryz.prog 128 #[.agg #[.string x.type,.slice A1 n1 c1],.agg #[.string y.type,.slice A2 n2 c2]] w' fun e w''=>e=.returned (.bool (decide (x=y)))∧Ext w' w'') :
 Calls Tryz.prog 127 #[.slice A n c,.slice B m d,.func (.func 128) #[] #[]] w fun e w'=>e=.returned (.bool (decide (l=r)))∧Ext w w':=by
 have hl:=hid h.len
 have kl:=hid k.len
 have hnl:n≤9223372036854775807:=by have:=h.cap;have:=h.most;simp only[maxLen] at this;omega
 have hml:m≤9223372036854775807:=by have:=k.cap;have:=k.most;simp only[maxLen] at this;omega
 have HH:=hid h
 have KK:=hid k
 clear h k
 by_cases hnm:n=m
 ·subst hnm
  have kl2:=kl
  clear kl
  go_enter Tryz.func127,Tryz.ntmps127
  go_wp2
  go_loopw [17] (fun i wr=>∃j:Nat,j≤n∧i=.int .i64 j∧Hid (l.take j=r.take j)∧Hid (Ext w wr)) (fun i _=>n-(intOf i).toNat)
  case atStart=>exact⟨0,by omega,rfl,by simp[Hid],Ext.refl w⟩
  case round=>
   obtain⟨j,hj,rfl,Htk,hx⟩:=hrel
   by_cases hlt:j<n
   ·obtain⟨b1,o1,v1,x1,rfl,g1,_,⟨A1,n1,c1,rfl,r1⟩,q1⟩:=(HH.out.ext hx.out).at_ hlt
    obtain⟨b2,o2,v2,x2,rfl,g2,_,⟨A2,n2,c2,rfl,r2⟩,q2⟩:=(KK.out.ext hx.out).at_ hlt
    have e10:=q1 0 _ rfl;have e11:=q1 1 _ rfl;have e20:=q2 0 _ rfl;have e21:=q2 1 _ rfl
    clear q1 q2
    simp only[Elem.att,Nat.add_zero] at e10 e11 e20 e21
    have d20:=zaa e20 _ (Ext.alloc wr (.cells #[.string x1.type,.slice A1 n1 c1] 55))
    have d21:=zaa e21 _ (Ext.alloc wr (.cells #[.string x1.type,.slice A1 n1 c1] 55))
    have Hg:=hid (And.intro g1 g2)
    clear g1 g2 e20 e21
    have HSM:∀w',Ext wr w'→Calls Tryz.prog 128 #[.agg #[.string x1.type,.slice A1 n1 c1],.agg #[.string x2.type,.slice A2 n2 c2]] w' fun e w''=>e=.returned (.bool (decide (x1=x2)))∧Ext w' w'':=fun w' hx'=>HEQ x1 x2 A1 n1 c1 A2 n2 c2 w' (hx.out.trans hx') (r1.ext hx') (r2.ext hx')
    clear r1 r2 HEQ
    by_cases hv:x1=x2
    ·have Hx:=hid hv
     rw[decide_eq_true hv] at HSM
     clear hv
     go_wp2_with(go_at_call 128;(with_reducible refine(HSM _ ((Ext.alloc _ _).trans (Ext.alloc _ _))).mono ?_);rintro e w1 ⟨rfl,hx1⟩;have HX1:=hid (hx.out.trans (((Ext.alloc _ _).trans (Ext.alloc _ _)).trans hx1));clear hx1)
     refine⟨⟨j+1,by omega,by go_num,?_,HX1.out⟩,by simp[intOf];omega⟩
     show _=_
     rw[List.take_add_one,List.take_add_one,Htk.out,Hg.out.1,Hg.out.2,Hx.out]
    ·have Hx:=hid hv
     rw[decide_eq_false hv] at HSM
     clear hv
     go_wp2_with(go_at_call 128;(with_reducible refine(HSM _ ((Ext.alloc _ _).trans (Ext.alloc _ _))).mono ?_);rintro e w1 ⟨rfl,hx1⟩;have HX1:=hid (hx.out.trans (((Ext.alloc _ _).trans (Ext.alloc _ _)).trans hx1));clear hx1)
     go_ret
     exact⟨zar (decide_eq_false (fun e=>by subst e;exact Hx.out (Option.some.inj (Hg.out.1.symm.trans Hg.out.2)))),HX1.out⟩
   ·obtain rfl:j=n:=by omega
    go_wp2
    go_ret
    exact⟨zar (decide_eq_true (za7 hl.out kl2.out Htk.out)),hx.out⟩
 ·have hne:((n:Int) != (m:Int))=true:=by rw[bne_iff_ne];omega
  have hfin:Hid (decide (l=r)=false):=by
   refine decide_eq_false fun e=>?_
   subst e
   have:=hl.out
   have:=kl.out
   omega
  clear hnm
  go_enter Tryz.func127,Tryz.ntmps127
  go_wp2
  go_ret
  exact⟨zar hfin.out,Ext.refl w⟩
theorem zly{S T:Nat→Prop}{A B:Option Addr}{n c m d:Nat}{l r:List Ent}{w:World}(h:Row Elem.ent S w A n c l)(k:Row Elem.ent T w B m d r)
 (HEQ:∀(x y:Ent) A1 n1 c1 A2 n2 c2 w',Ext w w'→Row Elem.att S w' A1 n1 c1 x.atts→Row Elem.att T w' A2 n2 c2 y.atts→Calls Tryz.prog 88 #[.agg #[.string x.name,.slice A1 n1 c1],.agg #[.string y.name,.slice A2 n2 c2]] w' fun e w''=>e=.returned (.bool (decide (x=y)))∧Ext w' w'') :
 Calls Tryz.prog 87 #[.slice A n c,.slice B m d,.func (.func 88) #[] #[]] w fun e w'=>e=.returned (.bool (decide (l=r)))∧Ext w w':=by
 have hl:=hid h.len
 have kl:=hid k.len
 have hnl:n≤9223372036854775807:=by have:=h.cap;have:=h.most;simp only[maxLen] at this;omega
 have hml:m≤9223372036854775807:=by have:=k.cap;have:=k.most;simp only[maxLen] at this;omega
 have HH:=hid h
 have KK:=hid k
 clear h k
 by_cases hnm:n=m
 ·subst hnm
  have kl2:=kl
  clear kl
  go_enter Tryz.func87,Tryz.ntmps87
  go_wp2
  go_loopw [17] (fun i wr=>∃j:Nat,j≤n∧i=.int .i64 j∧Hid (l.take j=r.take j)∧Hid (Ext w wr)) (fun i _=>n-(intOf i).toNat)
  case atStart=>exact⟨0,by omega,rfl,by simp[Hid],Ext.refl w⟩
  case round=>
   obtain⟨j,hj,rfl,Htk,hx⟩:=hrel
   by_cases hlt:j<n
   ·obtain⟨b1,o1,v1,x1,rfl,g1,_,⟨A1,n1,c1,rfl,r1⟩,q1⟩:=(HH.out.ext hx.out).at_ hlt
    obtain⟨b2,o2,v2,x2,rfl,g2,_,⟨A2,n2,c2,rfl,r2⟩,q2⟩:=(KK.out.ext hx.out).at_ hlt
    have e10:=q1 0 _ rfl;have e11:=q1 1 _ rfl;have e20:=q2 0 _ rfl;have e21:=q2 1 _ rfl
    clear q1 q2
    simp only[Elem.ent,Nat.add_zero] at e10 e11 e20 e21
    have d20:=zaa e20 _ (Ext.alloc wr (.cells #[.string x1.name,.slice A1 n1 c1] 58))
    have d21:=zaa e21 _ (Ext.alloc wr (.cells #[.string x1.name,.slice A1 n1 c1] 58))
    have Hg:=hid (And.intro g1 g2)
    clear g1 g2 e20 e21
    have HSM:∀w',Ext wr w'→Calls Tryz.prog 88 #[.agg #[.string x1.name,.slice A1 n1 c1],.agg #[.string x2.name,.slice A2 n2 c2]] w' fun e w''=>e=.returned (.bool (decide (x1=x2)))∧Ext w' w'':=fun w' hx'=>HEQ x1 x2 A1 n1 c1 A2 n2 c2 w' (hx.out.trans hx') (r1.ext hx') (r2.ext hx')
    clear r1 r2 HEQ
    by_cases hv:x1=x2
    ·have Hx:=hid hv
     rw[decide_eq_true hv] at HSM
     clear hv
     go_wp2_with(go_at_call 88;(with_reducible refine(HSM _ ((Ext.alloc _ _).trans (Ext.alloc _ _))).mono ?_);rintro e w1 ⟨rfl,hx1⟩;have HX1:=hid (hx.out.trans (((Ext.alloc _ _).trans (Ext.alloc _ _)).trans hx1));clear hx1)
     refine⟨⟨j+1,by omega,by go_num,?_,HX1.out⟩,by simp[intOf];omega⟩
     show _=_
     rw[List.take_add_one,List.take_add_one,Htk.out,Hg.out.1,Hg.out.2,Hx.out]
    ·have Hx:=hid hv
     rw[decide_eq_false hv] at HSM
     clear hv
     go_wp2_with(go_at_call 88;(with_reducible refine(HSM _ ((Ext.alloc _ _).trans (Ext.alloc _ _))).mono ?_);rintro e w1 ⟨rfl,hx1⟩;have HX1:=hid (hx.out.trans (((Ext.alloc _ _).trans (Ext.alloc _ _)).trans hx1));clear hx1)
     go_ret
     exact⟨zar (decide_eq_false (fun e=>by subst e;exact Hx.out (Option.some.inj (Hg.out.1.symm.trans Hg.out.2)))),HX1.out⟩
   ·obtain rfl:j=n:=by omega
    go_wp2
    go_ret
    exact⟨zar (decide_eq_true (za7 hl.out kl2.out Htk.out)),hx.out⟩
 ·have hne:((n:Int) != (m:Int))=true:=by rw[bne_iff_ne];omega
  have hfin:Hid (decide (l=r)=false):=by
   refine decide_eq_false fun e=>?_
   subst e
   have:=hl.out
   have:=kl.out
   omega
  clear hnm
  go_enter Tryz.func87,Tryz.ntmps87
  go_wp2
  go_ret
  exact⟨zar hfin.out,Ext.refl w⟩
theorem znY{S T:Nat→Prop}{x y:Att}{A B:Option Addr}{n c m d:Nat}{w:World}(h:Row Elem.str S w A n c x.vals)(k:Row Elem.str T w B m d y.vals) :
 Calls Tryz.prog 128 #[.agg #[.string x.type,.slice A n c],.agg #[.string y.type,.slice B m d]] w fun e w'=>e=.returned (.bool (decide (x=y)))∧Ext w w':=by
 have HEQ:∀w',Ext w w'→Calls Tryz.prog 129 #[.slice A n c,.slice B m d] w' fun e w''=>e=.returned (.bool (decide (x.vals=y.vals)))∧Ext w' w'':=fun w' hx=>by
  have hr1:=h.ext hx
  have hr2:=k.ext hx
  exact zeG hr1 hr2
 have HD:=hid (zpm x y)
 have HB1:=hid (Bx.make (Ext.refl w) #[.string x.type,.slice A n c] 55)
 have HB2:=hid (Bx.make (Ext.alloc w (.cells #[.string x.type,.slice A n c] 55)) #[.string y.type,.slice B m d] 55)
 clear h k
 generalize decide (x.vals=y.vals)=b at*
 generalize decide (x=y)=q at*
 by_cases ht:x.type=y.type
 ·have f1:=zco ht
  rw[decide_eq_true ht,Bool.true_and] at HD
  clear ht
  cases b
  all_goals
   go_enter Tryz.func128,Tryz.ntmps128
   go_wp2_with(go_at_call 129;(with_reducible refine(HEQ _ ((Ext.alloc _ _).trans (Ext.alloc _ _))).mono ?_);rintro e w1 ⟨rfl,hx1⟩;have HX1:=hid (((Ext.alloc _ _).trans (Ext.alloc _ _)).trans hx1);clear hx1)
   go_ret
   exact⟨zar HD.out,HX1.out⟩
 ·have f1:=zch ht
  rw[decide_eq_false ht,Bool.false_and] at HD
  clear ht
  go_enter Tryz.func128,Tryz.ntmps128
  go_wp2
  go_ret
  exact⟨zar HD.out,(Ext.alloc _ _).trans (Ext.alloc _ _)⟩
theorem zk4{S T:Nat→Prop}{x y:Ent}{A B:Option Addr}{n c m d:Nat}{w:World}(h:Row Elem.att S w A n c x.atts)(k:Row Elem.att T w B m d y.atts) :
 Calls Tryz.prog 88 #[.agg #[.string x.name,.slice A n c],.agg #[.string y.name,.slice B m d]] w fun e w'=>e=.returned (.bool (decide (x=y)))∧Ext w w':=by
 have HEQ:∀w',Ext w w'→Calls Tryz.prog 127 #[.slice A n c,.slice B m d,.func (.func 128) #[] #[]] w' fun e w''=>e=.returned (.bool (decide (x.atts=y.atts)))∧Ext w' w'':=fun w' hx=>by
  have hr1:=h.ext hx
  have hr2:=k.ext hx
  exact zlX hr1 hr2 (fun x y A1 n1 c1 A2 n2 c2 w' _ h1 h2=>znY h1 h2)
 have HD:=hid (zpn x y)
 have HB1:=hid (Bx.make (Ext.refl w) #[.string x.name,.slice A n c] 58)
 have HB2:=hid (Bx.make (Ext.alloc w (.cells #[.string x.name,.slice A n c] 58)) #[.string y.name,.slice B m d] 58)
 clear h k
 generalize decide (x.atts=y.atts)=b at*
 generalize decide (x=y)=q at*
 by_cases ht:x.name=y.name
 ·have f1:=zco ht
  rw[decide_eq_true ht,Bool.true_and] at HD
  clear ht
  cases b
  all_goals
   go_enter Tryz.func88,Tryz.ntmps88
   go_wp2_with(go_at_call 127;(with_reducible refine(HEQ _ ((Ext.alloc _ _).trans (Ext.alloc _ _))).mono ?_);rintro e w1 ⟨rfl,hx1⟩;have HX1:=hid (((Ext.alloc _ _).trans (Ext.alloc _ _)).trans hx1);clear hx1)
   go_ret
   exact⟨zar HD.out,HX1.out⟩
 ·have f1:=zch ht
  rw[decide_eq_false ht,Bool.false_and] at HD
  clear ht
  go_enter Tryz.func88,Tryz.ntmps88
  go_wp2
  go_ret
  exact⟨zar HD.out,(Ext.alloc _ _).trans (Ext.alloc _ _)⟩
structure CfgAt(S:Nat→Prop)(w:World)(A:Option Addr)(n c:Nat)(B:Option Addr)(m d:Nat)(s:List (List Cxt))(t:List CutR):Prop where
 srv:Row Elem.srw S w A n c s
 top:Row Elem.cut S w B m d t
theorem CfgAt.ext{S:Nat→Prop}{w w':World}{A:Option Addr}{n c:Nat}{B:Option Addr}{m d:Nat}{s:List (List Cxt)}{t:List CutR}(h:CfgAt S w A n c B m d s t)(hx:Ext w w'):CfgAt S w' A n c B m d s t:=⟨h.srv.ext hx,h.top.ext hx⟩
end
section
open Go.RowKit Go.ChangeShapes Go.WideShapes Go.Deep
set_option maxRecDepth 100000
def zsc(c:CutR):Prop:=c.name.size≤1048576∧-9223372036854775808≤c.server∧c.server≤9223372036854775807
section
variable {H:Type}{enc:TypeId × Value→H}{W:World}
theorem cut_open{M:Nat}(hM0:M≤1048576){fuel:Nat}{cs:List Value}{x:DataW H×List MemPlace}(h:DataW.trod enc Tryz.prog W 0 (fun _=>true) true fuel 61 cs=some x)(hM:Rows.uptoBulk x.1≤M):∃a:CutR,Elem.cut.R (fun _=>True) W cs a∧zsc a:=by
 obtain⟨hl,hf⟩:=zi8 Tryz.underlying61 h hM
 obtain⟨m0,y0,h0,b0⟩:=hf 0 _ rfl
 obtain⟨s,e0,q0⟩:=zgC Tryz.underlying9 h0 (Nat.le_of_lt b0)
 obtain⟨m1,y1,h1,b1⟩:=hf 1 _ rfl
 obtain⟨k,e1,k1,k2⟩:=zrc Tryz.underlying3 h1
 have hcs:cs.drop 0=[.string s,.int .i64 k]:=by rw[zer (i:=0) (j:=1) e0 (by kernel_rfl) rfl,zer (i:=1) (j:=2) e1 (by kernel_rfl) rfl,zi7 (n:=2) hl (by kernel_rfl)]
 rw[List.drop_zero] at hcs
 exact⟨⟨s,k⟩,hcs,Nat.le_trans (Nat.le_of_lt q0) hM0,k1,k2⟩
end
end
section
open Go.RowKit
set_option maxRecDepth 100000
theorem znG{S:Nat→Prop}{A:Option Addr}{n c:Nat}{l:List CutR}{w:World}(h:Row Elem.cut S w A n c l)(hm:l.length≤2000000) :
 Calls Tryz.prog 9 #[.slice A n c] w fun e w'=>∃A' n' c',e=.returned (.slice A' n' c')∧Row Elem.cut (fun b=>w.heap.size≤b) w' A' n' c' l∧Ext w w':=by
 have HR:=hid h
 have HLN:=hid h.len
 have HM:=hid hm
 have hn:n≤9223372036854775807:=by have:=h.cap;have:=h.most;simp only[maxLen] at this;omega
 clear h hm
 go_enter Tryz.func9,Tryz.ntmps9
 go_wp2
 go_loopw [3,7] (fun v i wr=>∃j:Nat,j≤n∧i=.int .i64 j∧Hid (GrowR Elem.cut 60 none w wr v (l.take j))) (fun _ i _=>n-(intOf i).toNat)
 case atStart=>exact⟨0,by omega,rfl,GrowR.nil (Ext.refl _) (fun g hg=>by cases hg)⟩
 case round=>
  obtain⟨j,hj,rfl,HGR⟩:=hrel
  by_cases hlt:j<n
  ·obtain⟨b1,o1,v1,x1,rfl,g1,-,r1,q1⟩:=(HR.out.ext HGR.out.ext).at_ hlt
   obtain⟨nm1,sv1⟩:=x1
   cases r1
   have e10:=q1 0 _ rfl
   have e11:=q1 1 _ rfl
   simp only[Elem.cut,Nat.add_zero] at e10 e11
   have Hg:=hid g1
   clear q1 g1
   have HLT:Hid ((l.take j).length≤4000000):=by show _≤_;rw[List.length_take];have:=HLN.out;have:=HM.out;omega
   go_wp2_with(at_builtin;refine zjR Tryz.underlying27 zhI rfl (by decide) rfl _ _ rfl _ _ rfl HGR.out (u:=[.string nm1,.int .i64 sv1]) ⟨nm1,sv1⟩ rfl (by intro c hc;simp at hc;rcases hc with rfl|rfl<;>rfl) rfl rfl HLT.out ?_;intro v' w3 hg3 _ _;have HG3:=hid hg3;clear hg3)
   exact⟨⟨j+1,by omega,by go_num,by(have e:l.take (j+1)=l.take j++[⟨nm1,sv1⟩]:=by(rw[List.take_add_one,Hg.out];rfl));rw[e];exact HG3⟩,by simp[intOf];omega⟩
  ·obtain rfl:j=n:=by omega
   have hgr:=HGR.out
   rw[List.take_of_length_le (Nat.le_of_eq HLN.out.symm)] at hgr
   obtain⟨A2,c2,rfl,hr2⟩:=hgr.row
   have HR2:=hid hr2
   have HX:=hid hgr.ext
   clear hgr hr2 HGR
   go_wp2
   go_ret
   exact⟨A2,_,c2,rfl,HR2.out,HX.out⟩
theorem zqW:(Tryz.prog.info? 61).map (fun i=>(i.zero,i.size,i.bytes))=some (some (.agg #[.string ByteArray.empty,.int .i64 0]),Elem.cut.k,24):=by kernel_rfl
theorem zfC{S:Nat→Prop}{A:Option Addr}{n c:Nat}{l:List CutR}{w:World}(h:Row Elem.cut S w A n c l)(hm:l.length≤2000000) :
 Calls Tryz.prog 21 #[.slice A n c] w fun e w'=>∃A' n' c',e=.returned (.slice A' n' c')∧Row Elem.cut (fun b=>w.heap.size≤b) w' A' n' c' l∧Ext w w':=by
 have HR:=hid h
 have HLN:=hid h.len
 have HM:=hid hm
 have hn:n≤9223372036854775807:=by have:=h.cap;have:=h.most;simp only[maxLen] at this;omega
 clear h hm
 go_enter Tryz.func21,Tryz.ntmps21
 go_wp2
 go_loopw [3,7] (fun v i wr=>∃j:Nat,j≤n∧i=.int .i64 j∧Hid (GrowR Elem.cut 61 none w wr v (l.take j))) (fun _ i _=>n-(intOf i).toNat)
 case atStart=>exact⟨0,by omega,rfl,GrowR.nil (Ext.refl _) (fun g hg=>by cases hg)⟩
 case round=>
  obtain⟨j,hj,rfl,HGR⟩:=hrel
  by_cases hlt:j<n
  ·obtain⟨b1,o1,v1,x1,rfl,g1,-,r1,q1⟩:=(HR.out.ext HGR.out.ext).at_ hlt
   obtain⟨nm1,sv1⟩:=x1
   cases r1
   have e10:=q1 0 _ rfl
   have e11:=q1 1 _ rfl
   simp only[Elem.cut,Nat.add_zero] at e10 e11
   have Hg:=hid g1
   clear q1 g1
   have HLT:Hid ((l.take j).length≤4000000):=by show _≤_;rw[List.length_take];have:=HLN.out;have:=HM.out;omega
   go_wp2_with(at_builtin;refine zjR Tryz.underlying23 zqW rfl (by decide) rfl _ _ rfl _ _ rfl HGR.out (u:=[.string nm1,.int .i64 sv1]) ⟨nm1,sv1⟩ rfl (by intro c hc;simp at hc;rcases hc with rfl|rfl<;>rfl) rfl rfl HLT.out ?_;intro v' w3 hg3 _ _;have HG3:=hid hg3;clear hg3)
   exact⟨⟨j+1,by omega,by go_num,by(have e:l.take (j+1)=l.take j++[⟨nm1,sv1⟩]:=by(rw[List.take_add_one,Hg.out];rfl));rw[e];exact HG3⟩,by simp[intOf];omega⟩
  ·obtain rfl:j=n:=by omega
   have hgr:=HGR.out
   rw[List.take_of_length_le (Nat.le_of_eq HLN.out.symm)] at hgr
   obtain⟨A2,c2,rfl,hr2⟩:=hgr.row
   have HR2:=hid hr2
   have HX:=hid hgr.ext
   clear hgr hr2 HGR
   go_wp2
   go_ret
   exact⟨A2,_,c2,rfl,HR2.out,HX.out⟩
theorem zq7:(Tryz.prog.info? 85).map (fun i=>(i.zero,i.size,i.bytes))=some (some (.agg #[.string ByteArray.empty,.slice none 0 0,.slice none 0 0]),Elem.cxt.k,64):=by kernel_rfl
theorem zri:(Tryz.prog.info? 92).map (fun i=>(i.zero,i.size,i.bytes))=some (some (.agg #[.slice none 0 0]),Elem.srw.k,24):=by kernel_rfl
def zgy(w:World)(s:List (List Cxt))(t:List CutR)(e:Ending)(w':World):Prop:=
 ∃A n c B m d,e=.returned (.agg #[.slice A n c,.slice B m d])∧CfgAt (fun _=>True) w' A n c B m d s t∧Ext w w'
theorem znC{S:Nat→Prop}{w:World}{A:Option Addr}{n c:Nat}{B:Option Addr}{m d:Nat}{s:List (List Cxt)}{t:List CutR}(h:CfgAt S w A n c B m d s t)
 (hs:s.length≤2000000∧∀l∈s,l.length≤2000000∧∀y∈l,y.subs.length≤2000000) (ht:t.length≤2000000) :
 Calls Tryz.prog 12 #[.agg #[.slice A n c,.slice B m d]] w (zgy w s t):=by
 have HR:=hid (h.srv.mono (T:=fun b=>b<w.heap.size) fun b hb _=>hb)
 have HLN:=hid h.srv.len
 have HS:=hid hs
 have hn:n≤9223372036854775807:=by have:=h.srv.cap;have:=h.srv.most;simp only[maxLen] at this;omega
 have HCT:∀w',Ext w w'→Calls Tryz.prog 21 #[.slice B m d] w' fun e w''=>∃A' n' c',e=.returned (.slice A' n' c')∧Row Elem.cut (fun b=>w'.heap.size≤b) w'' A' n' c' t∧Ext w' w'':=fun w' hx=>zfC (h.top.ext hx) ht
 have HB0:=hid (((Bx.make (Ext.refl w) #[.slice A n c,.slice B m d] 29).later (Ext.alloc _ (.cells #[.slice none 0 0,.slice none 0 0] 36))))
 have HB1:=hid (Bx.make (Ext.alloc w (.cells #[.slice A n c,.slice B m d] 29)) #[.slice none 0 0,.slice none 0 0] 36)
 rw[show(w.alloc (.cells #[.slice A n c,.slice B m d] 29)).heap.size=w.heap.size+1 by simp] at HB1
 unfold zgy
 clear h hs ht
 go_enter Tryz.func12,Tryz.ntmps12
 go_wp2_with(go_at_call 21;(with_reducible refine(HCT _ HB0.out.ext).mono ?_);rintro e w1 ⟨B2,m2,d2,rfl,hr1,hx1⟩;have HB2:=hid (HB0.out.later hx1);have HB3:=hid (HB1.out.later hx1);have HT1:=hid (hr1.mono (T:=fun b=>w.heap.size+2≤b) fun b _ hb=>by have h2:=hb;simp at h2;omega);have p0:=zaa (HB2.out.cell (i:=0) rfl) _ (Ext.alloc w1 (.cells #[.slice none 0 0,.slice B2 m2 d2] 36));clear hx1 hr1)
 have HX1:=hid HB2.out.ext
 have HSZ:Hid (w.heap.size≤w1.heap.size):=zaz HB2.out.ext
 have P0:=hid (HB2.out.cell (i:=0) rfl)
 go_loopw [15] (fun i wr=>∃(j:Nat) (v:Value),j≤n∧i=.int .i64 j∧Hid (GrowM Elem.srw (fun b=>b<w.heap.size∨w1.heap.size≤b) 92 (some w1.heap.size) w1 wr v (s.take j))∧Hid (Bx w1 wr w1.heap.size 36 #[v,.slice B2 m2 d2])) (fun i _=>n-(intOf i).toNat)
 case atStart=>exact⟨0,_,by omega,rfl,GrowM.nil (Ext.alloc _ _) (fun g hg=>by injection hg with hg;subst hg;simp),Bx.make (Ext.refl w1) _ _⟩
 case round=>
  obtain⟨j,v,hj,rfl,HGR,HBN⟩:=hrel
  obtain⟨wo,hwo⟩:∃x,x=wr:=⟨_,rfl⟩
  subst hwo
  have HXR:=hid HGR.out.ext
  have p0':=zaa P0.out _ HXR.out
  by_cases hlt:j<n
  ·obtain⟨b1,o1,v1,x1,rfl,g1,-,⟨A1,n1,c1,rfl,r1⟩,q1⟩:=HR.out.at_ hlt
   have E1:=hid (zaa (zaa (q1 0 _ rfl) _ HX1.out) _ HXR.out)
   have e1:=E1.out
   simp only[Elem.srw,Elem.slc,Nat.add_zero,Nat.mul_one] at e1
   have R1:=hid (r1.ext (HX1.out.trans HXR.out))
   have hn1:n1≤9223372036854775807:=by have:=r1.cap;have:=r1.most;simp only[maxLen] at this;omega
   have HSX:=hid (HS.out.2 x1 (List.mem_of_getElem? g1))
   have HL1:Hid (n1=x1.length):=r1.len
   have HTK:Hid (s.take (j+1)=s.take j++[x1]):=by show _=_;rw[List.take_add_one,g1];rfl
   have HNB:=hid (HGR.out.apart _ rfl).1
   have HLT:Hid ((s.take j).length≤4000000):=by show _≤_;rw[List.length_take];have:=HLN.out;have:=HS.out.1;omega
   have p0a:=zaa p0' _ (Ext.alloc wo (.cells #[.slice none 0 0] 92))
   have e1a:=zaa e1 _ (Ext.alloc wo (.cells #[.slice none 0 0] 92))
   clear q1 g1 r1
   go_wp2
   clear p0a e1a
   go_loopw [25] (fun i wr=>∃(k:Nat) (vc:Value),k≤n1∧i=.int .i64 k∧Hid (GrowM Elem.cxt (fun b=>b<w.heap.size∨wo.heap.size≤b) 85 (some wo.heap.size) wo wr vc (x1.take k))∧Hid (Bx wo wr wo.heap.size 92 #[vc])) (fun i _=>n1-(intOf i).toNat)
   case atStart=>exact⟨0,_,by omega,rfl,GrowM.nil (Ext.alloc _ _) (fun g hg=>by injection hg with hg;subst hg;simp),Bx.make (Ext.refl wo) _ _⟩
   case round=>
    obtain⟨k,vc,hk,rfl,HI,HBI⟩:=hrel
    have HXI:=hid HI.out.ext
    have p1:=zaa p0' _ HXI.out
    have e2:=zaa e1 _ HXI.out
    by_cases hlt2:k<n1
    ·obtain⟨b2,o2,v2,x2,rfl,g2,-,⟨A2,n2,c2,B3,m3,d3,rfl,r2,s2⟩,q2⟩:=(R1.out.ext HXI.out).at_ hlt2
     have e20:=q2 0 _ rfl
     have e21:=q2 1 _ rfl
     have e22:=q2 2 _ rfl
     simp only[Elem.cxt,Nat.add_zero] at e20 e21 e22
     have hok:=HSX.out.2 x2 (List.mem_of_getElem? g2)
     have HR2:=hid r2
     have HTK2:Hid (x1.take (k+1)=x1.take k++[x2]):=by show _=_;rw[List.take_add_one,g2];rfl
     have HLT2:Hid ((x1.take k).length≤4000000):=by show _≤_;rw[List.length_take];have:=HL1.out;have:=HSX.out.1;omega
     have HCU:∀w',Ext wr w'→Calls Tryz.prog 21 #[.slice B3 m3 d3] w' fun e w''=>∃A' n' c',e=.returned (.slice A' n' c')∧Row Elem.cut (fun b=>w'.heap.size≤b) w'' A' n' c' x2.subs∧Ext w' w'':=
      fun w' hx=>zfC (s2.ext hx) hok
     have HNB2:=hid (HI.out.apart _ rfl).1
     have HB7:=hid (Bx.make (Ext.refl wr) #[.string x2.name,.slice A2 n2 c2,.slice B3 m3 d3] 72)
     have hvc:∀b,vc.ownBlock=some b→b<wr.heap.size∧b≠wr.heap.size:=fun b hb=>by
      obtain⟨⟨vss,-,ho,-⟩,-,-⟩:=HI.out
      have:=(ho.lt b hb).2
      exact⟨this,by omega⟩
     obtain⟨S9,hS9⟩:∃S:Nat→Prop,S=fun b=>b<wr.heap.size+1∧b≠wo.heap.size∧some b≠vc.ownBlock:=⟨_,rfl⟩
     have HSI:Hid (∀b,S9 b→b<wr.heap.size+1):=fun b hb=>by rw[hS9] at hb;exact hb.1
     have HNE:Hid (∀b,S9 b→b≠wo.heap.size):=fun b hb=>by rw[hS9] at hb;exact hb.2.1
     have HNO:Hid (∀b,S9 b→some b≠vc.ownBlock):=fun b hb=>by rw[hS9] at hb;exact hb.2.2
     have hg7:wo.heap.size<wr.heap.size:=HBI.out.lt
     have HS7:Hid (S9 wr.heap.size):=by
      show S9 _
      rw[hS9]
      exact⟨by omega,by omega,fun e=>(hvc _ e.symm).2 rfl⟩
     clear q2 g2 r2 s2 hok hS9 hvc hg7
     go_wp2
     obtain⟨PR,hPR⟩:∃p,p=Pre.same S9:=⟨_,rfl⟩
     have HPS:Hid (∀w w',Same S9 w w'→PR.r w w'):=fun w w' h=>by rw[hPR];exact h
     have HPT:Hid (∀w w',PR.r w w'→Same S9 w w'):=fun w w' h=>by rw[hPR] at h;exact h
     clear hPR
     refine zbi PR (.read 0 (.read 2 (.read 3 (.read 4 (.read 5 (.read 6 (.read 7 (.alt 1 (.main 8 (.read 9 (.main 10 (.main 11 (.read 12 (.main 13 .done)))))) (.main 8 (.read 9 (.alt 1 (.main 10 (.main 11 (.read 12 (.main 13 .done)))) (.main 10 (.main 1 (.main 11 (.read 12 (.main 13 .done)))))))))))))))) (by kernel_rfl) (by kernel_rfl) ?_
     intro wD hxD
     have XR:Hid (PR.r wD wD):=PR.refl _
     have HXD:=hid ((Ext.alloc wr (.cells #[.string x2.name,.slice A2 n2 c2,.slice B3 m3 d3] 72)).trans hxD)
     have HI':=hid (HI.out.later HXD.out)
     have HI0:=HI'
     have HBI':=hid (HBI.out.later HXD.out)
     have HSR:Hid (∀b,S9 b→b<wD.heap.size):=fun b hb=>by have h1:=HSI.out b hb;have h2:=zaz hxD;simp only[World.alloc,Array.size_push] at h2;omega
     have HX9:=hid (Ext.refl wD)
     have c0:∀w',PR.r wD w'→w'.cell? ⟨wr.heap.size,0,none⟩=some (.string x2.name):=fun w' hk=>by rw[World.cell?_of_block (HPT.out _ _ hk _ HS7.out)];exact(HB7.out.later hxD).cell (i:=0) rfl
     have c1':∀w',PR.r wD w'→w'.cell? ⟨wr.heap.size,1,none⟩=some (.slice A2 n2 c2):=fun w' hk=>by rw[World.cell?_of_block (HPT.out _ _ hk _ HS7.out)];exact(HB7.out.later hxD).cell (i:=1) rfl
     have c2':∀w',PR.r wD w'→w'.cell? ⟨wr.heap.size,2,none⟩=some (.slice B3 m3 d3):=fun w' hk=>by rw[World.cell?_of_block (HPT.out _ _ hk _ HS7.out)];exact(HB7.out.later hxD).cell (i:=2) rfl
     have HE8:Hid (∀A8 n8 c8 w' w8,Ext wD w'→Row Elem.cut (fun b=>w'.heap.size≤b) w8 A8 n8 c8 x2.subs→Ext w' w8→Elem.cxt.R (zcD (fun b=>b<w.heap.size∨wo.heap.size≤b) vc (some wo.heap.size)) w8 [.string x2.name,.slice A2 n2 c2,.slice A8 n8 c8] x2):=fun A8 n8 c8 w' w8 hxa hra hxb=>by
      have h1:=zaz HXI.out
      have h2:=zaz HXD.out
      have h3:=zaz hxa
      have h4:=HSZ.out
      have h5:=zaz HXR.out
      refine HI0.out.new (S':=fun b=>b<w.heap.size∨wD.heap.size≤b) (fun b _ hb=>?_) (fun b hb=>?_) ⟨A2,n2,c2,A8,n8,c8,rfl,(HR2.out.ext (HXD.out.trans (hxa.trans hxb))).mono fun b _ hb=>.inl hb,hra.mono fun b _ hb=>.inr (Nat.le_trans h3 hb)⟩
      ·rcases hb with hb|hb
       ·exact .inl hb
       ·exact .inr (by omega)
      ·rcases hb with hb|hb
       ·exact .inl (by omega)
       ·exact .inr hb
     repeat' ((first
      |refine zcb rfl rfl ?_
      |refine zby rfl rfl ?_
      |refine walksR_skip rfl rfl ?_
      |refine walksR_unwanted rfl rfl ?_
      |(refine za9 (v:=?_) rfl rfl (fun w' hE=>?_) ?_;rotate_left 1;(· ((try(have hEx:=Pre.trans _ (Hid.out XR) hE));go_simp;(try go_bits);with_reducible rfl)))
      |(refine zba rfl rfl (fun K hK=>?_);(first|(refine zbs 90 (.tmp 37) rfl ⟨wo.heap.size,0,none⟩ rfl vc (by first|exact HBI'.out.cell (i:=0) rfl|exact zaa (HBI'.out.cell (i:=0) rfl) _ (Ext.alloc _ _)) (fun _=>by kernel_rfl) ?_)|(refine zgm Tryz.underlying90 zq7 rfl (by decide) (.tmp 38) (.tmp 47) rfl vc (x1.take k) rfl HI'.out (u:=[.string x2.name,.slice A2 n2 c2,.slice A8 n8 c8]) x2 HE9.out (by intro c hc;simp at hc;rcases hc with rfl|rfl|rfl<;>rfl) rfl rfl HLT2.out ?_;intro v' w9 k1 k2 k3;have hs9:PR.r _ w9:=HPS.out _ _ (fun b hb=>k2.block b (by have:=HSR.out b hb;simp only[World.alloc,Array.size_push];omega) (HNO.out b hb));obtain⟨A6,c6,rfl,-⟩:=k1.row;simp only[List.length_append,List.length_cons,List.length_nil,Nat.zero_add] at k1;have HG9:=hid k1;have HB9:=hid ((HBI'.out.later (Ext.alloc _ _)).grown k2 HNB2.out k3);have n1':=HB9.out.cell (i:=0) rfl;have f1:=HB9.out.frozen 0;clear k1 k2 k3));refine hK _ _ (by first|assumption|exact Pre.refl _ _|exact Hid.out HPS _ _ (Same.alloc_of (Hid.out HSR) _)|exact Hid.out HPS _ _ (Same.set_of (Hid.out HNE) _)|exact Hid.out HPS _ _ (Same.allocs_of (Hid.out HSR) _ _)) ?_;clear hK K)
      |refine zcu ?_ ?_
      | (refine zba rfl rfl (fun K hK=>?_);go_wp2_with ((go_at_call 21;(with_reducible refine (HCU _ (HXD.out.trans HX9.out)).mono ?_);rintro e w8 ⟨A8,n8,c8,rfl,hr8,hx8⟩;have HE9:=hid (HE8.out A8 n8 c8 _ w8 HX9.out hr8 hx8);have hs8:PR.r _ w8:=HPS.out _ _ (fun b hb=>hx8.block b (HSR.out b hb));have HX9':=hid (HX9.out.trans hx8);clear HX9 HSR HI' HBI';have HX9:=HX9';clear HX9';have HI':=hid (HI0.out.later HX9.out);have HBI':=hid (HBI.out.later (HXD.out.trans HX9.out));have HSR:Hid (∀ b,S9 b→b<w8.heap.size):=(fun b hb=>by have h1:=HSI.out b hb;have h2:=zaz (hxD.trans HX9.out);simp only [World.alloc,Array.size_push] at h2;omega);clear hr8 hx8;replace XR:=hid (Pre.trans _ (Hid.out XR) hs8)));refine hK _ _ (by first | assumption | exact Pre.refl _ _ | exact Hid.out HPS _ _ (Same.alloc_of (Hid.out HSR) _) | exact Hid.out HPS _ _ (Same.set_of (Hid.out HNE) _) | exact Hid.out HPS _ _ (Same.allocs_of (Hid.out HSR) _ _)) ?_;clear hK K));try simp only [Act.put,Act.eval,evs])
     all_goals
      refine zcd ?_
      go_wp2
      refine⟨⟨k+1,_,by omega,by go_num,?_,HB9.out.setS _⟩,by simp[intOf];omega⟩
      rw[HTK2.out]
      have h9:=HG9.out.setL 0 (.slice A6 ((x1.take k).length+1) c6)
      simp only[List.length_take] at h9
      exact h9
    ·obtain rfl:k=n1:=by omega
     have hgi:=HI.out
     rw[List.take_of_length_le (Nat.le_of_eq HL1.out.symm)] at hgi
     obtain⟨A5,c5,rfl,hr5⟩:=hgi.row
     have HGO:=hid (HGR.out.later HXI.out)
     have HBO:=hid (HBN.out.later HXI.out)
     have HE5:=hid (HGR.out.new (w1:=wr) (S':=fun b=>b<w.heap.size∨wo.heap.size≤b) (u:=[.slice A5 x1.length c5]) (x:=x1) (fun b _ hb=>by
      have h1:=zaz HXR.out
      rcases hb with hb|hb
      ·exact .inl hb
      ·exact .inr (by omega)) (fun b hb=>by
      have h4:=HSZ.out
      rcases hb with hb|hb
      ·exact .inl (by omega)
      ·exact .inr hb) ⟨A5,_,c5,rfl,hr5.mono fun b _ hb=>by rcases hb with hb | hb;exact hb;exact .inr hb⟩)
     have n0:=HBO.out.cell (i:=0) rfl
     have n5:=HBI.out.cell (i:=0) rfl
     clear hgi hr5 HI
     go_wp2_with(at_builtin;refine zcT Tryz.underlying34 zri rfl (by decide) rfl _ _ rfl _ _ rfl HGO.out (u:=[.slice A5 x1.length c5]) x1 HE5.out (by intro c hc;simp at hc;subst hc;rfl) rfl rfl HLT.out ?_;intro v' w3 hg3 k2 k3;obtain⟨A6,c6,rfl,-⟩:=hg3.row;simp only[List.length_append,List.length_cons,List.length_nil,Nat.zero_add] at hg3;have HG3:=hid hg3;have HB9:=hid ((HBO.out.later (Ext.alloc _ _)).grown k2 HNB.out k3);have n1':=HB9.out.cell (i:=0) rfl;have f1:=HB9.out.frozen 0;clear hg3 k2 k3)
     refine⟨⟨j+1,_,by omega,by go_num,?_,HB9.out.set0 _⟩,by simp[intOf];omega⟩
     rw[HTK.out]
     have h9:=HG3.out.setL 0 (.slice A6 ((s.take j).length+1) c6)
     simp only[List.length_take] at h9
     exact h9
  ·obtain rfl:j=n:=by omega
   have hgr:=HGR.out
   rw[List.take_of_length_le (Nat.le_of_eq HLN.out.symm)] at hgr
   obtain⟨A2,c2,rfl,hr2⟩:=hgr.row
   have HR2:=hid hr2
   have n0:=HBN.out.cell (i:=0) rfl
   have n1:=HBN.out.cell (i:=1) rfl
   have HB:=HB3.out.later HGR.out.ext
   have r0:=HB.cell (i:=0) rfl
   have r1:=HB.cell (i:=1) rfl
   have f0:=HB.frozen 0
   have f1:=HB.frozen 1
   have HBY:=hid HB
   have HT2:=hid (HT1.out.ext HXR.out)
   have hlt0:Hid (w.heap.size+1<w1.heap.size):=HB3.out.lt
   clear HB hr2 hgr
   go_wp2
   (try simp only[Exit.inBlock,Exit.then])
   refine zjC _ rfl rfl ((HBY.out.set0 (.slice A2 s.length c2)).set1 (.slice B2 m2 d2)) Tryz.underlying36 rfl (by kernel_rfl) rfl ?_
   refine⟨A2,s.length,c2,B2,m2,d2,rfl,⟨?_,?_⟩,((HBY.out.set0 (.slice A2 s.length c2)).set1 (.slice B2 m2 d2)).ext⟩
   ·refine(HR2.out.same (w':=_) fun b hb=>?_).mono fun b _ hb=>trivial
    have h0:=hlt0.out
    have hne:b≠w.heap.size+1:=by
     rcases hb with(hb|hb)|hb<;>omega
    rw[heap_setCell_other _ _ _ _ hne,heap_setCell_other _ _ _ _ hne]
   ·refine(HT2.out.same (w':=_) fun b hb=>?_).mono fun b _ hb=>trivial
    have hb':w.heap.size+2≤b:=hb
    have hne:b≠w.heap.size+1:=by omega
    rw[heap_setCell_other _ _ _ _ hne,heap_setCell_other _ _ _ _ hne]
theorem zgq{S T:Nat→Prop}{A B:Option Addr}{n c m d:Nat}{l r:List Ent}{w:World}(h:Row Elem.ent S w A n c l)(k:Row Elem.ent T w B m d r) :
 Calls Tryz.prog 15 #[.slice A n c,.slice B m d] w fun e w'=>e=.returned (.bool (decide (l=r)))∧Ext w w':=by
 have hl:=hid h.len
 have kl:=hid k.len
 have hnl:n≤9223372036854775807:=by have:=h.cap;have:=h.most;simp only[maxLen] at this;omega
 have hml:m≤9223372036854775807:=by have:=k.cap;have:=k.most;simp only[maxLen] at this;omega
 have HH:=hid h
 have KK:=hid k
 clear h k
 by_cases hnm:n=m
 ·subst hnm
  have kl2:=kl
  clear kl
  go_enter Tryz.func15,Tryz.ntmps15
  go_wp2
  go_loopw [13] (fun i wr=>∃j:Nat,j≤n∧i=.int .i64 j∧Hid (l.take j=r.take j)∧Hid (Ext w wr)) (fun i _=>n-(intOf i).toNat)
  case atStart=>exact⟨0,by omega,rfl,by simp[Hid],Ext.refl w⟩
  case round=>
   obtain⟨j,hj,rfl,Htk,hx⟩:=hrel
   by_cases hlt:j<n
   ·obtain⟨b1,o1,v1,x1,rfl,g1,_,⟨A1,n1,c1,rfl,r1⟩,q1⟩:=(HH.out.ext hx.out).at_ hlt
    obtain⟨b2,o2,v2,x2,rfl,g2,_,⟨A2,n2,c2,rfl,r2⟩,q2⟩:=(KK.out.ext hx.out).at_ hlt
    have e10:=q1 0 _ rfl;have e11:=q1 1 _ rfl;have e20:=q2 0 _ rfl;have e21:=q2 1 _ rfl
    clear q1 q2
    simp only[Elem.ent,Nat.add_zero] at e10 e11 e20 e21
    have Hg:=hid (And.intro g1 g2)
    clear g1 g2
    have HSM:∀w',Ext wr w'→Calls Tryz.prog 44 #[.agg #[.string x1.name,.slice A1 n1 c1],.agg #[.string x2.name,.slice A2 n2 c2]] w' fun e w''=>e=.returned (.bool (decide (x1=x2)))∧Ext w' w'':=fun w' hx=>zoD (r1.ext hx) (r2.ext hx)
    clear r1 r2
    by_cases hv:x1=x2
    ·have Hx:=hid hv
     rw[decide_eq_true hv] at HSM
     clear hv
     go_wp2
     refine zac (.read 0 (.read 1 (.read 2 (.read 3 (.read 4 (.read 5 (.read 6 (.read 7 (.main 8 (.read 9 .done)))))))))) (by kernel_rfl) (by kernel_rfl) ?_
     intro wD hxD
     have XE:Hid (Ext wD wD):=Ext.refl _
     have c10:=zaa (zaa e10 _ hxD);have c11:=zaa (zaa e11 _ hxD);have c20:=zaa (zaa e20 _ hxD);have c21:=zaa (zaa e21 _ hxD)
     repeat' ((first
      |refine zaf rfl rfl ?_
      |refine zad rfl rfl ?_
      |refine zai rfl rfl ?_
      |refine zab rfl rfl ?_
      |(refine zae (v:=?_) rfl rfl (fun w' hE=>?_) ?_;rotate_left 1;(· ((try(have hEx:=Ext.trans (Hid.out XE) hE));go_simp;(try go_bits);with_reducible rfl)))
      |refine walks_alt ?_ ?_
      | (refine zah rfl rfl (fun K hK=>?_);go_wp2_with ((go_at_call 44;(with_reducible refine (HSM _ (hxD.trans XE.out)).mono ?_);rintro e w1 ⟨rfl,hx1⟩;replace XE:=hid (Ext.trans (Hid.out XE) hx1)));refine hK _ _ (by first | assumption | exact Ext.alloc _ _ | exact Ext.refl _) ?_;clear hK K));try simp only [Act.put,Act.eval,evs])
     refine zag ?_
     go_wp2
     refine⟨⟨j+1,by omega,by go_num,?_,hx.out.trans (hxD.trans XE.out)⟩,by simp[intOf];omega⟩
     show _=_
     rw[List.take_add_one,List.take_add_one,Htk.out,Hg.out.1,Hg.out.2,Hx.out]
    ·have Hx:=hid hv
     rw[decide_eq_false hv] at HSM
     clear hv
     go_wp2
     refine zac (.read 0 (.read 1 (.read 2 (.read 3 (.read 4 (.read 5 (.read 6 (.read 7 (.main 8 (.read 9 .done)))))))))) (by kernel_rfl) (by kernel_rfl) ?_
     intro wD hxD
     have XE:Hid (Ext wD wD):=Ext.refl _
     have c10:=zaa (zaa e10 _ hxD);have c11:=zaa (zaa e11 _ hxD);have c20:=zaa (zaa e20 _ hxD);have c21:=zaa (zaa e21 _ hxD)
     repeat' ((first
      |refine zaf rfl rfl ?_
      |refine zad rfl rfl ?_
      |refine zai rfl rfl ?_
      |refine zab rfl rfl ?_
      |(refine zae (v:=?_) rfl rfl (fun w' hE=>?_) ?_;rotate_left 1;(· ((try(have hEx:=Ext.trans (Hid.out XE) hE));go_simp;(try go_bits);with_reducible rfl)))
      |refine walks_alt ?_ ?_
      | (refine zah rfl rfl (fun K hK=>?_);go_wp2_with ((go_at_call 44;(with_reducible refine (HSM _ (hxD.trans XE.out)).mono ?_);rintro e w1 ⟨rfl,hx1⟩;replace XE:=hid (Ext.trans (Hid.out XE) hx1)));refine hK _ _ (by first | assumption | exact Ext.alloc _ _ | exact Ext.refl _) ?_;clear hK K));try simp only [Act.put,Act.eval,evs])
     refine zag ?_
     go_wp2
     go_ret
     exact⟨zar (decide_eq_false (fun e=>by subst e;exact Hx.out (Option.some.inj (Hg.out.1.symm.trans Hg.out.2)))),hx.out.trans (hxD.trans XE.out)⟩
   ·obtain rfl:j=n:=by omega
    go_wp2
    go_ret
    exact⟨zar (decide_eq_true (za7 hl.out kl2.out Htk.out)),hx.out⟩
 ·have hne:((n:Int) != (m:Int))=true:=by rw[bne_iff_ne];omega
  have hfin:Hid (decide (l=r)=false):=by
   refine decide_eq_false fun e=>?_
   subst e
   have:=hl.out
   have:=kl.out
   omega
  clear hnm
  go_enter Tryz.func15,Tryz.ntmps15
  go_wp2
  go_ret
  exact⟨zar hfin.out,Ext.refl w⟩
end
end Go.Proofs.YtkjbokhnpphimaaGreatDoor
