/- Lemmas of the walk. -/
import Derived.Test.YtkjbokhnpphimaaGreatDoorV39
set_option maxHeartbeats 40000000
set_option linter.unusedVariables false
set_option linter.unusedSimpArgs false
namespace Go.Proofs.YtkjbokhnpphimaaGreatDoor
section
open Go.RowKit
set_option maxRecDepth 100000
theorem cutr_eq{a b:CutR}:a=b↔a.name=b.name∧a.server=b.server:=by
 obtain⟨t,v⟩:=a
 obtain⟨u,x⟩:=b
 simp
instance:DecidableEq CutR:=fun _ _=>decidable_of_iff _ cutr_eq.symm
theorem cxt_eq{a b:Cxt}:a=b↔a.name=b.name∧a.ents=b.ents∧a.subs=b.subs:=by
 obtain⟨t,v,z⟩:=a
 obtain⟨u,x,y⟩:=b
 simp
instance:DecidableEq Cxt:=fun _ _=>decidable_of_iff _ cxt_eq.symm
theorem zfs{S T:Nat→Prop}{A B:Option Addr}{n c m d:Nat}{l r:List CutR}{w:World}(h:Row Elem.cut S w A n c l)(k:Row Elem.cut T w B m d r) :
 Calls Tryz.prog 20 #[.slice A n c,.slice B m d] w fun e w'=>e=.returned (.bool (decide (l=r)))∧Ext w w':=by
 have hl:=hid h.len
 have kl:=hid k.len
 have hnl:n≤9223372036854775807:=by have:=h.cap;have:=h.most;simp only[maxLen] at this;omega
 have hml:m≤9223372036854775807:=by have:=k.cap;have:=k.most;simp only[maxLen] at this;omega
 have HH:=hid h
 have KK:=hid k
 clear h k
 by_cases hnm:n=m
 ·subst hnm
  have kl2:=kl
  clear kl
  go_enter Tryz.func20,Tryz.ntmps20
  go_wp2
  go_loopw [13] (fun i wr=>∃j:Nat,j≤n∧i=.int .i64 j∧Hid (l.take j=r.take j)∧Hid (Ext w wr)) (fun i _=>n-(intOf i).toNat)
  case atStart=>exact⟨0,by omega,rfl,by simp[Hid],Ext.refl w⟩
  case round=>
   obtain⟨j,hj,rfl,Htk,hx⟩:=hrel
   by_cases hlt:j<n
   ·obtain⟨b1,o1,v1,x1,rfl,g1,_,r1,q1⟩:=(HH.out.ext hx.out).at_ hlt
    obtain⟨b2,o2,v2,x2,rfl,g2,_,r2,q2⟩:=(KK.out.ext hx.out).at_ hlt
    cases r1
    cases r2
    have e10:=q1 0 _ rfl;have e11:=q1 1 _ rfl;have e20:=q2 0 _ rfl;have e21:=q2 1 _ rfl
    clear q1 q2
    simp only[Elem.cut,CutR.cells,Nat.add_zero] at e10 e11 e20 e21
    have Hg:=hid (And.intro g1 g2)
    clear g1 g2
    by_cases hn:x1.name=x2.name
    ·have f1:=zco hn
     by_cases hs:x1.server=x2.server
     ·have f2:(x1.server==x2.server)=true:=by rw[beq_iff_eq];exact hs
      have Hx:Hid (x1=x2):=cutr_eq.2 ⟨hn,hs⟩
      clear hn hs
      go_wp2
      refine zac (.read 0 (.read 1 (.read 2 (.read 3 (.read 4 (.read 5 (.read 6 (.read 7 (.read 8 .done))))))))) (by kernel_rfl) (by kernel_rfl) ?_
      intro wD hxD
      have c10:=zaa (zaa e10 _ hxD);have c11:=zaa (zaa e11 _ hxD);have c20:=zaa (zaa e20 _ hxD);have c21:=zaa (zaa e21 _ hxD)
      repeat' ((first
       |refine zaf rfl rfl ?_
       |refine zad rfl rfl ?_
       |refine zai rfl rfl ?_
       |refine zab rfl rfl ?_
       |(refine zae (v:=?_) rfl rfl (fun w' hE=>?_) ?_;rotate_left 1;(· ((try(have hEx:=Ext.trans (Hid.out XE) hE));go_simp;(try go_bits);with_reducible rfl)))
       |refine walks_alt ?_ ?_
       | (refine zah rfl rfl (fun K hK=>?_);go_wp2_with (fail);refine hK _ _ (by first | assumption | exact Ext.alloc _ _ | exact Ext.refl _) ?_;clear hK K));try simp only [Act.put,Act.eval,evs])
      refine zag ?_
      go_wp2
      refine⟨⟨j+1,by omega,by go_num,?_,hx.out.trans hxD⟩,by simp[intOf];omega⟩
      show _=_
      rw[List.take_add_one,List.take_add_one,Htk.out,Hg.out.1,Hg.out.2,Hx.out]
     ·have f2:(x1.server==x2.server)=false:=by rw[beq_eq_false_iff_ne];exact hs
      have Hx:Hid (x1≠x2):=fun e=>hs (by rw[e])
      clear hn hs
      go_wp2
      refine zac (.read 0 (.read 1 (.read 2 (.read 3 (.read 4 (.read 5 (.read 6 (.read 7 (.read 8 .done))))))))) (by kernel_rfl) (by kernel_rfl) ?_
      intro wD hxD
      have c10:=zaa (zaa e10 _ hxD);have c11:=zaa (zaa e11 _ hxD);have c20:=zaa (zaa e20 _ hxD);have c21:=zaa (zaa e21 _ hxD)
      repeat' ((first
       |refine zaf rfl rfl ?_
       |refine zad rfl rfl ?_
       |refine zai rfl rfl ?_
       |refine zab rfl rfl ?_
       |(refine zae (v:=?_) rfl rfl (fun w' hE=>?_) ?_;rotate_left 1;(· ((try(have hEx:=Ext.trans (Hid.out XE) hE));go_simp;(try go_bits);with_reducible rfl)))
       |refine walks_alt ?_ ?_
       | (refine zah rfl rfl (fun K hK=>?_);go_wp2_with (fail);refine hK _ _ (by first | assumption | exact Ext.alloc _ _ | exact Ext.refl _) ?_;clear hK K));try simp only [Act.put,Act.eval,evs])
      refine zag ?_
      go_wp2
      go_ret
      exact⟨zar (decide_eq_false (fun e=>by subst e;exact Hx.out (Option.some.inj (Hg.out.1.symm.trans Hg.out.2)))),hx.out.trans hxD⟩
    ·have f1:=zch hn
     have Hx:Hid (x1≠x2):=fun e=>hn (by rw[e])
     clear hn
     go_wp2
     refine zac (.read 0 (.read 1 (.read 2 (.read 3 (.read 4 (.read 5 (.read 6 (.read 7 (.read 8 .done))))))))) (by kernel_rfl) (by kernel_rfl) ?_
     intro wD hxD
     have c10:=zaa (zaa e10 _ hxD);have c11:=zaa (zaa e11 _ hxD);have c20:=zaa (zaa e20 _ hxD);have c21:=zaa (zaa e21 _ hxD)
     repeat' ((first
      |refine zaf rfl rfl ?_
      |refine zad rfl rfl ?_
      |refine zai rfl rfl ?_
      |refine zab rfl rfl ?_
      |(refine zae (v:=?_) rfl rfl (fun w' hE=>?_) ?_;rotate_left 1;(· ((try(have hEx:=Ext.trans (Hid.out XE) hE));go_simp;(try go_bits);with_reducible rfl)))
      |refine walks_alt ?_ ?_
      | (refine zah rfl rfl (fun K hK=>?_);go_wp2_with (fail);refine hK _ _ (by first | assumption | exact Ext.alloc _ _ | exact Ext.refl _) ?_;clear hK K));try simp only [Act.put,Act.eval,evs])
     refine zag ?_
     go_wp2
     go_ret
     exact⟨zar (decide_eq_false (fun e=>by subst e;exact Hx.out (Option.some.inj (Hg.out.1.symm.trans Hg.out.2)))),hx.out.trans hxD⟩
   ·obtain rfl:j=n:=by omega
    go_wp2
    go_ret
    exact⟨zar (decide_eq_true (za7 hl.out kl2.out Htk.out)),hx.out⟩
 ·have hne:((n:Int) != (m:Int))=true:=by rw[bne_iff_ne];omega
  have hfin:Hid (decide (l=r)=false):=by
   refine decide_eq_false fun e=>?_
   subst e
   have:=hl.out
   have:=kl.out
   omega
  clear hnm
  go_enter Tryz.func20,Tryz.ntmps20
  go_wp2
  go_ret
  exact⟨zar hfin.out,Ext.refl w⟩
theorem ziE{S T:Nat→Prop}{A B:Option Addr}{n c m d:Nat}{l r:List CutR}{w:World}(h:Row Elem.cut S w A n c l)(k:Row Elem.cut T w B m d r) :
 Calls Tryz.prog 82 #[.slice A n c,.slice B m d] w fun e w'=>e=.returned (.bool (decide (l=r)))∧Ext w w':=by
 have hl:=hid h.len
 have kl:=hid k.len
 have hnl:n≤9223372036854775807:=by have:=h.cap;have:=h.most;simp only[maxLen] at this;omega
 have hml:m≤9223372036854775807:=by have:=k.cap;have:=k.most;simp only[maxLen] at this;omega
 have HH:=hid h
 have KK:=hid k
 clear h k
 by_cases hnm:n=m
 ·subst hnm
  have kl2:=kl
  clear kl
  go_enter Tryz.func82,Tryz.ntmps82
  go_wp2
  go_loopw [13] (fun i wr=>∃j:Nat,j≤n∧i=.int .i64 j∧Hid (l.take j=r.take j)∧Hid (Ext w wr)) (fun i _=>n-(intOf i).toNat)
  case atStart=>exact⟨0,by omega,rfl,by simp[Hid],Ext.refl w⟩
  case round=>
   obtain⟨j,hj,rfl,Htk,hx⟩:=hrel
   by_cases hlt:j<n
   ·obtain⟨b1,o1,v1,x1,rfl,g1,_,r1,q1⟩:=(HH.out.ext hx.out).at_ hlt
    obtain⟨b2,o2,v2,x2,rfl,g2,_,r2,q2⟩:=(KK.out.ext hx.out).at_ hlt
    cases r1
    cases r2
    have e10:=q1 0 _ rfl;have e11:=q1 1 _ rfl;have e20:=q2 0 _ rfl;have e21:=q2 1 _ rfl
    clear q1 q2
    simp only[Elem.cut,CutR.cells,Nat.add_zero] at e10 e11 e20 e21
    have Hg:=hid (And.intro g1 g2)
    clear g1 g2
    by_cases hn:x1.name=x2.name
    ·have f1:=zco hn
     by_cases hs:x1.server=x2.server
     ·have f2:(x1.server==x2.server)=true:=by rw[beq_iff_eq];exact hs
      have Hx:Hid (x1=x2):=cutr_eq.2 ⟨hn,hs⟩
      clear hn hs
      go_wp2
      refine zac (.read 0 (.read 1 (.read 2 (.read 3 (.read 4 (.read 5 (.read 6 (.read 7 (.read 8 .done))))))))) (by kernel_rfl) (by kernel_rfl) ?_
      intro wD hxD
      have c10:=zaa (zaa e10 _ hxD);have c11:=zaa (zaa e11 _ hxD);have c20:=zaa (zaa e20 _ hxD);have c21:=zaa (zaa e21 _ hxD)
      repeat' ((first
       |refine zaf rfl rfl ?_
       |refine zad rfl rfl ?_
       |refine zai rfl rfl ?_
       |refine zab rfl rfl ?_
       |(refine zae (v:=?_) rfl rfl (fun w' hE=>?_) ?_;rotate_left 1;(· ((try(have hEx:=Ext.trans (Hid.out XE) hE));go_simp;(try go_bits);with_reducible rfl)))
       |refine walks_alt ?_ ?_
       | (refine zah rfl rfl (fun K hK=>?_);go_wp2_with (fail);refine hK _ _ (by first | assumption | exact Ext.alloc _ _ | exact Ext.refl _) ?_;clear hK K));try simp only [Act.put,Act.eval,evs])
      refine zag ?_
      go_wp2
      refine⟨⟨j+1,by omega,by go_num,?_,hx.out.trans hxD⟩,by simp[intOf];omega⟩
      show _=_
      rw[List.take_add_one,List.take_add_one,Htk.out,Hg.out.1,Hg.out.2,Hx.out]
     ·have f2:(x1.server==x2.server)=false:=by rw[beq_eq_false_iff_ne];exact hs
      have Hx:Hid (x1≠x2):=fun e=>hs (by rw[e])
      clear hn hs
      go_wp2
      refine zac (.read 0 (.read 1 (.read 2 (.read 3 (.read 4 (.read 5 (.read 6 (.read 7 (.read 8 .done))))))))) (by kernel_rfl) (by kernel_rfl) ?_
      intro wD hxD
      have c10:=zaa (zaa e10 _ hxD);have c11:=zaa (zaa e11 _ hxD);have c20:=zaa (zaa e20 _ hxD);have c21:=zaa (zaa e21 _ hxD)
      repeat' ((first
       |refine zaf rfl rfl ?_
       |refine zad rfl rfl ?_
       |refine zai rfl rfl ?_
       |refine zab rfl rfl ?_
       |(refine zae (v:=?_) rfl rfl (fun w' hE=>?_) ?_;rotate_left 1;(· ((try(have hEx:=Ext.trans (Hid.out XE) hE));go_simp;(try go_bits);with_reducible rfl)))
       |refine walks_alt ?_ ?_
       | (refine zah rfl rfl (fun K hK=>?_);go_wp2_with (fail);refine hK _ _ (by first | assumption | exact Ext.alloc _ _ | exact Ext.refl _) ?_;clear hK K));try simp only [Act.put,Act.eval,evs])
      refine zag ?_
      go_wp2
      go_ret
      exact⟨zar (decide_eq_false (fun e=>by subst e;exact Hx.out (Option.some.inj (Hg.out.1.symm.trans Hg.out.2)))),hx.out.trans hxD⟩
    ·have f1:=zch hn
     have Hx:Hid (x1≠x2):=fun e=>hn (by rw[e])
     clear hn
     go_wp2
     refine zac (.read 0 (.read 1 (.read 2 (.read 3 (.read 4 (.read 5 (.read 6 (.read 7 (.read 8 .done))))))))) (by kernel_rfl) (by kernel_rfl) ?_
     intro wD hxD
     have c10:=zaa (zaa e10 _ hxD);have c11:=zaa (zaa e11 _ hxD);have c20:=zaa (zaa e20 _ hxD);have c21:=zaa (zaa e21 _ hxD)
     repeat' ((first
      |refine zaf rfl rfl ?_
      |refine zad rfl rfl ?_
      |refine zai rfl rfl ?_
      |refine zab rfl rfl ?_
      |(refine zae (v:=?_) rfl rfl (fun w' hE=>?_) ?_;rotate_left 1;(· ((try(have hEx:=Ext.trans (Hid.out XE) hE));go_simp;(try go_bits);with_reducible rfl)))
      |refine walks_alt ?_ ?_
      | (refine zah rfl rfl (fun K hK=>?_);go_wp2_with (fail);refine hK _ _ (by first | assumption | exact Ext.alloc _ _ | exact Ext.refl _) ?_;clear hK K));try simp only [Act.put,Act.eval,evs])
     refine zag ?_
     go_wp2
     go_ret
     exact⟨zar (decide_eq_false (fun e=>by subst e;exact Hx.out (Option.some.inj (Hg.out.1.symm.trans Hg.out.2)))),hx.out.trans hxD⟩
   ·obtain rfl:j=n:=by omega
    go_wp2
    go_ret
    exact⟨zar (decide_eq_true (za7 hl.out kl2.out Htk.out)),hx.out⟩
 ·have hne:((n:Int) != (m:Int))=true:=by rw[bne_iff_ne];omega
  have hfin:Hid (decide (l=r)=false):=by
   refine decide_eq_false fun e=>?_
   subst e
   have:=hl.out
   have:=kl.out
   omega
  clear hnm
  go_enter Tryz.func82,Tryz.ntmps82
  go_wp2
  go_ret
  exact⟨zar hfin.out,Ext.refl w⟩
theorem znp{S T:Nat→Prop}{A B:Option Addr}{n c m d:Nat}{l r:List (Cxt)}{w:World}(h:Row Elem.cxt S w A n c l)(k:Row Elem.cxt T w B m d r)
 (HEQ:∀(x1 x2:Cxt) A1 n1 c1 B1 m1 d1 A2 n2 c2 B2 m2 d2 w',Ext w w'→Row Elem.ent S w' A1 n1 c1 x1.ents→Row Elem.cut S w' B1 m1 d1 x1.subs→Row Elem.ent T w' A2 n2 c2 x2.ents→Row Elem.cut T w' B2 m2 d2 x2.subs→Calls Tryz.prog 86 #[.agg #[.string x1.name,.slice A1 n1 c1,.slice B1 m1 d1],.agg #[.string x2.name,.slice A2 n2 c2,.slice B2 m2 d2]] w' fun e w''=>e=.returned (.bool (decide (x1=x2)))∧Ext w' w'') :
 Calls Tryz.prog 85 #[.slice A n c,.slice B m d,.func (.func 86) #[] #[]] w fun e w'=>e=.returned (.bool (decide (l=r)))∧Ext w w':=by
 have hl:=hid h.len
 have kl:=hid k.len
 have hnl:n≤9223372036854775807:=by have:=h.cap;have:=h.most;simp only[maxLen] at this;omega
 have hml:m≤9223372036854775807:=by have:=k.cap;have:=k.most;simp only[maxLen] at this;omega
 have HH:=hid h
 have KK:=hid k
 clear h k
 by_cases hnm:n=m
 ·subst hnm
  have kl2:=kl
  clear kl
  go_enter Tryz.func85,Tryz.ntmps85
  go_wp2
  go_loopw [17] (fun i wr=>∃j:Nat,j≤n∧i=.int .i64 j∧Hid (l.take j=r.take j)∧Hid (Ext w wr)) (fun i _=>n-(intOf i).toNat)
  case atStart=>exact⟨0,by omega,rfl,by simp[Hid],Ext.refl w⟩
  case round=>
   obtain⟨j,hj,rfl,Htk,hx⟩:=hrel
   by_cases hlt:j<n
   ·obtain⟨b1,o1,v1,x1,rfl,g1,_,⟨A1,n1,c1,B1,m1,d1,rfl,r1,s1⟩,q1⟩:=(HH.out.ext hx.out).at_ hlt
    obtain⟨b2,o2,v2,x2,rfl,g2,_,⟨A2,n2,c2,B2,m2,d2,rfl,r2,s2⟩,q2⟩:=(KK.out.ext hx.out).at_ hlt
    have e1:=q1;have e2:=q2
    simp only[Elem.cxt,Nat.add_zero] at e1 e2
    have e10:=e1 0 _ rfl
    have d20:=zaa (e2 0 _ rfl) _ (Ext.alloc wr (.cells #[.string x1.name,.slice A1 n1 c1,.slice B1 m1 d1] 72))
    try have e11:=e1 1 _ rfl
    try have d21:=zaa (e2 1 _ rfl) _ (Ext.alloc wr (.cells #[.string x1.name,.slice A1 n1 c1,.slice B1 m1 d1] 72))
    try have e12:=e1 2 _ rfl
    try have d22:=zaa (e2 2 _ rfl) _ (Ext.alloc wr (.cells #[.string x1.name,.slice A1 n1 c1,.slice B1 m1 d1] 72))
    try simp only[Nat.add_zero] at e10 d20
    have Hg:=hid (And.intro g1 g2)
    clear g1 g2 q1 q2 e1 e2
    have HSM:∀w',Ext wr w'→Calls Tryz.prog 86 #[.agg #[.string x1.name,.slice A1 n1 c1,.slice B1 m1 d1],.agg #[.string x2.name,.slice A2 n2 c2,.slice B2 m2 d2]] w' fun e w''=>e=.returned (.bool (decide (x1=x2)))∧Ext w' w'':=fun w' hx'=>HEQ x1 x2 A1 n1 c1 B1 m1 d1 A2 n2 c2 B2 m2 d2 w' (hx.out.trans hx') (r1.ext hx') (s1.ext hx') (r2.ext hx') (s2.ext hx')
    clear r1 r2 s1 s2 HEQ
    by_cases hv:x1=x2
    ·have Hx:=hid hv
     rw[decide_eq_true hv] at HSM
     clear hv
     go_wp2_with(go_at_call 86;(with_reducible refine(HSM _ ((Ext.alloc _ _).trans (Ext.alloc _ _))).mono ?_);rintro e w1 ⟨rfl,hx1⟩;have HX1:=hid (hx.out.trans (((Ext.alloc _ _).trans (Ext.alloc _ _)).trans hx1));clear hx1)
     refine⟨⟨j+1,by omega,by go_num,?_,HX1.out⟩,by simp[intOf];omega⟩
     show _=_
     rw[List.take_add_one,List.take_add_one,Htk.out,Hg.out.1,Hg.out.2,Hx.out]
    ·have Hx:=hid hv
     rw[decide_eq_false hv] at HSM
     clear hv
     go_wp2_with(go_at_call 86;(with_reducible refine(HSM _ ((Ext.alloc _ _).trans (Ext.alloc _ _))).mono ?_);rintro e w1 ⟨rfl,hx1⟩;have HX1:=hid (hx.out.trans (((Ext.alloc _ _).trans (Ext.alloc _ _)).trans hx1));clear hx1)
     go_ret
     exact⟨zar (decide_eq_false (fun e=>by subst e;exact Hx.out (Option.some.inj (Hg.out.1.symm.trans Hg.out.2)))),HX1.out⟩
   ·obtain rfl:j=n:=by omega
    go_wp2
    go_ret
    exact⟨zar (decide_eq_true (za7 hl.out kl2.out Htk.out)),hx.out⟩
 ·have hne:((n:Int) != (m:Int))=true:=by rw[bne_iff_ne];omega
  have hfin:Hid (decide (l=r)=false):=by
   refine decide_eq_false fun e=>?_
   subst e
   have:=hl.out
   have:=kl.out
   omega
  clear hnm
  go_enter Tryz.func85,Tryz.ntmps85
  go_wp2
  go_ret
  exact⟨zar hfin.out,Ext.refl w⟩
theorem znI{S T:Nat→Prop}{A B:Option Addr}{n c m d:Nat}{l r:List (List Cxt)}{w:World}(h:Row Elem.srw S w A n c l)(k:Row Elem.srw T w B m d r)
 (HEQ:∀(x1 x2:List Cxt) A1 n1 c1 A2 n2 c2 w',Ext w w'→Row Elem.cxt S w' A1 n1 c1 x1→Row Elem.cxt T w' A2 n2 c2 x2→Calls Tryz.prog 84 #[.agg #[.slice A1 n1 c1],.agg #[.slice A2 n2 c2]] w' fun e w''=>e=.returned (.bool (decide (x1=x2)))∧Ext w' w'') :
 Calls Tryz.prog 83 #[.slice A n c,.slice B m d,.func (.func 84) #[] #[]] w fun e w'=>e=.returned (.bool (decide (l=r)))∧Ext w w':=by
 have hl:=hid h.len
 have kl:=hid k.len
 have hnl:n≤9223372036854775807:=by have:=h.cap;have:=h.most;simp only[maxLen] at this;omega
 have hml:m≤9223372036854775807:=by have:=k.cap;have:=k.most;simp only[maxLen] at this;omega
 have HH:=hid h
 have KK:=hid k
 clear h k
 by_cases hnm:n=m
 ·subst hnm
  have kl2:=kl
  clear kl
  go_enter Tryz.func83,Tryz.ntmps83
  go_wp2
  go_loopw [17] (fun i wr=>∃j:Nat,j≤n∧i=.int .i64 j∧Hid (l.take j=r.take j)∧Hid (Ext w wr)) (fun i _=>n-(intOf i).toNat)
  case atStart=>exact⟨0,by omega,rfl,by simp[Hid],Ext.refl w⟩
  case round=>
   obtain⟨j,hj,rfl,Htk,hx⟩:=hrel
   by_cases hlt:j<n
   ·obtain⟨b1,o1,v1,x1,rfl,g1,_,⟨A1,n1,c1,rfl,r1⟩,q1⟩:=(HH.out.ext hx.out).at_ hlt
    obtain⟨b2,o2,v2,x2,rfl,g2,_,⟨A2,n2,c2,rfl,r2⟩,q2⟩:=(KK.out.ext hx.out).at_ hlt
    have e1:=q1;have e2:=q2
    simp only[Elem.srw,Elem.slc,Nat.mul_one,Nat.add_zero] at e1 e2
    have e10:=e1 0 _ rfl
    have d20:=zaa (e2 0 _ rfl) _ (Ext.alloc wr (.cells #[.slice A1 n1 c1] 78))
    try have e11:=e1 1 _ rfl
    try have d21:=zaa (e2 1 _ rfl) _ (Ext.alloc wr (.cells #[.slice A1 n1 c1] 78))
    try have e12:=e1 2 _ rfl
    try have d22:=zaa (e2 2 _ rfl) _ (Ext.alloc wr (.cells #[.slice A1 n1 c1] 78))
    try simp only[Nat.add_zero] at e10 d20
    have Hg:=hid (And.intro g1 g2)
    clear g1 g2 q1 q2 e1 e2
    have HSM:∀w',Ext wr w'→Calls Tryz.prog 84 #[.agg #[.slice A1 n1 c1],.agg #[.slice A2 n2 c2]] w' fun e w''=>e=.returned (.bool (decide (x1=x2)))∧Ext w' w'':=fun w' hx'=>HEQ x1 x2 A1 n1 c1 A2 n2 c2 w' (hx.out.trans hx') (r1.ext hx') (r2.ext hx')
    clear r1 r2 HEQ
    by_cases hv:x1=x2
    ·have Hx:=hid hv
     rw[decide_eq_true hv] at HSM
     clear hv
     go_wp2_with(go_at_call 84;(with_reducible refine(HSM _ ((Ext.alloc _ _).trans (Ext.alloc _ _))).mono ?_);rintro e w1 ⟨rfl,hx1⟩;have HX1:=hid (hx.out.trans (((Ext.alloc _ _).trans (Ext.alloc _ _)).trans hx1));clear hx1)
     refine⟨⟨j+1,by omega,by go_num,?_,HX1.out⟩,by simp[intOf];omega⟩
     show _=_
     rw[List.take_add_one,List.take_add_one,Htk.out,Hg.out.1,Hg.out.2,Hx.out]
    ·have Hx:=hid hv
     rw[decide_eq_false hv] at HSM
     clear hv
     go_wp2_with(go_at_call 84;(with_reducible refine(HSM _ ((Ext.alloc _ _).trans (Ext.alloc _ _))).mono ?_);rintro e w1 ⟨rfl,hx1⟩;have HX1:=hid (hx.out.trans (((Ext.alloc _ _).trans (Ext.alloc _ _)).trans hx1));clear hx1)
     go_ret
     exact⟨zar (decide_eq_false (fun e=>by subst e;exact Hx.out (Option.some.inj (Hg.out.1.symm.trans Hg.out.2)))),HX1.out⟩
   ·obtain rfl:j=n:=by omega
    go_wp2
    go_ret
    exact⟨zar (decide_eq_true (za7 hl.out kl2.out Htk.out)),hx.out⟩
 ·have hne:((n:Int) != (m:Int))=true:=by rw[bne_iff_ne];omega
  have hfin:Hid (decide (l=r)=false):=by
   refine decide_eq_false fun e=>?_
   subst e
   have:=hl.out
   have:=kl.out
   omega
  clear hnm
  go_enter Tryz.func83,Tryz.ntmps83
  go_wp2
  go_ret
  exact⟨zar hfin.out,Ext.refl w⟩
theorem zlo{S T:Nat→Prop}{x y:Cxt}{A B:Option Addr}{n c m d:Nat}{A' B':Option Addr}{n' c' m' d':Nat}{w:World}(h:Row Elem.ent S w A n c x.ents)(hs:Row Elem.cut S w B m d x.subs)(k:Row Elem.ent T w A' n' c' y.ents)(ks:Row Elem.cut T w B' m' d' y.subs) :
 Calls Tryz.prog 86 #[.agg #[.string x.name,.slice A n c,.slice B m d],.agg #[.string y.name,.slice A' n' c',.slice B' m' d']] w fun e w'=>e=.returned (.bool (decide (x=y)))∧Ext w w':=by
 have HSC:∀w',Ext w w'→Calls Tryz.prog 82 #[.slice B m d,.slice B' m' d'] w' fun e w''=>e=.returned (.bool (decide (x.subs=y.subs)))∧Ext w' w'':=fun w' hx=>ziE (hs.ext hx) (ks.ext hx)
 have HSE:∀w',Ext w w'→Calls Tryz.prog 87 #[.slice A n c,.slice A' n' c',.func (.func 88) #[] #[]] w' fun e w''=>e=.returned (.bool (decide (x.ents=y.ents)))∧Ext w' w'':=fun w' hx=>zly (h.ext hx) (k.ext hx) fun x y A1 n1 c1 A2 n2 c2 w' _ h1 h2=>zk4 h1 h2
 have HB1:=hid ((Bx.make (Ext.refl w) #[.string x.name,.slice A n c,.slice B m d] 72).later (Ext.alloc _ (.cells #[.string y.name,.slice A' n' c',.slice B' m' d'] 72)))
 have HB2:=hid (Bx.make (Ext.alloc w (.cells #[.string x.name,.slice A n c,.slice B m d] 72)) #[.string y.name,.slice A' n' c',.slice B' m' d'] 72)
 rw[show(w.alloc (.cells #[.string x.name,.slice A n c,.slice B m d] 72)).heap.size=w.heap.size+1 by simp] at HB2
 have P1:=hid (HB1.out.cell (i:=1) rfl)
 have Q1:=hid (HB2.out.cell (i:=1) rfl)
 clear h hs k ks HB1 HB2
 by_cases hn:x.name=y.name
 ·have f1:=zco hn
  by_cases hs:x.subs=y.subs
  ·rw[decide_eq_true hs] at HSC
   by_cases he:x.ents=y.ents
   ·rw[decide_eq_true he] at HSE
    have Hx:Hid (x=y):=cxt_eq.2 ⟨hn,he,hs⟩
    clear hn he hs
    go_enter Tryz.func86,Tryz.ntmps86
    go_wp2_with (first
     |(go_at_call 82;(with_reducible refine(HSC _ ((Ext.alloc _ _).trans (Ext.alloc _ _))).mono ?_);rintro e w1 ⟨rfl,hx1⟩;have HX1:=hid (((Ext.alloc _ _).trans (Ext.alloc _ _)).trans hx1);have t0:=zaa P1.out _ hx1;have t1:=zaa Q1.out _ hx1;clear hx1)
     | (go_at_call 87;(with_reducible refine (HSE _ HX1.out).mono ?_);rintro e w2 ⟨rfl,hx2⟩;have HX2:=hid (HX1.out.trans hx2);clear hx2))
    go_ret
    exact⟨zar (decide_eq_true Hx.out),HX2.out⟩
   ·rw[decide_eq_false he] at HSE
    have Hx:Hid (x≠y):=fun e=>he (by rw[e])
    clear hn he hs
    go_enter Tryz.func86,Tryz.ntmps86
    go_wp2_with (first
     |(go_at_call 82;(with_reducible refine(HSC _ ((Ext.alloc _ _).trans (Ext.alloc _ _))).mono ?_);rintro e w1 ⟨rfl,hx1⟩;have HX1:=hid (((Ext.alloc _ _).trans (Ext.alloc _ _)).trans hx1);have t0:=zaa P1.out _ hx1;have t1:=zaa Q1.out _ hx1;clear hx1)
     | (go_at_call 87;(with_reducible refine (HSE _ HX1.out).mono ?_);rintro e w2 ⟨rfl,hx2⟩;have HX2:=hid (HX1.out.trans hx2);clear hx2))
    go_ret
    exact⟨zar (decide_eq_false Hx.out),HX2.out⟩
  ·rw[decide_eq_false hs] at HSC
   have Hx:Hid (x≠y):=fun e=>hs (by rw[e])
   clear hn hs
   go_enter Tryz.func86,Tryz.ntmps86
   go_wp2_with (first
    |(go_at_call 82;(with_reducible refine(HSC _ ((Ext.alloc _ _).trans (Ext.alloc _ _))).mono ?_);rintro e w1 ⟨rfl,hx1⟩;have HX1:=hid (((Ext.alloc _ _).trans (Ext.alloc _ _)).trans hx1);have t0:=zaa P1.out _ hx1;have t1:=zaa Q1.out _ hx1;clear hx1)
    | (go_at_call 87;(with_reducible refine (HSE _ HX1.out).mono ?_);rintro e w2 ⟨rfl,hx2⟩;have HX2:=hid (HX1.out.trans hx2);clear hx2))
   go_ret
   exact⟨zar (decide_eq_false Hx.out),HX1.out⟩
 ·have f1:=zch hn
  have Hx:Hid (x≠y):=fun e=>hn (by rw[e])
  clear hn
  go_enter Tryz.func86,Tryz.ntmps86
  go_wp2
  go_ret
  exact⟨zar (decide_eq_false Hx.out),(Ext.alloc _ _).trans (Ext.alloc _ _)⟩
theorem zlL{S T:Nat→Prop}{x y:List Cxt}{A:Option Addr}{n c:Nat}{A':Option Addr}{n' c':Nat}{w:World}(h:Row Elem.cxt S w A n c x)(k:Row Elem.cxt T w A' n' c' y) :
 Calls Tryz.prog 84 #[.agg #[.slice A n c],.agg #[.slice A' n' c']] w fun e w'=>e=.returned (.bool (decide (x=y)))∧Ext w w':=by
 have HSE:∀w',Ext w w'→Calls Tryz.prog 85 #[.slice A n c,.slice A' n' c',.func (.func 86) #[] #[]] w' fun e w''=>e=.returned (.bool (decide (x=y)))∧Ext w' w'':=fun w' hx=>znp (h.ext hx) (k.ext hx) fun x1 x2 A1 n1 c1 B1 m1 d1 A2 n2 c2 B2 m2 d2 w' _ h1 h2 h3 h4=>zlo h1 h2 h3 h4
 clear h k
 generalize decide (x=y)=q at*
 go_enter Tryz.func84,Tryz.ntmps84
 go_wp2_with(go_at_call 85;(with_reducible refine(HSE _ ((Ext.alloc _ _).trans (Ext.alloc _ _))).mono ?_);rintro e w1 ⟨rfl,hx1⟩;have HX1:=hid (((Ext.alloc _ _).trans (Ext.alloc _ _)).trans hx1);clear hx1)
 go_ret
 exact⟨rfl,HX1.out⟩
theorem zpk{S T:Nat→Prop}{w:World}{A:Option Addr}{n c:Nat}{B:Option Addr}{m d:Nat}{s:List (List Cxt)}{t:List CutR}{A':Option Addr}{n' c':Nat}{B':Option Addr}{m' d':Nat}{s':List (List Cxt)}{t':List CutR}(h:CfgAt S w A n c B m d s t)(k:CfgAt T w A' n' c' B' m' d' s' t') :
 Calls Tryz.prog 42 #[.agg #[.slice A n c,.slice B m d],.agg #[.slice A' n' c',.slice B' m' d']] w fun e w'=>e=.returned (.bool (decide (s=s'∧t=t')))∧Ext w w':=by
 have HSC:∀w',Ext w w'→Calls Tryz.prog 82 #[.slice B m d,.slice B' m' d'] w' fun e w''=>e=.returned (.bool (decide (t=t')))∧Ext w' w'':=fun w' hx=>ziE (h.top.ext hx) (k.top.ext hx)
 have HSE:∀w',Ext w w'→Calls Tryz.prog 83 #[.slice A n c,.slice A' n' c',.func (.func 84) #[] #[]] w' fun e w''=>e=.returned (.bool (decide (s=s')))∧Ext w' w'':=fun w' hx=>znI (h.srv.ext hx) (k.srv.ext hx) fun x1 x2 A1 n1 c1 A2 n2 c2 w' _ h1 h2=>zlL h1 h2
 have HB1:=hid ((Bx.make (Ext.refl w) #[.slice A n c,.slice B m d] 29).later (Ext.alloc _ (.cells #[.slice A' n' c',.slice B' m' d'] 29)))
 have HB2:=hid (Bx.make (Ext.alloc w (.cells #[.slice A n c,.slice B m d] 29)) #[.slice A' n' c',.slice B' m' d'] 29)
 rw[show(w.alloc (.cells #[.slice A n c,.slice B m d] 29)).heap.size=w.heap.size+1 by simp] at HB2
 have P0:=hid (HB1.out.cell (i:=0) rfl)
 have Q0:=hid (HB2.out.cell (i:=0) rfl)
 clear h k HB1 HB2
 by_cases ht:t=t'
 ·rw[decide_eq_true ht] at HSC
  by_cases hs:s=s'
  ·rw[decide_eq_true hs] at HSE
   have Hx:Hid (s=s'∧t=t'):=⟨hs,ht⟩
   clear hs ht
   go_enter Tryz.func42,Tryz.ntmps42
   go_wp2_with (first
    |(go_at_call 82;(with_reducible refine(HSC _ ((Ext.alloc _ _).trans (Ext.alloc _ _))).mono ?_);rintro e w1 ⟨rfl,hx1⟩;have HX1:=hid (((Ext.alloc _ _).trans (Ext.alloc _ _)).trans hx1);have t0:=zaa P0.out _ hx1;have t1:=zaa Q0.out _ hx1;clear hx1)
    | (go_at_call 83;(with_reducible refine (HSE _ HX1.out).mono ?_);rintro e w2 ⟨rfl,hx2⟩;have HX2:=hid (HX1.out.trans hx2);clear hx2))
   go_ret
   exact⟨zar (decide_eq_true Hx.out),HX2.out⟩
  ·rw[decide_eq_false hs] at HSE
   have Hx:Hid (¬(s=s'∧t=t')):=fun e=>hs e.1
   clear hs ht
   go_enter Tryz.func42,Tryz.ntmps42
   go_wp2_with (first
    |(go_at_call 82;(with_reducible refine(HSC _ ((Ext.alloc _ _).trans (Ext.alloc _ _))).mono ?_);rintro e w1 ⟨rfl,hx1⟩;have HX1:=hid (((Ext.alloc _ _).trans (Ext.alloc _ _)).trans hx1);have t0:=zaa P0.out _ hx1;have t1:=zaa Q0.out _ hx1;clear hx1)
    | (go_at_call 83;(with_reducible refine (HSE _ HX1.out).mono ?_);rintro e w2 ⟨rfl,hx2⟩;have HX2:=hid (HX1.out.trans hx2);clear hx2))
   go_ret
   exact⟨zar (decide_eq_false Hx.out),HX2.out⟩
 ·rw[decide_eq_false ht] at HSC
  have Hx:Hid (¬(s=s'∧t=t')):=fun e=>ht e.2
  clear ht
  go_enter Tryz.func42,Tryz.ntmps42
  go_wp2_with (first
   |(go_at_call 82;(with_reducible refine(HSC _ ((Ext.alloc _ _).trans (Ext.alloc _ _))).mono ?_);rintro e w1 ⟨rfl,hx1⟩;have HX1:=hid (((Ext.alloc _ _).trans (Ext.alloc _ _)).trans hx1);have t0:=zaa P0.out _ hx1;have t1:=zaa Q0.out _ hx1;clear hx1)
   | (go_at_call 83;(with_reducible refine (HSE _ HX1.out).mono ?_);rintro e w2 ⟨rfl,hx2⟩;have HX2:=hid (HX1.out.trans hx2);clear hx2))
  go_ret
  exact⟨zar (decide_eq_false Hx.out),HX1.out⟩
end
section
theorem zmA{α:Type}(a:α)(k:Nat)(g:Nat→List α):∀R:List Nat,R.Nodup→k∈R→(R.flatMap fun i=>if k=i then a::g i else g i).Perm (a::R.flatMap g)
 |[],_,h=>by simp at h
 |r::R,hd,h=>by
  obtain⟨h1,h2⟩:=List.nodup_cons.1 hd
  rw[List.flatMap_cons,List.flatMap_cons]
  by_cases hk:k=r
  ·subst hk
   rw[if_pos rfl]
   have e:(R.flatMap fun i=>if k=i then a::g i else g i)=R.flatMap g:=by
    rw[List.flatMap_def,List.flatMap_def]
    congr 1
    refine List.map_congr_left fun i hi=>?_
    rw[if_neg (fun e:k=i=>h1 (e ▸ hi))]
   rw[e]
   exact List.Perm.refl _
  ·rw[if_neg hk]
   rcases List.mem_cons.1 h with h|h
   ·exact absurd h hk
   ·exact((zmA a k g R h2 h).append_left _).trans List.perm_middle
theorem zf8{α:Type}(key:α→Nat)(N:Nat):∀l:List α,(∀x∈l,key x<N)→((List.range N).flatMap fun i=>l.filter fun x=>decide (key x=i)).Perm l
 |[],_=>by
  have:∀R:List Nat,(R.flatMap fun i=>([]:List α).filter fun x=>decide (key x=i))=[]:=fun R=>by simp
  rw[this]
 |a::l,h=>by
  have e:((List.range N).flatMap fun i=>(a::l).filter fun x=>decide (key x=i))=(List.range N).flatMap fun i=>if key a=i then a::(l.filter fun x=>decide (key x=i)) else l.filter fun x=>decide (key x=i):=by
   congr 1
   funext i
   rw[List.filter_cons]
   by_cases hk:key a=i
   ·rw[if_pos (decide_eq_true hk),if_pos hk]
   ·rw[if_neg (by simpa using hk),if_neg hk]
  rw[e]
  exact(zmA a (key a) _ _ List.nodup_range (List.mem_range.2 (h a (List.mem_cons_self ..)))).trans ((zf8 key N l fun x hx=>h x (List.mem_cons_of_mem _ hx)).cons a)
def zbj(s:List (List Cxt)):List Ent:=s.flatMap fun x=>x.flatMap (·.ents)
def zdU(i:Nat)(x:List Cxt):List CutR:=x.map fun y=>⟨y.name,(i:Int)⟩
def zbf(s:List (List Cxt)):List CutR:=s.zipIdx.flatMap fun p=>zdU p.2 p.1
theorem ziF{s:List (List Cxt)}{j:Nat}{x:List Cxt}(h:s[j]?=some x):zbj (s.take (j+1))=zbj (s.take j)++x.flatMap (·.ents):=by
 unfold zbj
 rw[List.take_add_one,h,List.flatMap_append]
 simp
theorem ziA{s:List (List Cxt)}{j:Nat}{x:List Cxt}(h:s[j]?=some x):zbf (s.take (j+1))=zbf (s.take j)++zdU j x:=by
 have hj:(s.take j).length=j:=by rw[List.length_take];have:=(List.getElem?_eq_some_iff.1 h).1;omega
 unfold zbf
 rw[List.take_add_one,h,List.zipIdx_append,List.flatMap_append]
 simp[hj,List.zipIdx]
section
variable {L:List Ent}{Q:List CutR}{N:Nat}
def zn8(Q:List CutR)(i:Nat):Nat:=(((Q[i]?).map (·.server)).getD (-1)).toNat
theorem znK(hv:∀c∈Q,0≤c.server∧c.server<(N:Int))(s:Nat):((List.range Q.length).filter fun i=>decide (((Q[i]?).map (·.server)).getD (-1)=(s:Int)))=(List.range Q.length).filter fun i=>decide (zn8 Q i=s):=by
 refine List.filter_congr fun i hi=>?_
 have hil:=List.mem_range.1 hi
 have:=hv Q[i] (List.getElem_mem hil)
 unfold zn8
 rw[List.getElem?_eq_getElem hil]
 simp only[Option.map_some,Option.getD_some]
 congr 1
 exact propext ⟨fun h=>by omega,fun h=>by omega⟩
theorem zoO(hv:∀c∈Q,0≤c.server∧c.server<(N:Int)):((List.range N).flatMap fun s=>(List.range Q.length).filter fun i=>decide (((Q[i]?).map (·.server)).getD (-1)=((s:Nat):Int))).Perm (List.range Q.length):=by
 have e:((List.range N).flatMap fun s=>(List.range Q.length).filter fun i=>decide (((Q[i]?).map (·.server)).getD (-1)=((s:Nat):Int)))=(List.range N).flatMap fun s=>(List.range Q.length).filter fun i=>decide (zn8 Q i=s):=by
  congr 1
  funext s
  exact znK hv s
 rw[e]
 refine zf8 (zn8 Q) N _ fun i hi=>?_
 have hil:=List.mem_range.1 hi
 have:=hv Q[i] (List.getElem_mem hil)
 unfold zn8
 rw[List.getElem?_eq_getElem hil]
 simp only[Option.map_some,Option.getD_some]
 omega
theorem zlM(hv:∀c∈Q,0≤c.server∧c.server<(N:Int))(hd:∀e∈L,∃i:Nat,zdB Q (nmE e)=(i:Int)∧i<Q.length):(zbj (zaS L Q N)).Perm L:=by
 have e:zbj (zaS L Q N)=((List.range N).flatMap fun s=>(List.range Q.length).filter fun i=>decide (((Q[i]?).map (·.server)).getD (-1)=((s:Nat):Int))).flatMap fun i=>ctxE L Q i:=by
  unfold zbj zaS srvF
  rw[List.flatMap_map,List.flatMap_assoc]
  congr 1
  funext s
  rw[List.flatMap_map]
  rfl
 rw[e]
 refine((zoO hv).flatMap_right _).trans ?_
 have e2:((List.range Q.length).flatMap fun i=>ctxE L Q i)=(List.range Q.length).flatMap fun i=>L.filter fun x=>decide ((zdB Q (nmE x)).toNat=i):=by
  congr 1
  funext i
  unfold ctxE
  refine List.filter_congr fun x hx=>?_
  obtain⟨k,h1,-⟩:=hd x hx
  rw[h1]
  congr 1
  exact propext ⟨fun h=>by omega,fun h=>by omega⟩
 rw[e2]
 refine zf8 (fun x=>(zdB Q (nmE x)).toNat) Q.length L fun x hx=>?_
 obtain⟨k,h1,h2⟩:=hd x hx
 show(zdB Q (nmE x)).toNat<_
 rw[h1]
 exact h2
theorem zls(hv:∀c∈Q,0≤c.server∧c.server<(N:Int)):(zbf (zaS L Q N)).Perm Q:=by
 have ez:(zaS L Q N).zipIdx=(List.range N).map fun s=>(srvF L Q s,s):=by
  unfold zaS
  refine List.ext_getElem? fun i=>?_
  rw[List.getElem?_zipIdx,List.getElem?_map,List.getElem?_map]
  by_cases hi:i<N
  ·rw[List.getElem?_range hi];simp
  ·rw[List.getElem?_eq_none (by rw[List.length_range];omega)];rfl
 have e:zbf (zaS L Q N)=((List.range N).flatMap fun s=>(List.range Q.length).filter fun i=>decide (((Q[i]?).map (·.server)).getD (-1)=((s:Nat):Int))).map fun i=>(Q[i]?).getD ⟨ByteArray.empty,0⟩:=by
  unfold zbf
  rw[ez,List.flatMap_map,List.map_flatMap]
  congr 1
  funext s
  unfold zdU srvF
  rw[List.map_map]
  refine List.map_congr_left fun i hi=>?_
  obtain⟨h1,h2⟩:=List.mem_filter.1 hi
  have hil:=List.mem_range.1 h1
  rw[List.getElem?_eq_getElem hil] at h2 ⊢
  have h3:Q[i].server=(s:Int):=by simpa using h2
  show(⟨nmAt Q i,(s:Int)⟩:CutR)=Q[i]
  unfold nmAt
  rw[List.getElem?_eq_getElem hil,←h3]
  rfl
 rw[e]
 refine((zoO hv).map _).trans ?_
 have:((List.range Q.length).map fun i=>(Q[i]?).getD ⟨ByteArray.empty,0⟩)=Q:=by
  refine List.ext_getElem? fun i=>?_
  rw[List.getElem?_map]
  by_cases hi:i<Q.length
  ·rw[List.getElem?_range hi,Option.map_some,List.getElem?_eq_getElem hi];rfl
  ·rw[List.getElem?_eq_none (by rw[List.length_range];omega),List.getElem?_eq_none (by omega)];rfl
 rw[this]
end
theorem znh{l l':List Ent}(ha:Apart nmE l)(hp:l'.Perm l)(p:ByteArray):zc0 l' p=zc0 l p:=by
 unfold zc0
 cases h:l.find? (fun e=>decide (e.name=p)) with
 |none=>
  rw[List.find?_eq_none] at h ⊢
  exact fun x hx=>h x (hp.mem_iff.1 hx)
 |some e=>
  have h1:=List.mem_of_find?_eq_some h
  have h2':=List.find?_some h
  have h2:=of_decide_eq_true h2'
  cases h':l'.find? (fun e=>decide (e.name=p)) with
  |none=>
   have:=List.find?_eq_none.1 h' e (hp.mem_iff.2 h1)
   simp[h2] at this
  |some e'=>
   have h3:=hp.mem_iff.1 (List.mem_of_find?_eq_some h')
   have h4':=List.find?_some h'
   have h4:=of_decide_eq_true h4'
   rw[ha.one h3 h1 (by unfold nmE;rw[h4,h2])]
theorem OkOf.perm{l l':List Ent}(h:OkOf l)(hp:l'.Perm l):OkOf l':=by
 have hN:=zcH h
 have ha':Apart nmE l':=hN.apart.perm hp
 refine⟨by rw[hp.length_eq];exact h.1,fun i e hi he=>⟨?_,?_⟩,fun e he=>?_⟩
 ·unfold zc0
  rw[List.find?_eq_none]
  intro x hx hn
  have hn':x.name=e.name:=of_decide_eq_true hn
  obtain⟨j,hj⟩:=List.getElem?_of_mem hx
  obtain⟨hjl,hje⟩:=List.getElem?_eq_some_iff.1 hj
  rw[List.length_take] at hjl
  rw[List.getElem_take] at hje
  obtain⟨hil,hie⟩:=List.getElem?_eq_some_iff.1 he
  have:=List.pairwise_iff_getElem.1 ha' j i (by omega) hil (by omega)
  rw[hje,hie] at this
  exact this (by unfold nmE;rw[hn'])
 ·obtain⟨k,hk⟩:=List.getElem?_of_mem (hp.mem_iff.1 (List.mem_of_getElem? he))
  exact(h.2.1 k e (List.getElem?_eq_some_iff.1 hk).1 hk).2
 ·have:=h.2.2 e (hp.mem_iff.1 he)
  unfold zdr at this ⊢
  rw[znh hN.apart hp]
  exact this
theorem RightOk.perm{l l':List Ent}{cs cs':List CutR}{n:Int}(h:RightOk l cs n)(hl:l'.Perm l)(hc:cs'.Perm cs):RightOk l' cs' n:=
 ⟨h.srv,by rw [hc.length_eq];exact h.few,fun c hcm=>by
  obtain⟨a,b,e,he,r⟩:=h.cut c (hc.mem_iff.1 hcm)
  exact⟨a,b,e,hl.mem_iff.2 he,r⟩,h.apart.perm hc,fun e he ht=>by
  obtain⟨c,h1,h2⟩:=h.top e (hl.mem_iff.1 he) ht
  exact ⟨c,hc.mem_iff.2 h1,h2⟩⟩
theorem zfD{α:Type}{f:α→List UInt8}{l l':List α}(hn:∀x∈l,zbZ (f x)=true)(ha:Apart f l)(hp:l'.Perm l):sortN f l'=sortN f l:=by
 obtain⟨h1,h2⟩:=zbo (f:=f) (l:=l') (fun x hx=>hn x (hp.mem_iff.1 hx)) (ha.perm hp)
 exact zcL hn ha (h1.trans hp) h2
theorem zif{l:List Ent}{cs:List CutR}{sv:Int}{N:Nat}(hok:OkOf l)(hr:RightOk l cs sv)(hNs:N=sv.toNat) :
 (zbj (zaS (sortN nmE l) (sortN nmQ cs) N)).Perm l∧(zbf (zaS (sortN nmE l) (sortN nmQ cs) N)).Perm cs:=by
 have hN:=zcH hok
 have h1:=(zbo (f:=nmE) hN.self hN.apart).1
 have h2:=(zbo (f:=nmQ) (hr.self hN) hr.apart).1
 have hv:∀c∈sortN nmQ cs,0≤c.server∧c.server<(N:Int):=fun c hc=>by
  have h3:=hr.cut c (h2.mem_iff.1 hc)
  have h4:=hr.srv
  exact⟨h3.1,by have:=h3.2.1;omega⟩
 refine⟨(zlM hv fun e he=>?_).trans h1,(zls hv).trans h2⟩
 obtain⟨c,hc,hu⟩:=zrn hok hr e (h1.mem_iff.1 he)
 rcases zl8 (sortN nmQ cs) (nmE e) with⟨-,h⟩|⟨k,d,e1,g1,-,-⟩
 ·rw[h c (h2.mem_iff.2 hc)] at hu;cases hu
 ·exact⟨k,e1,(List.getElem?_eq_some_iff.1 g1).1⟩
theorem zoQ(s:List (List Cxt))(j:Nat):∃r,zbf s=zbf (s.take j)++r:=by
 refine⟨((s.drop j).zipIdx (s.take j).length).flatMap fun p=>zdU p.2 p.1,?_⟩
 conv=>lhs;rw[←List.take_append_drop j s]
 unfold zbf
 rw[List.zipIdx_append,List.flatMap_append,Nat.zero_add]
theorem zn5(s:List (List Cxt))(j:Nat):∃r,zbj s=zbj (s.take j)++r:=
 ⟨zbj (s.drop j),by unfold zbj;rw[←List.flatMap_append,List.take_append_drop]⟩
theorem zmb{s:List (List Cxt)}{j:Nat}{x:List Cxt}(h:s[j]?=some x){k:Nat}(hk:k≤x.length):(zbf (s.take j)).length+k≤(zbf s).length:=by
 obtain⟨r,hr⟩:=zoQ s (j+1)
 rw[hr,ziA h,List.length_append,List.length_append]
 have:(zdU j x).length=x.length:=by unfold zdU;rw[List.length_map]
 omega
theorem zmz{s:List (List Cxt)}{j:Nat}{x:List Cxt}(h:s[j]?=some x)(k:Nat):(zbj (s.take j)).length+((x.take k).flatMap (·.ents)).length≤(zbj s).length:=by
 obtain⟨r,hr⟩:=zn5 s (j+1)
 have e:(x.flatMap (·.ents)).length=((x.take k).flatMap (·.ents)).length+((x.drop k).flatMap (·.ents)).length:=by
  rw[←List.length_append,←List.flatMap_append,List.take_append_drop]
 rw[hr,ziF h,List.length_append,List.length_append,e]
 omega
theorem zmK{i:Nat}{x:List Cxt}{k:Nat}{y:Cxt}(h:x[k]?=some y):zdU i (x.take (k+1))=zdU i (x.take k)++[⟨y.name,(i:Int)⟩]:=by
 unfold zdU
 rw[List.take_add_one,h,List.map_append]
 rfl
theorem zkr{x:List Cxt}{k:Nat}{y:Cxt}(h:x[k]?=some y):(x.take (k+1)).flatMap (·.ents)=(x.take k).flatMap (·.ents)++y.ents:=by
 rw[List.take_add_one,h,List.flatMap_append]
 simp
structure BackOk(l:List Ent)(cs:List CutR)(sv:Int)(s:List (List Cxt)):Prop where
 len:s.length=sv.toNat
 few:(zbf s).length≤30
 most:(zbj s).length≤400
 ok:OkOf (zbj s)
 right:RightOk (zbj s) (zbf s) sv
 ents:sortN nmE (zbj s)=sortN nmE l
 cuts:sortN nmQ (zbf s)=sortN nmQ cs
 ok2:OkOf (sortN nmE l)
 right2:RightOk (sortN nmE l) (sortN nmQ cs) sv
 ents2:sortN nmE (sortN nmE l)=sortN nmE l
 cuts2:sortN nmQ (sortN nmQ cs)=sortN nmQ cs
 count:(sortN nmQ cs).length=cs.length
theorem zfP{l:List Ent}{cs:List CutR}{sv:Int}{N:Nat}(hok:OkOf l)(hr:RightOk l cs sv)(hNs:N=sv.toNat):BackOk l cs sv (zaS (sortN nmE l) (sortN nmQ cs) N):=by
 have hN:=zcH hok
 obtain⟨p1,p2⟩:=zif hok hr hNs
 have h1:=(zbo (f:=nmE) hN.self hN.apart).1
 have h2:=(zbo (f:=nmQ) (hr.self hN) hr.apart).1
 exact⟨by unfold zaS;rw[List.length_map,List.length_range,hNs],by rw[p2.length_eq];exact hr.few,by rw[p1.length_eq];exact hok.1,hok.perm p1,hr.perm p1 p2,zfD hN.self hN.apart p1,zfD (hr.self hN) hr.apart p2,hok.perm h1,hr.perm h1 h2,zfD hN.self hN.apart h1,zfD (hr.self hN) hr.apart h2,h2.length_eq⟩
end
section
structure JoinOk(s:List (List Cxt))(t:List CutR):Prop where
 few:(zbf s).length≤30
 most:(zbj s).length≤400
 ok:OkOf (zbj s)
 right:RightOk (zbj s) (zbf s) (s.length:Int)
 srv:zaS (sortN nmE (zbj s)) (sortN nmQ (zbf s)) s.length=s
 top:topS (sortN nmQ (zbf s))=t
theorem zoh{l:List Ent}{cs:List CutR}{sv:Int}{N:Nat}(hok:OkOf l)(hr:RightOk l cs sv)(hNs:N=sv.toNat):JoinOk (zaS (sortN nmE l) (sortN nmQ cs) N) (topS (sortN nmQ cs)):=by
 have hb:=zfP hok hr hNs
 have hlen:((zaS (sortN nmE l) (sortN nmQ cs) N).length:Int)=sv:=by
  have:=hr.srv
  rw[hb.len]
  omega
 refine⟨hb.few,hb.most,hb.ok,by rw[hlen];exact hb.right,?_,by rw[hb.cuts]⟩
 rw[hb.ents,hb.cuts,hb.len,←hNs]
theorem znD{s:List (List Cxt)}{j:Nat}(h:j=s.length):zbf (s.take j)=zbf s:=by rw[List.take_of_length_le (Nat.le_of_eq h.symm)]
theorem zmZ{s:List (List Cxt)}{j:Nat}(h:j=s.length):zbj (s.take j)=zbj s:=by rw[List.take_of_length_le (Nat.le_of_eq h.symm)]
theorem zoP{i:Nat}{x:List Cxt}{k:Nat}(h:k≤x.length):(zdU i (x.take k)).length=k:=by unfold zdU;rw[List.length_map,List.length_take];omega
theorem zpZ{s:List (List Cxt)}{x:List Cxt}{y:Cxt}{e:Ent}(hx:x∈s)(hy:y∈x)(he:e∈y.ents):e∈zbj s:=List.mem_flatMap.2 ⟨x,hx,List.mem_flatMap.2 ⟨y,hy,he⟩⟩
structure NamedC(t:List CutR):Prop where
 few:t.length≤30
 self:∀c∈t,zbZ (nmQ c)=true
structure FormedC(s:List (List Cxt))(t:List CutR):Prop where
 srv:1≤s.length∧s.length≤8
 top:NamedC t
 few:(zbf s).length≤30
 most:(zbj s).length≤400
 ctx:∀x∈s,∀y∈x,zbZ (bys y.name)=true∧NamedC y.subs∧∀e∈y.ents,zcE (bys e.name) e.atts=true
theorem zpE{l:List Ent}(h:OkOf l):∀e∈l,zcE (bys e.name) e.atts=true:=fun e he=>by
 obtain⟨k,hk⟩:=List.getElem?_of_mem he
 exact(h.2.1 k e (List.getElem?_eq_some_iff.1 hk).1 hk).2
theorem zkI{l:List Ent}{cs:List CutR}{sv:Int}{N:Nat}(hok:OkOf l)(hr:RightOk l cs sv)(hNs:N=sv.toNat):FormedC (zaS (sortN nmE l) (sortN nmQ cs) N) (topS (sortN nmQ cs)):=by
 have hN:=zcH hok
 have hb:=zfP hok hr hNs
 have h1:=(zbo (f:=nmE) hN.self hN.apart).1
 have h2:=(zbo (f:=nmQ) (hr.self hN) hr.apart).1
 have hself:∀c∈sortN nmQ cs,zbZ (nmQ c)=true:=fun c hc=>hr.self hN c (h2.mem_iff.1 hc)
 have hfew:(sortN nmQ cs).length≤30:=by rw[hb.count];exact hr.few
 have hfil:∀p:CutR→Bool,NamedC ((sortN nmQ cs).filter p):=fun p=>⟨Nat.le_trans (List.length_filter_le _ _) hfew,fun c hc=>hself c (List.mem_filter.1 hc).1⟩
 refine⟨?_,hfil _,hb.few,hb.most,fun x hx y hy=>?_⟩
 ·have:=hr.srv
  rw[hb.len]
  omega
 ·unfold zaS at hx
  obtain⟨s,-,rfl⟩:=List.mem_map.1 hx
  unfold srvF at hy
  obtain⟨i,hi,rfl⟩:=List.mem_map.1 hy
  have hil:=List.mem_range.1 (List.mem_filter.1 hi).1
  refine⟨?_,hfil _,fun e he=>zpE hok e (h1.mem_iff.1 (List.mem_filter.1 (show e∈(sortN nmE l).filter _ from he)).1)⟩
  show zbZ (bys (nmAt (sortN nmQ cs) i))=true
  unfold nmAt
  rw[List.getElem?_eq_getElem hil]
  exact hself _ (List.getElem_mem hil)
end
section
open Go.RowKit
set_option maxRecDepth 100000
theorem zlx{S T:Nat→Prop}{w:World}{A:Option Addr}{n c:Nat}{B:Option Addr}{m d:Nat}{s:List (List Cxt)}{t:List CutR}{A':Option Addr}{n' c':Nat}{B':Option Addr}{m' d':Nat}{s':List (List Cxt)}{t':List CutR}(h:CfgAt S w A n c B m d s t)(k:CfgAt T w A' n' c' B' m' d' s' t') :
 Calls Tryz.prog 11 #[.agg #[.slice A n c,.slice B m d],.agg #[.slice A' n' c',.slice B' m' d']] w fun e w'=>e=.returned (.bool (decide (s=s'∧t=t')))∧Ext w w':=by
 have HTC:∀w',Ext w w'→Calls Tryz.prog 20 #[.slice B m d,.slice B' m' d'] w' fun e w''=>e=.returned (.bool (decide (t=t')))∧Ext w' w'':=fun w' hx=>zfs (h.top.ext hx) (k.top.ext hx)
 have hl:=hid h.srv.len
 have kl:=hid k.srv.len
 have hnl:n≤9223372036854775807:=by have:=h.srv.cap;have:=h.srv.most;simp only[maxLen] at this;omega
 have hml:n'≤9223372036854775807:=by have:=k.srv.cap;have:=k.srv.most;simp only[maxLen] at this;omega
 have HB1:=hid ((Bx.make (Ext.refl w) #[.slice A n c,.slice B m d] 36).later (Ext.alloc _ (.cells #[.slice A' n' c',.slice B' m' d'] 36)))
 have HB2:=hid (Bx.make (Ext.alloc w (.cells #[.slice A n c,.slice B m d] 36)) #[.slice A' n' c',.slice B' m' d'] 36)
 rw[show(w.alloc (.cells #[.slice A n c,.slice B m d] 36)).heap.size=w.heap.size+1 by simp] at HB2
 have p0:=HB1.out.cell (i:=0) rfl
 have p1:=HB1.out.cell (i:=1) rfl
 have q0:=HB2.out.cell (i:=0) rfl
 have q1:=HB2.out.cell (i:=1) rfl
 have HH:=hid h.srv
 have KK:=hid k.srv
 clear h k
 by_cases hnm:n=n'
 ·subst hnm
  by_cases ht:t=t'
  ·have Ht:=hid ht
   rw[decide_eq_true ht] at HTC
   clear ht
   go_enter Tryz.func11,Tryz.ntmps11
   go_wp2_with(go_at_call 20;(with_reducible refine(HTC _ HB1.out.ext).mono ?_);rintro e w3 ⟨rfl,hx3⟩;have HXX:=hid (HB1.out.ext.trans hx3);have p2:=zaa p0 _ hx3;have q2:=zaa q0 _ hx3;clear p0 p1 q0 q1 hx3)
   clear HTC
   go_loopw [27] (fun i wr=>∃j:Nat,j≤n∧i=.int .i64 j∧Hid (s.take j=s'.take j)∧Hid (Ext w3 wr)) (fun i _=>n-(intOf i).toNat)
   case atStart=>exact⟨0,by omega,rfl,by simp[Hid],Ext.refl _⟩
   case round=>
    obtain⟨j,hj,rfl,Htk,hx⟩:=hrel
    have p3:=zaa p2 _ hx.out
    have q3:=zaa q2 _ hx.out
    by_cases hlt:j<n
    ·have hlt':(j:Int)<(n:Int):=by omega
     obtain⟨b1,o1,v1,x1,rfl,g1,-,⟨A1,n1,c1,rfl,r1⟩,z1⟩:=(HH.out.ext (HXX.out.trans hx.out)).at_ hlt
     obtain⟨b2,o2,v2,x2,rfl,g2,-,⟨A2,n2,c2,rfl,r2⟩,z2⟩:=(KK.out.ext (HXX.out.trans hx.out)).at_ hlt
     have e1:=z1 0 _ rfl
     have e2:=z2 0 _ rfl
     simp only[Elem.srw,Elem.slc,Nat.add_zero,Nat.mul_one] at e1 e2
     have Hg1:=hid (And.intro g1 g2)
     have hn1:n1≤9223372036854775807:=by have:=r1.cap;have:=r1.most;simp only[maxLen] at this;omega
     have hn2:n2≤9223372036854775807:=by have:=r2.cap;have:=r2.most;simp only[maxLen] at this;omega
     have HL1:=hid r1.len
     have HL2:=hid r2.len
     have R1:=hid r1
     have R2:=hid r2
     clear z1 z2 g1 g2 r1 r2
     obtain⟨wo,hwo⟩:∃x,x=wr:=⟨_,rfl⟩
     subst hwo
     by_cases hn12:n1=n2
     ·subst hn12
      go_wp2
      refine zac (.read 0 (.read 1 (.read 2 (.read 3 (.read 4 (.read 5 (.read 6 (.read 7 (.read 8 (.read 9 (.read 10 (.read 11 (.read 12 (.read 13 .done)))))))))))))) (by kernel_rfl) (by kernel_rfl) ?_
      intro wD hxD
      have XE:Hid (Ext wD wD):=Ext.refl _
      have cp:=zaa (zaa p3 _ hxD);have cq:=zaa (zaa q3 _ hxD);have ce1:=zaa (zaa e1 _ hxD);have ce2:=zaa (zaa e2 _ hxD)
      repeat' ((first
       |refine zaf rfl rfl ?_
       |refine zad rfl rfl ?_
       |refine zai rfl rfl ?_
       |refine zab rfl rfl ?_
       |(refine zae (v:=?_) rfl rfl (fun w' hE=>?_) ?_;rotate_left 1;(· ((try(have hEx:=Ext.trans (Hid.out XE) hE));go_simp;(try go_bits);with_reducible rfl)))
       |refine walks_alt ?_ ?_
       | (refine zah rfl rfl (fun K hK=>?_);go_wp2_with (fail);refine hK _ _ (by first | assumption | exact Ext.alloc _ _ | exact Ext.refl _) ?_;clear hK K));try simp only [Act.put,Act.eval,evs])
      refine zag ?_
      have HXD:=hid (hxD.trans XE.out)
      clear cp cq ce1 ce2 XE hxD
      go_wp2
      go_loopw [49] (fun i wr=>∃k:Nat,k≤n1∧i=.int .i64 k∧Hid (x1.take k=x2.take k)∧Hid (Ext wo wr)) (fun i _=>n1-(intOf i).toNat)
      case atStart=>exact⟨0,by omega,rfl,by simp[Hid],HXD.out⟩
      case round=>
       obtain⟨k,hk,rfl,Htk2,hy⟩:=hrel
       by_cases hlt2:k<n1
       ·have hlt2':(k:Int)<(n1:Int):=by omega
        obtain⟨b3,o3,v3,x3,rfl,g3,-,⟨A3,n3,c3,B3,m3,d3,rfl,r3,s3⟩,z3⟩:=(R1.out.ext hy.out).at_ hlt2
        obtain⟨b4,o4,v4,x4,rfl,g4,-,⟨A4,n4,c4,B4,m4,d4,rfl,r4,s4⟩,z4⟩:=(R2.out.ext hy.out).at_ hlt2
        have e10:=z3 0 _ rfl;have e11:=z3 1 _ rfl;have e12:=z3 2 _ rfl
        have e20:=z4 0 _ rfl;have e21:=z4 1 _ rfl;have e22:=z4 2 _ rfl
        simp only[Elem.cxt,Nat.add_zero] at e10 e11 e12 e20 e21 e22
        have Hg2:=hid (And.intro g3 g4)
        have HSA:∀w',Ext wr w'→Calls Tryz.prog 15 #[.slice A3 n3 c3,.slice A4 n4 c4] w' fun e w''=>e=.returned (.bool (decide (x3.ents=x4.ents)))∧Ext w' w'':=fun w' hx'=>zgq (r3.ext hx') (r4.ext hx')
        have HSC:∀w',Ext wr w'→Calls Tryz.prog 20 #[.slice B3 m3 d3,.slice B4 m4 d4] w' fun e w''=>e=.returned (.bool (decide (x3.subs=x4.subs)))∧Ext w' w'':=fun w' hx'=>zfs (s3.ext hx') (s4.ext hx')
        clear z3 z4 g3 g4 r3 r4 s3 s4
        by_cases hnm:x3.name=x4.name
        ·have f1:=zco hnm
         by_cases he:x3.ents=x4.ents
         ·rw[decide_eq_true he] at HSA
          by_cases hs:x3.subs=x4.subs
          ·rw[decide_eq_true hs] at HSC
           have Hx:Hid (x3=x4):=cxt_eq.2 ⟨hnm,he,hs⟩
           clear hnm he hs
           go_wp2
           refine zac (.read 0 (.read 1 (.read 2 (.read 3 (.read 4 (.read 5 (.read 6 (.read 7 (.read 8 (.read 9 (.read 10 (.read 11 (.read 12 (.read 13 (.read 14 (.read 15 (.read 16 (.read 17 (.read 18 (.read 19 (.read 20 (.read 21 (.main 22 (.read 23 (.read 24 (.read 25 (.read 26 (.read 27 (.read 28 (.read 29 (.read 30 (.read 31 (.read 32 (.read 33 (.read 34 (.read 35 (.main 36 (.read 37 (.read 38 .done))))))))))))))))))))))))))))))))))))))) (by kernel_rfl) (by kernel_rfl) ?_
           intro wD hxD
           have XE:Hid (Ext wD wD):=Ext.refl _
           have c10:=zaa (zaa e10 _ hxD);have c11:=zaa (zaa e11 _ hxD);have c12:=zaa (zaa e12 _ hxD);have c20:=zaa (zaa e20 _ hxD);have c21:=zaa (zaa e21 _ hxD);have c22:=zaa (zaa e22 _ hxD)
           repeat' ((first
            |refine zaf rfl rfl ?_
            |refine zad rfl rfl ?_
            |refine zai rfl rfl ?_
            |refine zab rfl rfl ?_
            |(refine zae (v:=?_) rfl rfl (fun w' hE=>?_) ?_;rotate_left 1;(· ((try(have hEx:=Ext.trans (Hid.out XE) hE));go_simp;(try go_bits);with_reducible rfl)))
            |refine walks_alt ?_ ?_
            | (refine zah rfl rfl (fun K hK=>?_);go_wp2_with ((first | (go_at_call 15;(with_reducible refine (HSA _ (hxD.trans XE.out)).mono ?_);rintro e w1 ⟨rfl,hx1⟩;replace XE:=hid (Ext.trans (Hid.out XE) hx1)) | (go_at_call 20;(with_reducible refine (HSC _ (hxD.trans XE.out)).mono ?_);rintro e w2 ⟨rfl,hx2⟩;replace XE:=hid (Ext.trans (Hid.out XE) hx2))));refine hK _ _ (by first | assumption | exact Ext.alloc _ _ | exact Ext.refl _) ?_;clear hK K));try simp only [Act.put,Act.eval,evs])
           refine zag ?_
           go_wp2
           refine⟨⟨k+1,by omega,by go_num,?_,hy.out.trans (hxD.trans XE.out)⟩,by simp[intOf];omega⟩
           show _=_
           rw[List.take_add_one,List.take_add_one,Htk2.out,Hg2.out.1,Hg2.out.2,Hx.out]
          ·rw[decide_eq_false hs] at HSC
           have Hx:Hid (x3≠x4):=fun e=>hs (by rw[e])
           clear hnm he hs
           go_wp2
           refine zac (.read 0 (.read 1 (.read 2 (.read 3 (.read 4 (.read 5 (.read 6 (.read 7 (.read 8 (.read 9 (.read 10 (.read 11 (.read 12 (.read 13 (.read 14 (.read 15 (.read 16 (.read 17 (.read 18 (.read 19 (.read 20 (.read 21 (.main 22 (.read 23 (.read 24 (.read 25 (.read 26 (.read 27 (.read 28 (.read 29 (.read 30 (.read 31 (.read 32 (.read 33 (.read 34 (.read 35 (.main 36 (.read 37 (.read 38 .done))))))))))))))))))))))))))))))))))))))) (by kernel_rfl) (by kernel_rfl) ?_
           intro wD hxD
           have XE:Hid (Ext wD wD):=Ext.refl _
           have c10:=zaa (zaa e10 _ hxD);have c11:=zaa (zaa e11 _ hxD);have c12:=zaa (zaa e12 _ hxD);have c20:=zaa (zaa e20 _ hxD);have c21:=zaa (zaa e21 _ hxD);have c22:=zaa (zaa e22 _ hxD)
           repeat' ((first
            |refine zaf rfl rfl ?_
            |refine zad rfl rfl ?_
            |refine zai rfl rfl ?_
            |refine zab rfl rfl ?_
            |(refine zae (v:=?_) rfl rfl (fun w' hE=>?_) ?_;rotate_left 1;(· ((try(have hEx:=Ext.trans (Hid.out XE) hE));go_simp;(try go_bits);with_reducible rfl)))
            |refine walks_alt ?_ ?_
            | (refine zah rfl rfl (fun K hK=>?_);go_wp2_with ((first | (go_at_call 15;(with_reducible refine (HSA _ (hxD.trans XE.out)).mono ?_);rintro e w1 ⟨rfl,hx1⟩;replace XE:=hid (Ext.trans (Hid.out XE) hx1)) | (go_at_call 20;(with_reducible refine (HSC _ (hxD.trans XE.out)).mono ?_);rintro e w2 ⟨rfl,hx2⟩;replace XE:=hid (Ext.trans (Hid.out XE) hx2))));refine hK _ _ (by first | assumption | exact Ext.alloc _ _ | exact Ext.refl _) ?_;clear hK K));try simp only [Act.put,Act.eval,evs])
           refine zag ?_
           go_wp2
           go_ret
           exact⟨zar (decide_eq_false fun e=>Hx.out (Option.some.inj (Hg2.out.1.symm.trans ((congrArg (fun z=>z[k]?) (Option.some.inj (Hg1.out.1.symm.trans ((congrArg (fun z=>z[j]?) e.1).trans Hg1.out.2)))).trans Hg2.out.2)))),HXX.out.trans (hx.out.trans (hy.out.trans (hxD.trans XE.out)))⟩
         ·rw[decide_eq_false he] at HSA
          have Hx:Hid (x3≠x4):=fun e=>he (by rw[e])
          clear hnm he
          go_wp2
          refine zac (.read 0 (.read 1 (.read 2 (.read 3 (.read 4 (.read 5 (.read 6 (.read 7 (.read 8 (.read 9 (.read 10 (.read 11 (.read 12 (.read 13 (.read 14 (.read 15 (.read 16 (.read 17 (.read 18 (.read 19 (.read 20 (.read 21 (.main 22 (.read 23 (.read 24 (.read 25 (.read 26 (.read 27 (.read 28 (.read 29 (.read 30 (.read 31 (.read 32 (.read 33 (.read 34 (.read 35 (.main 36 (.read 37 (.read 38 .done))))))))))))))))))))))))))))))))))))))) (by kernel_rfl) (by kernel_rfl) ?_
          intro wD hxD
          have XE:Hid (Ext wD wD):=Ext.refl _
          have c10:=zaa (zaa e10 _ hxD);have c11:=zaa (zaa e11 _ hxD);have c12:=zaa (zaa e12 _ hxD);have c20:=zaa (zaa e20 _ hxD);have c21:=zaa (zaa e21 _ hxD);have c22:=zaa (zaa e22 _ hxD)
          repeat' ((first
           |refine zaf rfl rfl ?_
           |refine zad rfl rfl ?_
           |refine zai rfl rfl ?_
           |refine zab rfl rfl ?_
           |(refine zae (v:=?_) rfl rfl (fun w' hE=>?_) ?_;rotate_left 1;(· ((try(have hEx:=Ext.trans (Hid.out XE) hE));go_simp;(try go_bits);with_reducible rfl)))
           |refine walks_alt ?_ ?_
           | (refine zah rfl rfl (fun K hK=>?_);go_wp2_with ((first | (go_at_call 15;(with_reducible refine (HSA _ (hxD.trans XE.out)).mono ?_);rintro e w1 ⟨rfl,hx1⟩;replace XE:=hid (Ext.trans (Hid.out XE) hx1)) | (go_at_call 20;(with_reducible refine (HSC _ (hxD.trans XE.out)).mono ?_);rintro e w2 ⟨rfl,hx2⟩;replace XE:=hid (Ext.trans (Hid.out XE) hx2))));refine hK _ _ (by first | assumption | exact Ext.alloc _ _ | exact Ext.refl _) ?_;clear hK K));try simp only [Act.put,Act.eval,evs])
          refine zag ?_
          go_wp2
          go_ret
          exact⟨zar (decide_eq_false fun e=>Hx.out (Option.some.inj (Hg2.out.1.symm.trans ((congrArg (fun z=>z[k]?) (Option.some.inj (Hg1.out.1.symm.trans ((congrArg (fun z=>z[j]?) e.1).trans Hg1.out.2)))).trans Hg2.out.2)))),HXX.out.trans (hx.out.trans (hy.out.trans (hxD.trans XE.out)))⟩
        ·have f1:=zch hnm
         have Hx:Hid (x3≠x4):=fun e=>hnm (by rw[e])
         clear hnm
         go_wp2
         refine zac (.read 0 (.read 1 (.read 2 (.read 3 (.read 4 (.read 5 (.read 6 (.read 7 (.read 8 (.read 9 (.read 10 (.read 11 (.read 12 (.read 13 (.read 14 (.read 15 (.read 16 (.read 17 (.read 18 (.read 19 (.read 20 (.read 21 (.main 22 (.read 23 (.read 24 (.read 25 (.read 26 (.read 27 (.read 28 (.read 29 (.read 30 (.read 31 (.read 32 (.read 33 (.read 34 (.read 35 (.main 36 (.read 37 (.read 38 .done))))))))))))))))))))))))))))))))))))))) (by kernel_rfl) (by kernel_rfl) ?_
         intro wD hxD
         have XE:Hid (Ext wD wD):=Ext.refl _
         have c10:=zaa (zaa e10 _ hxD);have c11:=zaa (zaa e11 _ hxD);have c12:=zaa (zaa e12 _ hxD);have c20:=zaa (zaa e20 _ hxD);have c21:=zaa (zaa e21 _ hxD);have c22:=zaa (zaa e22 _ hxD)
         repeat' ((first
          |refine zaf rfl rfl ?_
          |refine zad rfl rfl ?_
          |refine zai rfl rfl ?_
          |refine zab rfl rfl ?_
          |(refine zae (v:=?_) rfl rfl (fun w' hE=>?_) ?_;rotate_left 1;(· ((try(have hEx:=Ext.trans (Hid.out XE) hE));go_simp;(try go_bits);with_reducible rfl)))
          |refine walks_alt ?_ ?_
          | (refine zah rfl rfl (fun K hK=>?_);go_wp2_with ((first | (go_at_call 15;(with_reducible refine (HSA _ (hxD.trans XE.out)).mono ?_);rintro e w1 ⟨rfl,hx1⟩;replace XE:=hid (Ext.trans (Hid.out XE) hx1)) | (go_at_call 20;(with_reducible refine (HSC _ (hxD.trans XE.out)).mono ?_);rintro e w2 ⟨rfl,hx2⟩;replace XE:=hid (Ext.trans (Hid.out XE) hx2))));refine hK _ _ (by first | assumption | exact Ext.alloc _ _ | exact Ext.refl _) ?_;clear hK K));try simp only [Act.put,Act.eval,evs])
         refine zag ?_
         go_wp2
         go_ret
         exact⟨zar (decide_eq_false fun e=>Hx.out (Option.some.inj (Hg2.out.1.symm.trans ((congrArg (fun z=>z[k]?) (Option.some.inj (Hg1.out.1.symm.trans ((congrArg (fun z=>z[j]?) e.1).trans Hg1.out.2)))).trans Hg2.out.2)))),HXX.out.trans (hx.out.trans (hy.out.trans (hxD.trans XE.out)))⟩
       ·obtain rfl:k=n1:=by omega
        have hlt2':¬(k:Int)<(k:Int):=by omega
        have Hxx:Hid (x1=x2):=za7 HL1.out HL2.out Htk2.out
        go_wp2
        refine⟨⟨j+1,by omega,by go_num,?_,hx.out.trans hy.out⟩,by simp[intOf];omega⟩
        show _=_
        rw[List.take_add_one,List.take_add_one,Htk.out,Hg1.out.1,Hg1.out.2,Hxx.out]
     ·have hne:((n1:Int) != (n2:Int))=true:=by rw[bne_iff_ne];omega
      have Hx:Hid (x1≠x2):=fun e=>hn12 (by rw[HL1.out,HL2.out,e])
      clear hn12
      go_wp2
      refine zac (.read 0 (.read 1 (.read 2 (.read 3 (.read 4 (.read 5 (.read 6 (.read 7 (.read 8 (.read 9 (.read 10 (.read 11 (.read 12 (.read 13 .done)))))))))))))) (by kernel_rfl) (by kernel_rfl) ?_
      intro wD hxD
      have XE:Hid (Ext wD wD):=Ext.refl _
      have cp:=zaa (zaa p3 _ hxD);have cq:=zaa (zaa q3 _ hxD);have ce1:=zaa (zaa e1 _ hxD);have ce2:=zaa (zaa e2 _ hxD)
      repeat' ((first
       |refine zaf rfl rfl ?_
       |refine zad rfl rfl ?_
       |refine zai rfl rfl ?_
       |refine zab rfl rfl ?_
       |(refine zae (v:=?_) rfl rfl (fun w' hE=>?_) ?_;rotate_left 1;(· ((try(have hEx:=Ext.trans (Hid.out XE) hE));go_simp;(try go_bits);with_reducible rfl)))
       |refine walks_alt ?_ ?_
       | (refine zah rfl rfl (fun K hK=>?_);go_wp2_with (fail);refine hK _ _ (by first | assumption | exact Ext.alloc _ _ | exact Ext.refl _) ?_;clear hK K));try simp only [Act.put,Act.eval,evs])
      refine zag ?_
      go_wp2
      go_ret
      exact⟨zar (decide_eq_false fun e=>Hx.out (Option.some.inj (Hg1.out.1.symm.trans ((congrArg (fun z=>z[j]?) e.1).trans Hg1.out.2)))),HXX.out.trans (hx.out.trans (hxD.trans XE.out))⟩
    ·obtain rfl:j=n:=by omega
     have hlt':¬(j:Int)<(j:Int):=by omega
     go_wp2
     go_ret
     exact⟨zar (by simp[za7 hl.out kl.out Htk.out,Ht.out]),HXX.out.trans hx.out⟩
  ·have Ht:=hid ht
   rw[decide_eq_false ht] at HTC
   clear ht
   go_enter Tryz.func11,Tryz.ntmps11
   go_wp2_with(go_at_call 20;(with_reducible refine(HTC _ HB1.out.ext).mono ?_);rintro e w3 ⟨rfl,hx3⟩;have HXX:=hid (HB1.out.ext.trans hx3);clear hx3)
   go_ret
   exact⟨zar (decide_eq_false fun e=>Ht.out e.2),HXX.out⟩
 ·have hne:((n:Int) != (n':Int))=true:=by rw[bne_iff_ne];omega
  have hfin:Hid (¬(s=s'∧t=t')):=fun e=>by
   have:=hl.out
   have:=kl.out
   rw[e.1] at*
   omega
  clear hnm
  go_enter Tryz.func11,Tryz.ntmps11
  go_wp2
  go_ret
  exact⟨zar (decide_eq_false hfin.out),HB1.out.ext⟩
end
section
theorem zsl{l:List Ent}(h:∀e∈l,zqb e):∀e∈l,EntFits e:=fun e he=>by
 obtain⟨h1,h2,h3⟩:=h e he
 refine⟨by omega,by omega,by omega,fun a ha=>?_,fun a ha=>?_⟩
 ·obtain⟨q1,q2,q3⟩:=h3 a ha
  omega
 ·obtain⟨q1,q2,q3⟩:=h3 a ha
  omega
end
end Go.Proofs.YtkjbokhnpphimaaGreatDoor
