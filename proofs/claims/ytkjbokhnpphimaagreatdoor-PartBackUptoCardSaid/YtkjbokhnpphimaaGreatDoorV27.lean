/- Lemmas of the walk. -/
import Derived.Test.YtkjbokhnpphimaaGreatDoorV24
import Derived.Test.YtkjbokhnpphimaaGreatDoorV23
set_option maxHeartbeats 40000000
set_option linter.unusedVariables false
set_option linter.unusedSimpArgs false
namespace Go.Proofs.YtkjbokhnpphimaaGreatDoor
open Go.RowKit
set_option maxRecDepth 100000
section
variable {α:Type}{E:Elem α}{S S':Nat→Prop}{T:TypeId}{L:Option Nat}{w wr w':World}{v:Value}{l:List α}{A:Option Addr}{n c:Nat}
theorem Row.cut_open(h:Row E S w A n c l):∃us:List (List Value),us.length=l.length∧Cells w A us.flatten∧∀(i:Nat) u x,us[i]?=some u→l[i]?=some x→E.R S w u x:=by
 obtain⟨h1,h2,h3,vss,h4,h5,h6⟩:=h
 exact⟨vss,by omega,h5.cells,h6⟩
theorem GrowM.lit0(w:World):GrowM E S T none w (w.alloc (.cells #[] T)) (.slice (some ⟨w.heap.size,0,none⟩) 0 0) ([]:List α):=
 ⟨⟨[],rfl,zhB w _ (Nat.le_refl _) _ _,fun i u x h=>by simp at h⟩,Ext.alloc _ _,fun g hg=>by cases hg⟩
theorem GrowM.mono(h:GrowM E S T L w wr v l)(hs:∀b,S b→S' b):GrowM E S' T L w wr v l:=by
 obtain⟨⟨vss,q1,q2,q3⟩,q4,q5⟩:=h
 exact⟨⟨vss,q1,q2,fun i u x hi hl=>E.mono (q3 i u x hi hl) fun b _ hb=>⟨hs b hb.1,hb.2⟩⟩,q4,q5⟩
theorem GrowM.low(h:GrowM E S T L w wr v l){g:Nat}(hg:g<w.heap.size):v.ownBlock≠some g:=fun e=>by have:=(h.lt e).1;omega
end
theorem zrY{S:Nat→Prop}{w:World}{us:List (List Value)}{l:List Att}(hl:us.length=l.length)(h:∀(i:Nat) u x,us[i]?=some u→l[i]?=some x→Elem.att.R S w u x):∀c∈us.flatten,c.oneCell'=true:=by
 intro c hc
 obtain⟨u,hu,hcu⟩:=List.mem_flatten.1 hc
 obtain⟨i,hi,rfl⟩:=List.mem_iff_getElem.1 hu
 obtain⟨A,n,c',e,-⟩:=h i us[i] (l[i]'(by omega)) (List.getElem?_eq_getElem hi) (List.getElem?_eq_getElem (by omega))
 rw[e] at hcu
 simp only[List.mem_cons,List.not_mem_nil,or_false] at hcu
 rcases hcu with rfl|rfl<;>rfl
theorem zjP{S:Nat→Prop}{A:Option Addr}{n c:Nat}{l:List Att}{w:World}(h:Row Elem.att S w A n c l)(hm:l.length≤4000000) :
 Calls Tryz.prog 80 #[.slice A n c] w fun e w'=>∃v,e=.returned v∧GrowM Elem.att S 55 none w w' v l:=by
 have hl:=h.len
 rcases A with _|a
 ·have hx:l=[]:=by
   rcases Nat.eq_zero_or_pos n with h0|h0
   ·exact h.nil_iff.1 h0
   ·obtain⟨b,o,v,x,e,_⟩:=h.at_ h0;cases e
  subst hx
  have hz:=fun W=>Lib.run_eql_slice_nil (P:=Tryz.prog) W 56 55 none n c 0 0 Tryz.underlying56
  clear hl h
  go_enter Tryz.func80,Tryz.ntmps80
  go_wp2
  go_ret
  exact⟨_,rfl,GrowM.nil (Ext.refl w) (fun g hg=>by cases hg)⟩
 ·have hz:=fun W=>Lib.run_eql_slice_nil (P:=Tryz.prog) W 56 55 (some a) n c 0 0 Tryz.underlying56
  obtain⟨us,u1,u2,u3⟩:=h.cut_open
  have HU1:=hid u1
  have HC:=hid (u2.below (Ext.alloc w (.cells #[] 55)))
  have HO:=hid (zrY u1 u3)
  have HG:=hid (GrowM.lit0 (E:=Elem.att) (S:=S) (T:=55) w)
  have HE:Hid (∀(i:Nat) u y,us[i]?=some u→l[i]?=some y→Elem.att.R (zcD S (.slice (some ⟨w.heap.size,0,none⟩) 0 0) none) (w.alloc (.cells #[] 55)) u y):=fun i u y hi hy=>HG.out.old (fun _ _ hb=>hb) (u3 i u y hi hy)
  have HL:=hid hl
  have HN:Hid (n≤4000000):=by show _≤_;omega
  clear hl h hm u1 u2 u3
  go_enter Tryz.func80,Tryz.ntmps80
  go_wp2_with(at_builtin;refine zjp Tryz.underlying56 zrX rfl (by decide) rfl _ _ rfl _ _ rfl HG.out us l HU1.out HE.out HO.out rfl HL.out HC.out (by have:=HN.out;simp only[List.length_nil];omega) ?_;intro v' w1 hg1 _ _;have HG1:=hid hg1;clear hg1)
  go_ret
  exact⟨_,rfl,by have:=HG1.out;rwa[List.nil_append] at this⟩
end Go.Proofs.YtkjbokhnpphimaaGreatDoor
