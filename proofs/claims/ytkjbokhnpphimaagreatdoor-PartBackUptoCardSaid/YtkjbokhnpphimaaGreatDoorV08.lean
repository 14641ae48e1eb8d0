/- Lemmas of the walk. -/
import Derived.Test.YtkjbokhnpphimaaGreatDoorV05
import Derived.Test.YtkjbokhnpphimaaGreatDoorV07
set_option maxHeartbeats 40000000
set_option linter.unusedVariables false
set_option linter.unusedSimpArgs false
namespace Go.Proofs.YtkjbokhnpphimaaGreatDoor
open Go.RowKit
set_option maxRecDepth 100000
theorem zeO(w:World)(xs:List ByteArray)(t:TypeId)(hm:xs.length≤maxLen) :
 Row Elem.str (fun _=>True) (w.alloc (.cells (xs.map .string).toArray t)) (some ⟨w.heap.size,0,none⟩) xs.length xs.length xs:=by
 refine⟨rfl,Nat.le_refl _,hm,xs.map fun x=>[.string x],by simp,.inr ⟨w.heap.size,0,rfl,trivial,fun j u hj=>?_⟩,fun i v x hi hx=>?_⟩
 ·rw[Nat.zero_add,zc2]
  have e:∀l:List ByteArray,(l.map fun x=>[Value.string x]).flatten=l.map .string:=fun l=>by
   induction l with
   |nil=>rfl
   |cons x t ih=>simp only[List.map_cons,List.flatten_cons,ih];rfl
  rw[e] at hj
  simpa using hj
 ·rw[List.getElem?_map,hx] at hi
  simpa[Elem.str] using hi.symm
theorem zr7{α:Type}{E:Elem α}(w:World)(vs:List Value)(xs:List (List α))(t:TypeId)(hm:xs.length≤maxLen)(hl:vs.length=xs.length)
 (h:∀(i:Nat) v x,vs[i]?=some v→xs[i]?=some x→∃A n c,v=.slice A n c∧Row E (fun _=>True) w A n c x) :
 Row (Elem.slc E) (fun _=>True) (w.alloc (.cells vs.toArray t)) (some ⟨w.heap.size,0,none⟩) xs.length xs.length xs:=by
 refine⟨rfl,Nat.le_refl _,hm,vs.map fun v=>[v],by simpa using hl,.inr ⟨w.heap.size,0,rfl,trivial,fun j u hj=>?_⟩,fun i v x hi hx=>?_⟩
 ·rw[Nat.zero_add,zc2]
  have e:∀l:List Value,(l.map fun x=>[x]).flatten=l:=fun l=>by
   induction l with
   |nil=>rfl
   |cons x t ih=>simp only[List.map_cons,List.flatten_cons,ih];rfl
  rw[e] at hj
  simpa using hj
 ·rw[List.getElem?_map] at hi
  obtain⟨v',hv,rfl⟩:=Option.map_eq_some_iff.1 hi
  obtain⟨A,n,c,rfl,hr⟩:=h i v' x hv hx
  exact⟨A,n,c,rfl,hr.ext (Ext.alloc _ _)⟩
def typRows:List (List (List UInt8)):=
 [[],[[111,98,106,101,99,116,67,108,97,115,115],[99,110],[111,117],[111],[100,99],[117,105,100],[100,101,115,99,114,105,112,116,105,111,110],[109,97,105,108]],
  [[117,115,101,114,80,97,115,115,119,111,114,100],[114,101,102]],[[115,101,114,105,97,108,78,117,109,98,101,114]],[[112,111,115,105,116,105,111,110]],
  [[97,108,105,97,115,101,100,79,98,106,101,99,116,78,97,109,101],[109,101,109,98,101,114]]]
def zck(i:Nat):List (List UInt8):=typRows[i]?.getD []
def preT(i j:Nat):List (List UInt8×Nat):=((List.range i).flatMap fun k=>(zck k).map (·,k))++((zck i).take j).map (·,i)
def ziL(n:List UInt8)(i j:Nat):Prop:=∀q∈preT i j,¬zas q.1=zas n
theorem zoV{n:List UInt8}{i:Nat}(h:ziL n i (zck i).length):ziL n (i+1) 0:=by
 intro q hq
 refine h q ?_
 simp only[preT,List.take_length,List.range_succ,List.flatMap_append,List.flatMap_cons,List.flatMap_nil,List.append_nil,List.take_zero,List.map_nil] at hq ⊢
 exact hq
theorem znP{n x:List UInt8}{i j:Nat}(h:ziL n i j)(hx:(zck i)[j]?=some x)(hn:¬zas x=zas n):ziL n i (j+1):=by
 intro q hq
 simp only[preT,List.take_add_one,hx,Option.toList_some,List.map_append,←List.append_assoc] at hq
 rcases List.mem_append.1 hq with hq|hq
 ·exact h q hq
 ·simp at hq;subst hq;exact hn
theorem zqL{n:List UInt8}(h:ziL n 6 0):zat n=([],0):=by
 have e:preT 6 0=typTab:=by decide
 unfold ziL at h
 rw[e] at h
 unfold zat
 rw[List.find?_eq_none.2 (fun q hq=>by simpa using h q hq)]
 rfl
theorem zr9{n x:List UInt8}{i j:Nat}(hi:i<6)(h:ziL n i j)(hx:(zck i)[j]?=some x)(he:zas x=zas n):zat n=(x,i):=by
 have hj:j<8:=by
  have h1:=(List.getElem?_eq_some_iff.1 hx).1
  have h2:∀i<6,(zck i).length≤8:=by decide
  have:=h2 i hi
  omega
 have hall:∀i<6,∀j<8,∀x∈(zck i)[j]?,typTab=preT i j++(x,i)::typTab.drop ((preT i j).length+1):=by decide
 unfold zat
 rw[hall i hi j hj x (by rw[hx];rfl),List.find?_append,List.find?_eq_none.2 (fun q hq=>by simpa using h q hq)]
 simp[he]
abbrev strs(l:List (List UInt8)):List ByteArray:=l.map str
theorem zld{l:List (List UInt8)}{j:Nat}{x:ByteArray}(h:(strs l)[j]?=some x):l[j]?=some (bys x):=by
 rw[List.getElem?_map] at h
 obtain⟨y,hy,rfl⟩:=Option.map_eq_some_iff.1 h
 rw[hy,zao]
theorem znX{i j:Nat}{x:List UInt8}(hi:i<6)(hx:(zck i)[j]?=some x):x.length≤100:=by
 have hall:∀i<6,∀x∈zck i,x.length≤100:=by decide
 exact hall i hi x (List.mem_of_getElem? hx)
theorem zhv{i:Nat}{x:List ByteArray}(h:(typRows.map strs)[i]?=some x):x=strs (zck i):=by
 rw[List.getElem?_map] at h
 obtain⟨y,hy,rfl⟩:=Option.map_eq_some_iff.1 h
 unfold zck
 rw[hy]
 rfl
theorem zoe(w:World)(t u:TypeId):Row (Elem.slc Elem.str) (fun _=>True)
 ((((((w.alloc (.cells ((strs (zck 1)).map .string).toArray t)).alloc (.cells ((strs (zck 2)).map .string).toArray t)).alloc (.cells ((strs (zck 3)).map .string).toArray t)).alloc (.cells ((strs (zck 4)).map .string).toArray t)).alloc (.cells ((strs (zck 5)).map .string).toArray t)).alloc
   (.cells #[.slice none 0 0,.slice (some ⟨w.heap.size,0,none⟩) 8 8,.slice (some ⟨w.heap.size+1,0,none⟩) 2 2,.slice (some ⟨w.heap.size+2,0,none⟩) 1 1,.slice (some ⟨w.heap.size+3,0,none⟩) 1 1,.slice (some ⟨w.heap.size+4,0,none⟩) 2 2] u))
 (some ⟨w.heap.size+5,0,none⟩) 6 6 (typRows.map strs):=by
 have h1:=zeO w (strs (zck 1)) t (by decide)
 generalize hw1:w.alloc (.cells ((strs (zck 1)).map .string).toArray t)=w1 at*
 have z1:w1.heap.size=w.heap.size+1:=by rw[←hw1];simp
 have h2:=zeO w1 (strs (zck 2)) t (by decide)
 have x1:=Ext.alloc w1 (.cells ((strs (zck 2)).map .string).toArray t)
 generalize hw2:w1.alloc (.cells ((strs (zck 2)).map .string).toArray t)=w2 at*
 have z2:w2.heap.size=w.heap.size+2:=by rw[←hw2];simp[z1]
 have h3:=zeO w2 (strs (zck 3)) t (by decide)
 have x2:=Ext.alloc w2 (.cells ((strs (zck 3)).map .string).toArray t)
 generalize hw3:w2.alloc (.cells ((strs (zck 3)).map .string).toArray t)=w3 at*
 have z3:w3.heap.size=w.heap.size+3:=by rw[←hw3];simp[z2]
 have h4:=zeO w3 (strs (zck 4)) t (by decide)
 have x3:=Ext.alloc w3 (.cells ((strs (zck 4)).map .string).toArray t)
 generalize hw4:w3.alloc (.cells ((strs (zck 4)).map .string).toArray t)=w4 at*
 have z4:w4.heap.size=w.heap.size+4:=by rw[←hw4];simp[z3]
 have h5:=zeO w4 (strs (zck 5)) t (by decide)
 have x4:=Ext.alloc w4 (.cells ((strs (zck 5)).map .string).toArray t)
 generalize hw5:w4.alloc (.cells ((strs (zck 5)).map .string).toArray t)=w5 at*
 have z5:w5.heap.size=w.heap.size+5:=by rw[←hw5];simp[z4]
 have r1:=h1.ext (x1.trans (x2.trans (x3.trans x4)))
 have r2:=h2.ext (x2.trans (x3.trans x4))
 have r3:=h3.ext (x3.trans x4)
 have r4:=h4.ext x4
 rw[z1] at r2
 rw[z2] at r3
 rw[z3] at r4
 rw[z4] at h5
 have:=zr7 (E:=Elem.str) w5 [.slice none 0 0,.slice (some ⟨w.heap.size,0,none⟩) 8 8,.slice (some ⟨w.heap.size+1,0,none⟩) 2 2,.slice (some ⟨w.heap.size+2,0,none⟩) 1 1,.slice (some ⟨w.heap.size+3,0,none⟩) 1 1,.slice (some ⟨w.heap.size+4,0,none⟩) 2 2] (typRows.map strs) u (by decide) rfl ?_
 ·rw[z5] at this
  exact this
 ·intro i v x hi hx
  rw[zhv hx]
  have hl:=(List.getElem?_eq_some_iff.1 hi).1
  simp only[List.length_cons,List.length_nil] at hl
  rcases i with _|_|_|_|_|_|i
  ·simp at hi;subst hi;exact⟨_,_,_,rfl,Row.nil _ _ _⟩
  ·simp at hi;subst hi;exact⟨_,_,_,rfl,r1⟩
  ·simp at hi;subst hi;exact⟨_,_,_,rfl,r2⟩
  ·simp at hi;subst hi;exact⟨_,_,_,rfl,r3⟩
  ·simp at hi;subst hi;exact⟨_,_,_,rfl,r4⟩
  ·simp at hi;subst hi;exact⟨_,_,_,rfl,h5⟩
  ·omega
def zaX(w:World)(n:List UInt8)(e:Ending)(w':World):Prop:=e=.returned (.tuple #[.string (str (zat n).1),.int .i64 ((zat n).2:Int)])∧Ext w w'
theorem zc3(s:ByteArray)(w:World)(hs:s.size≤maxLen):Calls Tryz.prog 75 #[.string s] w (zaX w (bys s)):=by
 have Hs:=hid hs
 clear hs
 go_enter Tryz.func75,Tryz.ntmps75
 go_wp2
 go_loopw [15] (fun i wr=>∃k:Nat,k≤6∧i=.int .i64 k∧Hid (ziL (bys s) k 0)∧Hid (Row (Elem.slc Elem.str) (fun _=>True) wr (some ⟨w.heap.size+5,0,none⟩) 6 6 (typRows.map strs))∧Hid (Ext w wr)) (fun i _=>6-(intOf i).toNat)
 case atStart=>
  refine⟨0,by omega,rfl,fun q hq=>by simp[preT] at hq,zoe w 9 53,?_⟩
  exact(Ext.alloc _ _).trans ((Ext.alloc _ _).trans ((Ext.alloc _ _).trans ((Ext.alloc _ _).trans ((Ext.alloc _ _).trans (Ext.alloc _ _)))))
 case round=>
  obtain⟨k,hk,rfl,HN,HR,HX⟩:=hrel
  by_cases hlt:k<6
  ·obtain⟨b1,o1,v1,x1,hA,g1,-,⟨A1,n1,c1,rfl,r1⟩,q1⟩:=HR.out.at_ hlt
   injection hA with hA
   injection hA with hA1 hA2
   subst hA1 hA2
   have e10:=q1 0 _ rfl
   simp only[Elem.slc,Nat.add_zero,Nat.zero_add,Nat.mul_one] at e10
   obtain rfl:=zhv g1
   have R1:=hid r1
   have hn1:n1≤9223372036854775807:=by have:=r1.cap;have:=r1.most;simp only[maxLen] at this;omega
   clear q1 g1 r1
   go_wp2
   go_loopw [22] (fun j wr'=>∃m:Nat,m≤n1∧j=.int .i64 m∧Hid (ziL (bys s) k m)∧Hid (Ext wr wr')) (fun j _=>n1-(intOf j).toNat)
   case atStart=>exact⟨0,by omega,rfl,HN,Ext.refl _⟩
   case round=>
    obtain⟨m,hm,rfl,HM,HY⟩:=hrel
    by_cases hlt2:m<n1
    ·obtain⟨b2,o2,v2,x2,rfl,g2,-,hv2,q2⟩:=(R1.out.ext HY.out).at_ hlt2
     subst hv2
     have e20:=q2 0 _ rfl
     simp only[Elem.str,Nat.add_zero,Nat.mul_one] at e20
     have G2:=hid (zld g2)
     have hz2:=hid (show x2.size≤maxLen by have:=znX hlt (zld g2);rw[zaj] at this;simp only[maxLen];omega)
     clear q2 g2
     by_cases he:zas (bys x2)=zas (bys s)
     ·have ht:(zas (bys x2)==zas (bys s))=true:=beq_iff_eq.2 he
      have HH:=hid (zr9 hlt HM.out G2.out he)
      clear he
      go_wp2_with (first
       |(go_at_call 121;(with_reducible refine(zdo x2 _ hz2.out).mono ?_);rintro e w3 ⟨rfl,hx3⟩)
       | (go_at_call 121;(with_reducible refine (zdo s _ Hs.out).mono ?_);rintro e w4 ⟨rfl,hx4⟩))
      go_ret2
      refine⟨?_,HX.out.trans (HY.out.trans (hx3.trans hx4))⟩
      rw[HH.out,zaK];rfl
     ·have ht:(zas (bys x2)==zas (bys s))=false:=beq_eq_false_iff_ne.2 he
      have HH:=hid (znP HM.out G2.out he)
      clear he
      go_wp2_with (first
       |(go_at_call 121;(with_reducible refine(zdo x2 _ hz2.out).mono ?_);rintro e w3 ⟨rfl,hx3⟩)
       | (go_at_call 121;(with_reducible refine (zdo s _ Hs.out).mono ?_);rintro e w4 ⟨rfl,hx4⟩))
      exact⟨⟨m+1,by omega,by go_num,HH,HY.out.trans (hx3.trans hx4)⟩,by simp[intOf];omega⟩
    ·obtain rfl:m=n1:=by omega
     have HH:=hid (zoV (n:=bys s) (i:=k) (by have:=R1.out.len;simp at this;rw[←this];exact HM.out))
     go_wp2
     exact⟨⟨k+1,by omega,by go_num,HH,HR.out.ext HY.out,HX.out.trans HY.out⟩,by simp[intOf];omega⟩
  ·obtain rfl:k=6:=by omega
   have HH:=hid (zqL HN.out)
   go_wp2
   go_ret2
   exact⟨by rw[HH.out];rfl,HX.out⟩
def zrH(m:List UInt8):List UInt8×Nat:=(typTab.find? fun p=>zas p.1==m).getD ([],0)
theorem znL{m:List UInt8}(h:∀c∈([[111,98,106,101,99,116,99,108,97,115,115],[99,110],[111,117],[111],[100,99],[117,105,100],[100,101,115,99,114,105,112,116,105,111,110],[109,97,105,108],[117,115,101,114,112,97,115,115,119,111,114,100],[114,101,102],[115,101,114,105,97,108,110,117,109,98,101,114],[112,111,115,105,116,105,111,110],[97,108,105,97,115,101,100,111,98,106,101,99,116,110,97,109,101],[109,101,109,98,101,114]]:List (List UInt8)),(m==c)=false):zrH m=([],0):=by
 unfold zrH
 rw[List.find?_eq_none.2]
 ·rfl
 ·intro q hq e
  have hall:∀q∈typTab,zas q.1∈([[111,98,106,101,99,116,99,108,97,115,115],[99,110],[111,117],[111],[100,99],[117,105,100],[100,101,115,99,114,105,112,116,105,111,110],[109,97,105,108],[117,115,101,114,112,97,115,115,119,111,114,100],[114,101,102],[115,101,114,105,97,108,110,117,109,98,101,114],[112,111,115,105,116,105,111,110],[97,108,105,97,115,101,100,111,98,106,101,99,116,110,97,109,101],[109,101,109,98,101,114]]:List (List UInt8)):=by decide
  have h1:=h _ (hall q hq)
  rw[beq_iff_eq.1 e] at h1
  simp at h1
theorem zg0(s:ByteArray)(w:World)(hs:s.size≤maxLen):Calls Tryz.prog 137 #[.string s] w (zaX w (bys s)):=by
 have Hs:=hid hs
 have HT:Hid (∀x,zrH (zas (bys s))=x→zat (bys s)=x):=fun x h=>h
 clear hs
 obtain⟨m,hm⟩:∃m,m=zas (bys s):=⟨_,rfl⟩
 rw[←hm] at HT
 have HL:∀w:World,Calls Tryz.prog 163 #[.string s] w fun e w'=>e=.returned (.string (str m))∧Ext w w':=fun w=>by
  rw[hm];exact zit s w Hs.out
 clear hm
 go_enter Tryz.func137,Tryz.ntmps137
 go_wp2_with(go_at_call 163;(with_reducible refine(HL _).mono ?_);rintro e w3 ⟨rfl,hx3⟩)
 all_goals go_ret2
 all_goals(refine⟨?_,by first|assumption|exact Ext.trans (by assumption) (by assumption)⟩)
 all_goals first
  |(have e:=beq_iff_eq.1 (by assumption:(m==_)=true);subst e;rw[HT.out _ rfl];rfl)
  |(exfalso;have e:=beq_iff_eq.1 (by assumption:(m==_)=true);clear HL HT;subst e;simp at*;done)
  |(rw[HT.out _ (znL (by intro c hc;simp only[List.mem_cons,List.not_mem_nil,or_false] at hc;(repeat (rcases hc with rfl|hc;· assumption))))];rfl)
end Go.Proofs.YtkjbokhnpphimaaGreatDoor
