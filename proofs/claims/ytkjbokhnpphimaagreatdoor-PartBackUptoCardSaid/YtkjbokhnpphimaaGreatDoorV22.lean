/- Lemmas of the walk. -/
import Derived.Test.YtkjbokhnpphimaaGreatDoorV19
import Derived.Lib.AppendZeros
import Derived.Test.YtkjbokhnpphimaaGreatDoorV20
import Derived.Test.YtkjbokhnpphimaaGreatDoorV21
set_option maxHeartbeats 40000000
set_option linter.unusedVariables false
set_option linter.unusedSimpArgs false
namespace Go.Proofs.YtkjbokhnpphimaaGreatDoor
section
open Go.RowKit
set_option maxRecDepth 100000
def znc:List Ava→List UInt8
 |[]=>[]
 |a::t=>43::(a.type++61::zaA true a.val++znc t)
theorem zgR:∀(a:Ava) (t:List Ava),zaZ (a::t)=a.type++61::zaA true a.val++znc t
 |a,[]=>by simp[zaZ,znc]
 |a,b::t=>by
  have h:=zgR b t
  rw[zaZ,h,znc]
def zeD(j:Nat)(l:List Ava):List UInt8:=if j=0 then zaZ l else znc l
theorem zj5(x:Ava)(t:List Ava):zeD 0 (x::t)=(x.type++[61])++zaA true x.val++zeD 1 t:=by
 unfold zeD;rw[if_pos rfl,if_neg (by decide),zgR];simp
theorem zjH{j:Nat}(h:¬j=0)(x:Ava)(t:List Ava):zeD j (x::t)=[43]++(x.type++[61])++zaA true x.val++zeD (j+1) t:=by
 unfold zeD;rw[if_neg h,if_neg (by omega),znc];simp
theorem zij(n:List UInt8):(zat n).1.length≤17:=by
 unfold zat
 cases h:typTab.find? (fun p=>zas p.1==zas n) with
 |none=>simp
 |some p=>
  have hm:=List.mem_of_find?_eq_some h
  have hall:∀p∈typTab,p.1.length≤17:=by decide
  exact hall p hm
theorem zmY{k:Nat}{v:List UInt8}(h:(zcs k v).isSome=true):v.length≤200:=by
 unfold zcs at h
 by_cases hv:v=[]∨200<v.length
 ·rw[if_pos hv] at h;cases h
 ·have:¬200<v.length:=fun e=>hv (.inr e)
  omega
theorem zdJ{a:Ava}(h:zbV a=true):a.type.length≤17∧a.val.length≤200:=by
 unfold zbV at h
 simp only[Bool.and_eq_true,Bool.or_eq_true,decide_eq_true_eq] at h
 exact⟨by have:=zij a.type;rw[h.1.1] at this;exact this,zmY h.2⟩
theorem zcW{l:List Ava}(h:zan l=true):∀a∈l,zbV a=true:=by
 unfold zan at h
 simp only[Bool.and_eq_true,List.all_eq_true] at h
 exact h.1.2
theorem zdv{l:List Ava}(h:zan l=true):l.length≤3:=by
 unfold zan at h
 simp only[Bool.and_eq_true,decide_eq_true_eq] at h
 exact h.1.1.2
theorem zoX{B b:Nat}{xs:List UInt8}{w:World}(h:IsB B b xs w)(hl:xs.length+1≤140737488355328) :
 Calls Tryz.prog 149 #[.pointer (some ⟨b,0,none⟩),.int .u8 43] w fun e w'=>e=.returned .nilIface∧IsB B b (xs++[43]) w'∧Kept B b w w':=zde 43 h hl
def zku(w:World)(l:List Ava)(e:Ending)(w':World):Prop:=e=.returned (.tuple #[.string (str (zb8 l)),.int .i64 (if zan l then 0 else 1)])∧Ext w w'
theorem zoo{S:Nat→Prop}{A:Option Addr}{n c:Nat}{l:List Ava}{w:World}(hG:Gl w)(h:Row Elem.ava S w A n c l)(hb:∀a∈l,a.type.length≤4000000) :
 Calls Tryz.prog 112 #[.slice A n c] w (zku w l):=by
 have HR:=hid h
 have HF:=hid (fun w' hx=>zfN (hG.ext hx) (h.ext hx) hb:∀w',Ext w w'→Calls Tryz.prog 147 #[.slice A n c] w' fun e w''=>e=.returned (.bool (zan l))∧Ext w' w'')
 clear hG h hb
 cases hf:zan l with
 |false=>
  have HE:Hid (zb8 l=[]∧zan l=false):=⟨by unfold zb8;rw[hf];rfl,hf⟩
  rw[hf] at HF
  clear hf
  go_enter Tryz.func112,Tryz.ntmps112
  go_wp2_with(go_at_call 147;(with_reducible refine(HF.out _ (Ext.refl _)).mono ?_);rintro e w1 ⟨rfl,hx1⟩;have HX1:=hid hx1;clear hx1)
  go_ret2
  exact⟨by rw[HE.out.1,HE.out.2];rfl,HX1.out⟩
 |true=>
  have HE:Hid (zb8 l=zaZ l∧zan l=true):=⟨by unfold zb8;rw[hf];rfl,hf⟩
  have HO:=hid (zcW hf)
  have hn3:n≤3:=by rw[HR.out.len];exact zdv hf
  rw[hf] at HF
  clear hf
  go_enter Tryz.func112,Tryz.ntmps112
  go_wp2_with(go_at_call 147;(with_reducible refine(HF.out _ (Ext.refl _)).mono ?_);rintro e w1 ⟨rfl,hx1⟩;have HX1:=hid hx1;clear hx1)
  go_loopw [12] (fun i wr=>∃(j:Nat) (acc:List UInt8),j≤n∧i=.int .i64 j∧acc.length≤1000 * j∧Hid (IsB w1.heap.size w1.heap.size acc wr∧Below w1.heap.size w1 wr)∧Hid (acc++zeD j (l.drop j)=zaZ l)) (fun i _=>n-(intOf i).toNat)
  case atStart=>exact⟨0,[],by omega,rfl,by simp,⟨zk8 w1,Ext.alloc _ _⟩,rfl⟩
  case round=>
   obtain⟨j,acc,hj,rfl,hacc,HI,HP⟩:=hrel
   by_cases hlt:j<n
   ·obtain⟨b,o,x,rfl,hx,e1,e2⟩:=zgj ((HR.out.ext HX1.out).ext HI.out.2) hlt
    obtain⟨hs1,hs2⟩:=zdJ (HO.out x (List.mem_of_getElem? hx))
    have hd:Hid (l.drop j=x::l.drop (j+1)):=by
     show _=_
     obtain⟨h1,h2⟩:=List.getElem?_eq_some_iff.1 hx
     rw[List.drop_eq_getElem_cons h1,h2]
    have hw3:=zcn x.val true
    have hz1:(str x.type++str [61])=str (x.type++[61]):=zbh _ _
    have z1:¬9223372036854775807<x.type.length+1:=by omega
    have hgB:Hid (wr.heap.size≠w1.heap.size):=by show _≠_;have:=HI.out.1.lt;omega
    clear hx
    by_cases hj0:j=0
    ·have tj:decide (0<j)=false:=by rw[decide_eq_false_iff_not];omega
     have HP2:Hid (acc++(x.type++[61])++zaA true x.val++zeD (j+1) (l.drop (j+1))=zaZ l):=by show _=_;rw[←HP.out,hd.out,hj0,zj5];simp
     clear hj0
     go_wp2_with (first
      |(go_at_call 115;(with_reducible refine(zdT (str (x.type++[61])) (HI.out.1.ext (Ext.alloc _ _)) (by rw[zaI];simp;omega)).mono ?_);rintro e w3 ⟨rfl,hi3,hk3⟩;rw[zao] at hi3;have HI3:=hid hi3;have HK3:=hid (Kept.trans (zdN (Ext.alloc _ _) HI.out.1.le) hk3);have c1:=hk3.cell (j:=1) (heap_alloc_new wr _) (by decide) hgB.out rfl;clear hi3 hk3)
      | (go_at_call 150;(with_reducible refine (ze8 (str x.val) _ HI3.out (by rw [zaI];omega) (by simp;omega)).mono ?_);rintro e w4 ⟨rfl,hi4,hk4⟩;rw [zao] at hi4;have HI4:=hid hi4;have HK4:=hid (HK3.out.trans hk4);clear hi4 hk4))
     exact⟨⟨j+1,_,by omega,by go_num,by simp;omega,⟨HI4.out,Below.trans HI.out.2 HK4.out.below⟩,HP2⟩,by simp[intOf];omega⟩
    ·have tj:decide (0<j)=true:=by rw[decide_eq_true_eq];omega
     have HP2:Hid (acc++[43]++(x.type++[61])++zaA true x.val++zeD (j+1) (l.drop (j+1))=zaZ l):=by show _=_;rw[←HP.out,hd.out,zjH hj0];simp
     clear hj0
     go_wp2_with (first
      |(go_at_call 149;(with_reducible refine(zoX (HI.out.1.ext (Ext.alloc _ _)) (by omega)).mono ?_);rintro e w2 ⟨rfl,hi2,hk2⟩;have HI2:=hid hi2;have HK2:=hid (Kept.trans (zdN (Ext.alloc _ _) HI.out.1.le) hk2);have HKA:=hid hk2;have c0:=hk2.cell (j:=0) (heap_alloc_new wr _) (by decide) hgB.out rfl;clear hi2 hk2)
      |(go_at_call 115;(with_reducible refine(zdT (str (x.type++[61])) HI2.out (by rw[zaI];simp;omega)).mono ?_);rintro e w3 ⟨rfl,hi3,hk3⟩;rw[zao] at hi3;have HI3:=hid hi3;have HK3:=hid (HK2.out.trans hk3);have c1:=(HKA.out.trans hk3).cell (j:=1) (heap_alloc_new wr _) (by decide) hgB.out rfl;clear hi3 hk3)
      | (go_at_call 150;(with_reducible refine (ze8 (str x.val) _ HI3.out (by rw [zaI];omega) (by simp;omega)).mono ?_);rintro e w4 ⟨rfl,hi4,hk4⟩;rw [zao] at hi4;have HI4:=hid hi4;have HK4:=hid (HK3.out.trans hk4);clear hi4 hk4))
     exact⟨⟨j+1,_,by omega,by go_num,by simp;omega,⟨HI4.out,Below.trans HI.out.2 HK4.out.below⟩,HP2⟩,by simp[intOf];omega⟩
   ·obtain rfl:j=n:=by omega
    have HQ:Hid (zaZ l=acc):=by
     show _=_
     rw[←HP.out,List.drop_of_length_le (Nat.le_of_eq HR.out.len.symm)]
     have:zeD j []=[]:=by unfold zeD;split<;>rfl
     rw[this,List.append_nil]
    go_wp2_with(go_at_call 116;(with_reducible refine(zfZ HI.out.1).mono ?_);rintro e w4 ⟨rfl,hx4⟩;have HX4:=hid hx4;clear hx4)
    go_ret2
    exact⟨by rw[HE.out.1,HE.out.2,HQ.out];rfl,HX1.out.trans (Below.trans HI.out.2 HX4.out)⟩
theorem znm{S:Nat→Prop}{A:Option Addr}{n c:Nat}{l:List Ava}{w:World}(hG:Gl w)(h:Row Elem.ava S w A n c l)(hb:∀a∈l,a.type.length≤4000000) :
 Calls Tryz.prog 94 #[.slice A n c] w (zku w l):=by
 have HR:=hid h
 have HF:=hid (fun w' hx=>zeN (hG.ext hx) (h.ext hx) hb:∀w',Ext w w'→Calls Tryz.prog 134 #[.slice A n c] w' fun e w''=>e=.returned (.bool (zan l))∧Ext w' w'')
 clear hG h hb
 cases hf:zan l with
 |false=>
  have HE:Hid (zb8 l=[]∧zan l=false):=⟨by unfold zb8;rw[hf];rfl,hf⟩
  rw[hf] at HF
  clear hf
  go_enter Tryz.func94,Tryz.ntmps94
  go_wp2_with(go_at_call 134;(with_reducible refine(HF.out _ (Ext.refl _)).mono ?_);rintro e w1 ⟨rfl,hx1⟩;have HX1:=hid hx1;clear hx1)
  go_ret2
  exact⟨by rw[HE.out.1,HE.out.2];rfl,HX1.out⟩
 |true=>
  have HE:Hid (zb8 l=zaZ l∧zan l=true):=⟨by unfold zb8;rw[hf];rfl,hf⟩
  have HO:=hid (zcW hf)
  have hn3:n≤3:=by rw[HR.out.len];exact zdv hf
  rw[hf] at HF
  clear hf
  go_enter Tryz.func94,Tryz.ntmps94
  go_wp2_with(go_at_call 134;(with_reducible refine(HF.out _ (Ext.refl _)).mono ?_);rintro e w1 ⟨rfl,hx1⟩;have HX1:=hid hx1;clear hx1)
  go_loopw [4,11] (fun v i wr=>∃(j:Nat) (acc:List UInt8),j≤n∧i=.int .i64 j∧v=.string (str acc)∧acc.length≤1000 * j∧Hid (Ext w1 wr)∧Hid (acc++zeD j (l.drop j)=zaZ l)) (fun _ i _=>n-(intOf i).toNat)
  case atStart=>exact⟨0,[],by omega,rfl,rfl,by simp,Ext.refl _,rfl⟩
  case round=>
   obtain⟨j,acc,hj,rfl,rfl,hacc,HX,HP⟩:=hrel
   by_cases hlt:j<n
   ·have hlt':(j:Int)<(n:Int):=by omega
    obtain⟨b,o,x,rfl,hx,e1,e2⟩:=zgj ((HR.out.ext HX1.out).ext HX.out) hlt
    obtain⟨hs1,hs2⟩:=zdJ (HO.out x (List.mem_of_getElem? hx))
    have hd:Hid (l.drop j=x::l.drop (j+1)):=by
     show _=_
     obtain⟨h1,h2⟩:=List.getElem?_eq_some_iff.1 hx
     rw[List.drop_eq_getElem_cons h1,h2]
    have hw3:=zcn x.val true
    have HW:∀w,Calls Tryz.prog 136 #[.string (str x.val)] w fun e w'=>e=.returned (.string (str (zaA true x.val)))∧Ext w w':=fun w=>by
     have:=zmN (str x.val) w (by rw[zaI];omega)
     rwa[zao] at this
    obtain⟨wv,hgw⟩:∃wv,wv=zaA true x.val:=⟨_,rfl⟩
    rw[←hgw] at HW hw3
    have HGW:=hid hgw
    clear hgw hx
    by_cases hj0:j=0
    ·have tj:decide (0<j)=false:=by rw[decide_eq_false_iff_not];omega
     have HP2:Hid (acc++x.type++[61]++wv++zeD (j+1) (l.drop (j+1))=zaZ l):=by show _=_;rw[←HP.out,hd.out,hj0,zj5,←HGW.out];simp
     clear hj0
     have z1:¬9223372036854775807<acc.length+x.type.length:=by(try simp);omega
     have z2:¬9223372036854775807<acc.length+x.type.length+1:=by(try simp);omega
     have z3:¬9223372036854775807<acc.length+x.type.length+1+wv.length:=by(try simp);omega
     go_wp2
     refine zac (.read 0 (.read 1 (.read 2 (.read 3 (.read 4 (.read 5 (.read 6 (.read 7 (.read 8 (.read 9 (.read 10 (.read 11 (.read 12 (.main 13 (.read 14 (.read 15 .done)))))))))))))))) (by kernel_rfl) (by kernel_rfl) ?_
     intro wD hxD
     have XE:Hid (Ext wD wD):=Ext.refl _
     have p1:=zaa (zaa e1 _ hxD)
     have p2:=zaa (zaa e2 _ hxD)
     repeat' ((first
      |refine zaf rfl rfl ?_
      |refine zad rfl rfl ?_
      |refine zai rfl rfl ?_
      |refine zab rfl rfl ?_
      |(refine zae (v:=?_) rfl rfl (fun w' hE=>?_) ?_;rotate_left 1;(· ((try(have hEx:=Ext.trans (Hid.out XE) hE));go_simp;(try go_bits);with_reducible rfl)))
      |refine walks_alt ?_ ?_
      | (refine zah rfl rfl (fun K hK=>?_);go_wp2_with ((go_at_call 136;(with_reducible refine (HW _).mono ?_);rintro e w2 ⟨rfl,hx2⟩;replace XE:=hid (Ext.trans (Hid.out XE) hx2)));refine hK _ _ (by first | assumption | exact Ext.alloc _ _ | exact Ext.refl _) ?_;clear hK K));try simp only [Act.put,Act.eval,evs])
     refine zag ?_
     go_wp2
     exact⟨⟨j+1,_,by omega,by go_num,rfl,by simp;omega,HX.out.trans (hxD.trans XE.out),HP2⟩,by simp[intOf];omega⟩
    ·have tj:decide (0<j)=true:=by rw[decide_eq_true_eq];omega
     have HP2:Hid (acc++[43]++x.type++[61]++wv++zeD (j+1) (l.drop (j+1))=zaZ l):=by show _=_;rw[←HP.out,hd.out,zjH hj0,←HGW.out];simp
     have z0:¬9223372036854775807<acc.length+1:=by omega
     obtain⟨ac,hac⟩:∃ac,ac=acc++[43]:=⟨_,rfl⟩
     have hz0:(str acc++str [43])=str ac:=by rw[hac];exact zbh _ _
     have hacl:ac.length≤1000 * j+1:=by rw[hac];simp;omega
     rw[←hac] at HP2
     clear hj0 hac
     have z1:¬9223372036854775807<ac.length+x.type.length:=by(try simp);omega
     have z2:¬9223372036854775807<ac.length+x.type.length+1:=by(try simp);omega
     have z3:¬9223372036854775807<ac.length+x.type.length+1+wv.length:=by(try simp);omega
     go_wp2
     refine zac (.read 0 (.read 1 (.read 2 (.read 3 (.read 4 (.read 5 (.read 6 (.read 7 (.read 8 (.read 9 (.read 10 (.read 11 (.read 12 (.main 13 (.read 14 (.read 15 .done)))))))))))))))) (by kernel_rfl) (by kernel_rfl) ?_
     intro wD hxD
     have XE:Hid (Ext wD wD):=Ext.refl _
     have p1:=zaa (zaa e1 _ hxD)
     have p2:=zaa (zaa e2 _ hxD)
     repeat' ((first
      |refine zaf rfl rfl ?_
      |refine zad rfl rfl ?_
      |refine zai rfl rfl ?_
      |refine zab rfl rfl ?_
      |(refine zae (v:=?_) rfl rfl (fun w' hE=>?_) ?_;rotate_left 1;(· ((try(have hEx:=Ext.trans (Hid.out XE) hE));go_simp;(try go_bits);with_reducible rfl)))
      |refine walks_alt ?_ ?_
      | (refine zah rfl rfl (fun K hK=>?_);go_wp2_with ((go_at_call 136;(with_reducible refine (HW _).mono ?_);rintro e w2 ⟨rfl,hx2⟩;replace XE:=hid (Ext.trans (Hid.out XE) hx2)));refine hK _ _ (by first | assumption | exact Ext.alloc _ _ | exact Ext.refl _) ?_;clear hK K));try simp only [Act.put,Act.eval,evs])
     refine zag ?_
     go_wp2
     exact⟨⟨j+1,_,by omega,by go_num,rfl,by simp;omega,HX.out.trans (hxD.trans XE.out),HP2⟩,by simp[intOf];omega⟩
   ·obtain rfl:j=n:=by omega
    have HQ:Hid (zaZ l=acc):=by
     show _=_
     rw[←HP.out,List.drop_of_length_le (Nat.le_of_eq HR.out.len.symm)]
     have:zeD j []=[]:=by unfold zeD;split<;>rfl
     rw[this,List.append_nil]
    go_wp2
    go_ret2
    exact⟨by rw[HE.out.1,HE.out.2,HQ.out];rfl,HX1.out.trans HX.out⟩
theorem GrowA.empty(w:World)(T:TypeId):GrowA T w (w.alloc (.cells #[] T)) (.slice (some ⟨w.heap.size,0,none⟩) 0 0) []:=
 ⟨zhB w _ (Nat.le_refl _) _ _,Ext.alloc _ _⟩
theorem znj{S:Nat→Prop}{A:Option Addr}{n c:Nat}{l:List Ava}{w:World}(h:Row Elem.ava S w A n c l)(hl:l.length≤4000000) :
 Calls Tryz.prog 148 #[.slice A n c] w fun e w'=>∃v,e=.returned v∧GrowA 189 w w' v l:=by
 have HR:=hid h
 have HL:=hid hl
 have HN:=hid h.len
 clear h hl
 rcases A with _|⟨b,o,sp⟩
 ·have hnil:l=[]:=by
   rcases Nat.eq_zero_or_pos n with h0|h0
   ·exact HR.out.nil_iff.1 h0
   ·obtain⟨b,off,v,x,hA,_⟩:=HR.out.at_ h0
    cases hA
  have HNL:=hid hnil
  clear hnil
  have hz:=fun W=>Lib.run_eql_slice_nil (P:=Tryz.prog) W 168 189 none n c 0 0 Tryz.underlying168
  go_enter Tryz.func148,Tryz.ntmps148
  go_wp2
  go_ret
  exact⟨_,rfl,by rw[HNL.out];exact GrowA.nil (Ext.refl _)⟩
 ·have hz:=fun W=>Lib.run_eql_slice_nil (P:=Tryz.prog) W 168 189 (some ⟨b,o,sp⟩) n c 0 0 Tryz.underlying168
  go_enter Tryz.func148,Tryz.ntmps148
  go_wp2_with(at_builtin;refine zgP rfl _ _ rfl _ [] rfl (GrowA.empty w 189) _ n c l rfl HN.out ((zhD HR.out).below (Ext.alloc _ _)) (by have:=HN.out;have:=HL.out;simp;omega) ?_;intro v' w3 hg3;have HG3:=hid hg3;clear hg3)
  go_ret
  exact⟨_,rfl,by simpa using HG3.out⟩
def mixA(j:Nat)(l:List Ava):List Ava:=za8 (l.take j)++l.drop j
theorem zpS(l:List Ava):mixA 0 l=l:=by simp[mixA,za8]
theorem zp4(l:List Ava):mixA l.length l=za8 l:=by simp[mixA]
theorem zlC{j:Nat}{l:List Ava}{x:Ava}(h:l[j]?=some x):(mixA j l)[j]?=some x:=by
 have hl:=(List.getElem?_eq_some_iff.1 h).1
 unfold mixA
 rw[List.getElem?_append_right (by simp[za8];omega)]
 have:j-(za8 (l.take j)).length=0:=by simp[za8];omega
 rw[this,List.getElem?_drop]
 simpa using h
theorem zoT{j:Nat}{l:List Ava}{x:Ava}(h:l[j]?=some x):(mixA j l).set j ⟨x.type,(zcs (zat x.type).2 x.val).getD []⟩=mixA (j+1) l:=by
 obtain⟨h1,h2⟩:=List.getElem?_eq_some_iff.1 h
 have hj:(za8 (l.take j)).length=j:=by simp[za8];omega
 unfold mixA
 rw[List.set_append_right _ _ (by omega),hj,Nat.sub_self,List.drop_eq_getElem_cons h1,List.set_cons_zero,List.take_add_one,h]
 simp[za8]
theorem zme{a:Ava}(h:zbV a=true):(zb0 a.type a.val).1=(zcs (zat a.type).2 a.val).getD []∧(zb2 a.type a.val).1=(zcs (zat a.type).2 a.val).getD []:=by
 unfold zbV at h
 simp only[Bool.and_eq_true,Bool.or_eq_true,decide_eq_true_eq] at h
 have hz:zb2 a.type a.val=zb0 a.type a.val:=by unfold zb2;rw[if_neg (by omega)]
 rw[hz]
 have hE:(zb0 a.type a.val).1=(zcs (zat a.type).2 a.val).getD []:=by
  have hs:=h.2
  unfold zb0 zcs at*
  rw[if_neg (by omega),if_neg (by omega)]
  by_cases hv:a.val=[]∨200<a.val.length
  ·rw[if_pos hv] at hs;cases hs
  ·rw[if_neg hv] at hs
   rw[if_neg hv,if_neg hv]
   rcases h.1.2 with h1|h1
   ·rw[h1] at hs ⊢
    simp only[zdk,zhm,if_true] at hs ⊢
    by_cases ht:zaD (zaU (zas a.val))=[]∨(0:UInt8)∈zaD (zaU (zas a.val))
    ·rw[if_pos ht] at hs;cases hs
    ·have h2:zaD (zaU (zas a.val))≠[]∧(0:UInt8) ∉ zaD (zaU (zas a.val)):=⟨fun e=>ht (.inl e),fun e=>ht (.inr e)⟩
     simp[h2]
   ·rw[h1] at hs ⊢
    cases hb:intB a.val with
    |false=>simp[hb] at hs
    |true=>simp[zdk,hb]
 exact⟨hE,hE⟩
def ziq(w:World)(l:List Ava)(e:Ending)(w':World):Prop:=
 ∃A n c,e=.returned (.tuple #[.slice A n c,.int .i64 (if zan l then 0 else 1)])∧Row Elem.ava (fun b=>w.heap.size≤b) w' A n c (if zan l then za8 l else[])∧Ext w w'
theorem znA{S:Nat→Prop}{A:Option Addr}{n c:Nat}{l:List Ava}{w:World}(hG:Gl w)(h:Row Elem.ava S w A n c l)(hb:∀a∈l,a.type.length≤4000000) :
 Calls Tryz.prog 111 #[.slice A n c] w (ziq w l):=by
 have HG:=hid hG
 have HR:=hid h
 have HF:=hid (fun w' hx=>zfN (hG.ext hx) (h.ext hx) hb:∀w',Ext w w'→Calls Tryz.prog 147 #[.slice A n c] w' fun e w''=>e=.returned (.bool (zan l))∧Ext w' w'')
 clear hG h hb
 cases hf:zan l with
 |false=>
  have HE:Hid (zan l=false):=hf
  rw[hf] at HF
  clear hf
  go_enter Tryz.func111,Tryz.ntmps111
  go_wp2_with(go_at_call 147;(with_reducible refine(HF.out _ (Ext.refl _)).mono ?_);rintro e w1 ⟨rfl,hx1⟩;have HX1:=hid hx1;clear hx1)
  go_ret2
  exact⟨none,0,0,by rw[HE.out];rfl,by rw[HE.out];exact Row.nil _ _ _,HX1.out⟩
 |true=>
  have HE:Hid (zan l=true):=hf
  have HO:=hid (zcW hf)
  have hl3:=zdv hf
  have hn3:n≤3:=by rw[HR.out.len];exact hl3
  have HLN:=hid HR.out.len
  have hne:0<l.length:=by
   unfold zan at hf
   simp only[Bool.and_eq_true,decide_eq_true_eq] at hf
   exact hf.1.1.1
  rw[hf] at HF
  have HL3:=hid hl3
  have HNE:=hid hne
  clear hf hl3 hne
  go_enter Tryz.func111,Tryz.ntmps111
  go_wp2_with (first
   |(go_at_call 147;(with_reducible refine(HF.out _ (Ext.refl _)).mono ?_);rintro e w1 ⟨rfl,hx1⟩;have HX1:=hid hx1;clear hx1)
   | (go_at_call 148;(with_reducible refine (znj (HR.out.ext HX1.out) (by have:=HL3.out;omega)).mono ?_);rintro e w2 ⟨v2,rfl,hg2⟩;obtain ⟨g,cap,rfl,hc1,hc2⟩:=hg2.form HNE.out;have HG2:=hid hg2;clear hg2))
  have hl4:l.length≤3:=HL3.out
  go_loopw [14] (fun i wr=>∃(j:Nat),j≤l.length∧i=.int .i64 j∧Hid (GrowA 189 w1 wr (.slice (some ⟨g,0,none⟩) l.length cap) (mixA j l))) (fun i _=>l.length-(intOf i).toNat)
  case atStart=>exact⟨0,by omega,rfl,by rw[zpS];exact HG2⟩
  case round=>
   obtain⟨j,hj,rfl,HGR⟩:=hrel
   by_cases hlt:j<l.length
   ·obtain⟨x,hx⟩:∃x,l[j]?=some x:=⟨_,List.getElem?_eq_getElem hlt⟩
    have e1:=HGR.out.at0 (zlC hx)
    have e2:=HGR.out.at1 (zlC hx)
    have hox:=HO.out x (List.mem_of_getElem? hx)
    have hxs:=zdJ hox
    have HST:=hid (zoT hx)
    have HMX:=hid (zlC hx)
    have HNC:∀w,Gl w→Calls Tryz.prog 139 #[.string (str x.type),.string (str x.val)] w (zb1 w x.type x.val):=fun w hG=>by
     have h4:(zat x.type).2≠4:=by
      unfold zbV at hox
      simp only[Bool.and_eq_true,Bool.or_eq_true,decide_eq_true_eq] at hox
      omega
     have:=zen (str x.type) (str x.val) w hG (by rw[zaI];omega) (by rw[zao];exact h4)
     rwa[zao,zao] at this
    have HNV:=hid (zme hox).1
    unfold zb1 at HNC
    generalize zb0 x.type x.val=q at*
    obtain⟨nv,ne⟩:=q
    simp only at HNC HNV
    clear hx hox
    go_wp2_with (first
     | (go_at_call 139;(with_reducible refine (HNC _ (HG.out.ext (HX1.out.trans (HGR.out.ext.trans (Ext.alloc _ _))))).mono ?_);rintro e w3 ⟨rfl,hx3⟩;have HG4:=hid ((HGR.out.later (Ext.alloc _ _)).later hx3);have e3:=HG4.out.at1 HMX.out;have e4:=HG4.out.thaw (j * 2+1);clear hx3))
    refine⟨⟨j+1,by omega,by go_num,?_⟩,by simp[intOf];omega⟩
    have:=HG4.out.set1 HMX.out nv
    rw[←HST.out,←HNV.out]
    exact this
   ·obtain rfl:j=l.length:=by omega
    rw[zp4] at HGR
    obtain⟨A',c',hv,hr⟩:=HGR.out.row
    injection hv with hv1 hv2 hv3
    subst hv1 hv3
    have HRR:=hid hr
    have HNL:Hid (l.length=(za8 l).length):=by show _=_;simp[za8]
    clear hr hv2
    go_wp2
    go_ret2
    refine⟨some ⟨g,0,none⟩,l.length,cap,by rw[HE.out];rfl,?_,HX1.out.trans HGR.out.ext⟩
    rw[HE.out,if_pos rfl,HNL.out]
    exact HRR.out.mono fun _ _ hs=>Nat.le_trans (zaz HX1.out) hs
theorem zlR{S:Nat→Prop}{A:Option Addr}{n c:Nat}{l:List Ava}{w:World}(hG:Gl w)(h:Row Elem.ava S w A n c l)(hb:∀a∈l,a.type.length≤4000000) :
 Calls Tryz.prog 93 #[.slice A n c] w (ziq w l):=by
 have HG:=hid hG
 have HR:=hid h
 have HF:=hid (fun w' hx=>zeN (hG.ext hx) (h.ext hx) hb:∀w',Ext w w'→Calls Tryz.prog 134 #[.slice A n c] w' fun e w''=>e=.returned (.bool (zan l))∧Ext w' w'')
 clear hG h hb
 cases hf:zan l with
 |false=>
  have HE:Hid (zan l=false):=hf
  rw[hf] at HF
  clear hf
  go_enter Tryz.func93,Tryz.ntmps93
  go_wp2_with(go_at_call 134;(with_reducible refine(HF.out _ (Ext.refl _)).mono ?_);rintro e w1 ⟨rfl,hx1⟩;have HX1:=hid hx1;clear hx1)
  go_ret2
  exact⟨none,0,0,by rw[HE.out];rfl,by rw[HE.out];exact Row.nil _ _ _,HX1.out⟩
 |true=>
  have HE:Hid (zan l=true):=hf
  have HO:=hid (zcW hf)
  have hl3:=zdv hf
  have hn3:n≤3:=by rw[HR.out.len];exact hl3
  have HL3:=hid hl3
  rw[hf] at HF
  clear hf hl3
  go_enter Tryz.func93,Tryz.ntmps93
  go_wp2_with (first
   | (go_at_call 134;(with_reducible refine (HF.out _ (Ext.refl _)).mono ?_);rintro e w1 ⟨rfl,hx1⟩;have HX1:=hid hx1;clear hx1))
  go_loopw [4,13] (fun v i wr=>∃(j:Nat),j≤n∧i=.int .i64 j∧Hid (GrowA 199 w1 wr v (za8 (l.take j)))) (fun _ i _=>n-(intOf i).toNat)
  case atStart=>exact⟨0,by omega,rfl,GrowA.nil (Ext.refl _)⟩
  case round=>
   obtain⟨j,hj,rfl,HGR⟩:=hrel
   by_cases hlt:j<n
   ·have hlt':(j:Int)<(n:Int):=by omega
    obtain⟨b,o,x,rfl,hx,e1,e2⟩:=zgj (HR.out.ext (HX1.out.trans HGR.out.ext)) hlt
    have hox:=HO.out x (List.mem_of_getElem? hx)
    have hxs:=zdJ hox
    have HNC:∀w,Gl w→Calls Tryz.prog 135 #[.string (str x.type),.string (str x.val)] w (zb7 w x.type x.val):=fun w hG=>by
     have:=zg1 (str x.type) (str x.val) w hG (by rw[zaI];omega)
     rwa[zao,zao] at this
    have HNV:=hid (zme hox).2
    have HST:Hid (za8 (l.take (j+1))=za8 (l.take j)++[⟨x.type,(zcs (zat x.type).2 x.val).getD []⟩]):=by show _=_;unfold za8;rw[List.take_add_one,hx];simp
    unfold zb7 at HNC
    generalize zb2 x.type x.val=q at*
    obtain⟨nv,ne⟩:=q
    simp only at HNC HNV
    rw[←HNV.out] at HST
    clear hx hox HNV
    go_wp2
    refine zac (.read 0 (.read 1 (.read 2 (.read 3 (.read 4 (.read 5 (.read 6 (.read 7 (.read 8 (.read 9 (.main 10 (.read 11 (.read 12 (.read 13 (.read 14 (.read 15 .done)))))))))))))))) (by kernel_rfl) (by kernel_rfl) ?_
    intro wD hxD
    have XE:Hid (Ext wD wD):=Ext.refl _
    have HGD:=hid (HGR.out.later hxD)
    have p1:=zaa (zaa e1 _ hxD)
    have p2:=zaa (zaa e2 _ hxD)
    repeat' ((first
     |refine zaf rfl rfl ?_
     |refine zad rfl rfl ?_
     |refine zai rfl rfl ?_
     |refine zab rfl rfl ?_
     |(refine zae (v:=?_) rfl rfl (fun w' hE=>?_) ?_;rotate_left 1;(· ((try(have hEx:=Ext.trans (Hid.out XE) hE));go_simp;(try go_bits);with_reducible rfl)))
     |refine walks_alt ?_ ?_
     | (refine zah rfl rfl (fun K hK=>?_);go_wp2_with ((go_at_call 135;(with_reducible refine (HNC _ (HG.out.ext (HX1.out.trans (HGD.out.ext.trans XE.out)))).mono ?_);rintro e w2 ⟨rfl,hx2⟩;replace XE:=hid (Ext.trans (Hid.out XE) hx2)));refine hK _ _ (by first | assumption | exact Ext.alloc _ _ | exact Ext.refl _) ?_;clear hK K));try simp only [Act.put,Act.eval,evs])
    refine zag ?_
    have q1:=p1 _ XE.out
    have HG2:=hid (HGD.out.later XE.out)
    clear p1 p2
    go_wp2_with(at_builtin;refine zbW rfl _ _ rfl _ _ rfl (HG2.out.later (Ext.alloc _ _)) _ 1 1 [⟨x.type,nv⟩] rfl rfl (zgF _ ⟨x.type,nv⟩ _) (by have:=List.length_take_le j l;have:=HL3.out;simp[za8];omega) ?_;intro v' w5 hg5;have HG5:=hid hg5;clear hg5)
    refine⟨⟨j+1,by omega,by go_num,?_⟩,by simp[intOf];omega⟩
    rw[HST.out]
    exact HG5
   ·obtain rfl:j=n:=by omega
    have HT:Hid (za8 (l.take j)=za8 l):=by show _=_;rw[List.take_of_length_le (Nat.le_of_eq HR.out.len.symm)]
    rw[HT.out] at HGR
    obtain⟨A',c',rfl,hr⟩:=HGR.out.row
    have HRR:=hid hr
    clear hr
    go_wp2
    go_ret2
    refine⟨_,_,c',by rw[HE.out];rfl,?_,HX1.out.trans HGR.out.ext⟩
    rw[HE.out,if_pos rfl]
    exact HRR.out.mono fun _ _ hs=>Nat.le_trans (zaz HX1.out) hs
end
section
open Go.RowKit
set_option maxRecDepth 100000
section
variable {α β:Type}{f:α→Option β}
theorem mapM_cons{x:α}{t:List α}:(x::t).mapM f=(f x).bind fun y=>(t.mapM f).bind fun l=>some (y::l):=by
 rw[List.mapM_cons];rfl
theorem zmq:∀{a b:List α} {u v:List β},a.mapM f=some u→b.mapM f=some v→(a++b).mapM f=some (u++v)
 |[],b,u,v,h,k=>by simp at h;subst h;simpa using k
 |x::a,b,u,v,h,k=>by
  rw[mapM_cons] at h
  cases hx:f x with
  |none=>rw[hx] at h;cases h
  |some y=>
   rw[hx] at h
   cases ha:a.mapM f with
   |none=>rw[ha] at h;cases h
   |some u'=>
    rw[ha] at h
    cases h
    rw[List.cons_append,mapM_cons,hx,zmq ha k]
    rfl
theorem zd3:∀{l:List α} {x:α},x∈l→f x=none→l.mapM f=none
 |[],x,h,_=>by cases h
 |y::t,x,h,k=>by
  rw[mapM_cons]
  rcases List.mem_cons.1 h with rfl|h
  ·rw[k];rfl
  ·rw[zd3 h k]
   cases f y<;>rfl
theorem zfl{l:List α}{j:Nat}{x:α}{y:β}{u:List β}(h:(l.take j).mapM f=some u)(hx:l[j]?=some x)(hy:f x=some y):(l.take (j+1)).mapM f=some (u++[y]):=by
 rw[List.take_add_one,hx]
 exact zmq h (by rw[Option.toList_some,mapM_cons,hy];simp)
theorem zmg:∀{l:List α} {u:List β},l.mapM f=some u→u.length=l.length
 |[],u,h=>by simp at h;subst h;rfl
 |x::t,u,h=>by
  rw[mapM_cons] at h
  cases hx:f x with
  |none=>rw[hx] at h;cases h
  |some y=>
   rw[hx] at h
   cases ha:t.mapM f with
   |none=>rw[ha] at h;cases h
   |some u'=>
    rw[ha] at h
    cases h
    simp[zmg ha]
theorem zgA:∀{l:List α} {u:List β},l.mapM f=some u→∀y∈u,∃x∈l,f x=some y
 |[],u,h,y,hy=>by simp at h;subst h;cases hy
 |x::t,u,h,y,hy=>by
  rw[mapM_cons] at h
  cases hx:f x with
  |none=>rw[hx] at h;cases h
  |some y'=>
   rw[hx] at h
   cases ha:t.mapM f with
   |none=>rw[ha] at h;cases h
   |some u'=>
    rw[ha] at h
    cases h
    rcases List.mem_cons.1 hy with rfl|hy
    ·exact⟨x,by simp,hx⟩
    ·obtain⟨x',h1,h2⟩:=zgA ha y hy
     exact⟨x',by simp[h1],h2⟩
end
theorem zkC{p:List UInt8}{a:Ava}(h:avaB p=some a):a.type.length≤17:=by
 unfold avaB at h
 cases hc:zdM p with
 |none=>rw[hc] at h;cases h
 |some q=>
  obtain⟨u,v⟩:=q
  rw[hc] at h
  simp only at h
  split at h
  ·cases h
  ·cases hv:za2 v with
   |none=>rw[hv] at h;cases h
   |some z=>
    rw[hv] at h
    cases h
    exact zij u
theorem zgN{l:List Ava}{j:Nat}(h:ltO l (j+1) j=true):zc1 0 (j+1) l=zc1 0 j (zj3 l (j+1) j):=by rw[zc1,if_pos ⟨by omega,h⟩]
theorem ziJ{l:List Ava}{j:Nat}(h:ltO l (j+1) j=false):zc1 0 (j+1) l=l:=by rw[zc1,if_neg (fun k=>by rw[h] at k;cases k.2)]
theorem znn(l:List Ava)(h:l.length≤3):insF 0 (l.length-1) l=zlZ l:=by
 match l,h with
 |[],_=>rfl
 |[a],_=>rfl
 |[a,b],_=>
  show zc1 0 1 [a,b]=if ltB b.type a.type then[b,a] else[a,b]
  cases h1:ltB b.type a.type with
  |true=>rw[zgN (show ltO [a,b] 1 0=true from h1)];rfl
  |false=>rw[ziJ (show ltO [a,b] 1 0=false from h1)];rfl
 |[a,b,c],_=>
  show zc1 0 2 (zc1 0 1 [a,b,c])=_
  have e2:∀x y z:Ava,zc1 0 2 [x,y,z]=if ltB z.type y.type then(if ltB z.type x.type then[z,x,y] else[x,z,y]) else[x,y,z]:=by
   intro x y z
   cases h1:ltB z.type y.type with
   |true=>
    rw[zgN (show ltO [x,y,z] 2 1=true from h1)]
    show zc1 0 1 [x,z,y]=if ltB z.type x.type then[z,x,y] else[x,z,y]
    cases h2:ltB z.type x.type with
    |true=>rw[zgN (show ltO [x,z,y] 1 0=true from h2)];rfl
    |false=>rw[ziJ (show ltO [x,z,y] 1 0=false from h2)];rfl
   |false=>rw[ziJ (show ltO [x,y,z] 2 1=false from h1)];rfl
  show _=if ltB b.type a.type then(if ltB c.type a.type then(if ltB c.type b.type then[c,b,a] else[b,c,a]) else[b,a,c]) else(if ltB c.type b.type then(if ltB c.type a.type then[c,a,b] else[a,c,b]) else[a,b,c])
  cases h1:ltB b.type a.type with
  |true=>rw[zgN (show ltO [a,b,c] 1 0=true from h1)];exact e2 b a c
  |false=>rw[ziJ (show ltO [a,b,c] 1 0=false from h1)];exact e2 a b c
theorem zlE{s:List UInt8}{l l':List Ava}(h:(splitF 43 [] s).mapM avaB=some l)(hs:Sub l l')(he:l.length<20→l'=insF 0 (l.length-1) l) :
 zbk s=if zan l' then some l' else none:=by
 unfold zbk
 rw[h]
 simp only
 by_cases h3:l.length≤3
 ·have h4:=zmM l h3
  rw[he (by omega),znn l h3]
  unfold zfU at h4
  exact h4.symm
 ·have h5:zan l'=false:=by
   unfold zan
   rw[decide_eq_false (show ¬l'.length≤3 by rw[hs.1];exact h3)]
   simp
  have h6:zan (zcx l)=false:=by
   unfold zan
   rw[decide_eq_false (show ¬(zcx l).length≤3 by rw[zd2];exact h3)]
   simp
  rw[h5,h6]
  rfl
end
section
open Go.RowKit
set_option maxRecDepth 100000
def cutT(p:List UInt8):List UInt8×List UInt8×Bool:=match zdM p with|some (a,r)=>(a,r,true)|none=>(p,[],false)
theorem zmI:∀{p a r:List UInt8},zdM p=some (a,r)→a.length≤p.length∧r.length≤p.length
 |[],a,r,h=>by cases h
 |c::t,a,r,h=>by
  unfold zdM at h
  split at h
  ·injection h with h
   injection h with h1 h2
   subst h1 h2
   simp
  ·cases hc:zdM t with
   |none=>rw[hc] at h;cases h
   |some q=>
    obtain⟨u,v⟩:=q
    rw[hc] at h
    cases h
    have:=zmI hc
    simp only[List.length_cons]
    omega
theorem zrE(p:List UInt8):(cutT p).1.length≤p.length∧(cutT p).2.1.length≤p.length:=by
 unfold cutT
 cases h:zdM p with
 |none=>simp
 |some q=>obtain⟨a,r⟩:=q;exact zmI h
theorem zp2(p:List UInt8):avaB p=if(cutT p).2.2=true∧(za2 (cutT p).2.1).isSome=true∧(zat (cutT p).1).1≠[] then some ⟨(zat (cutT p).1).1,(za2 (cutT p).2.1).getD []⟩ else none:=by
 unfold avaB cutT
 cases h:zdM p with
 |none=>simp
 |some q=>
  obtain⟨a,r⟩:=q
  simp only[true_and]
  by_cases h0:(zat a).2=0
  ·rw[if_pos h0,if_neg (fun k=>k.2 ((zhp a).2 h0))]
  ·have h1:(zat a).1≠[]:=fun k=>h0 ((zhp a).1 k)
   rw[if_neg h0]
   cases hv:za2 r with
   |none=>simp
   |some v=>simp[h1]
theorem zr6(s:ByteArray)(w:World)(hG:Gl w)(hs:s.size≤4000000) :
 Calls Tryz.prog 177 #[.string s,.string ⟨#[61]⟩] w fun e w'=>e=.returned (.tuple #[.string (str (cutT (bys s)).1),.string (str (cutT (bys s)).2.1),.bool (cutT (bys s)).2.2])∧Ext w w':=by
 obtain⟨m,hm⟩:=hG.maxlen
 refine(Tryz.strings_Cut s ⟨#[61]⟩ m w (by omega) hm).mono ?_
 rintro e w' ⟨rfl,k,rfl⟩
 refine⟨?_,zlD (Below.refl _ _) k⟩
 have h:Lib.cut s.data.toList (ByteArray.mk #[61]).data.toList=cutT (bys s):=by
  have:=zsu (bys s)
  unfold cutT
  cases hc:zdM (bys s) with
  |none=>rw[hc] at this;exact this
  |some q=>rw[hc] at this;exact this
 rw[h]
theorem zob:∀{l:List (List UInt8)} {p:List UInt8},p∈l→p.length≤(l.map List.length).sum
 |[],p,h=>by cases h
 |x::t,p,h=>by
  rcases List.mem_cons.1 h with rfl|h
  ·simp
  ·have:=zob h;simp only[List.map_cons,List.sum_cons];omega
theorem zgG{sep:UInt8}{s p:List UInt8}(h:p∈splitF sep [] s):p.length≤s.length:=by
 have h1:=zob h
 have h2:=(zbw sep _ [] s (Nat.le_refl _)).2.2
 simp only[List.length_nil] at h2
 omega
def zew(w:World)(s:List UInt8)(e:Ending)(w':World):Prop:=
 ∃A n c,e=.returned (.tuple #[.slice A n c,.int .i64 (if(zbk s).isSome then 0 else 2)])∧Row Elem.ava (fun b=>w.heap.size≤b) w' A n c ((zbk s).getD [])∧Ext w w'
theorem zfh{S:Nat→Prop}{w:World}{A:Option Addr}{n c:Nat}{P:List (List UInt8)}(h:Row Elem.str S w A n c (strs P)){j:Nat}(hj:j<n) :
 ∃b o p,A=some ⟨b,o,none⟩∧P[j]?=some p∧w.cell? ⟨b,o+j,none⟩=some (.string (str p)):=by
 obtain⟨b,o,v,x,rfl,h1,-,h2,h3⟩:=h.at_ hj
 have hv:v=[.string x]:=h2
 subst hv
 have h4:=zld h1
 refine⟨b,o,bys x,rfl,h4,?_⟩
 have h5:=h3 0 _ rfl
 rw[zaK]
 simpa[Elem.str] using h5
theorem zjB(s:ByteArray)(w:World)(hG:Gl w)(hs:s.size≤1000000) :
 Calls Tryz.prog 146 #[.string s] w (zew w (bys s)):=by
 have HG:=hid hG
 have Hs:=hid hs
 have HSP:∀w,Calls Tryz.prog 145 #[.string s,.int .u8 43] w fun e w'=>∃v,e=.returned v∧GrowS w w' v (strs (splitF 43 [] (bys s))):=fun w=>zkf s 43 (by decide) w (by omega)
 have HPL:Hid (∀p∈splitF 43 [] (bys s),p.length≤1000000):=fun p hp=>by have:=zgG hp;rw[zaj] at this;omega
 have HPN:Hid ((splitF 43 [] (bys s)).length≤1000001∧1≤(splitF 43 [] (bys s)).length):=by
  have:=zbw 43 _ [] (bys s) (Nat.le_refl _)
  rw[zaj] at this
  exact⟨by omega,this.2.1⟩
 have HPS:Hid (∀l l',(splitF 43 [] (bys s)).mapM avaB=some l→Sub l l'→(l.length<20→l'=insF 0 (l.length-1) l)→zbk (bys s)=if zan l' then some l' else none):=fun l l'=>zlE
 have HPB:Hid ((splitF 43 [] (bys s)).mapM avaB=none→zbk (bys s)=none):=by intro h;unfold zbk;rw[h]
 clear hG hs
 generalize splitF 43 [] (bys s)=P at*
 go_enter Tryz.func146,Tryz.ntmps146
 go_wp2_with(go_at_call 145;(with_reducible refine(HSP _).mono ?_);rintro e w1 ⟨v1,rfl,hg1⟩;obtain⟨A1,c1,rfl,hr1⟩:=hg1.row;have HR1:=hid hr1;have HX1:=hid hg1.ext;clear hg1 hr1)
 have hn1:P.length≤1000001:=HPN.out.1
 rw[List.length_map] at HR1
 go_loopw [4,17] (fun v i wr=>∃(j:Nat) (l0:List Ava),j≤P.length∧i=.int .i64 j∧Hid (GrowA 189 w1 wr v l0)∧Hid ((P.take j).mapM avaB=some l0)∧Hid (l0.length=j)) (fun _ i _=>P.length-(intOf i).toNat)
 case atStart=>exact⟨0,[],by omega,rfl,GrowA.nil (Ext.refl _),by simp[Hid],rfl⟩
 case round=>
  obtain⟨j,l0,hj,rfl,HGR,HM,HLN⟩:=hrel
  by_cases hlt:j<P.length
  ·obtain⟨b,o,p,rfl,hp,e1⟩:=zfh (HR1.out.ext HGR.out.ext) hlt
   have hpl:=HPL.out p (List.mem_of_getElem? hp)
   have HC:∀w,Gl w→Calls Tryz.prog 177 #[.string (str p),.string ⟨#[61]⟩] w fun e w'=>e=.returned (.tuple #[.string (str (cutT p).1),.string (str (cutT p).2.1),.bool (cutT p).2.2])∧Ext w w':=fun w hG=>by
    have:=zr6 (str p) w hG (by rw[zaI];omega)
    rwa[zao] at this
   have HAV:=hid (zp2 p)
   have HCL:=zrE p
   generalize cutT p=q at*
   obtain⟨a,r,f⟩:=q
   simp only at HC HAV HCL
   have HT:∀w,Calls Tryz.prog 75 #[.string (str a)] w (zaX w a):=fun w=>by
    have:=zc3 (str a) w (by rw[zaI];simp only[maxLen];omega)
    rwa[zao] at this
   have HV:∀w,Calls Tryz.prog 178 #[.string (str r)] w (zfS w (za2 r)):=fun w=>by
    have:=zpa (str r) w (by rw[zaI];omega)
    rwa[zao] at this
   unfold zaX at HT
   unfold zfS at HV
   generalize zat a=tk at*
   obtain⟨t,k⟩:=tk
   generalize za2 r=vo at*
   simp only at HT HAV
   have HNO:Hid (avaB p=none→zbk (bys s)=none):=fun h=>HPB.out (zd3 (List.mem_of_getElem? hp) h)
   have HYES:Hid (∀y,avaB p=some y→(P.take (j+1)).mapM avaB=some (l0++[y])):=fun y h=>zfl HM.out hp h
   have HL1:=HLN.out
   clear hp
   by_cases hok:f=true∧vo.isSome=true∧t≠[]
   ·obtain⟨rfl,hv,ht⟩:=hok
    obtain⟨v,rfl⟩:=Option.isSome_iff_exists.1 hv
    have t0:(t == [])=false:=by rw[beq_eq_false_iff_ne];exact ht
    have HY:=hid (HYES.out ⟨t,v⟩ (by rw[HAV.out,if_pos ⟨rfl,rfl,ht⟩];rfl))
    clear HYES HNO HAV hv ht HL1
    go_wp2_with (first
     |(go_at_call 177;(with_reducible refine(HC _ (HG.out.ext (HX1.out.trans HGR.out.ext))).mono ?_);rintro e w2 ⟨rfl,hx2⟩;have HX2:=hid hx2;clear hx2)
     |(go_at_call 75;(with_reducible refine(HT _).mono ?_);rintro e w3 ⟨rfl,hx3⟩;have HX2':=hid (HX2.out.trans hx3);clear HX2 hx3;have HX2:=HX2';clear HX2')
     |(go_at_call 178;(with_reducible refine(HV _).mono ?_);rintro e w4 ⟨rfl,hx4⟩;have HX2':=hid (HX2.out.trans hx4);clear HX2 hx4;have HX2:=HX2';clear HX2')
     | (at_builtin;refine zgP rfl _ _ rfl _ _ rfl ((HGR.out.later HX2.out).later (Ext.alloc _ _)) _ 1 1 [⟨t,v⟩] rfl rfl (zgF _ ⟨t,v⟩ _) (by have:=HLN.out;omega) ?_;intro v' w5 hg5;have HG5:=hid hg5;clear hg5))
    exact⟨⟨j+1,_,by omega,by go_num,HG5,HY,by show _=_;rw[List.length_append,HLN.out];rfl⟩,by simp[intOf];omega⟩
   ·have HF:=hid (HNO.out (by rw[HAV.out,if_neg hok]))
    have hbad:f=false∨(f=true∧vo.isSome=false)∨(f=true∧vo.isSome=true∧(t == [])=true):=by
     cases f
     ·exact .inl rfl
     ·cases hv:vo.isSome
      ·exact .inr (.inl ⟨rfl,rfl⟩)
      ·refine .inr (.inr ⟨rfl,rfl,?_⟩)
       rw[beq_iff_eq]
       by_cases h:t=[]
       ·exact h
       ·exact absurd ⟨rfl,hv,h⟩ hok
    clear HYES HNO HAV hok HL1
    rcases hbad with rfl|⟨rfl,hb1⟩|⟨rfl,hb1,hb2⟩
    all_goals
     go_wp2_with (first
      |(go_at_call 177;(with_reducible refine(HC _ (HG.out.ext (HX1.out.trans HGR.out.ext))).mono ?_);rintro e w2 ⟨rfl,hx2⟩;have HX2:=hid hx2;clear hx2)
      |(go_at_call 75;(with_reducible refine(HT _).mono ?_);rintro e w3 ⟨rfl,hx3⟩;have HX2':=hid (HX2.out.trans hx3);clear HX2 hx3;have HX2:=HX2';clear HX2')
      |(go_at_call 178;(with_reducible refine(HV _).mono ?_);rintro e w4 ⟨rfl,hx4⟩;have HX2':=hid (HX2.out.trans hx4);clear HX2 hx4;have HX2:=HX2';clear HX2')
      )
     go_ret2
     refine⟨none,0,0,by rw[HF.out];rfl,by rw[HF.out];exact Row.nil _ _ _,HX1.out.trans (HGR.out.ext.trans HX2.out)⟩
  ·obtain rfl:j=P.length:=by omega
   have HMA:Hid (P.mapM avaB=some l0):=by show _=_;rw[←HM.out,List.take_length]
   have hpos:0<l0.length:=by have h1:=HLN.out;have h2:=HPN.out.2;omega
   obtain⟨g,cap,rfl,hc1,hc2⟩:=HGR.out.form hpos
   have HPA:Hid (∀l',Sub l0 l'→(l0.length<20→l'=insF 0 (l0.length-1) l0)→zbk (bys s)=if zan l' then some l' else none):=fun l'=>HPS.out l0 l' HMA.out
   have HTY:Hid (∀a∈l0,a.type.length≤17):=fun a ha=>by
    obtain⟨x,_,hx⟩:=zgA HMA.out a ha
    exact zkC hx
   have hln:l0.length≤4000000:=by rw[HLN.out];omega
   have HST:=zqw HGR.out hln
   unfold zev at HST
   clear HLN HPS HM hpos hc1 hc2
   go_wp2_with(go_at_call 179;(with_reducible refine HST.mono ?_);rintro e w2 ⟨rfl,⟨l',hg2,hs2,he2⟩,hb2⟩;have HG2:=hid hg2;have HP2:=hid (HPA.out l' hs2 he2);have HT2:=hid hs2;clear hg2 hs2 he2 hb2)
   obtain⟨A2,c2,hv2,hr2⟩:=HG2.out.row
   injection hv2 with hv3 hv4 hv5
   subst hv3 hv5
   have HR2:=hid hr2
   rw[←hv4] at HR2
   have HFM:=zfN (HG.out.ext (HX1.out.trans HG2.out.ext)) HR2.out (fun a ha=>by have:=HTY.out a (HT2.out.2 a ha);omega)
   clear hr2 hv4 HST
   cases hf:zan l' with
   |true=>
    rw[hf] at HFM
    have HE:Hid (zbk (bys s)=some l'):=by show _=_;rw[HP2.out,hf];rfl
    clear hf
    go_wp2_with(go_at_call 147;(with_reducible refine HFM.mono ?_);rintro e w3 ⟨rfl,hx3⟩;have HX3:=hid hx3;clear hx3)
    go_ret2
    refine⟨some ⟨g,0,none⟩,l0.length,cap,by rw[HE.out];rfl,?_,HX1.out.trans (HG2.out.ext.trans HX3.out)⟩
    rw[HE.out]
    exact(HR2.out.ext HX3.out).mono fun _ _ h=>Nat.le_trans (zaz HX1.out) h
   |false=>
    rw[hf] at HFM
    have HE:Hid (zbk (bys s)=none):=by show _=_;rw[HP2.out,hf];rfl
    clear hf
    go_wp2_with(go_at_call 147;(with_reducible refine HFM.mono ?_);rintro e w3 ⟨rfl,hx3⟩;have HX3:=hid hx3;clear hx3)
    go_ret2
    exact⟨none,0,0,by rw[HE.out];rfl,by rw[HE.out];exact Row.nil _ _ _,HX1.out.trans (HG2.out.ext.trans HX3.out)⟩
def ziT(w:World)(p:List UInt8)(e:Ending)(w':World):Prop:=
 ∃x:Ava,e=.returned (.tuple #[avaV x,.bool (avaB p).isSome])∧(∀y,avaB p=some y→x=y)∧Ext w w'
theorem zqf{p:List UInt8}{j:Nat}(hn:∀i,i<j→p[i]?≠some 61)(h:p[j]?=some 61):zdM p=some (p.take j,p.drop (j+1)):=by
 have h1:p=p.take j++61::p.drop (j+1):=by
  obtain⟨h1,h2⟩:=List.getElem?_eq_some_iff.1 h
  have:=List.take_append_drop j p
  rw[List.drop_eq_getElem_cons h1,h2] at this
  exact this.symm
 have h2:(61:UInt8) ∉ p.take j:=by
  intro hm
  obtain⟨i,hi,he⟩:=List.mem_iff_getElem.1 hm
  rw[List.length_take] at hi
  refine hn i (by omega) ?_
  rw[List.getElem_take] at he
  rw[List.getElem?_eq_getElem (by omega),he]
 conv=>lhs;rw[h1]
 exact zfd _ _ h2
theorem zop{p:List UInt8}(hn:∀i,i<p.length→p[i]?≠some 61):zdM p=none:=by
 refine zfR p fun hm=>?_
 obtain⟨i,hi,he⟩:=List.mem_iff_getElem.1 hm
 exact hn i hi (by rw[List.getElem?_eq_getElem hi,he])
theorem zqQ(s:ByteArray)(w:World)(hs:s.size≤1000000) :
 Calls Tryz.prog 158 #[.string s] w (ziT w (bys s)):=by
 have Hs:=hid hs
 go_enter Tryz.func158,Tryz.ntmps158
 go_wp2
 go_loop [4] (fun i=>∃j:Nat,j≤s.size∧i=.int .i64 j∧Hid (∀i,i<j→(bys s)[i]?≠some 61)) (fun i=>s.size-(intOf i).toNat)
 case atStart=>exact⟨0,by omega,rfl,fun i hi=>by omega⟩
 case round=>
  obtain⟨j,hj,rfl,HN⟩:=hrel
  by_cases hlt:j<s.size
  ·have hlt':(j:Int)<(s.size:Int):=by omega
   obtain⟨x,hx⟩:=zcm hlt
   have gx:=zaV hx hlt
   by_cases h61:x=61
   ·have t1:((x.toNat:Int) != 61)=false:=by rw[h61];rfl
    have HC:Hid (zdM (bys s)=some ((bys s).take j,(bys s).drop (j+1))):=zqf HN.out (by rw[hx,h61])
    have tj:((j:Int)==(s.size:Int))=false:=by rw[beq_eq_false_iff_ne];omega
    obtain⟨a,ha⟩:∃a,a=(bys s).take j:=⟨_,rfl⟩
    obtain⟨r,hr⟩:∃r,r=(bys s).drop (j+1):=⟨_,rfl⟩
    have hs1:s.extract 0 j=str a:=by rw[ha,←zaK (s.extract 0 j),zdZ];rfl
    have hs2:s.extract (j+1) s.size=str r:=by rw[hr,←zaK (s.extract (j+1) s.size),zeq]
    have hal:a.length≤1000000:=by rw[ha,List.length_take,zaj];omega
    have hrl:r.length≤1000000:=by rw[hr,List.length_drop,zaj];omega
    have z1:((j:Int)+1).toNat=j+1:=by omega
    have z2:(j:Int)+1≤(s.size:Int):=by omega
    have z3:(j:Int)≤(s.size:Int):=by omega
    rw[←ha,←hr] at HC
    have HAV:Hid (avaB (bys s)=if(zat a).2=0 then none else(za2 r).map fun v=>⟨(zat a).1,v⟩):=by show _=_;unfold avaB;rw[HC.out]
    have HT:∀w,Calls Tryz.prog 137 #[.string (str a)] w (zaX w a):=fun w=>by
     have:=zg0 (str a) w (by rw[zaI];simp only[maxLen];omega)
     rwa[zao] at this
    have HV:∀w,Calls Tryz.prog 187 #[.string (str r)] w (zfS w (za2 r)):=fun w=>by
     have:=zq6 (str r) w (by rw[zaI];omega)
     rwa[zao] at this
    unfold zaX at HT
    unfold zfS at HV
    generalize zat a=tk at*
    obtain⟨t,k⟩:=tk
    generalize za2 r=vo at*
    simp only at HT HAV
    have tk0:((k:Int) != 0) = !decide (k=0):=by
     by_cases h:k=0
     ·simp[h]
     ·rw[decide_eq_false h];rw[bne_iff_ne.2 (by omega)];rfl
    have HRES:Hid (∃x:Ava,x=⟨t,vo.getD []⟩∧((vo.isSome&&!decide (k=0))=(avaB (bys s)).isSome)∧∀y,avaB (bys s)=some y→x=y):=by
     refine⟨_,rfl,?_,?_⟩
     ·rw[HAV.out]
      by_cases h:k=0
      ·simp[h]
      ·cases vo<;>simp[h]
     ·intro y hy
      rw[HAV.out] at hy
      by_cases h:k=0
      ·rw[if_pos h] at hy;cases hy
      ·rw[if_neg h] at hy
       cases vo with
       |none=>cases hy
       |some v=>cases hy;rfl
    clear hx h61 ha hr HC HAV HN
    cases hv:vo.isSome
    all_goals
     rw[hv] at HRES
     have HRS:=hid (HRES.out)
     go_wp2_with (first
      |(go_at_call 137;(with_reducible refine(HT _).mono ?_);rintro e w3 ⟨rfl,hx3⟩;have HX3:=hid hx3;clear hx3)
      | (go_at_call 187;(with_reducible refine (HV _).mono ?_);rintro e w4 ⟨he4,hx4⟩;rw [hv] at he4;subst he4;have HB:=(Bx.make (Ext.refl w) #[.string ByteArray.empty,.string ByteArray.empty] 199).later (HX3.out.trans hx4);have c0:=HB.cell (i:=0) rfl;have c1:=HB.cell (i:=1) rfl;have f0:=HB.frozen 0;have f1:=HB.frozen 1;have HBX:=hid HB;clear hx4 HB))
     (try simp only[Exit.inBlock,Exit.then])
     refine zaq _ rfl rfl ((HBX.out.set0 (.string (str t))).set1 (.string (str (vo.getD [])))) Tryz.underlying199 rfl (by kernel_rfl) rfl ?_
     obtain⟨x',rfl,hb,hu⟩:=HRS.out
     refine⟨_,?_,hu,((HBX.out.set0 (.string (str t))).set1 (.string (str (vo.getD [])))).ext⟩
     rw[←hb]
     rfl
   ·have t1:((x.toNat:Int) != 61)=true:=by
     have h:((x.toNat:Int)==61)=false:=zav (k:=61) h61
     rw[bne,h];rfl
    have HN2:Hid (∀i,i<j+1→(bys s)[i]?≠some 61):=by
     intro i hi
     by_cases hij:i=j
     ·subst hij;rw[hx];intro e;injection e with e;exact h61 e
     ·exact HN.out i (by omega)
    clear hx h61
    go_wp2
    exact⟨⟨j+1,by omega,by go_num,HN2⟩,by simp[intOf];omega⟩
  ·obtain rfl:j=s.size:=by omega
   have HF:Hid (avaB (bys s)=none):=by
    show _=_
    unfold avaB
    rw[zop (fun i hi=>HN.out i (by rw[zaj] at hi;exact hi))]
   have HBX:=hid (Bx.make (Ext.refl w) #[.string ByteArray.empty,.string ByteArray.empty] 199)
   clear HN
   go_wp2
   (try simp only[Exit.inBlock,Exit.then])
   refine zaq _ rfl rfl HBX.out Tryz.underlying199 rfl (by kernel_rfl) rfl ?_
   refine⟨⟨[],[]⟩,?_,?_,HBX.out.ext⟩
   ·rw[HF.out];rfl
   ·intro y hy;rw[HF.out] at hy;cases hy
theorem zeA:Tryz.prog.underlying 149=some (.slice (Tryz.prog.elem 149)):=by kernel_rfl
theorem zkB(w:World):(sizeOf (Tryz.prog.elem 149)).run Tryz.prog w=.ok 2 w:=by kernel_rfl
theorem zmm(A:Option Addr)(n c l:Nat)(hlk:l≤n) :
 ∀w,(Instr.sliceAt 149 (.slice A n c) (some (.int .i64 (l:Int))) none none).run Tryz.prog w=.ok (.slice (cutA A l c 2) (n-l) (c-l)) w:=fun w=>by
 have h1:(l:Int)≤(n:Int):=by omega
 have:=run_slice_l (P:=Tryz.prog) w 149 A n c zeA .i64 (l:Int) (by omega) h1
 rw[run_sliceAt_slice w 149 _ _ _ _ zeA,this,zkB]
 simp only[sliced,cutA,Result.andThen,Int.toNat_natCast]
theorem zmv(A:Option Addr)(n c k:Nat)(hlk:k≤c) :
 ∀w,(Instr.sliceAt 149 (.slice A n c) none (some (.int .i64 (k:Int))) none).run Tryz.prog w=.ok (.slice (cutA A 0 c 2) k c) w:=fun w=>by
 have h2:(k:Int)≤(c:Int):=by omega
 have:=run_slice_h (P:=Tryz.prog) w 149 A n c zeA .i64 (k:Int) (by omega) h2
 rw[run_sliceAt_slice w 149 _ _ _ _ zeA,this,zkB]
 simp only[sliced,cutA,Result.andThen,Int.toNat_natCast,Nat.sub_zero]
theorem Cells.cut2{w:World}{A:Option Addr}{vs:List Value}(h:Cells w A vs){k cap:Nat}(hc:vs.length≤cap * 2):Cells w (cutA A k cap 2) (vs.drop (k * 2)):=by
 unfold cutA
 split
 ·subst_vars;exact .inl (List.drop_eq_nil_of_le hc)
 ·exact h.drop (k * 2)
theorem zkJ:∀(l:List Ava) (k:Nat),((l.drop k).map zay).flatten=(l.map zay).flatten.drop (k * 2)
 |[],k=>by simp
 |a::l,0=>by simp
 |a::l,k+1=>by
  rw[List.drop_succ_cons,zkJ l k,Nat.succ_mul]
  rfl
theorem zjX:∀(l:List Ava) (k:Nat),((l.take k).map zay).flatten=(l.map zay).flatten.take (k * 2)
 |[],k=>by simp
 |a::l,0=>by simp
 |a::l,k+1=>by
  rw[List.take_succ_cons,List.map_cons,List.flatten_cons,zjX l k,Nat.succ_mul]
  rfl
theorem zin{S:Nat→Prop}{w:World}{A:Option Addr}{n c:Nat}{l:List Ava}(h:Row Elem.ava S w A n c l)(k:Nat):Cells w (cutA A k c 2) ((l.drop k).map zay).flatten:=by
 rw[zkJ]
 exact(zhD h).cut2 (by rw[zc4,←h.len];have:=h.cap;omega)
theorem ziD{S:Nat→Prop}{w:World}{A:Option Addr}{n c:Nat}{l:List Ava}(h:Row Elem.ava S w A n c l)(k:Nat):Cells w (cutA A 0 c 2) ((l.take k).map zay).flatten:=by
 rw[zjX]
 have:=((zhD h).cut2 (k:=0) (cap:=c) (by rw[zc4,←h.len];have:=h.cap;omega)).take (k * 2)
 simpa using this
theorem zlK{a:Ava}:∀{o:List Ava} {k:Nat},k≤o.length→(∀i y,i<k→o[i]?=some y→ltB y.type a.type=true)→(∀y,o[k]?=some y→ltB y.type a.type=false)→insA a o=o.take k++a::o.drop k
 |[],k,h,_,_=>by simp at h;subst h;rfl
 |b::t,0,_,_,h2=>by
  have:=h2 b rfl
  simp[insA,this]
 |b::t,k+1,h,h1,h2=>by
  have hb:=h1 0 b (by omega) rfl
  have ih:=zlK (a:=a) (o:=t) (k:=k) (by simpa using h) (fun i y hi hy=>h1 (i+1) y (by omega) (by simpa using hy)) (fun y hy=>h2 y (by simpa using hy))
  simp[insA,hb,ih]
theorem zm8(l:List Ava)(a:Ava):zcx (l++[a])=insA a (zcx l):=by simp[zcx]
theorem zjx(s:ByteArray)(w:World)(hG:Gl w)(hs:s.size≤1000000) :
 Calls Tryz.prog 133 #[.string s] w (zew w (bys s)):=by
 have HG:=hid hG
 have Hs:=hid hs
 have HSP:∀w,Calls Tryz.prog 132 #[.string s,.int .u8 43] w fun e w'=>∃v,e=.returned v∧GrowS w w' v (strs (splitF 43 [] (bys s))):=fun w=>zio s 43 (by decide) w (by omega)
 have HPL:Hid (∀p∈splitF 43 [] (bys s),p.length≤1000000):=fun p hp=>by have:=zgG hp;rw[zaj] at this;omega
 have HPF:Hid (3<(splitF 43 [] (bys s)).length→zbk (bys s)=none):=zqg _
 have HPB:Hid ((splitF 43 [] (bys s)).mapM avaB=none→zbk (bys s)=none):=by intro h;unfold zbk;rw[h]
 have HPY:Hid (∀l,(splitF 43 [] (bys s)).mapM avaB=some l→zbk (bys s)=if zan (zcx l) then some (zcx l) else none):=by intro l h;unfold zbk;rw[h]
 clear hG hs
 generalize splitF 43 [] (bys s)=P at*
 by_cases h3:3<P.length
 ·have HF:=hid (HPF.out h3)
  have h3':3<(P.length:Int):=by omega
  clear h3
  go_enter Tryz.func133,Tryz.ntmps133
  go_wp2_with(go_at_call 132;(with_reducible refine(HSP _).mono ?_);rintro e w1 ⟨v1,rfl,hg1⟩;obtain⟨A1,c1,rfl,hr1⟩:=hg1.row;have HX1:=hid hg1.ext;clear hg1 hr1)
  go_ret2
  exact⟨none,0,0,by rw[HF.out];rfl,by rw[HF.out];exact Row.nil _ _ _,HX1.out⟩
 ·have h3':¬3<(P.length:Int):=by omega
  go_enter Tryz.func133,Tryz.ntmps133
  go_wp2_with(go_at_call 132;(with_reducible refine(HSP _).mono ?_);rintro e w1 ⟨v1,rfl,hg1⟩;obtain⟨A1,c1,rfl,hr1⟩:=hg1.row;have HR1:=hid hr1;have HX1:=hid hg1.ext;clear hg1 hr1)
  rw[List.length_map] at HR1
  have hn1:P.length≤3:=by omega
  clear h3 h3'
  go_loopw [4,18] (fun v i wr=>∃(j:Nat) (l0:List Ava),j≤P.length∧i=.int .i64 j∧Hid (GrowA 199 w1 wr v (zcx l0))∧Hid ((P.take j).mapM avaB=some l0)∧Hid (l0.length=j)) (fun _ i _=>P.length-(intOf i).toNat)
  case atStart=>exact⟨0,[],by omega,rfl,GrowA.nil (Ext.refl _),by simp[Hid],rfl⟩
  case round=>
   obtain⟨j,l0,hj,rfl,HGR,HM,HLN⟩:=hrel
   by_cases hlt:j<P.length
   ·have hlt':(j:Int)<(P.length:Int):=by omega
    obtain⟨b,o,p,rfl,hp,e1⟩:=zfh (HR1.out.ext HGR.out.ext) hlt
    have hpl:=HPL.out p (List.mem_of_getElem? hp)
    have HPA:∀w,Calls Tryz.prog 158 #[.string (str p)] w (ziT w p):=fun w=>by
     have:=zqQ (str p) w (by rw[zaI];omega)
     rwa[zao] at this
    unfold ziT at HPA
    have HNO:Hid (avaB p=none→zbk (bys s)=none):=fun h=>HPB.out (zd3 (List.mem_of_getElem? hp) h)
    have HYES:Hid (∀y,avaB p=some y→(P.take (j+1)).mapM avaB=some (l0++[y])):=fun y h=>zfl HM.out hp h
    clear hp
    cases hav:avaB p with
    |none=>
     rw[hav] at HPA
     have HF:=hid (HNO.out hav)
     clear HNO HYES hav
     go_wp2_with(go_at_call 158;(with_reducible refine(HPA _).mono ?_);rintro e w2 ⟨x,rfl,-,hx2⟩;have HX2:=hid hx2;clear hx2)
     go_ret2
     exact⟨none,0,0,by rw[HF.out];rfl,by rw[HF.out];exact Row.nil _ _ _,HX1.out.trans (HGR.out.ext.trans (HX2.out.trans (Ext.alloc _ _)))⟩
    |some y=>
     have HY:=hid (HYES.out y hav)
     rw[hav] at HPA
     clear HNO HYES hav
     have hm3:(zcx l0).length≤3:=by have:=HLN.out;rw[zd2];omega
     have HSN:=hid (zm8 l0 y)
     have HL2:Hid ((l0++[y]).length=j+1):=by show _=_;rw[List.length_append,HLN.out];rfl
     obtain⟨A4,c4,rfl,hr4⟩:=HGR.out.row
     have HR4:=hid hr4
     have hcap:=hr4.cap
     generalize zcx l0=so at*
     clear hr4
     go_wp2_with(go_at_call 158;(with_reducible refine(HPA _).mono ?_);rintro e w2 ⟨x,rfl,hxy,hx2⟩;obtain rfl:=hxy y rfl;have HX2:=hid hx2;clear hx2 hxy)
     have HB:=hid (Bx.make (Ext.refl w2) #[.string (str x.type),.string (str x.val)] 199)
     go_loopw [9] (fun u wq=>∃k:Nat,k≤so.length∧u=.int .i64 k∧Hid (∀(i:Nat) (y:Ava),i<k→so[i]?=some y→ltB y.type x.type=true)∧Hid (Ext (w2.alloc (.cells #[.string (str x.type),.string (str x.val)] 199)) wq)) (fun u _=>so.length-(intOf u).toNat)
     case atStart=>exact⟨0,by omega,rfl,fun i y hi=>by omega,Ext.refl _⟩
     case round=>
      obtain⟨k,hk,rfl,HLT,HXQ⟩:=hrel
      have HXW:=hid (HX2.out.trans ((Ext.alloc _ _).trans HXQ.out))
      have a0:=(HB.later HXQ.out).cell (i:=0) rfl
      have a1:=(HB.later HXQ.out).cell (i:=1) rfl
      by_cases hks:k<so.length
      ·have hks':(k:Int)<(so.length:Int):=by omega
       obtain⟨b5,o5,y,rfl,hy,y0,-⟩:=zgj (HR4.out.ext HXW.out) hks
       cases hlb:ltB y.type x.type with
       |true=>
        have q1:Op.bytesLess y.type x.type=true:=zrr hlb
        have HL5:Hid (∀(i:Nat) (z:Ava),i<k+1→so[i]?=some z→ltB z.type x.type=true):=by
         intro i z hi hz
         by_cases hik:i=k
         ·subst hik;rw[hy] at hz;injection hz with hz;rw[←hz];exact hlb
         ·exact HLT.out i z (by omega) hz
        clear hy hlb
        go_wp2
        refine zac (.read 0 (.read 1 (.read 2 (.read 3 (.read 4 (.read 5 (.read 6 (.read 7 (.read 8 (.read 9 (.read 10 (.read 11 (.read 12 (.read 13 .done)))))))))))))) (by kernel_rfl) (by kernel_rfl) ?_
        intro wD hxD
        have XE:Hid (Ext wD wD):=Ext.refl _
        have p0:=zaa (zaa y0 _ hxD)
        have pa:=zaa (zaa a0 _ hxD)
        repeat' ((first
         |refine zaf rfl rfl ?_
         |refine zad rfl rfl ?_
         |refine zai rfl rfl ?_
         |refine zab rfl rfl ?_
         |(refine zae (v:=?_) rfl rfl (fun w' hE=>?_) ?_;rotate_left 1;(· ((try(have hEx:=Ext.trans (Hid.out XE) hE));go_simp;(try go_bits);with_reducible rfl)))
         |refine walks_alt ?_ ?_
         | (refine zah rfl rfl (fun K hK=>?_);go_wp2_with (fail);refine hK _ _ (by first | assumption | exact Ext.alloc _ _ | exact Ext.refl _) ?_;clear hK K));try simp only [Act.put,Act.eval,evs])
        refine zag ?_
        go_wp2
        exact⟨⟨k+1,by omega,by go_num,HL5,HXQ.out.trans (hxD.trans XE.out)⟩,by simp[intOf];omega⟩
       |false=>
        have q1:Op.bytesLess y.type x.type=false:=zpP hlb
        have HIN:Hid (insA x so=so.take k++x::so.drop k):=zlK hk HLT.out (fun z hz=>by rw[hy] at hz;injection hz with hz;rw[←hz];exact hlb)
        clear hy hlb
        go_wp2
        refine zac (.read 0 (.read 1 (.read 2 (.read 3 (.read 4 (.read 5 (.read 6 (.read 7 (.read 8 (.read 9 (.read 10 (.read 11 (.read 12 (.read 13 .done)))))))))))))) (by kernel_rfl) (by kernel_rfl) ?_
        intro wD hxD
        have XE:Hid (Ext wD wD):=Ext.refl _
        have p0:=zaa (zaa y0 _ hxD)
        have pa:=zaa (zaa a0 _ hxD)
        repeat' ((first
         |refine zaf rfl rfl ?_
         |refine zad rfl rfl ?_
         |refine zai rfl rfl ?_
         |refine zab rfl rfl ?_
         |(refine zae (v:=?_) rfl rfl (fun w' hE=>?_) ?_;rotate_left 1;(· ((try(have hEx:=Ext.trans (Hid.out XE) hE));go_simp;(try go_bits);with_reducible rfl)))
         |refine walks_alt ?_ ?_
         | (refine zah rfl rfl (fun K hK=>?_);go_wp2_with (fail);refine hK _ _ (by first | assumption | exact Ext.alloc _ _ | exact Ext.refl _) ?_;clear hK K));try simp only [Act.put,Act.eval,evs])
        refine zag ?_
        have HXQ2:=hid (HXQ.out.trans (hxD.trans XE.out))
        have HXW2:=hid (HXW.out.trans (hxD.trans XE.out))
        have a0':=pa _ XE.out
        have a1':=zaa a1 _ (hxD.trans XE.out)
        clear a0 a1 p0 pa y0
        have hsh:=zmv (some ⟨b5,o5,none⟩) so.length c4 k (by omega)
        have hsl:=zmm (some ⟨b5,o5,none⟩) so.length c4 k (by omega)
        have HRQ:=hid (HR4.out.ext HXW2.out)
        have HCT:=hid (ziD HRQ.out k)
        have HCD:=hid (zin HRQ.out k)
        go_wp2_with (at_builtin;first
         |(refine zbW rfl _ _ rfl _ _ rfl HG6.out _ _ _ (so.drop k) rfl (by(try simp only[List.length_drop]);(try omega)) (HCD.out.below HG6.out.ext) (by simp only[List.nil_append,List.length_append,List.length_take,List.length_cons,List.length_nil];omega) ?_;intro v7 w7 hg7;have HG7:=hid hg7;clear hg7)
         |(refine zbW rfl _ _ rfl _ _ rfl (HG5.out.later (Ext.alloc _ _)) _ 1 1 [x] rfl rfl (zgF _ x _) (by simp only[List.nil_append,List.length_append,List.length_take,List.length_cons,List.length_nil];omega) ?_;intro v6 w6 hg6;have HG6:=hid hg6;clear hg6)
         | (refine zbW rfl _ _ rfl _ [] rfl (GrowA.nil (Ext.refl _)) _ _ _ (so.take k) rfl (by rw [List.length_take];omega) HCT.out (by rw [List.length_nil];omega) ?_;intro v5 w5 hg5;have HG5:=hid hg5;have a0'':=zaa a0' _ hg5.ext;have a1'':=zaa a1' _ hg5.ext;clear hg5 a0' a1'))
        refine⟨⟨j+1,_,by omega,by go_num,?_,HY,HL2⟩,by simp[intOf];omega⟩
        rw[HSN.out,HIN.out]
        show GrowA 199 w1 w7 v7 _
        have:=HG7.out.base (HGR.out.ext.trans HXW2.out)
        rwa[List.nil_append,List.append_assoc,List.singleton_append] at this
      ·obtain rfl:k=so.length:=by omega
       have hks':decide ((so.length:Int)<(so.length:Int))=false:=by rw[decide_eq_false_iff_not];omega
       have HIN:Hid (insA x so=so.take so.length++x::so.drop so.length):=zlK hk HLT.out (fun z hz=>by rw[List.getElem?_eq_none (Nat.le_refl _)] at hz;cases hz)
       go_wp2
       refine zac (.read 0 (.read 1 (.read 2 (.read 3 (.read 4 (.read 5 (.read 6 (.read 7 (.read 8 (.read 9 (.read 10 (.read 11 (.read 12 (.read 13 .done)))))))))))))) (by kernel_rfl) (by kernel_rfl) ?_
       intro wD hxD
       have XE:Hid (Ext wD wD):=Ext.refl _
       repeat' ((first
        |refine zaf rfl rfl ?_
        |refine zad rfl rfl ?_
        |refine zai rfl rfl ?_
        |refine zab rfl rfl ?_
        |(refine zae (v:=?_) rfl rfl (fun w' hE=>?_) ?_;rotate_left 1;(· ((try(have hEx:=Ext.trans (Hid.out XE) hE));go_simp;(try go_bits);with_reducible rfl)))
        |refine walks_alt ?_ ?_
        | (refine zah rfl rfl (fun K hK=>?_);go_wp2_with (fail);refine hK _ _ (by first | assumption | exact Ext.alloc _ _ | exact Ext.refl _) ?_;clear hK K));try simp only [Act.put,Act.eval,evs])
       refine zag ?_
       have HXQ2:=hid (HXQ.out.trans (hxD.trans XE.out))
       have HXW2:=hid (HXW.out.trans (hxD.trans XE.out))
       have a0':=zaa a0 _ (hxD.trans XE.out)
       have a1':=zaa a1 _ (hxD.trans XE.out)
       clear a0 a1 hks hks'
       have hsh:=zmv A4 so.length c4 so.length (by omega)
       have hsl:=zmm A4 so.length c4 so.length (by omega)
       have HRQ:=hid (HR4.out.ext HXW2.out)
       have HCT:=hid (ziD HRQ.out so.length)
       have HCD:=hid (zin HRQ.out so.length)
       go_wp2_with (at_builtin;first
        |(refine zbW rfl _ _ rfl _ _ rfl HG6.out _ _ _ (so.drop so.length) rfl (by(try simp only[List.length_drop]);(try omega)) (HCD.out.below HG6.out.ext) (by simp only[List.nil_append,List.length_append,List.length_take,List.length_cons,List.length_nil];omega) ?_;intro v7 w7 hg7;have HG7:=hid hg7;clear hg7)
        |(refine zbW rfl _ _ rfl _ _ rfl (HG5.out.later (Ext.alloc _ _)) _ 1 1 [x] rfl rfl (zgF _ x _) (by simp only[List.nil_append,List.length_append,List.length_take,List.length_cons,List.length_nil];omega) ?_;intro v6 w6 hg6;have HG6:=hid hg6;clear hg6)
        | (refine zbW rfl _ _ rfl _ [] rfl (GrowA.nil (Ext.refl _)) _ _ _ (so.take so.length) rfl (by rw [List.length_take];omega) HCT.out (by rw [List.length_nil];omega) ?_;intro v5 w5 hg5;have HG5:=hid hg5;have a0'':=zaa a0' _ hg5.ext;have a1'':=zaa a1' _ hg5.ext;clear hg5 a0' a1'))
       refine⟨⟨j+1,_,by omega,by go_num,?_,HY,HL2⟩,by simp[intOf];omega⟩
       rw[HSN.out,HIN.out]
       show GrowA 199 w1 w7 v7 _
       have:=HG7.out.base (HGR.out.ext.trans HXW2.out)
       rwa[List.nil_append,List.append_assoc,List.singleton_append] at this
   ·obtain rfl:j=P.length:=by omega
    have HMA:Hid (P.mapM avaB=some l0):=by show _=_;rw[←HM.out,List.take_length]
    have HPA:=hid (HPY.out l0 HMA.out)
    have HTY:Hid (∀a∈zcx l0,a.type.length≤17):=by
     have h1:∀(l o:List Ava) a,a∈l.foldl (fun o a=>insA a o) o→a∈o∨a∈l:=by
      intro l
      induction l with
      |nil=>intro o a h;exact .inl h
      |cons b t ih=>
       intro o a h
       rcases ih _ _ h with h|h
       ·have h2:∀(o:List Ava),a∈insA b o→a=b∨a∈o:=by
         intro o
         induction o with
         |nil=>intro h;simpa[insA] using h
         |cons c t ih2=>
          intro h
          unfold insA at h
          split at h
          ·rcases List.mem_cons.1 h with h|h
           ·exact .inr (by simp[h])
           ·rcases ih2 h with h|h
            ·exact .inl h
            ·exact .inr (by simp[h])
          ·simpa using h
        rcases h2 o h with h|h
        ·exact .inr (by simp[h])
        ·exact .inl h
       ·exact .inr (by simp[h])
     intro a ha
     rcases h1 l0 [] a ha with h|h
     ·cases h
     ·obtain⟨q,_,hq⟩:=zgA HMA.out a h
      exact zkC hq
    obtain⟨A2,c2,rfl,hr2⟩:=HGR.out.row
    have HR2:=hid hr2
    have HFM:=zeN (HG.out.ext (HX1.out.trans HGR.out.ext)) HR2.out (fun a ha=>by have:=HTY.out a ha;omega)
    clear hr2 HMA HM
    generalize zcx l0=so at*
    cases hf:zan so with
    |true=>
     rw[hf] at HFM
     have HE:Hid (zbk (bys s)=some so):=by show _=_;rw[HPA.out,hf];rfl
     clear hf
     go_wp2_with(go_at_call 134;(with_reducible refine HFM.mono ?_);rintro e w3 ⟨rfl,hx3⟩;have HX3:=hid hx3;clear hx3)
     go_ret2
     refine⟨A2,so.length,c2,by rw[HE.out];rfl,?_,HX1.out.trans (HGR.out.ext.trans HX3.out)⟩
     rw[HE.out]
     exact(HR2.out.ext HX3.out).mono fun _ _ h=>Nat.le_trans (zaz HX1.out) h
    |false=>
     rw[hf] at HFM
     have HE:Hid (zbk (bys s)=none):=by show _=_;rw[HPA.out,hf];rfl
     clear hf
     go_wp2_with(go_at_call 134;(with_reducible refine HFM.mono ?_);rintro e w3 ⟨rfl,hx3⟩;have HX3:=hid hx3;clear hx3)
     go_ret2
     exact⟨none,0,0,by rw[HE.out];rfl,by rw[HE.out];exact Row.nil _ _ _,HX1.out.trans (HGR.out.ext.trans HX3.out)⟩
end
end Go.Proofs.YtkjbokhnpphimaaGreatDoor
