/- Lemmas of the walk. -/
import Derived.Test.YtkjbokhnpphimaaGreatDoorV09
set_option maxHeartbeats 40000000
set_option linter.unusedVariables false
set_option linter.unusedSimpArgs false
namespace Go.Proofs.YtkjbokhnpphimaaGreatDoor
open Go.RowKit
set_option maxRecDepth 100000
def zhs:Prop:=∀(s:ByteArray) (w:World),Gl w→s.size≤4000000→Calls Tryz.prog 210 #[.string s,.string ⟨#[32]⟩] w fun e w'=>
 ∃A n,e=.returned (.slice A n n)∧Row Elem.str (fun _=>True) w' A n n (strs (zaB [] (bys s)))∧Ext w w'
theorem zb5:∀(l cur:List UInt8),(zaB cur l).length≤l.length+1
 |[],cur=>by simp[zaB]
 |c::t,cur=>by
  unfold zaB
  split
  ·have:=zb5 t [];simp;omega
  ·have:=zb5 t (cur++[c]);simp;omega
def zcZ(l:List ByteArray):List ByteArray:=l.filter (fun x=>decide (x.size≠0))
theorem zlm(l:List (List UInt8)):zcZ (strs l)=strs (l.filter (fun x=>decide (x≠[]))):=by
 unfold zcZ
 induction l with
 |nil=>rfl
 |cons x t ih=>
  show List.filter _ (str x::strs t)=_
  rw[List.filter_cons,List.filter_cons,ih]
  cases x with
  |nil=>rfl
  |cons c r=>rfl
theorem zgS{l:List ByteArray}{j:Nat}{x:ByteArray}(h:l[j]?=some x):zcZ (l.take (j+1))=if x.size=0 then zcZ (l.take j) else zcZ (l.take j)++[x]:=by
 unfold zcZ
 rw[List.take_add_one,h,List.filter_append]
 show _++List.filter _ [x]=_
 rw[List.filter_cons,List.filter_nil]
 by_cases h0:x.size=0
 ·rw[if_pos h0,decide_eq_false (not_not_intro h0),if_neg (by decide),List.append_nil]
 ·rw[if_neg h0,decide_eq_true h0,if_pos rfl]
theorem zi6(l:List ByteArray):(zcZ l).length≤l.length:=List.length_filter_le _ _
theorem zoK(HSp:zhs)(s:ByteArray)(w:World)(hG:Gl w)(hs:s.size≤4000000) :
 Calls Tryz.prog 191 #[.string s] w fun e w'=>∃v,e=.returned v∧GrowS w w' v (strs (zaU (bys s))):=by
 have Hs:=hid hs
 have HG:=hid hG
 have HSP:=hid HSp
 unfold zhs at HSP
 clear hs hG HSp
 go_enter Tryz.func191,Tryz.ntmps191
 go_wp2_with(go_at_call 210;(with_reducible refine(HSP.out s _ HG.out Hs.out).mono ?_);rintro e w1 ⟨A1,n1,rfl,hr1,hx1⟩;have HR1:=hid hr1;have HX1:=hid hx1;clear hr1 hx1)
 have hn1:n1≤4000001:=by have h1:=HR1.out.len;have h2:=zb5 (bys s) [];have h3:=Hs.out;rw[List.length_map] at h1;rw[zaj] at h2;omega
 have HL:Hid (strs (zaU (bys s))=zcZ (strs (zaB [] (bys s)))):=by show _=_;rw[zlm];rfl
 generalize strs (zaB [] (bys s))=l at*
 go_loopw [3,9] (fun v i wr=>∃j:Nat,j≤n1∧i=.int .i64 j∧Hid (GrowS w1 wr v (zcZ (l.take j)))) (fun _ i _=>n1-(intOf i).toNat)
 case atStart=>exact⟨0,by omega,rfl,GrowS.nil (Ext.refl _)⟩
 case round=>
  obtain⟨j,hj,rfl,HW⟩:=hrel
  by_cases hlt:j<n1
  ·obtain⟨b1,o1,v1,x1,rfl,g1,-,hv1,q1⟩:=(HR1.out.ext HW.out.ext).at_ hlt
   subst hv1
   have e1:=q1 0 _ rfl
   simp only[Elem.str,Nat.add_zero,Nat.mul_one] at e1
   have G1:=hid g1
   clear q1 g1
   by_cases h0:x1.size=0
   ·have t0:=zdf h0
    have HH:Hid (zcZ (l.take (j+1))=zcZ (l.take j)):=by show _=_;rw[zgS G1.out,if_pos h0]
    clear h0
    go_wp2
    refine⟨⟨j+1,by omega,by go_num,?_⟩,by simp[intOf];omega⟩
    rw[HH.out];exact HW
   ·have t0:=zfj h0
    have HH:Hid (zcZ (l.take (j+1))=zcZ (l.take j)++[x1]):=by show _=_;rw[zgS G1.out,if_neg h0]
    clear h0
    go_wp2_with(at_builtin;refine zct rfl _ _ rfl _ _ rfl HW.out rfl (by have:=zi6 (l.take j);have h2:=List.length_take_le j l;omega) ?_;intro v' w3 hg3;have HG3:=hid hg3;clear hg3)
    refine⟨⟨j+1,by omega,by go_num,?_⟩,by simp[intOf];omega⟩
    rw[HH.out];exact HG3
  ·obtain rfl:j=n1:=by omega
   have hall:Hid (zcZ (l.take j)=zcZ l):=by show _=_;rw[List.take_of_length_le (Nat.le_of_eq HR1.out.len.symm)]
   go_wp2
   go_ret
   refine⟨_,rfl,?_⟩
   rw[HL.out,←hall.out]
   exact HW.out.base HX1.out
def zdW(v:List UInt8):List UInt8:=if(0:UInt8)∈zas v then[] else zcq [] false (zas v)
theorem zmQ(v:List UInt8):zhm v=if zdW v=[] then none else some (zdW v):=by
 rw[zoC]
 unfold zdW
 by_cases h:(0:UInt8)∈zas v
 ·rw[if_pos (.inr h),if_pos h,if_pos rfl]
 ·rw[if_neg h]
  by_cases h2:zcq [] false (zas v)=[]
  ·rw[if_pos (.inl h2),if_pos h2]
  ·rw[if_neg (by rintro(h3|h3);exact h2 h3;exact h h3),if_neg h2]
theorem zbR(s:ByteArray)(w:World)(hs:s.size≤4000000) :
 Calls Tryz.prog 159 #[.string s] w fun e w'=>e=.returned (.string (str (zdW (bys s))))∧Ext w w':=by
 have Hs:=hid hs
 have hml:(zas (bys s)).length≤4000000:=by unfold zas;rw[List.length_map,zaj];exact hs
 have HT:Hid (zdW (bys s)=if(0:UInt8)∈zas (bys s) then[] else zcq [] false (zas (bys s))):=rfl
 have HL:∀w:World,Calls Tryz.prog 163 #[.string s] w fun e w'=>e=.returned (.string (str (zas (bys s))))∧Ext w w':=fun w=>zit s w (by have:=Hs.out;simp only[maxLen];omega)
 generalize zas (bys s)=m at*
 have HS:=zaI m
 clear hs
 go_enter Tryz.func159,Tryz.ntmps159
 go_wp2_with(go_at_call 163;(with_reducible refine(HL _).mono ?_);rintro e w3 ⟨rfl,hx3⟩)
 have HX3:=hid hx3
 clear hx3 HL
 go_loopw [3,4,6] (fun v g i wr=>∃(j:Nat) (out:List UInt8) (gap:Bool),j≤m.length∧out.length≤2 * j∧i=.int .i64 j∧g=.bool gap∧Hid (GrowB w wr v out)∧Hid (zcq out gap (m.drop j)=zcq [] false m)∧Hid ((0:UInt8) ∉ m.take j)) (fun _ _ i _=>m.length-(intOf i).toNat)
 case atStart=>exact⟨0,[],false,by omega,by simp,rfl,rfl,GrowB.nil HX3.out,by rw[List.drop_zero];rfl,by simp[Hid]⟩
 case round=>
  obtain⟨j,out,gap,hj,ho,rfl,rfl,HG,HR,HZ⟩:=hrel
  by_cases hlt:j<m.length
  ·obtain⟨x,hx⟩:∃x,m[j]?=some x:=⟨m[j],List.getElem?_eq_getElem hlt⟩
   have e1:=zpO hx (by rw[zaI];exact hlt)
   have hd:Hid (m.drop j=x::m.drop (j+1)):=by
    show _=_
    obtain⟨h1,h2⟩:=List.getElem?_eq_some_iff.1 hx
    rw[List.drop_eq_getElem_cons h1,h2]
   have htk:Hid (m.take (j+1)=m.take j++[x]):=by show _=_;rw[List.take_add_one,hx];rfl
   have hmem:Hid (x∈m):=List.mem_of_getElem? hx
   clear hx
   by_cases h0:x=0
   ·have t0:((x.toNat:Int)==0)=true:=za0 (k:=0) (by decide) h0
    have HH:Hid (zdW (bys s)=[]):=by show _=_;rw[HT.out,if_pos (by rw[←h0];exact hmem.out)]
    clear h0
    go_wp2
    go_ret
    exact⟨by rw[HH.out];rfl,HG.out.ext⟩
   ·have t0:((x.toNat:Int)==0)=false:=zav (k:=0) h0
    have HZ2:Hid ((0:UInt8) ∉ m.take (j+1)):=by show ¬_;rw[htk.out,List.mem_append];rintro(h|h);exact HZ.out h;simp at h;exact h0 h.symm
    clear h0
    by_cases h32:x=32
    ·have t1:((x.toNat:Int)==32)=true:=za0 (k:=32) (by decide) h32
     have HH:Hid (zcq out true (m.drop (j+1))=zcq [] false m):=by show _=_;rw[←HR.out,hd.out,zcq,if_pos h32]
     clear h32
     go_wp2
     exact⟨⟨j+1,out,true,by omega,by omega,by go_num,rfl,HG,HH,HZ2⟩,by simp[intOf];omega⟩
    ·have t1:((x.toNat:Int)==32)=false:=zav (k:=32) h32
     have hlo:out.length≤8000000:=by omega
     obtain⟨A1,c1,rfl,-⟩:=HG.out.sl
     by_cases hgo:gap=true∧out≠[]
     ·obtain⟨rfl,hne⟩:=hgo
      have hpos:(0:Int)<(out.length:Int):=by have:=List.length_pos_iff.2 hne;omega
      have HH:Hid (zcq (out++[32]++[x]) false (m.drop (j+1))=zcq [] false m):=by show _=_;rw[←HR.out,hd.out,zcq,if_neg h32];simp[hne]
      clear h32 hne
      go_wp2_with (at_builtin;first
       |(refine zbu rfl _ _ rfl _ _ rfl (HG1.out.later (Ext.alloc _ _)) _ 1 1 [x] rfl (zdF _ x) (by simp;omega) ?_;intro v' w5 hg5;have HG5:=hid hg5;clear hg5)
       | (refine zbu rfl _ _ rfl _ _ rfl (HG.out.later (Ext.alloc _ _)) _ 1 1 [32] rfl (zdF _ 32) (by omega) ?_;intro v' w4 hg4;have HG1:=hid hg4;clear hg4))
      exact⟨⟨j+1,_,false,by omega,by simp;omega,by go_num,rfl,HG5,HH,HZ2⟩,by simp[intOf];omega⟩
     ·have HH:Hid (zcq (out++[x]) false (m.drop (j+1))=zcq [] false m):=by
       show _=_
       rw[←HR.out,hd.out,zcq,if_neg h32,if_neg (by simpa using hgo)]
      clear h32
      by_cases hg1:gap=true
      subst hg1
      have hz:¬(0:Int)<(out.length:Int):=by
       have:out=[]:=by simpa using hgo
       subst this;simp
      clear hgo
      rotate_left
      have hg2:gap=false:=by simpa using hg1
      subst hg2
      clear hgo hg1
      rotate_left
      all_goals
       go_wp2_with(at_builtin;refine zbu rfl _ _ rfl _ _ rfl (HG.out.later (Ext.alloc _ _)) _ 1 1 [x] rfl (zdF _ x) (by omega) ?_;intro v' w5 hg5;have HG5:=hid hg5;clear hg5)
       exact⟨⟨j+1,_,false,by omega,by simp;omega,by go_num,rfl,HG5,HH,HZ2⟩,by simp[intOf];omega⟩
  ·obtain rfl:j=m.length:=by omega
   obtain⟨A1,c1,rfl,hs1⟩:=HG.out.sl
   have hC:=hs1.conv wr (Ext.refl wr)
   have HH:Hid (zdW (bys s)=out):=by
    show _=_
    rw[HT.out,if_neg (by have:=HZ.out;rwa[List.take_length] at this),←HR.out,List.drop_length];rfl
   clear hs1
   go_wp2
   go_ret
   exact⟨by rw[HH.out];rfl,HG.out.ext⟩
end Go.Proofs.YtkjbokhnpphimaaGreatDoor
