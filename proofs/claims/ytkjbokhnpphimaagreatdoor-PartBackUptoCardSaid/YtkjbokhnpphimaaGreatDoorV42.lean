/- Lemmas of the walk. -/
import Derived.Test.YtkjbokhnpphimaaGreatDoorV40
import Derived.Test.YtkjbokhnpphimaaGreatDoorV41
set_option maxHeartbeats 40000000
set_option linter.unusedVariables false
set_option linter.unusedSimpArgs false
namespace Go.Proofs.YtkjbokhnpphimaaGreatDoor
open Go.RowKit
open Go.Maps
set_option maxRecDepth 100000
def zcP(ls:List ByteArray)(x:ByteArray):Bool:=ls.any (fun t=>decide (t=x))
theorem MSet.ext{w w':World}{B n:Nat}{l:List ByteArray}(h:MSet w B n l)(hx:Ext w w'):MSet w' B n l:=h.kept (zaQ hx none) (by simp)
theorem MSet.look_run{w:World}{B n:Nat}{l:List ByteArray}(h:MSet w B n l)(s:ByteArray)(hs:s.size≤maxLen):(Instr.lookup 115 (.map (some B)) (.string s) false).run Tryz.prog w=.ok (.bool (l.any (fun t=>decide (t=s)))) w:=by
 obtain⟨D,h1,h2,h3⟩:=h
 have hz:(zeroValue 4).run Tryz.prog w=.ok (.bool false) w:=by kernel_rfl
 obtain⟨v,ps,hrun,hv⟩:=h1.lookup mlaw Tryz.underlying115 hz (plainElem_bool Tryz.underlying4 false) (key:=.string s) (kl:=.string s.data.toList) (WideMaps.keyOf_string_mk Tryz.underlying9 hs)
 rw[h3 s hs] at hv
 obtain⟨b,rfl,hb⟩:=zdb Tryz.underlying4 hv
 simp at hb
 obtain⟨hb,-⟩:=hb
 subst hb
 simpa using hrun
theorem zm2(x:ByteArray)(g1 B m:Nat)(ls:List ByteArray)(w:World)(hs:x.size≤maxLen)(hc:w.cell? ⟨g1,0,none⟩=some (.map (some B)))(hm:MSet w B m ls) :
 Calls Tryz.prog 56 #[.string x,.pointer (some ⟨g1,0,none⟩)] w fun e w'=>e=.returned (.bool (!zcP ls x))∧Ext w w':=by
 have HM:=hid hm
 have HSZ:=hid hs
 have HD:Hid (ls.any (fun t=>decide (t=x))=zcP ls x):=rfl
 clear hm hs
 generalize zcP ls x=b at*
 go_enter Tryz.func56,Tryz.ntmps56
 go_wp2_with(at_lookup;refine zpF rfl _ _ rfl HM.out rfl _ HSZ.out rfl ?_;rw[HD.out])
 go_ret
 exact⟨rfl,Ext.refl _⟩
theorem zjn{S:Nat→Prop}{A:Option Addr}{n c:Nat}{l:List ByteArray}{w:World}(h:Row Elem.str S w A n c l)(g1 B m:Nat)(ls:List ByteArray)(hz:∀x∈l,x.size≤maxLen)(hc1:w.cell? ⟨g1,0,none⟩=some (.map (some B)))(hm:MSet w B m ls) :
 Calls Tryz.prog 104 #[.slice A n c,.func (.func 56) #[] #[.pointer (some ⟨g1,0,none⟩)]] w fun e w'=>
  ∃r:Int,e=.returned (.int .i64 r)∧Idx (fun x=>!zcP ls x) l r∧Ext w w':=by
 have hl:=hid h.len
 have hnl:n≤9223372036854775807:=by have:=h.cap;have:=h.most;simp only[maxLen] at this;omega
 have HC2:∀x wr,x∈l→Ext w wr→Calls Tryz.prog 56 #[.string x,.pointer (some ⟨g1,0,none⟩)] wr fun e w'=>e=.returned (.bool (!zcP ls x))∧Ext wr w':=
  fun x wr hx0 hx=>zm2 x g1 B m ls wr (hz x hx0) (zaa hc1 _ hx) (hm.ext hx)
 obtain⟨P,hP⟩:∃P:ByteArray→Bool,P=fun x=>!zcP ls x:=⟨_,rfl⟩
 have HC3:∀x wr,x∈l→Ext w wr→Calls Tryz.prog 56 #[.string x,.pointer (some ⟨g1,0,none⟩)] wr fun e w'=>e=.returned (.bool (P x))∧Ext wr w':=fun x wr hx0 hx=>by rw[hP];exact HC2 x wr hx0 hx
 rw[←hP]
 clear hc1 hm hz hP HC2
 go_enter Tryz.func104,Tryz.ntmps104
 go_wp2
 go_loopw [8] (fun i wr=>∃j:Nat,j≤n∧i=.int .i64 j∧Hid ((l.take j).any P=false)∧Hid (Ext w wr)) (fun i _=>n-(intOf i).toNat)
 case atStart=>exact⟨0,by omega,rfl,by simp[Hid],Ext.refl w⟩
 case round=>
  obtain⟨j,hj,rfl,Htk,hx⟩:=hrel
  by_cases hlt:j<n
  ·obtain⟨b1,o1,rfl,c1⟩:=(h.ext hx.out).str_cell (by omega)
   have e1:=c1 j hlt
   clear c1
   have g1:l[j]?=some (l[j]?.getD ByteArray.empty):=by have:=hl.out;rw[List.getElem?_eq_getElem (by omega)];simp
   have Hg:=hid g1
   have HMM:=hid (List.mem_of_getElem? g1)
   clear g1
   generalize l[j]?.getD ByteArray.empty=x1 at*
   cases hp:P x1
   ·have Hp:=hid hp
    clear hp
    go_wp2_with(go_at_call 56;(with_reducible refine(HC3 _ _ HMM.out hx.out).mono ?_);rintro e w1 ⟨he,hx1⟩;rw[Hp.out] at he;subst he;have HX1:=hid hx1;clear hx1)
    exact⟨⟨j+1,by omega,by go_num,zeg Htk.out Hg.out Hp.out,hx.out.trans HX1.out⟩,by simp[intOf];omega⟩
   ·have Hp:=hid hp
    clear hp
    go_wp2_with(go_at_call 56;(with_reducible refine(HC3 _ _ HMM.out hx.out).mono ?_);rintro e w1 ⟨he,hx1⟩;rw[Hp.out] at he;subst he;have HX1:=hid hx1;clear hx1)
    go_ret
    exact⟨_,rfl,.inr ⟨j,rfl,Htk.out,_,Hg.out,Hp.out⟩,hx.out.trans HX1.out⟩
  ·obtain rfl:j=n:=by omega
   go_wp2
   go_ret
   have h9:=Htk.out
   rw[List.take_of_length_le (Nat.le_of_eq hl.out.symm)] at h9
   exact⟨_,rfl,.inl ⟨rfl,h9⟩,hx.out⟩
theorem zgs{S:Nat→Prop}{A:Option Addr}{n c:Nat}{l:List ByteArray}{w:World}(h:Row Elem.str S w A n c l)(g1 B m:Nat)(ls:List ByteArray)(hz:∀x∈l,x.size≤maxLen)(hc1:w.cell? ⟨g1,0,none⟩=some (.map (some B)))(hm:MSet w B m ls) :
 Calls Tryz.prog 54 #[.slice A n c,.func (.func 56) #[] #[.pointer (some ⟨g1,0,none⟩)]] w fun e w'=>e=.returned (.bool (l.any fun x=>!zcP ls x))∧Ext w w':=by
 have HI:=zjn h g1 B m ls hz hc1 hm
 have HD:Hid (∀r,Idx (fun x=>!zcP ls x) l r→(decide (0≤r))=l.any fun x=>!zcP ls x):=fun r hr=>hr.has
 clear h hz hc1 hm
 generalize (l.any fun x=>!zcP ls x)=q at*
 generalize (fun x=>!zcP ls x)=P at*
 go_enter Tryz.func54,Tryz.ntmps54
 go_wp2_with(go_at_call 104;(with_reducible refine HI.mono ?_);rintro e w1 ⟨r1,rfl,hr,hx1⟩;have HRR:=hid (HD.out r1 hr);have HX1:=hid hx1;clear hr hx1)
 go_ret
 exact⟨by rw[←HRR.out];rfl,HX1.out⟩
def zo4(l:List Ent)(n:Int)(c:CutR):Prop:=0≤c.server∧c.server<n∧∃e∈l,e.name=c.name∧(zcV e.atts).2=false
theorem zqX{l:List Ent}(hN:Named l)(n:Int)(c:CutR):zo4 l n c↔(getO l (bys c.name)).isSome=true∧(zcV ((getO l (bys c.name)).getD zkM).atts).2=false∧((getO l (bys c.name)).getD zkM).name=c.name∧0≤c.server∧c.server<n:=by
 have hm:∀{p:ByteArray} {x:Ent},zc0 l p=some x→x∈l∧x.name=p:=fun h=>⟨List.mem_of_find?_eq_some h,by have:=List.find?_some h;simpa using this⟩
 constructor
 ·rintro⟨h1,h2,e,he,hn,ha⟩
  have hs:=hN.self e he
  obtain⟨c1,c2,c3⟩:=zbE hs
  unfold nmE at c1 c2
  rw[hn] at c1 c2
  have:getO l (bys c.name)=some e:=by
   unfold getO
   rw[if_pos c1,c2,zaK]
   cases hf:zc0 l c.name with
   |none=>
    unfold zc0 at hf
    rw[List.find?_eq_none] at hf
    exact absurd (by simpa using hn) (hf e he)
   |some y=>
    obtain⟨a,b⟩:=hm hf
    rw[hN.apart.one a he (by show bys _=bys _;rw[b,hn])]
  rw[this]
  exact⟨rfl,ha,hn,h1,h2⟩
 ·rintro⟨h1,h2,h3,h4,h5⟩
  cases ho:getO l (bys c.name) with
  |none=>rw[ho] at h1;cases h1
  |some e=>
   rw[ho] at h2 h3
   refine⟨h4,h5,e,?_,h3,h2⟩
   unfold getO at ho
   split at ho
   ·exact(hm ho).1
   ·cases ho
end Go.Proofs.YtkjbokhnpphimaaGreatDoor
