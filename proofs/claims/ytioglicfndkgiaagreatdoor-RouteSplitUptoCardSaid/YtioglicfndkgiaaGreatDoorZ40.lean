/- Lemmas of the walk. -/
import Derived.Test.YtioglicfndkgiaaGreatDoorZ39
import Derived.Test.YtioglicfndkgiaaGreatDoorZ37
import Derived.Test.YtioglicfndkgiaaGreatDoorZ15
import Derived.Test.YtioglicfndkgiaaGreatDoorZ28
set_option maxHeartbeats 40000000
set_option linter.unusedVariables false
set_option linter.unusedSimpArgs false
namespace Go.Proofs.YtioglicfndkgiaaGreatDoor
open Go.RowKit
open Go.Maps
set_option maxRecDepth 100000
def zc1 (ls:List ByteArray) (x:ByteArray):Bool:=ls.any (fun t=>decide (t=x))
theorem MSet.ext {w w':World} {B n:Nat} {l:List ByteArray} (h:MSet w B n l) (hx:Ext w w'):MSet w' B n l:=h.kept (zaW hx none) (by simp)
theorem MSet.look_run {w:World} {B n:Nat} {l:List ByteArray} (h:MSet w B n l) (s:ByteArray) (hs:s.size≤maxLen):(Instr.lookup 87 (.map (some B)) (.string s) false).run Tryz.prog w=.ok (.bool (l.any (fun t=>decide (t=s)))) w:=by
 obtain ⟨D,h1,h2,h3⟩:=h
 have hz:(zeroValue 4).run Tryz.prog w=.ok (.bool false) w:=by kernel_rfl
 obtain ⟨v,ps,hrun,hv⟩:=h1.lookup mlaw Tryz.underlying87 hz (plainElem_bool Tryz.underlying4 false) (key:=.string s) (kl:=.string s.data.toList) (WideMaps.keyOf_string_mk Tryz.underlying9 hs)
 rw [h3 s hs] at hv
 obtain ⟨b,rfl,hb⟩:=zdj Tryz.underlying4 hv
 simp at hb
 obtain ⟨hb,-⟩:=hb
 subst hb
 simpa using hrun
theorem zna (x:ByteArray) (g1 B m:Nat) (ls:List ByteArray) (w:World) (hs:x.size≤maxLen) (hc:w.cell? ⟨g1,0,none⟩=some (.map (some B))) (hm:MSet w B m ls) :
 Calls Tryz.prog 44 #[.string x,.pointer (some ⟨g1,0,none⟩)] w fun e w'=>e=.returned (.bool (!zc1 ls x))∧Ext w w':=by
 have HM:=hid hm
 have HSZ:=hid hs
 have HD:Hid (ls.any (fun t=>decide (t=x))=zc1 ls x):=rfl
 clear hm hs
 generalize zc1 ls x=b at *
 go_enter Tryz.func44,Tryz.ntmps44
 go_wp2_with (at_lookup;refine zqa rfl _ _ rfl HM.out rfl _ HSZ.out rfl ?_;rw [HD.out])
 go_ret
 exact ⟨rfl,Ext.refl _⟩
theorem zjQ {S:Nat→Prop} {A:Option Addr} {n c:Nat} {l:List ByteArray} {w:World} (h:Row Elem.str S w A n c l) (g1 B m:Nat) (ls:List ByteArray) (hz:∀ x∈l,x.size≤maxLen) (hc1:w.cell? ⟨g1,0,none⟩=some (.map (some B))) (hm:MSet w B m ls) :
 Calls Tryz.prog 68 #[.slice A n c,.func (.func 44) #[] #[.pointer (some ⟨g1,0,none⟩)]] w fun e w'=>
  ∃ r:Int,e=.returned (.int .i64 r)∧Idx (fun x=>!zc1 ls x) l r∧Ext w w':=by
 have hl:=hid h.len
 have hnl:n≤9223372036854775807:=by have:=h.cap;have:=h.most;simp only [maxLen] at this;omega
 have HC2:∀ x wr,x∈l→Ext w wr→Calls Tryz.prog 44 #[.string x,.pointer (some ⟨g1,0,none⟩)] wr fun e w'=>e=.returned (.bool (!zc1 ls x))∧Ext wr w':=
  fun x wr hx0 hx=>zna x g1 B m ls wr (hz x hx0) (zaa hc1 _ hx) (hm.ext hx)
 obtain ⟨P,hP⟩:∃ P:ByteArray→Bool,P=fun x=>!zc1 ls x:=⟨_,rfl⟩
 have HC3:∀ x wr,x∈l→Ext w wr→Calls Tryz.prog 44 #[.string x,.pointer (some ⟨g1,0,none⟩)] wr fun e w'=>e=.returned (.bool (P x))∧Ext wr w':=fun x wr hx0 hx=>by rw [hP];exact HC2 x wr hx0 hx
 rw [← hP]
 clear hc1 hm hz hP HC2
 go_enter Tryz.func68,Tryz.ntmps68
 go_wp2
 go_loopw [8] (fun i wr=>∃ j:Nat,j≤n∧i=.int .i64 j∧Hid ((l.take j).any P=false)∧Hid (Ext w wr)) (fun i _=>n-(intOf i).toNat)
 case atStart=>exact ⟨0,by omega,rfl,by simp [Hid],Ext.refl w⟩
 case round=>
  obtain ⟨j,hj,rfl,Htk,hx⟩:=hrel
  by_cases hlt:j<n
  ·obtain ⟨b1,o1,rfl,c1⟩:=(h.ext hx.out).str_cell (by omega)
   have e1:=c1 j hlt
   clear c1
   have g1:l[j]?=some (l[j]?.getD ByteArray.empty):=by have:=hl.out;rw [List.getElem?_eq_getElem (by omega)];simp
   have Hg:=hid g1
   have HMM:=hid (List.mem_of_getElem? g1)
   clear g1
   generalize l[j]?.getD ByteArray.empty=x1 at *
   cases hp:P x1
   ·have Hp:=hid hp
    clear hp
    go_wp2_with (go_at_call 44;(with_reducible refine (HC3 _ _ HMM.out hx.out).mono ?_);rintro e w1 ⟨he,hx1⟩;rw [Hp.out] at he;subst he;have HX1:=hid hx1;clear hx1)
    exact ⟨⟨j+1,by omega,by go_num,zdE Htk.out Hg.out Hp.out,hx.out.trans HX1.out⟩,by simp [intOf];omega⟩
   ·have Hp:=hid hp
    clear hp
    go_wp2_with (go_at_call 44;(with_reducible refine (HC3 _ _ HMM.out hx.out).mono ?_);rintro e w1 ⟨he,hx1⟩;rw [Hp.out] at he;subst he;have HX1:=hid hx1;clear hx1)
    go_ret
    exact ⟨_,rfl,.inr ⟨j,rfl,Htk.out,_,Hg.out,Hp.out⟩,hx.out.trans HX1.out⟩
  ·obtain rfl:j=n:=by omega
   go_wp2
   go_ret
   have h9:=Htk.out
   rw [List.take_of_length_le (Nat.le_of_eq hl.out.symm)] at h9
   exact ⟨_,rfl,.inl ⟨rfl,h9⟩,hx.out⟩
theorem zgP {S:Nat→Prop} {A:Option Addr} {n c:Nat} {l:List ByteArray} {w:World} (h:Row Elem.str S w A n c l) (g1 B m:Nat) (ls:List ByteArray) (hz:∀ x∈l,x.size≤maxLen) (hc1:w.cell? ⟨g1,0,none⟩=some (.map (some B))) (hm:MSet w B m ls) :
 Calls Tryz.prog 42 #[.slice A n c,.func (.func 44) #[] #[.pointer (some ⟨g1,0,none⟩)]] w fun e w'=>e=.returned (.bool (l.any fun x=>!zc1 ls x))∧Ext w w':=by
 have HI:=zjQ h g1 B m ls hz hc1 hm
 have HD:Hid (∀ r,Idx (fun x=>!zc1 ls x) l r→(decide (0≤r))=l.any fun x=>!zc1 ls x):=fun r hr=>hr.has
 clear h hz hc1 hm
 generalize (l.any fun x=>!zc1 ls x)=q at *
 generalize (fun x=>!zc1 ls x)=P at *
 go_enter Tryz.func42,Tryz.ntmps42
 go_wp2_with (go_at_call 68;(with_reducible refine HI.mono ?_);rintro e w1 ⟨r1,rfl,hr,hx1⟩;have HRR:=hid (HD.out r1 hr);have HX1:=hid hx1;clear hr hx1)
 go_ret
 exact ⟨by rw [← HRR.out];rfl,HX1.out⟩
def zof (l:List Ent) (n:Int) (c:CutR):Prop:=0≤c.server∧c.server<n∧∃ e∈l,e.name=c.name∧(zdi e.atts).2=false
theorem zq9 {l:List Ent} (hN:Named l) (n:Int) (c:CutR):zof l n c ↔ (getO l (bys c.name)).isSome=true∧(zdi ((getO l (bys c.name)).getD zk0).atts).2=false∧((getO l (bys c.name)).getD zk0).name=c.name∧0≤c.server∧c.server<n:=by
 have hm:∀ {p:ByteArray} {x:Ent},zec l p=some x→x∈l∧x.name=p:=fun h=>⟨List.mem_of_find?_eq_some h,by have:=List.find?_some h;simpa using this⟩
 constructor
 ·rintro ⟨h1,h2,e,he,hn,ha⟩
  have hs:=hN.self e he
  obtain ⟨c1,c2,c3⟩:=za2 hs
  unfold nmE at c1 c2
  rw [hn] at c1 c2
  have:getO l (bys c.name)=some e:=by
   unfold getO
   rw [if_pos c1,c2,zaN]
   cases hf:zec l c.name with
   | none=>
    unfold zec at hf
    rw [List.find?_eq_none] at hf
    exact absurd (by simpa using hn) (hf e he)
   | some y=>
    obtain ⟨a,b⟩:=hm hf
    rw [hN.apart.one a he (by show bys _=bys _;rw [b,hn])]
  rw [this]
  exact ⟨rfl,ha,hn,h1,h2⟩
 ·rintro ⟨h1,h2,h3,h4,h5⟩
  cases ho:getO l (bys c.name) with
  | none=>rw [ho] at h1;cases h1
  | some e=>
   rw [ho] at h2 h3
   refine ⟨h4,h5,e,?_,h3,h2⟩
   unfold getO at ho
   split at ho
   ·exact (hm ho).1
   ·cases ho
end Go.Proofs.YtioglicfndkgiaaGreatDoor
