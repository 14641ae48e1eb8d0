/- Lemmas of the walk. -/
import Derived.Test.YtioglicfndkgiaaGreatDoorZ25
import Derived.Test.YtioglicfndkgiaaGreatDoorZ11
import Derived.Test.YtioglicfndkgiaaGreatDoorZ16
set_option maxHeartbeats 40000000
set_option linter.unusedVariables false
set_option linter.unusedSimpArgs false
namespace Go.Proofs.YtioglicfndkgiaaGreatDoor
open Go.RowKit
set_option maxRecDepth 100000
theorem zqM {S:Nat→Prop} {A:Option Addr} {n c:Nat} {l:List ByteArray} {w:World} (h:Row Elem.str S w A n c l) (nm v:ByteArray) (hG:Gl w) (hn:nm.size≤4000000) (h4:(zar (bys nm)).2≠4) (h5:(zar (bys nm)).2≠5) :
 Calls Tryz.prog 52 #[.string nm,.slice A n c,.string v] w fun e w'=>∃ r:Int,e=.returned (.int .i64 r)∧decide (0≤r)=hasE (bys nm) (bys v) l∧Ext w w':=by
 have HG:=hid hG
 have HR:=hid h
 have HV:∀ w,Gl w→Calls Tryz.prog 67 #[.string nm,.string v] w (zb3 w (bys nm) (bys v)):=fun w hG=>zhy nm v w hG hn h4 h5
 unfold zb3 at HV
 have HI:∀ (m:ByteArray) g1 g2 w1,Ext w w1→w1.cell? ⟨g1,0,none⟩=some (.string nm)→w1.cell? ⟨g2,0,none⟩=some (.string m) →
  Calls Tryz.prog 68 #[.slice A n c,.func (.func 82) #[] #[.pointer (some ⟨g1,0,none⟩),.pointer (some ⟨g2,0,none⟩)]] w1 fun e w'=>
  ∃ r:Int,e=.returned (.int .i64 r)∧decide (0≤r)=l.any (fun x=>zgq (bys nm) (bys m) (bys x))∧Ext w1 w':=fun m g1 g2 w1 hx a b=>zi3 (h.ext hx) nm m g1 g2 (hG.ext hx) hn h4 h5 a b
 have HHD:Hid (hasE (bys nm) (bys v) l=((zbW (bys nm) (bys v)).2==0 && l.any fun x=>zgq (bys nm) (zbW (bys nm) (bys v)).1 (bys x))):=rfl
 have hmf:∀ (fn:Fn) (first cap:Array Value) (w:World),(Instr.makeFunc fn first cap).run Tryz.prog w=.ok (.func fn first cap) w:=fun _ _ _ _=>rfl
 clear hG h hn h4 h5
 generalize hasE (bys nm) (bys v) l=r at *
 generalize zbW (bys nm) (bys v)=q at *
 obtain ⟨q1,q2⟩:=q
 simp only at HV HHD
 have HQ:Hid ((l.any fun x=>zgq (bys nm) q1 (bys x))=l.any fun x=>zgq (bys nm) (bys (str q1)) (bys x)):=by show _=_;rw [zao]
 rw [HQ.out] at HHD
 clear HQ
 generalize str q1=qs at *
 by_cases k1:q2=0
 ·subst k1
  have HF:Hid (r=l.any fun x=>zgq (bys nm) (bys qs) (bys x)):=by show _=_;rw [HHD.out];rfl
  clear HHD
  go_enter Tryz.func52,Tryz.ntmps52
  go_wp2_with (first
   | (go_at_call 67;(with_reducible refine (HV _ (HG.out.ext (Ext.alloc _ _))).mono ?_);rintro e w1 ⟨rfl,hx1⟩;have HX1:=hid hx1;clear hx1;have HXA:=hid ((Ext.trans (Ext.alloc _ _) HX1.out).trans (Ext.alloc w1 (.cells #[.string qs] 9)));have HCA:=hid ((((Bx.make (Ext.refl w) #[.string nm] 9).later HX1.out).later (Ext.alloc w1 (.cells #[.string qs] 9))).cell (i:=0) rfl);have HCB:=hid ((Bx.make (Ext.refl w1) #[.string qs] 9).cell (i:=0) rfl))
   | (go_at_call 68;(with_reducible refine (HI qs _ _ _ HXA.out HCA.out HCB.out).mono ?_);rintro e w2 ⟨r1,rfl,hr,hx2⟩;have HX2:=hid hx2;have HRR:=hid hr;clear hx2 hr))
  go_ret
  exact ⟨_,rfl,by rw [HF.out];exact HRR.out,((Ext.trans (Ext.alloc _ _) HX1.out).trans (Ext.alloc _ _)).trans HX2.out⟩
 ·have k2:(q2 != 0)=true:=by rw [bne_iff_ne];exact k1
  have HF:Hid (r=false):=by show _=_;rw [HHD.out,show (q2==0)=false from beq_eq_false_iff_ne.2 k1];rfl
  clear HHD k1
  go_enter Tryz.func52,Tryz.ntmps52
  go_wp2_with (first
   | (go_at_call 67;(with_reducible refine (HV _ (HG.out.ext (Ext.alloc _ _))).mono ?_);rintro e w1 ⟨rfl,hx1⟩;have HX1:=hid hx1;clear hx1))
  go_ret
  exact ⟨-1,rfl,by rw [HF.out];rfl,(Ext.trans (Ext.alloc _ _) HX1.out).trans (Ext.alloc _ _)⟩
theorem zgL {S:Nat→Prop} {A:Option Addr} {n c:Nat} {l:List ByteArray} {w:World} (h:Row Elem.str S w A n c l) (hn:l.length≤8796093022208) :
 Calls Tryz.prog 66 #[.slice A n c] w fun e w'=>∃ A' n' c',e=.returned (.slice A' n' c')∧Row Elem.str (fun b=>w.heap.size≤b) w' A' n' c' l∧Ext w w':=by
 have hl:=h.len
 rcases A with _ | a
 ·have hx:l=[]:=by
   rcases Nat.eq_zero_or_pos n with h0 | h0
   ·exact h.nil_iff.1 h0
   ·obtain ⟨b,o,e,_⟩:=h.str_cell h0;cases e
  subst hx
  have hz:=fun W=>Lib.run_eql_slice_nil (P:=Tryz.prog) W 55 9 none n c 0 0 Tryz.underlying55
  clear hl h
  go_enter Tryz.func66,Tryz.ntmps66
  go_wp2
  go_ret
  exact ⟨_,_,_,rfl,Row.nil _ _ _,Ext.refl w⟩
 ·have hz:=fun W=>Lib.run_eql_slice_nil (P:=Tryz.prog) W 55 9 (some a) n c 0 0 Tryz.underlying55
  have HC:=hid ((h.ext (Ext.alloc w (.cells #[] 9))).str_cells)
  have HG:Hid (GrowS w (w.alloc (.cells #[] 9)) (.slice (some ⟨w.heap.size,0,none⟩) 0 0) []):=⟨zfI w _ (Nat.le_refl _) _ _,Ext.alloc _ _⟩
  have HL:=hid hl
  have HN:Hid (n≤8796093022208):=by show _≤_;omega
  clear hl h hn
  go_enter Tryz.func66,Tryz.ntmps66
  go_wp2_with (at_builtin;refine zfv rfl _ _ rfl _ [] rfl HG.out _ _ _ l rfl HL.out HC.out (by have:=HN.out;simp only [List.length_nil];omega) ?_;intro v' w1 hg1;have HG1:=hid hg1;clear hg1)
  go_ret
  obtain ⟨A',c',rfl,hr⟩:=HG1.out.row
  exact ⟨A',_,c',rfl,by simpa using hr,HG1.out.ext⟩
def za7 (n:List UInt8) (l:List Att):List ByteArray:=((l.find? fun a=>decide (bys a.type=(zar n).1∧(zar n).1≠[])).map (·.vals)).getD []
def zcI (w:World) (n:List UInt8) (l:List Att) (e:Ending) (w':World):Prop:=∃ A m c,e=.returned (.slice A m c)∧Row Elem.str (fun b=>w.heap.size≤b) w' A m c (za7 n l)∧Ext w w'
theorem zcB {α:Type} {p:α→Bool} {l:List α} {j:Nat} {x:α} (h:(l.take j).find? p=none) (hx:l[j]?=some x) (hp:p x=false):(l.take (j+1)).find? p=none:=by
 rw [List.take_add_one,hx,List.find?_append,h]
 simp [hp]
theorem zl0 {α:Type} {p:α→Bool} {l:List α} {j:Nat} {x:α} (h:(l.take j).find? p=none) (hx:l[j]?=some x) (hp:p x=true):l.find? p=some x:=by
 obtain ⟨hj,he⟩:=List.getElem?_eq_some_iff.1 hx
 rw [← List.take_append_drop j l,List.find?_append,h,List.drop_eq_getElem_cons hj,he]
 simp [hp]
theorem zeP {S:Nat→Prop} {A:Option Addr} {n c:Nat} {l:List Att} {w:World} (h:Row Elem.att S w A n c l) (nm dn:ByteArray) (hn:nm.size≤4000000) (hv:∀ a∈l,a.vals.length≤8796093022208) :
 Calls Tryz.prog 53 #[.agg #[.string dn,.slice A n c],.string nm] w (zcI w (bys nm) l):=by
 have HT:∀ w,Calls Tryz.prog 61 #[.string nm] w (zaT w (bys nm)):=fun w=>zdg nm w (by simp only [maxLen];omega)
 unfold zaT at HT
 have hl:=hid h.len
 have hnl:n≤9223372036854775807:=by have:=h.cap;have:=h.most;simp only [maxLen] at this;omega
 have HV:=hid hv
 have HR:=hid h
 have HD:Hid (za7 (bys nm) l=((l.find? fun a=>decide (bys a.type=(zar (bys nm)).1∧(zar (bys nm)).1≠[])).map (·.vals)).getD []):=rfl
 clear h hv hn
 generalize hP:(fun a:Att=>decide (bys a.type=(zar (bys nm)).1∧(zar (bys nm)).1≠[]))=P at *
 have HP:∀ a:Att,Hid (decide (bys a.type=(zar (bys nm)).1∧(zar (bys nm)).1≠[])=P a):=fun a=>by rw [← hP];rfl
 clear hP
 generalize zar (bys nm)=tk at *
 obtain ⟨t,k⟩:=tk
 simp only at HT HP
 have HP2:∀ a:Att,Hid (decide (a.type=str t∧str t≠⟨#[]⟩)=P a):=fun a=>by
  rw [← (HP a).out]
  show _=_
  rw [Bool.eq_iff_iff,decide_eq_true_eq,decide_eq_true_eq]
  constructor
  ·rintro ⟨h1,h2⟩;exact ⟨by rw [h1,zao],fun e=>h2 (by (rw [e];try rfl))⟩
  ·rintro ⟨h1,h2⟩;exact ⟨by (rw [← h1];try rfl),fun e=>h2 (by have:=congrArg bys e;rw [zao] at this;exact this)⟩
 clear HP
 generalize str t=ts at *
 go_enter Tryz.func53,Tryz.ntmps53
 go_wp2_with (go_at_call 61;(with_reducible refine (HT _).mono ?_);rintro e w1 ⟨rfl,hx1⟩;have HX1:=hid (Ext.trans (Ext.alloc _ _) hx1);have cB:=((Bx.make (Ext.refl w) #[.string dn,.slice A n c] 44).later hx1).cell (i:=1) rfl;clear hx1)
 go_loopw [17] (fun i wr=>∃ j:Nat,j≤n∧i=.int .i64 j∧Hid ((l.take j).find? P=none)∧Hid (Ext w wr)) (fun i _=>n-(intOf i).toNat)
 case atStart=>exact ⟨0,by omega,rfl,by simp [Hid],HX1.out⟩
 case round=>
  obtain ⟨j,hj,rfl,Htk,hx⟩:=hrel
  by_cases hlt:j<n
  ·obtain ⟨b1,o1,v1,x1,rfl,g1,-,⟨A1,n1,c1,rfl,r1⟩,q1⟩:=(HR.out.ext hx.out).at_ hlt
   have e10:=q1 0 _ rfl
   have e11:=q1 1 _ rfl
   simp only [Elem.att,Nat.add_zero] at e10 e11
   have R1:=hid r1
   clear q1 r1
   have Hg:=hid g1
   have HL1:=hid (HV.out x1 (List.mem_of_getElem? g1))
   have HCL:∀ w',Ext wr w'→Calls Tryz.prog 66 #[.slice A1 n1 c1] w' fun e w''=>∃ A' n' c',e=.returned (.slice A' n' c')∧Row Elem.str (fun b=>w'.heap.size≤b) w'' A' n' c' x1.vals∧Ext w' w'':=fun w' hx'=>zgL (R1.out.ext hx') HL1.out
   clear g1
   by_cases he:x1.type=ts∧ts≠⟨#[]⟩
   ·have HPT:Hid (P x1=true):=by show _=_;rw [← (HP2 x1).out];exact decide_eq_true he
    have s1:=zes he.1
    have s2:=zdn (s:=ts) (fun h=>he.2 (by rw [zbt h];rfl))
    have HF:Hid (za7 (bys nm) l=x1.vals):=by show _=_;rw [HD.out,zl0 Htk.out Hg.out HPT.out];rfl
    clear he
    go_wp2_with (go_at_call 66;(with_reducible refine (HCL _ (Ext.alloc _ _)).mono ?_);rintro e w2 ⟨A2,n2,c2,rfl,hr2,hx2⟩;have HX2:=hid ((hx.out.trans (Ext.alloc _ _)).trans hx2);have HR2:=hid (hr2.mono (T:=fun b=>w.heap.size≤b) (fun b _ hb=>by have:=(hx.out.trans (Ext.alloc wr (.cells #[.string x1.type,.slice A1 n1 c1] 57))).size;omega));clear hr2 hx2)
    go_ret
    exact ⟨_,_,_,rfl,by rw [HF.out];exact HR2.out,HX2.out⟩
   ·have HPT:Hid (P x1=false):=by show _=_;rw [← (HP2 x1).out];exact decide_eq_false he
    by_cases h1:x1.type=ts
    ·have h2:ts.size=0:=Decidable.byContradiction fun h=>he ⟨h1,fun e=>h (by rw [e];rfl)⟩
     have s1:x1.type.toList=[]:=by rw [h1];exact zcf h2
     have s2:=zcf h2
     clear he h1 h2
     go_wp2
     exact ⟨⟨j+1,by omega,by go_num,zcB Htk.out Hg.out HPT.out,hx.out.trans (Ext.alloc _ _)⟩,by simp [intOf];omega⟩
    ·have s1:=zd9 h1
     clear he h1
     go_wp2
     exact ⟨⟨j+1,by omega,by go_num,zcB Htk.out Hg.out HPT.out,hx.out.trans (Ext.alloc _ _)⟩,by simp [intOf];omega⟩
  ·obtain rfl:j=n:=by omega
   have h9:=Htk.out
   rw [List.take_of_length_le (Nat.le_of_eq hl.out.symm)] at h9
   have HF:Hid (za7 (bys nm) l=[]):=by show _=_;rw [HD.out,h9];rfl
   clear h9
   go_wp2
   go_ret
   exact ⟨none,0,0,rfl,by rw [HF.out];exact Row.nil _ _ _,hx.out⟩
theorem zoO {S:Nat→Prop} {A:Option Addr} {n c:Nat} {l:List Att} {w:World} (h:Row Elem.att S w A n c l) (nm dn v:ByteArray) (hG:Gl w) (hn:nm.size≤4000000) (h4:(zar (bys nm)).2≠4) (h5:(zar (bys nm)).2≠5) (hv:∀ a∈l,a.vals.length≤8796093022208) :
 Calls Tryz.prog 26 #[.agg #[.string dn,.slice A n c],.string nm,.string v] w fun e w'=>e=.returned (.bool (hasE (bys nm) (bys v) (za7 (bys nm) l)))∧Ext w w':=by
 have HV:∀ w',Ext w w'→Calls Tryz.prog 53 #[.agg #[.string dn,.slice A n c],.string nm] w' (zcI w' (bys nm) l):=fun w' hx=>zeP (h.ext hx) nm dn hn hv
 unfold zcI at HV
 have HF:∀ (T:Nat→Prop) B m d w',Ext w w'→Row Elem.str T w' B m d (za7 (bys nm) l)→Calls Tryz.prog 52 #[.string nm,.slice B m d,.string v] w' fun e w''=>∃ r:Int,e=.returned (.int .i64 r)∧decide (0≤r)=hasE (bys nm) (bys v) (za7 (bys nm) l)∧Ext w' w'':=
  fun T B m d w' hx hr=>zqM hr nm v (hG.ext hx) hn h4 h5
 clear hG hn h4 h5 hv h
 generalize hasE (bys nm) (bys v) (za7 (bys nm) l)=r at *
 generalize za7 (bys nm) l=q at *
 go_enter Tryz.func26,Tryz.ntmps26
 go_wp2_with (first
  | (go_at_call 53;(with_reducible refine (HV _ (Ext.alloc _ _)).mono ?_);rintro e w1 ⟨A1,n1,c1,rfl,hr1,hx1⟩;have HR1:=hid hr1;have HX1:=hid (Ext.trans (Ext.alloc _ _) hx1);clear hr1 hx1)
  | (go_at_call 52;(with_reducible refine (HF _ _ _ _ _ HX1.out HR1.out).mono ?_);rintro e w2 ⟨r1,rfl,hr,hx2⟩;have HRR:=hid hr;have HX2:=hid hx2;clear hr hx2))
 go_ret
 exact ⟨by rw [← HRR.out];rfl,HX1.out.trans HX2.out⟩
end Go.Proofs.YtioglicfndkgiaaGreatDoor
namespace Go.Proofs.YtioglicfndkgiaaGreatDoor
open Go.RowKit
set_option maxRecDepth 100000
section
variable {α:Type} {E:Elem α} {S S':Nat→Prop} {T:TypeId} {L:Option Nat} {w wr w':World} {v:Value} {l:List α} {A:Option Addr} {n c:Nat}
theorem Row.cut_open (h:Row E S w A n c l):∃ us:List (List Value),us.length=l.length∧Cells w A us.flatten∧∀ (i:Nat) u x,us[i]?=some u→l[i]?=some x→E.R S w u x:=by
 obtain ⟨h1,h2,h3,vss,h4,h5,h6⟩:=h
 exact ⟨vss,by omega,h5.cells,h6⟩
theorem GrowM.lit0 (w:World):GrowM E S T none w (w.alloc (.cells #[] T)) (.slice (some ⟨w.heap.size,0,none⟩) 0 0) ([]:List α):=
 ⟨⟨[],rfl,zfI w _ (Nat.le_refl _) _ _,fun i u x h=>by simp at h⟩,Ext.alloc _ _,fun g hg=>by cases hg⟩
theorem GrowM.mono (h:GrowM E S T L w wr v l) (hs:∀ b,S b→S' b):GrowM E S' T L w wr v l:=by
 obtain ⟨⟨vss,q1,q2,q3⟩,q4,q5⟩:=h
 exact ⟨⟨vss,q1,q2,fun i u x hi hl=>E.mono (q3 i u x hi hl) fun b _ hb=>⟨hs b hb.1,hb.2⟩⟩,q4,q5⟩
theorem GrowM.low (h:GrowM E S T L w wr v l) {g:Nat} (hg:g<w.heap.size):v.ownBlock≠some g:=fun e=>by have:=(h.lt e).1;omega
end
theorem zr2 {S:Nat→Prop} {w:World} {us:List (List Value)} {l:List Att} (hl:us.length=l.length) (h:∀ (i:Nat) u x,us[i]?=some u→l[i]?=some x→Elem.att.R S w u x):∀ c∈us.flatten,c.oneCell'=true:=by
 intro c hc
 obtain ⟨u,hu,hcu⟩:=List.mem_flatten.1 hc
 obtain ⟨i,hi,rfl⟩:=List.mem_iff_getElem.1 hu
 obtain ⟨A,n,c',e,-⟩:=h i us[i] (l[i]'(by omega)) (List.getElem?_eq_getElem hi) (List.getElem?_eq_getElem (by omega))
 rw [e] at hcu
 simp only [List.mem_cons,List.not_mem_nil,or_false] at hcu
 rcases hcu with rfl | rfl <;> rfl
theorem zkV {S:Nat→Prop} {A:Option Addr} {n c:Nat} {l:List Att} {w:World} (h:Row Elem.att S w A n c l) (hm:l.length≤4000000) :
 Calls Tryz.prog 65 #[.slice A n c] w fun e w'=>∃ v,e=.returned v∧GrowM Elem.att S 57 none w w' v l:=by
 have hl:=h.len
 rcases A with _ | a
 ·have hx:l=[]:=by
   rcases Nat.eq_zero_or_pos n with h0 | h0
   ·exact h.nil_iff.1 h0
   ·obtain ⟨b,o,v,x,e,_⟩:=h.at_ h0;cases e
  subst hx
  have hz:=fun W=>Lib.run_eql_slice_nil (P:=Tryz.prog) W 42 57 none n c 0 0 Tryz.underlying42
  clear hl h
  go_enter Tryz.func65,Tryz.ntmps65
  go_wp2
  go_ret
  exact ⟨_,rfl,GrowM.nil (Ext.refl w) (fun g hg=>by cases hg)⟩
 ·have hz:=fun W=>Lib.run_eql_slice_nil (P:=Tryz.prog) W 42 57 (some a) n c 0 0 Tryz.underlying42
  obtain ⟨us,u1,u2,u3⟩:=h.cut_open
  have HU1:=hid u1
  have HC:=hid (u2.below (Ext.alloc w (.cells #[] 57)))
  have HO:=hid (zr2 u1 u3)
  have HG:=hid (GrowM.lit0 (E:=Elem.att) (S:=S) (T:=57) w)
  have HE:Hid (∀ (i:Nat) u y,us[i]?=some u→l[i]?=some y→Elem.att.R (zcK S (.slice (some ⟨w.heap.size,0,none⟩) 0 0) none) (w.alloc (.cells #[] 57)) u y):=fun i u y hi hy=>HG.out.old (fun _ _ hb=>hb) (u3 i u y hi hy)
  have HL:=hid hl
  have HN:Hid (n≤4000000):=by show _≤_;omega
  clear hl h hm u1 u2 u3
  go_enter Tryz.func65,Tryz.ntmps65
  go_wp2_with (at_builtin;refine zmD Tryz.underlying42 zsi rfl (by decide) rfl _ _ rfl _ _ rfl HG.out us l HU1.out HE.out HO.out rfl HL.out HC.out (by have:=HN.out;simp only [List.length_nil];omega) ?_;intro v' w1 hg1 _ _;have HG1:=hid hg1;clear hg1)
  go_ret
  exact ⟨_,rfl,by have:=HG1.out;rwa [List.nil_append] at this⟩
end Go.Proofs.YtioglicfndkgiaaGreatDoor
