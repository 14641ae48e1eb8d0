/- Lemmas of the walk. -/
import Derived.Test.YtkjbokhnpphimaaGreatDoorV25
set_option maxHeartbeats 40000000
set_option linter.unusedVariables false
set_option linter.unusedSimpArgs false
namespace Go.Proofs.YtkjbokhnpphimaaGreatDoor
open Go.RowKit
set_option maxRecDepth 100000
def Idx{α:Type}(P:α→Bool)(l:List α)(r:Int):Prop:=(r = -1∧l.any P=false)∨∃k:Nat,r=k∧(l.take k).any P=false∧∃x,l[k]?=some x∧P x=true
def zqn(n v:List UInt8)(x:ByteArray):Bool:=(valZ n v).2==0&&zgx n (valZ n v).1 (bys x)
theorem zso{α:Type}(a:Bool)(p:α→Bool)(l:List α):(l.any fun x=>a&&p x)=(a&&l.any p):=by
 induction l with
 |nil=>simp
 |cons x t ih=>simp only[List.any_cons,ih];cases a<;>rfl
theorem zja(n v:List UInt8)(l:List ByteArray):l.any (zqn n v)=hasZ n v l:=zso _ _ l
theorem Idx.has{α:Type}{P:α→Bool}{l:List α}{r:Int}(h:Idx P l r):decide (0≤r)=l.any P:=by
 rcases h with⟨rfl,h⟩|⟨k,rfl,-,x,hx,hp⟩
 ·rw[h];rfl
 ·rw[zlV hx hp];exact decide_eq_true (by omega)
theorem znw(n m x:ByteArray)(g1 g2:Nat)(w:World)(hG:Gu w)(hn:n.size≤4000000) 
 (hc1:w.cell? ⟨g1,0,none⟩=some (.string n)) (hc2:w.cell? ⟨g2,0,none⟩=some (.string m)) :
 Calls Tryz.prog 154 #[.string x,.pointer (some ⟨g1,0,none⟩),.pointer (some ⟨g2,0,none⟩)] w fun e w'=>e=.returned (.bool (zgx (bys n) (bys m) (bys x)))∧Ext w w':=by
 have HG:=hid hG
 have HV:∀w,Gu w→Calls Tryz.prog 103 #[.string n,.string x] w (zcw w (bys n) (bys x)):=fun w hG=>zc6 n x w hG hn
 unfold zcw at HV
 have HLD:Hid (zgx (bys n) (bys m) (bys x)=((valZ (bys n) (bys x)).2==0&&decide ((valZ (bys n) (bys x)).1=bys m))):=rfl
 have HC2:=hid hc2
 clear hG hn hc2
 generalize zgx (bys n) (bys m) (bys x)=r at*
 generalize valZ (bys n) (bys x)=q at*
 obtain⟨q1,q2⟩:=q
 simp only at HV HLD
 have k1:(q2==0)=true∨(q2==0)=false:=by cases q2==0<;>simp
 have k2:((str q1).toList==m.toList)=true∧Hid (decide (q1=bys m)=true)∨((str q1).toList==m.toList)=false∧Hid (decide (q1=bys m)=false):=by
  by_cases h:str q1=m
  ·exact .inl ⟨zco h,decide_eq_true (by rw[←h,zao])⟩
  ·exact .inr ⟨zch h,decide_eq_false (fun e=>h (by rw[e,zmr]))⟩
 rcases k1 with k1|k1<;>rcases k2 with⟨k2,HK2⟩|⟨k2,HK2⟩
 all_goals
  rw[k1,HK2.out] at HLD
  generalize str q1=qs at*
  go_enter Tryz.func154,Tryz.ntmps154
  go_wp2_with(go_at_call 103;(with_reducible refine(HV _ HG.out).mono ?_);rintro e w1 ⟨rfl,hx1⟩;have HX1:=hid hx1;have hc3:=zaa HC2.out _ hx1;clear hx1)
  go_ret
  exact⟨by rw[HLD.out];rfl,HX1.out⟩
theorem zhU{S:Nat→Prop}{A:Option Addr}{n c:Nat}{l:List ByteArray}{w:World}(h:Row Elem.str S w A n c l)(nm m:ByteArray)(g1 g2:Nat)(hG:Gu w)(hn:nm.size≤4000000) 
 (hc1:w.cell? ⟨g1,0,none⟩=some (.string nm)) (hc2:w.cell? ⟨g2,0,none⟩=some (.string m)) :
 Calls Tryz.prog 104 #[.slice A n c,.func (.func 154) #[] #[.pointer (some ⟨g1,0,none⟩),.pointer (some ⟨g2,0,none⟩)]] w fun e w'=>
  ∃r:Int,e=.returned (.int .i64 r)∧Idx (fun x=>zgx (bys nm) (bys m) (bys x)) l r∧Ext w w':=by
 have hl:=hid h.len
 have hnl:n≤9223372036854775807:=by have:=h.cap;have:=h.most;simp only[maxLen] at this;omega
 have HC:∀x wr,Ext w wr→Calls Tryz.prog 154 #[.string x,.pointer (some ⟨g1,0,none⟩),.pointer (some ⟨g2,0,none⟩)] wr fun e w'=>e=.returned (.bool (zgx (bys nm) (bys m) (bys x)))∧Ext wr w':=
  fun x wr hx=>znw nm m x g1 g2 wr (hG.ext hx) hn (zaa hc1 _ hx) (zaa hc2 _ hx)
 clear hG hn hc1 hc2
 generalize hP:(fun x:ByteArray=>zgx (bys nm) (bys m) (bys x))=P at*
 have HC2:∀x wr,Ext w wr→Calls Tryz.prog 154 #[.string x,.pointer (some ⟨g1,0,none⟩),.pointer (some ⟨g2,0,none⟩)] wr fun e w'=>e=.returned (.bool (P x))∧Ext wr w':=fun x wr hx=>by rw[←hP];exact HC x wr hx
 clear hP HC
 go_enter Tryz.func104,Tryz.ntmps104
 go_wp2
 go_loopw [8] (fun i wr=>∃j:Nat,j≤n∧i=.int .i64 j∧Hid ((l.take j).any P=false)∧Hid (Ext w wr)) (fun i _=>n-(intOf i).toNat)
 case atStart=>exact⟨0,by omega,rfl,by simp[Hid],Ext.refl w⟩
 case round=>
  obtain⟨j,hj,rfl,Htk,hx⟩:=hrel
  by_cases hlt:j<n
  ·obtain⟨b1,o1,rfl,c1⟩:=(h.ext hx.out).str_cell (by omega)
   have e1:=c1 j hlt
   clear c1
   have g1:l[j]?=some (l[j]?.getD ByteArray.empty):=by have:=hl.out;rw[List.getElem?_eq_getElem (by omega)];simp
   have Hg:=hid g1
   clear g1
   generalize l[j]?.getD ByteArray.empty=x1 at*
   cases hp:P x1
   ·have Hp:=hid hp
    clear hp
    go_wp2_with(go_at_call 154;(with_reducible refine(HC2 _ _ hx.out).mono ?_);rintro e w1 ⟨he,hx1⟩;rw[Hp.out] at he;subst he;have HX1:=hid hx1;clear hx1)
    exact⟨⟨j+1,by omega,by go_num,zeg Htk.out Hg.out Hp.out,hx.out.trans HX1.out⟩,by simp[intOf];omega⟩
   ·have Hp:=hid hp
    clear hp
    go_wp2_with(go_at_call 154;(with_reducible refine(HC2 _ _ hx.out).mono ?_);rintro e w1 ⟨he,hx1⟩;rw[Hp.out] at he;subst he;have HX1:=hid hx1;clear hx1)
    go_ret
    exact⟨_,rfl,.inr ⟨j,rfl,Htk.out,_,Hg.out,Hp.out⟩,hx.out.trans HX1.out⟩
  ·obtain rfl:j=n:=by omega
   go_wp2
   go_ret
   have h9:=Htk.out
   rw[List.take_of_length_le (Nat.le_of_eq hl.out.symm)] at h9
   exact⟨_,rfl,.inl ⟨rfl,h9⟩,hx.out⟩
theorem zhi{S:Nat→Prop}{A:Option Addr}{n c:Nat}{l:List ByteArray}{w:World}(h:Row Elem.str S w A n c l)(nm v:ByteArray)(hG:Gu w)(hn:nm.size≤4000000)  :
 Calls Tryz.prog 123 #[.string nm,.slice A n c,.string v] w fun e w'=>∃r:Int,e=.returned (.int .i64 r)∧Idx (zqn (bys nm) (bys v)) l r∧Ext w w':=by
 have HG:=hid hG
 have HR:=hid h
 have HV:∀w,Gu w→Calls Tryz.prog 103 #[.string nm,.string v] w (zcw w (bys nm) (bys v)):=fun w hG=>zc6 nm v w hG hn
 unfold zcw at HV
 have HI:∀(m:ByteArray) g1 g2 w1,Ext w w1→w1.cell? ⟨g1,0,none⟩=some (.string nm)→w1.cell? ⟨g2,0,none⟩=some (.string m) →
  Calls Tryz.prog 104 #[.slice A n c,.func (.func 154) #[] #[.pointer (some ⟨g1,0,none⟩),.pointer (some ⟨g2,0,none⟩)]] w1 fun e w'=>
  ∃r:Int,e=.returned (.int .i64 r)∧Idx (fun x=>zgx (bys nm) (bys m) (bys x)) l r∧Ext w1 w':=fun m g1 g2 w1 hx a b=>zhU (h.ext hx) nm m g1 g2 (hG.ext hx) hn a b
 have HHD:Hid (zqn (bys nm) (bys v)=fun x=>((valZ (bys nm) (bys v)).2==0&&zgx (bys nm) (valZ (bys nm) (bys v)).1 (bys x))):=rfl
 have hmf:∀(fn:Fn) (first cap:Array Value) (w:World),(Instr.makeFunc fn first cap).run Tryz.prog w=.ok (.func fn first cap) w:=fun _ _ _ _=>rfl
 clear hG h hn
 generalize zqn (bys nm) (bys v)=P at*
 generalize valZ (bys nm) (bys v)=q at*
 obtain⟨q1,q2⟩:=q
 simp only at HV HHD
 have HQ:Hid (P=fun x=>(q2==0)&&zgx (bys nm) (bys (str q1)) (bys x)):=by show _=_;rw[zao];exact HHD.out
 clear HHD
 have HHD:=HQ
 clear HQ
 generalize str q1=qs at*
 by_cases k1:q2=0
 ·subst k1
  have HF:Hid (P=fun x=>zgx (bys nm) (bys qs) (bys x)):=by show _=_;rw[HHD.out];rfl
  clear HHD
  go_enter Tryz.func123,Tryz.ntmps123
  go_wp2_with (first
   |(go_at_call 103;(with_reducible refine(HV _ (HG.out.ext (Ext.alloc _ _))).mono ?_);rintro e w1 ⟨rfl,hx1⟩;have HX1:=hid hx1;clear hx1;have HXA:=hid ((Ext.trans (Ext.alloc _ _) HX1.out).trans (Ext.alloc w1 (.cells #[.string qs] 9)));have HCA:=hid ((((Bx.make (Ext.refl w) #[.string nm] 9).later HX1.out).later (Ext.alloc w1 (.cells #[.string qs] 9))).cell (i:=0) rfl);have HCB:=hid ((Bx.make (Ext.refl w1) #[.string qs] 9).cell (i:=0) rfl))
   | (go_at_call 104;(with_reducible refine (HI qs _ _ _ HXA.out HCA.out HCB.out).mono ?_);rintro e w2 ⟨r1,rfl,hr,hx2⟩;have HX2:=hid hx2;have HRR:=hid hr;clear hx2 hr))
  go_ret
  exact⟨_,rfl,by rw[HF.out];exact HRR.out,((Ext.trans (Ext.alloc _ _) HX1.out).trans (Ext.alloc _ _)).trans HX2.out⟩
 ·have k2:(q2 != 0)=true:=by rw[bne_iff_ne];exact k1
  have HF:Hid (P=fun x=>false):=by show _=_;rw[HHD.out,show(q2==0)=false from beq_eq_false_iff_ne.2 k1];rfl
  clear HHD k1
  go_enter Tryz.func123,Tryz.ntmps123
  go_wp2_with (first
   | (go_at_call 103;(with_reducible refine (HV _ (HG.out.ext (Ext.alloc _ _))).mono ?_);rintro e w1 ⟨rfl,hx1⟩;have HX1:=hid hx1;clear hx1))
  go_ret
  exact⟨-1,rfl,.inl ⟨rfl,by rw[HF.out];simp⟩,(Ext.trans (Ext.alloc _ _) HX1.out).trans (Ext.alloc _ _)⟩
theorem zpY{S:Nat→Prop}{A:Option Addr}{n c:Nat}{l:List Att}{w:World}(h:Row Elem.att S w A n c l)(nm dn v:ByteArray)(hG:Gu w)(hn:nm.size≤4000000)  (hv:∀a∈l,a.vals.length≤8796093022208) :
 Calls Tryz.prog 102 #[.agg #[.string dn,.slice A n c],.string nm,.string v] w fun e w'=>e=.returned (.bool (hasZ (bys nm) (bys v) (zbv (bys nm) l)))∧Ext w w':=by
 have HV:∀w',Ext w w'→Calls Tryz.prog 78 #[.agg #[.string dn,.slice A n c],.string nm] w' (zcJ w' (bys nm) l):=fun w' hx=>zez (h.ext hx) nm dn hn hv
 unfold zcJ at HV
 have HF:∀(T:Nat→Prop) B m d w',Ext w w'→Row Elem.str T w' B m d (zbv (bys nm) l)→Calls Tryz.prog 123 #[.string nm,.slice B m d,.string v] w' fun e w''=>∃r:Int,e=.returned (.int .i64 r)∧decide (0≤r)=hasZ (bys nm) (bys v) (zbv (bys nm) l)∧Ext w' w'':=
  fun T B m d w' hx hr=>(zhi hr nm v (hG.ext hx) hn).mono fun e w2 ⟨r,h1,h2,h3⟩=>⟨r,h1,by rw[h2.has,zja],h3⟩
 clear hG hn hv h
 generalize hasZ (bys nm) (bys v) (zbv (bys nm) l)=r at*
 generalize zbv (bys nm) l=q at*
 go_enter Tryz.func102,Tryz.ntmps102
 go_wp2_with (first
  |(go_at_call 78;(with_reducible refine(HV _ (Ext.alloc _ _)).mono ?_);rintro e w1 ⟨A1,n1,c1,rfl,hr1,hx1⟩;have HR1:=hid hr1;have HX1:=hid (Ext.trans (Ext.alloc _ _) hx1);clear hr1 hx1)
  | (go_at_call 123;(with_reducible refine (HF _ _ _ _ _ HX1.out HR1.out).mono ?_);rintro e w2 ⟨r1,rfl,hr,hx2⟩;have HRR:=hid hr;have HX2:=hid hx2;clear hr hx2))
 go_ret
 exact⟨by rw[←HRR.out];rfl,HX1.out.trans HX2.out⟩
def badX(n:List UInt8)(x:ByteArray):Bool:=(valZ n (bys x)).2 != 0
def badV(n:List UInt8)(l:List ByteArray):Bool:=l.any (badX n)
theorem zmV(n x:ByteArray)(g1:Nat)(w:World)(hG:Gu w)(hn:n.size≤4000000)(hc1:w.cell? ⟨g1,0,none⟩=some (.string n)) :
 Calls Tryz.prog 122 #[.string x,.pointer (some ⟨g1,0,none⟩)] w fun e w'=>e=.returned (.bool (badX (bys n) x))∧Ext w w':=by
 have HV:Calls Tryz.prog 103 #[.string n,.string x] w (zcw w (bys n) (bys x)):=zc6 n x w hG hn
 unfold zcw at HV
 have HLD:Hid (badX (bys n) x=((valZ (bys n) (bys x)).2 != 0)):=rfl
 clear hG hn
 generalize badX (bys n) x=r at*
 generalize valZ (bys n) (bys x)=q at*
 obtain⟨q1,q2⟩:=q
 simp only at HV HLD
 go_enter Tryz.func122,Tryz.ntmps122
 go_wp2_with(go_at_call 103;(with_reducible refine HV.mono ?_);rintro e w1 ⟨rfl,hx1⟩;have HX1:=hid hx1;clear hx1)
 go_ret
 exact⟨by rw[HLD.out];rfl,HX1.out⟩
theorem zhX{S:Nat→Prop}{A:Option Addr}{n c:Nat}{l:List ByteArray}{w:World}(h:Row Elem.str S w A n c l)(nm:ByteArray)(g1:Nat)(hG:Gu w)(hn:nm.size≤4000000)
 (hc1:w.cell? ⟨g1,0,none⟩=some (.string nm)) :
 Calls Tryz.prog 104 #[.slice A n c,.func (.func 122) #[] #[.pointer (some ⟨g1,0,none⟩)]] w fun e w'=>
  ∃r:Int,e=.returned (.int .i64 r)∧Idx (badX (bys nm)) l r∧Ext w w':=by
 have hl:=hid h.len
 have hnl:n≤9223372036854775807:=by have:=h.cap;have:=h.most;simp only[maxLen] at this;omega
 have HC2:∀x wr,Ext w wr→Calls Tryz.prog 122 #[.string x,.pointer (some ⟨g1,0,none⟩)] wr fun e w'=>e=.returned (.bool (badX (bys nm) x))∧Ext wr w':=
  fun x wr hx=>zmV nm x g1 wr (hG.ext hx) hn (zaa hc1 _ hx)
 clear hG hn hc1
 generalize badX (bys nm)=P at*
 go_enter Tryz.func104,Tryz.ntmps104
 go_wp2
 go_loopw [8] (fun i wr=>∃j:Nat,j≤n∧i=.int .i64 j∧Hid ((l.take j).any P=false)∧Hid (Ext w wr)) (fun i _=>n-(intOf i).toNat)
 case atStart=>exact⟨0,by omega,rfl,by simp[Hid],Ext.refl w⟩
 case round=>
  obtain⟨j,hj,rfl,Htk,hx⟩:=hrel
  by_cases hlt:j<n
  ·obtain⟨b1,o1,rfl,c1⟩:=(h.ext hx.out).str_cell (by omega)
   have e1:=c1 j hlt
   clear c1
   have g1:l[j]?=some (l[j]?.getD ByteArray.empty):=by have:=hl.out;rw[List.getElem?_eq_getElem (by omega)];simp
   have Hg:=hid g1
   clear g1
   generalize l[j]?.getD ByteArray.empty=x1 at*
   cases hp:P x1
   ·have Hp:=hid hp
    clear hp
    go_wp2_with(go_at_call 122;(with_reducible refine(HC2 _ _ hx.out).mono ?_);rintro e w1 ⟨he,hx1⟩;rw[Hp.out] at he;subst he;have HX1:=hid hx1;clear hx1)
    exact⟨⟨j+1,by omega,by go_num,zeg Htk.out Hg.out Hp.out,hx.out.trans HX1.out⟩,by simp[intOf];omega⟩
   ·have Hp:=hid hp
    clear hp
    go_wp2_with(go_at_call 122;(with_reducible refine(HC2 _ _ hx.out).mono ?_);rintro e w1 ⟨he,hx1⟩;rw[Hp.out] at he;subst he;have HX1:=hid hx1;clear hx1)
    go_ret
    exact⟨_,rfl,.inr ⟨j,rfl,Htk.out,_,Hg.out,Hp.out⟩,hx.out.trans HX1.out⟩
  ·obtain rfl:j=n:=by omega
   go_wp2
   go_ret
   have h9:=Htk.out
   rw[List.take_of_length_le (Nat.le_of_eq hl.out.symm)] at h9
   exact⟨_,rfl,.inl ⟨rfl,h9⟩,hx.out⟩
theorem znS{S:Nat→Prop}{A:Option Addr}{n c:Nat}{l:List ByteArray}{w:World}(h:Row Elem.str S w A n c l)(nm:ByteArray)(hG:Gu w)(hn:nm.size≤4000000) :
 Calls Tryz.prog 76 #[.string nm,.slice A n c] w fun e w'=>e=.returned (.bool (badV (bys nm) l))∧Ext w w':=by
 have HB0:=hid (Bx.make (Ext.refl w) #[.string nm] 9)
 have HI:=zhX (h.ext HB0.out.ext) nm w.heap.size (hG.ext HB0.out.ext) hn (HB0.out.cell (i:=0) rfl)
 have hmf:∀(fn:Fn) (first cap:Array Value) (w:World),(Instr.makeFunc fn first cap).run Tryz.prog w=.ok (.func fn first cap) w:=fun _ _ _ _=>rfl
 have HC:Calls Tryz.prog 54 #[.slice A n c,.func (.func 122) #[] #[.pointer (some ⟨w.heap.size,0,none⟩)]] (w.alloc (.cells #[.string nm] 9)) fun e w'=>e=.returned (.bool (badV (bys nm) l))∧Ext (w.alloc (.cells #[.string nm] 9)) w':=by
  clear HB0 h hG hn hmf
  have HD:Hid (badV (bys nm) l=l.any (badX (bys nm))):=rfl
  generalize badV (bys nm) l=r at*
  generalize badX (bys nm)=P at*
  go_enter Tryz.func54,Tryz.ntmps54
  go_wp2_with(go_at_call 104;(with_reducible refine HI.mono ?_);rintro e w1 ⟨r1,rfl,hr,hx1⟩;have HRR:=hid hr.has;have HX1:=hid hx1;clear hr hx1)
  go_ret
  exact⟨by rw[HD.out,←HRR.out];rfl,HX1.out⟩
 clear HI h hG hn
 generalize badV (bys nm) l=r at*
 go_enter Tryz.func76,Tryz.ntmps76
 go_wp2_with(go_at_call 54;(with_reducible refine HC.mono ?_);rintro e w2 ⟨rfl,hx2⟩;have HX2:=hid hx2;clear hx2)
 go_ret
 exact⟨rfl,HB0.out.ext.trans HX2.out⟩
def zdQ(n:List UInt8)(l:List ByteArray):Nat→Bool
 |0=>false
 |k+1=>zdQ n l k || hasZ n (bys (l[k]?.getD ByteArray.empty)) (l.take k)
def zgn(n:List UInt8)(l:List ByteArray):Bool:=zdQ n l l.length
theorem zmp{n:List UInt8}{l:List ByteArray}{k:Nat}:∀m,k≤m→zdQ n l k=true→zdQ n l m=true
 |0,h,e=>by(obtain rfl:k=0:=(by omega));exact e
 |m+1,h,e=>by
  rcases Nat.lt_or_ge m k with h1|h1
  ·obtain rfl:k=m+1:=by omega
   exact e
  ·rw[zdQ,zmp m h1 e];rfl
theorem ziy{n:List UInt8}{l:List ByteArray}{k:Nat}{x:ByteArray}{b:Bool}(h:zdQ n l k=false)(hx:l[k]?=some x)(hb:hasZ n (bys x) (l.take k)=b):zdQ n l (k+1)=b:=by
 rw[zdQ,h,hx]
 exact hb
theorem zo2{S:Nat→Prop}{A:Option Addr}{n c:Nat}{l:List ByteArray}{w:World}(h:Row Elem.str S w A n c l)(nm:ByteArray)(hG:Gu w)(hn:nm.size≤4000000) :
 Calls Tryz.prog 77 #[.string nm,.slice A n c] w fun e w'=>e=.returned (.bool (zgn (bys nm) l))∧Ext w w':=by
 have HG:=hid hG
 have HR:=hid h
 have hl:=hid h.len
 have hcap:=h.cap
 have hnl:n≤9223372036854775807:=by have:=h.cap;have:=h.most;simp only[maxLen] at this;omega
 have HN:=hid hn
 clear hG h hn
 go_enter Tryz.func77,Tryz.ntmps77
 go_wp2
 go_loopw [9] (fun i wr=>∃j:Nat,j≤n∧i=.int .i64 j∧Hid (zdQ (bys nm) l j=false)∧Hid (Ext w wr)) (fun i _=>n-(intOf i).toNat)
 case atStart=>exact⟨0,by omega,rfl,rfl,Ext.refl w⟩
 case round=>
  obtain⟨j,hj,rfl,Htk,hx⟩:=hrel
  by_cases hlt:j<n
  ·have hrw:=HR.out.ext hx.out
   have hhd:=hid (hrw.head (k:=j) (by omega))
   obtain⟨b1,o1,rfl,c1⟩:=hrw.str_cell (by omega)
   have e1:=c1 j hlt
   have hs1:=zmu (some ⟨b1,o1,none⟩) n c j (by omega)
   clear c1 hrw
   have g1:l[j]?=some (l[j]?.getD ByteArray.empty):=by have:=hl.out;rw[List.getElem?_eq_getElem (by omega)];simp
   have Hg:=hid g1
   clear g1
   generalize l[j]?.getD ByteArray.empty=x1 at*
   have jj:(j:Int)<(n:Int):=by omega
   have jc:(j:Int)≤(c:Int):=by omega
   have j0:(0:Int)≤(j:Int):=by omega
   cases hb:hasZ (bys nm) (bys x1) (l.take j)
   ·have HF:∀w',Ext wr w'→Calls Tryz.prog 123 #[.string nm,.slice (cutA (some ⟨b1,o1,none⟩) 0 c 1) j c,.string x1] w' fun e w''=>∃r:Int,e=.returned (.int .i64 r)∧decide (0≤r)=false∧Ext w' w'':=fun w' hx'=>(zhi (hhd.out.ext hx') nm x1 (HG.out.ext (hx.out.trans hx')) HN.out).mono fun e w2 ⟨r,h1,h2,h3⟩=>⟨r,h1,by rw[h2.has,zja,hb],h3⟩
    have HT:=hid (ziy Htk.out Hg.out hb)
    clear hb
    go_wp2_with(go_at_call 123;(with_reducible refine(HF _ (Ext.refl _)).mono ?_);rintro e w1 ⟨r,rfl,hr,hx1⟩;have HX1:=hid (hx.out.trans hx1);clear hx1)
    exact⟨⟨j+1,by omega,by go_num,HT.out,HX1.out⟩,by simp[intOf];omega⟩
   ·have HF:∀w',Ext wr w'→Calls Tryz.prog 123 #[.string nm,.slice (cutA (some ⟨b1,o1,none⟩) 0 c 1) j c,.string x1] w' fun e w''=>∃r:Int,e=.returned (.int .i64 r)∧decide (0≤r)=true∧Ext w' w'':=fun w' hx'=>(zhi (hhd.out.ext hx') nm x1 (HG.out.ext (hx.out.trans hx')) HN.out).mono fun e w2 ⟨r,h1,h2,h3⟩=>⟨r,h1,by rw[h2.has,zja,hb],h3⟩
    have HT:Hid (zgn (bys nm) l=true):=zmp l.length (by have:=hl.out;omega) (ziy Htk.out Hg.out hb)
    clear hb
    go_wp2_with(go_at_call 123;(with_reducible refine(HF _ (Ext.refl _)).mono ?_);rintro e w1 ⟨r,rfl,hr,hx1⟩;have HX1:=hid (hx.out.trans hx1);clear hx1)
    go_ret
    exact⟨by rw[HT.out];rfl,HX1.out⟩
  ·obtain rfl:j=n:=by omega
   have HE:Hid (zgn (bys nm) l=false):=by show _=_;unfold zgn;rw[←hl.out];exact Htk.out
   go_wp2
   go_ret
   exact⟨by rw[HE.out];rfl,hx.out⟩
end Go.Proofs.YtkjbokhnpphimaaGreatDoor
