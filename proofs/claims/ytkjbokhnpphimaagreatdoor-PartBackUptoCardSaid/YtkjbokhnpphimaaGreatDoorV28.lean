/- Lemmas of the walk. -/
import Derived.Test.YtkjbokhnpphimaaGreatDoorV25
import Derived.Test.YtkjbokhnpphimaaGreatDoorV27
set_option maxHeartbeats 40000000
set_option linter.unusedVariables false
set_option linter.unusedSimpArgs false
namespace Go.Proofs.YtkjbokhnpphimaaGreatDoor
open Go.RowKit
set_option maxRecDepth 100000
def zf9(nm:List UInt8):List Ava:=match okL (za6 nm) with|[]=>[]|p::_=>p
theorem zpl(nm:ByteArray)(w:World)(hG:Gl w):Calls Tryz.prog 125 #[.string nm] w fun e w'=>∃A n c,e=.returned (.slice A n c)∧Row Elem.ava (fun b=>w.heap.size≤b) w' A n c (zf9 (bys nm))∧Ext w w':=by
 have HP:=zg7 nm w hG
 unfold zmj at HP
 have HD:Hid (zf9 (bys nm)=match okL (za6 (bys nm)) with|[]=>[]|p::_=>p):=rfl
 generalize okL (za6 (bys nm))=l at*
 generalize zaJ (za6 (bys nm))=cd at*
 generalize zf9 (bys nm)=q at*
 clear hG
 cases l with
 |nil=>
  simp only at HD
  go_enter Tryz.func125,Tryz.ntmps125
  go_wp2_with(go_at_call 110;(with_reducible refine HP.mono ?_);rintro e w1 ⟨A1,n1,c1,rfl,hr1,hx1⟩;have HX1:=hid hx1;obtain rfl:n1=0:=hr1.len;clear hr1 hx1)
  go_ret
  exact⟨none,0,0,rfl,by rw[HD.out];exact Row.nil _ _ _,HX1.out.trans (Ext.alloc _ _)⟩
 |cons p rest=>
  simp only at HD
  go_enter Tryz.func125,Tryz.ntmps125
  go_wp2_with(go_at_call 110;(with_reducible refine HP.mono ?_);rintro e w1 ⟨A1,n1,c1,rfl,hr1,hx1⟩;have HX1:=hid hx1;have hl1:n1=rest.length+1:=hr1.len;have tl1:((n1:Int)==0)=false:=(by rw[beq_eq_false_iff_ne];omega);have tl3:0<n1:=(by omega);obtain⟨b1,o1,v1,x1,rfl,g1,-,⟨A2,n2,c2,rfl,hr2⟩,q1⟩:=hr1.at_ (i:=0) (by omega);obtain rfl:x1=p:=(by simpa using g1.symm);have e1:=q1 0 _ rfl;simp only[Elem.part,Elem.slc,Nat.zero_mul,Nat.add_zero] at e1;have e2:=zaa e1 _ (Ext.alloc w1 (.cells #[.slice (some ⟨b1,o1,none⟩) n1 c1] 165));have HR2:=hid hr2;clear hx1 hr1 hl1 g1 q1 hr2)
  go_ret
  exact⟨A2,n2,c2,rfl,by rw[HD.out];exact HR2.out.ext (Ext.alloc _ _),HX1.out.trans (Ext.alloc _ _)⟩
def zfm(nm:List UInt8)(l:List Att):Bool:=!(zf9 nm).any fun a=>!hasE a.type a.val (zbv a.type l)
theorem zqc(nm:List UInt8):∀a∈zf9 nm,a.type.length≤17∧(zat a.type).2≠4∧(zat a.type).2≠5:=by
 intro a ha
 unfold zf9 at ha
 cases hp:za6 nm with
 |error er=>rw[hp] at ha;simp[okL] at ha
 |ok l=>
  rw[hp] at ha
  cases l with
  |nil=>simp[okL] at ha
  |cons p rest=>
   simp only[okL] at ha
   have hf:=zeb hp p (by simp)
   have h1:=zcW hf a ha
   refine⟨zd5 hf a ha,?_⟩
   unfold zbV at h1
   simp only[Bool.and_eq_true,Bool.or_eq_true,decide_eq_true_eq] at h1
   omega
theorem zm7{S:Nat→Prop}{A:Option Addr}{n c:Nat}{l:List Att}{w:World}(h:Row Elem.att S w A n c l)(x:Ava)(nm:ByteArray)(g:Nat)(hG:Gl w)(hx:x.type.length≤17∧(zat x.type).2≠4∧(zat x.type).2≠5)(hv:∀a∈l,a.vals.length≤8796093022208)
 (h0:w.cell? ⟨g,0,none⟩=some (.string nm)) (h1:w.cell? ⟨g,1,none⟩=some (.slice A n c)) :
 Calls Tryz.prog 126 #[avaV x,.pointer (some ⟨g,0,none⟩)] w fun e w'=>e=.returned (.bool (!hasE x.type x.val (zbv x.type l)))∧Ext w w':=by
 have HH:∀w',Ext w w'→Calls Tryz.prog 102 #[.agg #[.string nm,.slice A n c],.string (str x.type),.string (str x.val)] w' fun e w''=>e=.returned (.bool (hasE x.type x.val (zbv x.type l)))∧Ext w' w'':=fun w' hxx=>by
  have:=zrF (h.ext hxx) (str x.type) nm (str x.val) (hG.ext hxx) (by rw[zaI];omega) (by rw[zao];exact hx.2.1) (by rw[zao];exact hx.2.2) hv
  rwa[zao,zao] at this
 have e0:=zaa h0 _ (Ext.alloc w (.cells #[.string (str x.type),.string (str x.val)] 189))
 have e1:=zaa h1 _ (Ext.alloc w (.cells #[.string (str x.type),.string (str x.val)] 189))
 clear h hG hx hv h0 h1
 generalize hasE x.type x.val (zbv x.type l)=r at*
 unfold avaV
 go_enter Tryz.func126,Tryz.ntmps126
 go_wp2_with(go_at_call 102;(with_reducible refine(HH _ (Ext.alloc _ _)).mono ?_);rintro e w1 ⟨rfl,hx1⟩;have HX1:=hid ((Ext.alloc _ _).trans hx1);clear hx1)
 go_ret
 exact⟨by cases r<;>rfl,HX1.out⟩
theorem zj2{S T:Nat→Prop}{A B:Option Addr}{n c m d:Nat}{ps:List Ava}{l:List Att}{w:World}(h:Row Elem.ava S w A n c ps)(k:Row Elem.att T w B m d l)(nm:ByteArray)(g:Nat)(hG:Gl w)(hx:∀x∈ps,x.type.length≤17∧(zat x.type).2≠4∧(zat x.type).2≠5)(hv:∀a∈l,a.vals.length≤8796093022208)
 (h0:w.cell? ⟨g,0,none⟩=some (.string nm)) (h1:w.cell? ⟨g,1,none⟩=some (.slice B m d)) :
 Calls Tryz.prog 155 #[.slice A n c,.func (.func 126) #[] #[.pointer (some ⟨g,0,none⟩)]] w fun e w'=>
  ∃r:Int,e=.returned (.int .i64 r)∧decide (0≤r)=ps.any (fun a=>!hasE a.type a.val (zbv a.type l))∧Ext w w':=by
 have HR:=hid h
 have hl:=hid h.len
 have hnl:n≤9223372036854775807:=by have:=h.cap;have:=h.most;simp only[maxLen] at this;omega
 have HC:∀x w',x∈ps→Ext w w'→Calls Tryz.prog 126 #[avaV x,.pointer (some ⟨g,0,none⟩)] w' fun e w''=>e=.returned (.bool (!hasE x.type x.val (zbv x.type l)))∧Ext w' w'':=fun x w' hxm hxx=>
  zm7 (k.ext hxx) x nm g (hG.ext hxx) (hx x hxm) hv (zaa h0 _ hxx) (zaa h1 _ hxx)
 clear h k hG hx hv h0 h1
 generalize hP:(fun a:Ava=>!hasE a.type a.val (zbv a.type l))=P at*
 have HC2:∀x w',x∈ps→Ext w w'→Calls Tryz.prog 126 #[.agg #[.string (str x.type),.string (str x.val)],.pointer (some ⟨g,0,none⟩)] w' fun e w''=>e=.returned (.bool (P x))∧Ext w' w'':=fun x w' hxm hxx=>by rw[←hP];exact HC x w' hxm hxx
 clear hP HC
 go_enter Tryz.func155,Tryz.ntmps155
 go_wp2
 go_loopw [8] (fun i wr=>∃j:Nat,j≤n∧i=.int .i64 j∧Hid ((ps.take j).any P=false)∧Hid (Ext w wr)) (fun i _=>n-(intOf i).toNat)
 case atStart=>exact⟨0,by omega,rfl,by simp[Hid],Ext.refl w⟩
 case round=>
  obtain⟨j,hj,rfl,Htk,hx⟩:=hrel
  by_cases hlt:j<n
  ·obtain⟨b1,o1,x,rfl,hx1,e1,e2⟩:=zgj (HR.out.ext hx.out) hlt
   have Hg:=hid hx1
   have HCX:=HC2 x
   have HMX:=hid (List.mem_of_getElem? hx1)
   clear hx1 HC2
   obtain⟨px,hpx⟩:∃b,b=P x:=⟨_,rfl⟩
   rw[←hpx] at HCX
   have HPX:=hid hpx
   clear hpx
   cases px
   all_goals
    go_wp2_with(go_at_call 126;(with_reducible refine(HCX _ HMX.out hx.out).mono ?_);rintro e w1 ⟨rfl,hx1⟩;have HX1:=hid hx1;clear hx1)
    first
     |exact⟨⟨j+1,by omega,by go_num,zeg Htk.out Hg.out HPX.out.symm,hx.out.trans HX1.out⟩,by simp[intOf];omega⟩
     |(go_ret;exact⟨_,rfl,by rw[zlV Hg.out HPX.out.symm];exact decide_eq_true (by omega),hx.out.trans HX1.out⟩)
  ·obtain rfl:j=n:=by omega
   go_wp2
   go_ret
   have h9:=Htk.out
   rw[List.take_of_length_le (Nat.le_of_eq hl.out.symm)] at h9
   exact⟨_,rfl,by rw[h9];rfl,hx.out⟩
theorem zhl{S T:Nat→Prop}{A B:Option Addr}{n c m d:Nat}{ps:List Ava}{l:List Att}{w:World}(h:Row Elem.ava S w A n c ps)(k:Row Elem.att T w B m d l)(nm:ByteArray)(g:Nat)(hG:Gl w)(hx:∀x∈ps,x.type.length≤17∧(zat x.type).2≠4∧(zat x.type).2≠5)(hv:∀a∈l,a.vals.length≤8796093022208)
 (h0:w.cell? ⟨g,0,none⟩=some (.string nm)) (h1:w.cell? ⟨g,1,none⟩=some (.slice B m d)) :
 Calls Tryz.prog 124 #[.slice A n c,.func (.func 126) #[] #[.pointer (some ⟨g,0,none⟩)]] w fun e w'=>
  e=.returned (.bool (ps.any (fun a=>!hasE a.type a.val (zbv a.type l))))∧Ext w w':=by
 have HI:=zj2 h k nm g hG hx hv h0 h1
 clear h k hG hx hv h0 h1
 generalize ps.any (fun a=>!hasE a.type a.val (zbv a.type l))=r at*
 go_enter Tryz.func124,Tryz.ntmps124
 go_wp2_with(go_at_call 155;(with_reducible refine HI.mono ?_);rintro e w1 ⟨r1,rfl,hr,hx1⟩;have HRR:=hid hr;have HX1:=hid hx1;clear hr hx1)
 go_ret
 exact⟨by rw[←HRR.out];rfl,HX1.out⟩
theorem zo7{S:Nat→Prop}{A:Option Addr}{n c:Nat}{l:List Att}{w:World}(h:Row Elem.att S w A n c l)(nm:ByteArray)(hG:Gl w)(hv:∀a∈l,a.vals.length≤8796093022208) :
 Calls Tryz.prog 79 #[.agg #[.string nm,.slice A n c]] w fun e w'=>e=.returned (.bool (zfm (bys nm) l))∧Ext w w':=by
 have HB0:=hid (Bx.make (Ext.refl w) #[.string nm,.slice A n c] 58)
 have HP:=zpl nm _ (hG.ext HB0.out.ext)
 have HOK:=hid (zqc (bys nm))
 have HD:Hid (zfm (bys nm) l = !(zf9 (bys nm)).any fun a=>!hasE a.type a.val (zbv a.type l)):=rfl
 generalize zfm (bys nm) l=r at*
 generalize zf9 (bys nm)=ps at*
 have HC:∀A1 n1 c1 w1,Row Elem.ava (fun b=>(w.alloc (.cells #[.string nm,.slice A n c] 58)).heap.size≤b) w1 A1 n1 c1 ps→Ext (w.alloc (.cells #[.string nm,.slice A n c] 58)) w1→Calls Tryz.prog 124 #[.slice A1 n1 c1,.func (.func 126) #[] #[.pointer (some ⟨w.heap.size,0,none⟩)]] w1 fun e w'=>
  e=.returned (.bool (ps.any (fun a=>!hasE a.type a.val (zbv a.type l))))∧Ext w1 w':=fun A1 n1 c1 w1 hr hx=>by
  have hb:=HB0.out.later hx
  exact zhl hr (h.ext hb.ext) nm w.heap.size (hG.ext hb.ext) HOK.out hv (hb.cell (i:=0) rfl) (hb.cell (i:=1) rfl)
 have hmf:∀(fn:Fn) (first cap:Array Value) (w:World),(Instr.makeFunc fn first cap).run Tryz.prog w=.ok (.func fn first cap) w:=fun _ _ _ _=>rfl
 clear h hG hv
 generalize ps.any (fun a=>!hasE a.type a.val (zbv a.type l))=q at*
 go_enter Tryz.func79,Tryz.ntmps79
 go_wp2_with (first
  |(go_at_call 125;(with_reducible refine HP.mono ?_);rintro e w1 ⟨A1,n1,c1,rfl,hr1,hx1⟩;have HX1:=hid hx1;have HC1:=HC A1 n1 c1 w1 hr1 hx1;clear hr1 hx1)
  | (go_at_call 124;(with_reducible refine HC1.mono ?_);rintro e w2 ⟨rfl,hx2⟩;have HX2:=hid hx2;clear hx2))
 go_ret
 exact⟨by rw[HD.out];rfl,HB0.out.ext.trans (HX1.out.trans HX2.out)⟩
end Go.Proofs.YtkjbokhnpphimaaGreatDoor
