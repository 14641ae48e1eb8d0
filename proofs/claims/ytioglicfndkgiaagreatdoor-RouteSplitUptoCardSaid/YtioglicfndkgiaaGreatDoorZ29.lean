/- Lemmas of the walk. -/
import Derived.Test.YtioglicfndkgiaaGreatDoorZ27
import Derived.Test.YtioglicfndkgiaaGreatDoorZ16
import Derived.Test.YtioglicfndkgiaaGreatDoorZ15
import Derived.Test.YtioglicfndkgiaaGreatDoorZ05
import Derived.Test.YtioglicfndkgiaaGreatDoorZ26
import Derived.Test.YtioglicfndkgiaaGreatDoorZ28
import Derived.Laws.Cover1
import Derived.Test.YtioglicfndkgiaaGreatDoorZ25
import Derived.BigQuiet
import Derived.Deep.QuietTactic
import Derived.Test.YtioglicfndkgiaaGreatDoorZ24
set_option maxHeartbeats 40000000
set_option linter.unusedVariables false
set_option linter.unusedSimpArgs false
namespace Go.Proofs.YtioglicfndkgiaaGreatDoor
open Go.RowKit
set_option maxRecDepth 100000
def zgJ (nm:List UInt8):List Ava:=match okL (zbc nm) with | []=>[] | p::_=>p
theorem zoY (nm:ByteArray) (w:World) (hG:Gl w):Calls Tryz.prog 94 #[.string nm] w fun e w'=>∃ A n c,e=.returned (.slice A n c)∧Row Elem.ava (fun b=>w.heap.size≤b) w' A n c (zgJ (bys nm))∧Ext w w':=by
 have HP:=zhJ nm w hG
 unfold zmy at HP
 have HD:Hid (zgJ (bys nm)=match okL (zbc (bys nm)) with | []=>[] | p::_=>p):=rfl
 generalize okL (zbc (bys nm))=l at *
 generalize zap (zbc (bys nm))=cd at *
 generalize zgJ (bys nm)=q at *
 clear hG
 cases l with
 | nil=>
  simp only at HD
  go_enter Tryz.func94,Tryz.ntmps94
  go_wp2_with (go_at_call 75;(with_reducible refine HP.mono ?_);rintro e w1 ⟨A1,n1,c1,rfl,hr1,hx1⟩;have HX1:=hid hx1;obtain rfl:n1=0:=hr1.len;clear hr1 hx1)
  go_ret
  exact ⟨none,0,0,rfl,by rw [HD.out];exact Row.nil _ _ _,HX1.out.trans (Ext.alloc _ _)⟩
 | cons p rest=>
  simp only at HD
  go_enter Tryz.func94,Tryz.ntmps94
  go_wp2_with (go_at_call 75;(with_reducible refine HP.mono ?_);rintro e w1 ⟨A1,n1,c1,rfl,hr1,hx1⟩;have HX1:=hid hx1;have hl1:n1=rest.length+1:=hr1.len;have tl1:((n1:Int)==0)=false:=(by rw [beq_eq_false_iff_ne];omega);have tl3:0<n1:=(by omega);obtain ⟨b1,o1,v1,x1,rfl,g1,-,⟨A2,n2,c2,rfl,hr2⟩,q1⟩:=hr1.at_ (i:=0) (by omega);obtain rfl:x1=p:=(by simpa using g1.symm);have e1:=q1 0 _ rfl;simp only [Elem.part,Elem.slc,Nat.zero_mul,Nat.add_zero] at e1;have e2:=zaa e1 _ (Ext.alloc w1 (.cells #[.slice (some ⟨b1,o1,none⟩) n1 c1] 120));have HR2:=hid hr2;clear hx1 hr1 hl1 g1 q1 hr2)
  go_ret
  exact ⟨A2,n2,c2,rfl,by rw [HD.out];exact HR2.out.ext (Ext.alloc _ _),HX1.out.trans (Ext.alloc _ _)⟩
def zfN (nm:List UInt8) (l:List Att):Bool:=!(zgJ nm).any fun a=>!hasE a.type a.val (za7 a.type l)
theorem zqK (nm:List UInt8):∀ a∈zgJ nm,a.type.length≤17∧(zar a.type).2≠4∧(zar a.type).2≠5:=by
 intro a ha
 unfold zgJ at ha
 cases hp:zbc nm with
 | error er=>rw [hp] at ha;simp [okL] at ha
 | ok l=>
  rw [hp] at ha
  cases l with
  | nil=>simp [okL] at ha
  | cons p rest=>
   simp only [okL] at ha
   have hf:=zek hp p (by simp)
   have h1:=zc4 hf a ha
   refine ⟨zev hf a ha,?_⟩
   unfold zbP at h1
   simp only [Bool.and_eq_true,Bool.or_eq_true,decide_eq_true_eq] at h1
   omega
theorem znC {S:Nat→Prop} {A:Option Addr} {n c:Nat} {l:List Att} {w:World} (h:Row Elem.att S w A n c l) (x:Ava) (nm:ByteArray) (g:Nat) (hG:Gl w) (hx:x.type.length≤17∧(zar x.type).2≠4∧(zar x.type).2≠5) (hv:∀ a∈l,a.vals.length≤8796093022208)
 (h0:w.cell? ⟨g,0,none⟩=some (.string nm)) (h1:w.cell? ⟨g,1,none⟩=some (.slice A n c)) :
 Calls Tryz.prog 95 #[avaV x,.pointer (some ⟨g,0,none⟩)] w fun e w'=>e=.returned (.bool (!hasE x.type x.val (za7 x.type l)))∧Ext w w':=by
 have HH:∀ w',Ext w w'→Calls Tryz.prog 26 #[.agg #[.string nm,.slice A n c],.string (str x.type),.string (str x.val)] w' fun e w''=>e=.returned (.bool (hasE x.type x.val (za7 x.type l)))∧Ext w' w'':=fun w' hxx=>by
  have:=zoO (h.ext hxx) (str x.type) nm (str x.val) (hG.ext hxx) (by rw [zaL];omega) (by rw [zao];exact hx.2.1) (by rw [zao];exact hx.2.2) hv
  rwa [zao,zao] at this
 have e0:=zaa h0 _ (Ext.alloc w (.cells #[.string (str x.type),.string (str x.val)] 151))
 have e1:=zaa h1 _ (Ext.alloc w (.cells #[.string (str x.type),.string (str x.val)] 151))
 clear h hG hx hv h0 h1
 generalize hasE x.type x.val (za7 x.type l)=r at *
 unfold avaV
 go_enter Tryz.func95,Tryz.ntmps95
 go_wp2_with (go_at_call 26;(with_reducible refine (HH _ (Ext.alloc _ _)).mono ?_);rintro e w1 ⟨rfl,hx1⟩;have HX1:=hid ((Ext.alloc _ _).trans hx1);clear hx1)
 go_ret
 exact ⟨by cases r <;> rfl,HX1.out⟩
theorem zli {S T:Nat→Prop} {A B:Option Addr} {n c m d:Nat} {ps:List Ava} {l:List Att} {w:World} (h:Row Elem.ava S w A n c ps) (k:Row Elem.att T w B m d l) (nm:ByteArray) (g:Nat) (hG:Gl w) (hx:∀ x∈ps,x.type.length≤17∧(zar x.type).2≠4∧(zar x.type).2≠5) (hv:∀ a∈l,a.vals.length≤8796093022208)
 (h0:w.cell? ⟨g,0,none⟩=some (.string nm)) (h1:w.cell? ⟨g,1,none⟩=some (.slice B m d)) :
 Calls Tryz.prog 118 #[.slice A n c,.func (.func 95) #[] #[.pointer (some ⟨g,0,none⟩)]] w fun e w'=>
  ∃ r:Int,e=.returned (.int .i64 r)∧decide (0≤r)=ps.any (fun a=>!hasE a.type a.val (za7 a.type l))∧Ext w w':=by
 have HR:=hid h
 have hl:=hid h.len
 have hnl:n≤9223372036854775807:=by have:=h.cap;have:=h.most;simp only [maxLen] at this;omega
 have HC:∀ x w',x∈ps→Ext w w'→Calls Tryz.prog 95 #[avaV x,.pointer (some ⟨g,0,none⟩)] w' fun e w''=>e=.returned (.bool (!hasE x.type x.val (za7 x.type l)))∧Ext w' w'':=fun x w' hxm hxx=>
  znC (k.ext hxx) x nm g (hG.ext hxx) (hx x hxm) hv (zaa h0 _ hxx) (zaa h1 _ hxx)
 clear h k hG hx hv h0 h1
 generalize hP:(fun a:Ava=>!hasE a.type a.val (za7 a.type l))=P at *
 have HC2:∀ x w',x∈ps→Ext w w'→Calls Tryz.prog 95 #[.agg #[.string (str x.type),.string (str x.val)],.pointer (some ⟨g,0,none⟩)] w' fun e w''=>e=.returned (.bool (P x))∧Ext w' w'':=fun x w' hxm hxx=>by rw [← hP];exact HC x w' hxm hxx
 clear hP HC
 go_enter Tryz.func118,Tryz.ntmps118
 go_wp2
 go_loopw [8] (fun i wr=>∃ j:Nat,j≤n∧i=.int .i64 j∧Hid ((ps.take j).any P=false)∧Hid (Ext w wr)) (fun i _=>n-(intOf i).toNat)
 case atStart=>exact ⟨0,by omega,rfl,by simp [Hid],Ext.refl w⟩
 case round=>
  obtain ⟨j,hj,rfl,Htk,hx⟩:=hrel
  by_cases hlt:j<n
  ·obtain ⟨b1,o1,x,rfl,hx1,e1,e2⟩:=zgM (HR.out.ext hx.out) hlt
   have Hg:=hid hx1
   have HCX:=HC2 x
   have HMX:=hid (List.mem_of_getElem? hx1)
   clear hx1 HC2
   obtain ⟨px,hpx⟩:∃ b,b=P x:=⟨_,rfl⟩
   rw [← hpx] at HCX
   have HPX:=hid hpx
   clear hpx
   cases px
   all_goals
    go_wp2_with (go_at_call 95;(with_reducible refine (HCX _ HMX.out hx.out).mono ?_);rintro e w1 ⟨rfl,hx1⟩;have HX1:=hid hx1;clear hx1)
    first
     | exact ⟨⟨j+1,by omega,by go_num,zdE Htk.out Hg.out HPX.out.symm,hx.out.trans HX1.out⟩,by simp [intOf];omega⟩
     | (go_ret;exact ⟨_,rfl,by rw [ziY Hg.out HPX.out.symm];exact decide_eq_true (by omega),hx.out.trans HX1.out⟩)
  ·obtain rfl:j=n:=by omega
   go_wp2
   go_ret
   have h9:=Htk.out
   rw [List.take_of_length_le (Nat.le_of_eq hl.out.symm)] at h9
   exact ⟨_,rfl,by rw [h9];rfl,hx.out⟩
theorem zhB {S T:Nat→Prop} {A B:Option Addr} {n c m d:Nat} {ps:List Ava} {l:List Att} {w:World} (h:Row Elem.ava S w A n c ps) (k:Row Elem.att T w B m d l) (nm:ByteArray) (g:Nat) (hG:Gl w) (hx:∀ x∈ps,x.type.length≤17∧(zar x.type).2≠4∧(zar x.type).2≠5) (hv:∀ a∈l,a.vals.length≤8796093022208)
 (h0:w.cell? ⟨g,0,none⟩=some (.string nm)) (h1:w.cell? ⟨g,1,none⟩=some (.slice B m d)) :
 Calls Tryz.prog 93 #[.slice A n c,.func (.func 95) #[] #[.pointer (some ⟨g,0,none⟩)]] w fun e w'=>
  e=.returned (.bool (ps.any (fun a=>!hasE a.type a.val (za7 a.type l))))∧Ext w w':=by
 have HI:=zli h k nm g hG hx hv h0 h1
 clear h k hG hx hv h0 h1
 generalize ps.any (fun a=>!hasE a.type a.val (za7 a.type l))=r at *
 go_enter Tryz.func93,Tryz.ntmps93
 go_wp2_with (go_at_call 118;(with_reducible refine HI.mono ?_);rintro e w1 ⟨r1,rfl,hr,hx1⟩;have HRR:=hid hr;have HX1:=hid hx1;clear hr hx1)
 go_ret
 exact ⟨by rw [← HRR.out];rfl,HX1.out⟩
theorem zoE {S:Nat→Prop} {A:Option Addr} {n c:Nat} {l:List Att} {w:World} (h:Row Elem.att S w A n c l) (nm:ByteArray) (hG:Gl w) (hv:∀ a∈l,a.vals.length≤8796093022208) :
 Calls Tryz.prog 64 #[.agg #[.string nm,.slice A n c]] w fun e w'=>e=.returned (.bool (zfN (bys nm) l))∧Ext w w':=by
 have HB0:=hid (Bx.make (Ext.refl w) #[.string nm,.slice A n c] 44)
 have HP:=zoY nm _ (hG.ext HB0.out.ext)
 have HOK:=hid (zqK (bys nm))
 have HD:Hid (zfN (bys nm) l = !(zgJ (bys nm)).any fun a=>!hasE a.type a.val (za7 a.type l)):=rfl
 generalize zfN (bys nm) l=r at *
 generalize zgJ (bys nm)=ps at *
 have HC:∀ A1 n1 c1 w1,Row Elem.ava (fun b=>(w.alloc (.cells #[.string nm,.slice A n c] 44)).heap.size≤b) w1 A1 n1 c1 ps→Ext (w.alloc (.cells #[.string nm,.slice A n c] 44)) w1→Calls Tryz.prog 93 #[.slice A1 n1 c1,.func (.func 95) #[] #[.pointer (some ⟨w.heap.size,0,none⟩)]] w1 fun e w'=>
  e=.returned (.bool (ps.any (fun a=>!hasE a.type a.val (za7 a.type l))))∧Ext w1 w':=fun A1 n1 c1 w1 hr hx=>by
  have hb:=HB0.out.later hx
  exact zhB hr (h.ext hb.ext) nm w.heap.size (hG.ext hb.ext) HOK.out hv (hb.cell (i:=0) rfl) (hb.cell (i:=1) rfl)
 have hmf:∀ (fn:Fn) (first cap:Array Value) (w:World),(Instr.makeFunc fn first cap).run Tryz.prog w=.ok (.func fn first cap) w:=fun _ _ _ _=>rfl
 clear h hG hv
 generalize ps.any (fun a=>!hasE a.type a.val (za7 a.type l))=q at *
 go_enter Tryz.func64,Tryz.ntmps64
 go_wp2_with (first
  | (go_at_call 94;(with_reducible refine HP.mono ?_);rintro e w1 ⟨A1,n1,c1,rfl,hr1,hx1⟩;have HX1:=hid hx1;have HC1:=HC A1 n1 c1 w1 hr1 hx1;clear hr1 hx1)
  | (go_at_call 93;(with_reducible refine HC1.mono ?_);rintro e w2 ⟨rfl,hx2⟩;have HX2:=hid hx2;clear hx2))
 go_ret
 exact ⟨by rw [HD.out];rfl,HB0.out.ext.trans (HX1.out.trans HX2.out)⟩
def attP (last:List UInt8) (a:Att):Bool:=
 decide ((zar (bys a.type)).1=bys a.type) && ltB last (bys a.type) && decide (1≤a.vals.length) && decide (a.vals.length≤20) && !badV (bys a.type) a.vals && !zgF (bys a.type) a.vals
def zcn (last:List UInt8):List Att→Bool
 | []=>true
 | a::t=>attP last a && zcn (bys a.type) t
def zbD (s:List UInt8):Bool:=decide (zap (zac s)=0) && decide (zaG s=s) && !decide (s=[])
def objB:List UInt8:=[111,98,106,101,99,116,67,108,97,115,115]
def zrB (nm:List UInt8) (l:List Att):Bool:=zbD nm && decide (l.length≤14) && zcn [] l
def zdV (nm:List UInt8) (l:List Att):Bool:=zrB nm l && decide (0<(za7 objB l).length) && zfN nm l
theorem zr7 {a b:ByteArray} (h:ltB (bys b) (bys a)=true):Op.bytesLess a.toList b.toList=false∧(a.toList==b.toList)=false:=by
 rw [ByteArray.toList_eq,ByteArray.toList_eq]
 exact zrK h
theorem zqn {a b:ByteArray} (h:ltB (bys b) (bys a)=false):Op.bytesLess a.toList b.toList=true∨(Op.bytesLess a.toList b.toList=false∧(a.toList==b.toList)=true):=by
 rw [ByteArray.toList_eq,ByteArray.toList_eq]
 exact zoX h
theorem znO {S:Nat→Prop} {A:Option Addr} {n c:Nat} {l:List Att} {w:World} (h:Row Elem.att S w A n c l) (nm:ByteArray) (hG:Gu w) (ht:∀ a∈l,a.type.size≤4000000) (hv:∀ a∈l,a.vals.length≤8796093022208) :
 Calls Tryz.prog 37 #[.agg #[.string nm,.slice A n c]] w fun e w'=>e=.returned (.bool (zdV (bys nm) l))∧Ext w w':=by
 have HG:=hid hG
 have HR:=hid h
 have hl:=hid h.len
 have HTS:=hid ht
 have HVS:=hid hv
 have hnl:n≤9223372036854775807:=by have:=h.cap;have:=h.most;simp only [maxLen] at this;omega
 have HB0:=hid (Bx.make (Ext.refl w) #[.string nm,.slice A n c] 44)
 have HNM:∀ w,Gl w→Calls Tryz.prog 25 #[.string nm] w (zaM w (bys nm)):=fun w hG=>zbx nm w hG
 unfold zaM at HNM
 have HD:Hid (zdV (bys nm) l=((decide (zap (zac (bys nm))=0) && decide (zaG (bys nm)=bys nm) && !decide (bys nm=[]) && decide (l.length≤14) && zcn [] l) && decide (0<(za7 objB l).length) && zfN (bys nm) l)):=rfl
 obtain ⟨F,hF⟩:∃ F,F=zdV (bys nm) l:=⟨_,rfl⟩
 rw [← hF] at HD ⊢
 clear hF
 obtain ⟨ns,hns⟩:∃ ns,ns=zaG (bys nm):=⟨_,rfl⟩
 obtain ⟨ms,hms⟩:∃ ms,ms=str ns:=⟨_,rfl⟩
 rw [← hns,← hms] at HNM
 rw [← hns] at HD
 have HMS:=hid hms
 clear hG h ht hv hns hms
 generalize zap (zac (bys nm))=cd at *
 by_cases hc:cd=0
 ·have t1:(cd != 0)=false:=by rw [hc];rfl
  by_cases hn:ms=nm
  ·have hnb:ns=bys nm:=by rw [← hn,HMS.out,zao]
   rw [decide_eq_true hc,decide_eq_true hnb] at HD
   subst hn
   by_cases hz:ms.size=0
   ·have HE:Hid (F=false):=by show _=_;rw [HD.out,show bys ms=[] from by rw [zbt hz];rfl];simp
    have e1:=zcf hz
    clear hz HD hnb hc HMS
    go_enter Tryz.func37,Tryz.ntmps37
    go_wp2_with (go_at_call 25;(with_reducible refine (HNM _ (HG.out.gl.ext HB0.out.ext)).mono ?_);rintro e w1 ⟨rfl,hx1⟩;have HB1:=hid (HB0.out.later hx1);have c0:=HB1.out.cell (i:=0) rfl;have c1:=HB1.out.cell (i:=1) rfl;clear hx1)
    clear c0 c1
    go_ret
    exact ⟨by rw [HE.out];rfl,HB1.out.ext⟩
   ·have e1:=zdn hz
    have hne:bys ms≠[]:=by intro h;exact hz (by rw [← zaf,h];rfl)
    rw [decide_eq_false hne] at HD
    by_cases h14:14<n
    ·have HE:Hid (F=false):=by show _=_;rw [HD.out,decide_eq_false (show ¬ l.length≤14 by have:=hl.out;omega)];simp
     have e2:14<(n:Int):=by omega
     clear hz HD hnb hc HMS hne h14
     go_enter Tryz.func37,Tryz.ntmps37
     go_wp2_with (go_at_call 25;(with_reducible refine (HNM _ (HG.out.gl.ext HB0.out.ext)).mono ?_);rintro e w1 ⟨rfl,hx1⟩;have HB1:=hid (HB0.out.later hx1);have c0:=HB1.out.cell (i:=0) rfl;have c1:=HB1.out.cell (i:=1) rfl;clear hx1)
     clear c0 c1
     go_ret
     exact ⟨by rw [HE.out];rfl,HB1.out.ext⟩
    ·have e2:decide (14<(n:Int))=false:=by rw [decide_eq_false_iff_not];omega
     rw [decide_eq_true (show l.length≤14 by have:=hl.out;omega)] at HD
     have HF:Hid (zcn [] l=false→F=false):=fun h=>by rw [HD.out,h];simp
     have HT:Hid (zcn [] l=true→F=(decide (0<(za7 objB l).length) && zfN (bys ms) l)):=fun h=>by rw [HD.out,h];simp
     have hn14:n≤14:=by omega
     clear hz HD hnb hc HMS hne h14
     go_enter Tryz.func37,Tryz.ntmps37
     go_wp2_with (go_at_call 25;(with_reducible refine (HNM _ (HG.out.gl.ext HB0.out.ext)).mono ?_);rintro e w1 ⟨rfl,hx1⟩;have HB1:=hid (HB0.out.later hx1);have c0:=HB1.out.cell (i:=0) rfl;have c1:=HB1.out.cell (i:=1) rfl;clear hx1)
     clear c0 c1 e1 e2 HNM
     go_loopw [5,37] (fun u i wr=>∃ (j:Nat) (la:ByteArray),j≤n∧i=.int .i64 j∧u=.string la∧Hid (zcn (bys la) (l.drop j)=zcn [] l)∧Hid (Bx w wr w.heap.size 44 #[.string ms,.slice A n c])) (fun _ i _=>n-(intOf i).toNat)
     case atStart=>exact ⟨0,⟨#[]⟩,by omega,rfl,rfl,rfl,HB1.out⟩
     case round=>
      obtain ⟨j,la,hj,rfl,rfl,HO,HB⟩:=hrel
      by_cases hlt:j<n
      ·obtain ⟨b1,o1,v1,x1,rfl,g1,-,⟨A1,n1,c1,rfl,r1⟩,q1⟩:=(HR.out.ext HB.out.ext).at_ hlt
       have e10:=q1 0 _ rfl
       have e11:=q1 1 _ rfl
       simp only [Elem.att,Nat.add_zero] at e10 e11
       have R1:=hid r1
       clear q1 r1
       have hd:Hid (l.drop j=x1::l.drop (j+1)):=by
        show _=_
        obtain ⟨h1,h2⟩:=List.getElem?_eq_some_iff.1 g1
        rw [List.drop_eq_getElem_cons h1,h2]
       have HT1:=hid (HTS.out x1 (List.mem_of_getElem? g1))
       clear g1
       have HBA:=hid (Bx.make (Ext.refl wr) #[.string x1.type,.slice A1 n1 c1] 57)
       have HTY:∀ w,Calls Tryz.prog 61 #[.string x1.type] w (zaT w (bys x1.type)):=fun w=>zdg x1.type w (by have:=HT1.out;simp only [maxLen];omega)
       unfold zaT at HTY
       have HAP:Hid (attP (bys la) x1=(decide ((zar (bys x1.type)).1=bys x1.type) && ltB (bys la) (bys x1.type) && decide (1≤x1.vals.length) && decide (x1.vals.length≤20) && !badV (bys x1.type) x1.vals && !zgF (bys x1.type) x1.vals)):=rfl
       have HST:Hid (zcn (bys la) (x1::l.drop (j+1))=(attP (bys la) x1 && zcn (bys x1.type) (l.drop (j+1)))):=rfl
       rw [← hd.out,HO.out] at HST
       clear hd HO
       generalize zar (bys x1.type)=tk at *
       obtain ⟨t,k⟩:=tk
       simp only at HTY HAP
       obtain ⟨ts,hts⟩:∃ ts,str t=ts:=⟨_,rfl⟩
       rw [hts] at HTY
       have HTT:Hid (t=bys ts):=by show _=_;rw [← hts,zao]
       clear hts
       rw [HTT.out] at HAP
       clear HTT
       by_cases hty:ts=x1.type
       ·subst hty
        have s1:=zes (rfl:x1.type=x1.type)
        rw [decide_eq_true (rfl:bys x1.type=bys x1.type),Bool.true_and] at HAP
        have HWR:∀ w',Ext wr w'→Calls Tryz.prog 62 #[.string x1.type,.slice A1 n1 c1] w' fun e w''=>e=.returned (.bool (badV (bys x1.type) x1.vals))∧Ext w' w'':=fun w' hx=>zpn (R1.out.ext hx) x1.type (HG.out.ext (HB.out.ext.trans hx)) HT1.out
        have HTW:∀ w',Ext wr w'→Calls Tryz.prog 63 #[.string x1.type,.slice A1 n1 c1] w' fun e w''=>e=.returned (.bool (zgF (bys x1.type) x1.vals))∧Ext w' w'':=fun w' hx=>zo2 (R1.out.ext hx) x1.type (HG.out.ext (HB.out.ext.trans hx)) HT1.out
        have hvl:=R1.out.len
        rw [← hvl] at HAP
        generalize badV (bys x1.type) x1.vals=bv1 at *
        generalize zgF (bys x1.type) x1.vals=tv1 at *
        cases hlb:ltB (bys la) (bys x1.type) with
        | false=>
         have HFF:Hid (F=false):=HF.out (by rw [HST.out,HAP.out,hlb];simp)
         rcases zqn hlb with s2 | ⟨s2,s3⟩
         ·clear hlb hvl
          go_wp2_with (go_at_call 61;(with_reducible refine (HTY _).mono ?_);rintro e w2 ⟨rfl,hx2⟩;have HA2:=hid (HBA.out.later hx2);have p0:=HA2.out.cell (i:=0) rfl;have p1:=HA2.out.cell (i:=1) rfl;clear hx2)
          go_ret
          exact ⟨by rw [HFF.out];rfl,HB.out.ext.trans HA2.out.ext⟩
         ·clear hlb hvl
          go_wp2_with (go_at_call 61;(with_reducible refine (HTY _).mono ?_);rintro e w2 ⟨rfl,hx2⟩;have HA2:=hid (HBA.out.later hx2);have p0:=HA2.out.cell (i:=0) rfl;have p1:=HA2.out.cell (i:=1) rfl;clear hx2)
          go_ret
          exact ⟨by rw [HFF.out];rfl,HB.out.ext.trans HA2.out.ext⟩
        | true=>
         obtain ⟨s2,s3⟩:=zr7 hlb
         rw [hlb,Bool.true_and] at HAP
         clear hlb
         by_cases h0:n1=0
         ·have HFF:Hid (F=false):=HF.out (by rw [HST.out,HAP.out,h0];simp)
          subst h0
          clear hvl
          go_wp2_with (go_at_call 61;(with_reducible refine (HTY _).mono ?_);rintro e w2 ⟨rfl,hx2⟩;have HA2:=hid (HBA.out.later hx2);have p0:=HA2.out.cell (i:=0) rfl;have p1:=HA2.out.cell (i:=1) rfl;clear hx2)
          go_ret
          exact ⟨by rw [HFF.out];rfl,HB.out.ext.trans HA2.out.ext⟩
         ·have s4:((n1:Int)==0)=false:=by rw [beq_eq_false_iff_ne];omega
          rw [decide_eq_true (show 1≤n1 by omega),Bool.true_and] at HAP
          by_cases h20:20<n1
          ·have HFF:Hid (F=false):=HF.out (by rw [HST.out,HAP.out,decide_eq_false (show ¬ n1≤20 by omega)];simp)
           have s5:20<(n1:Int):=by omega
           clear hvl h0 h20
           go_wp2_with (go_at_call 61;(with_reducible refine (HTY _).mono ?_);rintro e w2 ⟨rfl,hx2⟩;have HA2:=hid (HBA.out.later hx2);have p0:=HA2.out.cell (i:=0) rfl;have p1:=HA2.out.cell (i:=1) rfl;clear hx2)
           go_ret
           exact ⟨by rw [HFF.out];rfl,HB.out.ext.trans HA2.out.ext⟩
          ·have s5:decide (20<(n1:Int))=false:=by rw [decide_eq_false_iff_not];omega
           rw [decide_eq_true (show n1≤20 by omega),Bool.true_and] at HAP
           clear hvl h0 h20
           cases bv1 with
           | true=>
            have HFF:Hid (F=false):=HF.out (by rw [HST.out,HAP.out];simp)
            go_wp2_with (first | (go_at_call 61;(with_reducible refine (HTY _).mono ?_);rintro e w2 ⟨rfl,hx2⟩;have HA2:=hid (HBA.out.later hx2);have p0:=HA2.out.cell (i:=0) rfl;have p1:=HA2.out.cell (i:=1) rfl;clear hx2) | (go_at_call 62;(with_reducible refine (HWR _ HA2.out.ext).mono ?_);rintro e w3 ⟨rfl,hx3⟩;have HA3:=hid (HA2.out.later hx3);clear p0 p1;have p0:=HA3.out.cell (i:=0) rfl;have p1:=HA3.out.cell (i:=1) rfl;clear hx3))
            go_ret
            exact ⟨by rw [HFF.out];rfl,HB.out.ext.trans HA3.out.ext⟩
           | false=>
            cases tv1 with
            | true=>
             have HFF:Hid (F=false):=HF.out (by rw [HST.out,HAP.out];simp)
             go_wp2_with (first | (go_at_call 61;(with_reducible refine (HTY _).mono ?_);rintro e w2 ⟨rfl,hx2⟩;have HA2:=hid (HBA.out.later hx2);have p0:=HA2.out.cell (i:=0) rfl;have p1:=HA2.out.cell (i:=1) rfl;clear hx2) | (go_at_call 62;(with_reducible refine (HWR _ HA2.out.ext).mono ?_);rintro e w3 ⟨rfl,hx3⟩;have HA3:=hid (HA2.out.later hx3);clear p0 p1;have p0:=HA3.out.cell (i:=0) rfl;have p1:=HA3.out.cell (i:=1) rfl;clear hx3) | (go_at_call 63;(with_reducible refine (HTW _ HA3.out.ext).mono ?_);rintro e w4 ⟨rfl,hx4⟩;have HA4:=hid (HA3.out.later hx4);clear hx4))
             go_ret
             exact ⟨by rw [HFF.out];rfl,HB.out.ext.trans HA4.out.ext⟩
            | false=>
             have HNX:Hid (zcn (bys x1.type) (l.drop (j+1))=zcn [] l):=by show _=_;rw [HST.out,HAP.out];simp
             go_wp2_with (first | (go_at_call 61;(with_reducible refine (HTY _).mono ?_);rintro e w2 ⟨rfl,hx2⟩;have HA2:=hid (HBA.out.later hx2);have p0:=HA2.out.cell (i:=0) rfl;have p1:=HA2.out.cell (i:=1) rfl;clear hx2) | (go_at_call 62;(with_reducible refine (HWR _ HA2.out.ext).mono ?_);rintro e w3 ⟨rfl,hx3⟩;have HA3:=hid (HA2.out.later hx3);clear p0 p1;have p0:=HA3.out.cell (i:=0) rfl;have p1:=HA3.out.cell (i:=1) rfl;clear hx3) | (go_at_call 63;(with_reducible refine (HTW _ HA3.out.ext).mono ?_);rintro e w4 ⟨rfl,hx4⟩;have HA4:=hid (HA3.out.later hx4);clear hx4))
             exact ⟨⟨j+1,x1.type,by omega,by go_num,rfl,HNX.out,HB.out.later HA4.out.ext⟩,by simp [intOf];omega⟩
       ·have s1:=zd9 hty
        have HFF:Hid (F=false):=HF.out (by rw [HST.out,HAP.out,decide_eq_false (show ¬ bys ts=bys x1.type from fun e=>hty (by rw [← zaN ts,e]))];simp)
        clear hty
        go_wp2_with (go_at_call 61;(with_reducible refine (HTY _).mono ?_);rintro e w2 ⟨rfl,hx2⟩;have HA2:=hid (HBA.out.later hx2);have p0:=HA2.out.cell (i:=0) rfl;have p1:=HA2.out.cell (i:=1) rfl;clear hx2)
        go_ret
        exact ⟨by rw [HFF.out];rfl,HB.out.ext.trans HA2.out.ext⟩
      ·obtain rfl:j=n:=by omega
       have hd:l.drop j=[]:=by rw [hl.out];exact List.drop_eq_nil_of_le (Nat.le_refl _)
       have HTT:Hid (F=(decide (0<(za7 objB l).length) && zfN (bys ms) l)):=HT.out (by have:=HO.out;rw [hd] at this;exact this.symm)
       have c0:=HB.out.cell (i:=0) rfl
       have c1:=HB.out.cell (i:=1) rfl
       have HVL:Calls Tryz.prog 53 #[.agg #[.string ms,.slice A j c],.string ⟨#[111,98,106,101,99,116,67,108,97,115,115]⟩] wr (zcI wr objB l):=zeP (HR.out.ext HB.out.ext) ⟨#[111,98,106,101,99,116,67,108,97,115,115]⟩ ms (by decide) HVS.out
       have HND:∀ w',Ext wr w'→Calls Tryz.prog 64 #[.agg #[.string ms,.slice A j c]] w' fun e w''=>e=.returned (.bool (zfN (bys ms) l))∧Ext w' w'':=fun w' hx=>zoE (HR.out.ext (HB.out.ext.trans hx)) ms (HG.out.gl.ext (HB.out.ext.trans hx)) HVS.out
       unfold zcI at HVL
       clear hd HO HF HT
       generalize zfN (bys ms) l=nd at *
       obtain ⟨vl,hvl⟩:∃ vl,vl=(za7 objB l).length:=⟨_,rfl⟩
       rw [← hvl] at HTT
       have HVN:Hid (∀ (m:Nat),m=(za7 objB l).length→m=vl):=fun m h=>by rw [h,hvl]
       clear hvl
       by_cases h0:0<vl
       ·rw [decide_eq_true h0] at HTT
        go_wp2_with (first
         | (go_at_call 53;(with_reducible refine HVL.mono ?_);rintro e w2 ⟨A2,n2,c2,rfl,hr2,hx2⟩;have HX2:=hid hx2;have y1:0<(n2:Int):=(by have:=HVN.out n2 hr2.len;omega);have c0:=(HB.out.later hx2).cell (i:=0) rfl;have c1:=(HB.out.later hx2).cell (i:=1) rfl;clear hr2 hx2)
         | (go_at_call 64;(with_reducible refine (HND _ HX2.out).mono ?_);rintro e w3 ⟨rfl,hx3⟩;have HX3:=hid (HX2.out.trans hx3);clear hx3))
        go_ret
        exact ⟨by rw [HTT.out];rfl,HB.out.ext.trans HX3.out⟩
       ·rw [decide_eq_false h0] at HTT
        go_wp2_with (first
         | (go_at_call 53;(with_reducible refine HVL.mono ?_);rintro e w2 ⟨A2,n2,c2,rfl,hr2,hx2⟩;have HX2:=hid hx2;obtain rfl:n2=0:=(by have:=HVN.out n2 hr2.len;omega);have c0:=(HB.out.later hx2).cell (i:=0) rfl;have c1:=(HB.out.later hx2).cell (i:=1) rfl;clear hr2 hx2))
        go_ret
        exact ⟨by rw [HTT.out];rfl,HB.out.ext.trans HX2.out⟩
  ·have e0:=zd9 hn
   have HE:Hid (F=false):=by show _=_;rw [HD.out,decide_eq_false (show ¬ ns=bys nm from fun e=>hn (by rw [HMS.out,e]))];simp
   clear HD hn HMS hc
   go_enter Tryz.func37,Tryz.ntmps37
   go_wp2_with (go_at_call 25;(with_reducible refine (HNM _ (HG.out.gl.ext HB0.out.ext)).mono ?_);rintro e w1 ⟨rfl,hx1⟩;have HB1:=hid (HB0.out.later hx1);have c0:=HB1.out.cell (i:=0) rfl;have c1:=HB1.out.cell (i:=1) rfl;clear hx1)
   clear c0 c1
   go_ret
   exact ⟨by rw [HE.out];rfl,HB1.out.ext⟩
 ·have t1:(cd != 0)=true:=by rw [bne_iff_ne];exact hc
  have HE:Hid (F=false):=by show _=_;rw [HD.out,decide_eq_false hc];simp
  clear HD hc HMS
  go_enter Tryz.func37,Tryz.ntmps37
  go_wp2_with (go_at_call 25;(with_reducible refine (HNM _ (HG.out.gl.ext HB0.out.ext)).mono ?_);rintro e w1 ⟨rfl,hx1⟩;have HB1:=hid (HB0.out.later hx1);have c0:=HB1.out.cell (i:=0) rfl;have c1:=HB1.out.cell (i:=1) rfl;clear hx1)
  clear c0 c1
  go_ret
  exact ⟨by rw [HE.out];rfl,HB1.out.ext⟩
theorem geqB {a b:ByteArray} {r:Bool} (h:ltB (bys a) (bys b)=r):Op.bytesLess a.toList b.toList=r:=by
 rw [ByteArray.toList_eq,ByteArray.toList_eq,zgk]
 exact h
theorem zrH {n:List UInt8} (h4:(zar n).2≠4) (h5:(zar n).2≠5) (v:List UInt8):valZ n v=zbW n v:=by
 unfold valZ zbN
 rw [if_pos h5,if_neg h4]
theorem zsJ {n:List UInt8} (h4:(zar n).2≠4) (h5:(zar n).2≠5) (v:List UInt8) (l:List ByteArray):hasZ n v l=hasE n v l:=by
 unfold hasZ hasE zfj zgq
 rw [zrH h4 h5 v]
 congr 2
 funext x
 rw [zrH h4 h5 (bys x)]
theorem za2 {s:List UInt8} (h:zbD s=true):zap (zac s)=0∧zaG s=s∧s≠[]:=by
 unfold zbD at h
 simp only [Bool.and_eq_true,decide_eq_true_eq,Bool.not_eq_true',decide_eq_false_iff_not] at h
 exact ⟨h.1.1,h.1.2,h.2⟩
def zh4:List UInt8:=[97,108,105,97,115,101,100,79,98,106,101,99,116,78,97,109,101]
def aliB:List UInt8:=[97,108,105,97,115]
def zdi (l:List Att):List UInt8 × Bool:=
 match za7 zh4 l with
 | []=>([],false)
 | v::_=>if hasZ objB aliB (za7 objB l) then ((valZ zh4 (bys v)).1,(valZ zh4 (bys v)).2==0) else ([],false)
def zdK (w:World) (l:List Att) (e:Ending) (w':World):Prop:=e=.returned (.tuple #[.string (str (zdi l).1),.bool (zdi l).2])∧Ext w w'
theorem zle {S:Nat→Prop} {A:Option Addr} {n c:Nat} {l:List Att} {w:World} (h:Row Elem.att S w A n c l) (nm:ByteArray) (hG:Gu w) (hv:∀ a∈l,a.vals.length≤8796093022208) :
 Calls Tryz.prog 41 #[.agg #[.string nm,.slice A n c]] w (zdK w l):=by
 have HG:=hid hG
 have HB:=hid (Bx.make (Ext.refl w) #[.string nm,.slice A n c] 44)
 have HVL:∀ w',Ext w w'→Calls Tryz.prog 53 #[.agg #[.string nm,.slice A n c],.string ⟨#[97,108,105,97,115,101,100,79,98,106,101,99,116,78,97,109,101]⟩] w' (zcI w' zh4 l):=fun w' hx=>zeP (h.ext hx) ⟨#[97,108,105,97,115,101,100,79,98,106,101,99,116,78,97,109,101]⟩ nm (by decide) hv
 have HH:∀ w',Ext w w'→Calls Tryz.prog 26 #[.agg #[.string nm,.slice A n c],.string ⟨#[111,98,106,101,99,116,67,108,97,115,115]⟩,.string ⟨#[97,108,105,97,115]⟩] w' fun e w''=>e=.returned (.bool (hasZ objB aliB (za7 objB l)))∧Ext w' w'':=fun w' hx=>zoy (h.ext hx) ⟨#[111,98,106,101,99,116,67,108,97,115,115]⟩ nm ⟨#[97,108,105,97,115]⟩ (hG.ext hx) (by decide) hv
 have HV:∀ (x:ByteArray) w',Gu w'→Calls Tryz.prog 67 #[.string ⟨#[97,108,105,97,115,101,100,79,98,106,101,99,116,78,97,109,101]⟩,.string x] w' (zbM w' zh4 (bys x)):=fun x w' hG=>zdc ⟨#[97,108,105,97,115,101,100,79,98,106,101,99,116,78,97,109,101]⟩ x w' hG (by decide)
 have HD:Hid (zdi l=match za7 zh4 l with | []=>([],false) | v::_=>if hasZ objB aliB (za7 objB l) then ((valZ zh4 (bys v)).1,(valZ zh4 (bys v)).2==0) else ([],false)):=rfl
 have HCD:Hid (zdK w l=fun e w'=>e=.returned (.tuple #[.string (str (zdi l).1),.bool (zdi l).2])∧Ext w w'):=rfl
 unfold zcI at HVL
 unfold zbM at HV
 clear h hG hv
 generalize zdi l=r at *
 obtain ⟨hb,hhb⟩:∃ hb,hb=hasZ objB aliB (za7 objB l):=⟨_,rfl⟩
 rw [← hhb] at HH HD
 clear hhb
 cases hq:za7 zh4 l with
 | nil=>
  have HQ:=hid hq
  have HE:Hid (r=([],false)):=by show _=_;rw [HD.out,hq]
  clear hq HD
  cases hb
  all_goals
   go_enter Tryz.func41,Tryz.ntmps41
   go_wp2_with (first
    | (go_at_call 53;(with_reducible refine (HVL _ HB.out.ext).mono ?_);rintro e w1 ⟨A1,n1,c1,rfl,hr1,hx1⟩;obtain rfl:n1=0:=(by have:=hr1.len;rw [HQ.out] at this;simpa using this);have HB1:=hid (HB.out.later hx1);have c0:=HB1.out.cell (i:=0) rfl;have cc1:=HB1.out.cell (i:=1) rfl;clear hr1 hx1)
    | (go_at_call 26;(with_reducible refine (HH _ HB1.out.ext).mono ?_);rintro e w2 ⟨rfl,hx2⟩;have HB2:=hid (HB1.out.later hx2);clear hx2))
   go_ret2
   rw [HCD.out,HE.out]
   exact ⟨rfl,HB1.out.ext⟩
 | cons x q=>
  have HQ:=hid hq
  rw [hq] at HD
  simp only at HD
  clear hq
  have HV1:=HV x
  obtain ⟨vz,hvz⟩:∃ vz,vz=valZ zh4 (bys x):=⟨_,rfl⟩
  rw [← hvz] at HV1 HD
  clear HV hvz
  obtain ⟨z1,z2⟩:=vz
  simp only at HV1 HD
  cases hb
  ·have HE:Hid (r=([],false)):=by show _=_;rw [HD.out];rfl
   clear HD
   go_enter Tryz.func41,Tryz.ntmps41
   go_wp2_with (first
    | (go_at_call 53;(with_reducible refine (HVL _ HB.out.ext).mono ?_);rintro e w1 ⟨A1,n1,c1,rfl,hr1,hx1⟩;have hl1:n1=q.length+1:=(by have:=hr1.len;rw [HQ.out] at this;simpa using this);have tl1:((n1:Int)==0)=false:=(by rw [beq_eq_false_iff_ne];omega);have tl3:0<n1:=(by omega);have tl4:(0:Int)<(n1:Int):=(by omega);have HR1:=hid hr1;clear hl1;have HB1:=hid (HB.out.later hx1);have c0:=HB1.out.cell (i:=0) rfl;have cc1:=HB1.out.cell (i:=1) rfl;clear hr1 hx1)
    | (go_at_call 26;(with_reducible refine (HH _ HB1.out.ext).mono ?_);rintro e w2 ⟨rfl,hx2⟩;have HB2:=hid (HB1.out.later hx2);clear hx2))
   go_ret2
   rw [HCD.out,HE.out]
   exact ⟨rfl,HB2.out.ext⟩
  ·have HE:Hid (r=(z1,z2==0)):=by show _=_;rw [HD.out];rfl
   clear HD
   go_enter Tryz.func41,Tryz.ntmps41
   go_wp2_with (first
    | (go_at_call 53;(with_reducible refine (HVL _ HB.out.ext).mono ?_);rintro e w1 ⟨A1,n1,c1,rfl,hr1,hx1⟩;have hl1:n1=q.length+1:=(by have:=hr1.len;rw [HQ.out] at this;simpa using this);have tl1:((n1:Int)==0)=false:=(by rw [beq_eq_false_iff_ne];omega);have tl3:0<n1:=(by omega);have tl4:(0:Int)<(n1:Int):=(by omega);have HR1:=hid hr1;clear hl1;have HB1:=hid (HB.out.later hx1);have c0:=HB1.out.cell (i:=0) rfl;have cc1:=HB1.out.cell (i:=1) rfl;clear hr1 hx1)
    | (go_at_call 26;(with_reducible refine (HH _ HB1.out.ext).mono ?_);rintro e w2 ⟨rfl,hx2⟩;have HB2:=hid (HB1.out.later hx2);have HX2:=hid hx2;obtain ⟨b1,o1,rfl,k1⟩:=(HR1.out.ext HX2.out).str_cell tl3;have e1:=k1 0 (by omega);simp only [HQ.out,List.getElem?_cons_zero,Option.getD_some,Nat.add_zero] at e1;clear k1;clear hx2)
    | (go_at_call 67;(with_reducible refine (HV1 _ (HG.out.ext HB2.out.ext)).mono ?_);rintro e w3 ⟨rfl,hx3⟩;have HX3:=hid (HB2.out.ext.trans hx3);clear hx3))
   go_ret2
   rw [HCD.out,HE.out]
   exact ⟨rfl,HX3.out⟩
end Go.Proofs.YtioglicfndkgiaaGreatDoor
namespace Go.Proofs.YtioglicfndkgiaaGreatDoor
open Go.RowKit
set_option maxRecDepth 100000
theorem zk9 {k:Nat}:∀ {vss:List (List Value)} {j r:Nat} {v:List Value} (u:Value),(∀ v∈vss,v.length=k)→vss[j]?=some v→r<k→vss.flatten.set (j * k+r) u=(vss.set j (v.set r u)).flatten
 | [],j,r,v,u,_,h,_=>by simp at h
 | a::l,0,r,v,u,hl,h,hr=>by
  simp at h
  subst h
  rw [Nat.zero_mul,Nat.zero_add,List.flatten_cons,List.set_cons_zero,List.flatten_cons,List.set_append_left _ _ (by rw [hl a (by simp)];exact hr)]
 | a::l,j+1,r,v,u,hl,h,hr=>by
  have ih:=zk9 (vss:=l) (j:=j) (r:=r) (v:=v) u (fun v hv=>hl v (by simp [hv])) (by simpa using h) hr
  have ha:=hl a (by simp)
  rw [List.flatten_cons,List.set_cons_succ,List.flatten_cons,← ih,List.set_append_right _ _ (by rw [ha,Nat.succ_mul];omega),ha]
  congr 2
  rw [Nat.succ_mul];omega
section
variable {S:Nat→Prop} {T:TypeId} {w wr w':World} {v:Value} {l:List Att} {g n cap:Nat}
theorem GrowM.form {α:Type} {E:Elem α} {L:Option Nat} {l:List α} (h:GrowM E S T L w wr v l) (hl:0<l.length):∃ g cap,v=.slice (some ⟨g,0,none⟩) l.length cap:=by
 obtain ⟨⟨vss,h1,h2,h3⟩,h4,h5⟩:=h
 rcases h2.2 with ⟨h',h0⟩ | ⟨g,cap,cur,h',hb,hg,hnc,hcm,hcs,htake⟩
 ·omega
 ·exact ⟨g,cap,h'⟩
theorem GrowM.att_at (h:GrowM Elem.att S T none w wr (.slice (some ⟨g,0,none⟩) l.length cap) l) {j:Nat} {x:Att} (hj:l[j]?=some x) :
 ∃ A1 n1 c1,wr.cell? ⟨g,j * 2,none⟩=some (.string x.type)∧wr.cell? ⟨g,j * 2+1,none⟩=some (.slice A1 n1 c1)∧Row Elem.str (zcK S (.slice (some ⟨g,0,none⟩) l.length cap) none) wr A1 n1 c1 x.vals:=by
 obtain ⟨⟨vss,h1,h2,h3⟩,h4,h5⟩:=h
 have hjl:=(List.getElem?_eq_some_iff.1 hj).1
 have hv:vss[j]?=some (vss[j]'(by omega)):=List.getElem?_eq_getElem (by omega)
 obtain ⟨A1,n1,c1,e,hr⟩:=h3 j _ x hv hj
 have hk:∀ v∈vss,v.length=2:=fun v hv'=>by
  obtain ⟨i,hi,rfl⟩:=List.mem_iff_getElem.1 hv'
  exact Elem.att.len (h3 i vss[i] (l[i]'(by omega)) (List.getElem?_eq_getElem hi) (List.getElem?_eq_getElem (by omega)))
 refine ⟨A1,n1,c1,?_,?_,hr⟩
 ·rw [World.ownsRow.cellAt (size:=2) h2 (j * 2) (by omega)]
  have:=zcl hk hv (j:=0) (u:=.string x.type) (by rw [e];rfl)
  simpa using this
 ·rw [World.ownsRow.cellAt (size:=2) h2 (j * 2+1) (by omega)]
  exact zcl hk hv (j:=1) (u:=.slice A1 n1 c1) (by rw [e];rfl)
theorem GrowM.thaw {α:Type} {E:Elem α} {l:List α} (h:GrowM E S T none w wr (.slice (some ⟨g,0,none⟩) l.length cap) l) (j:Nat):wr.frozen? ⟨g,j,none⟩=false:=by
 obtain ⟨⟨vss,h1,h2,h3⟩,h4,h5⟩:=h
 exact World.ownsRow.frozenAt h2 j
theorem GrowM.putAtt (h:GrowM Elem.att S T none w wr (.slice (some ⟨g,0,none⟩) l.length cap) l) {j:Nat} {x:Att} (hj:l[j]?=some x) {A':Option Addr} {n' c':Nat} (hr:Row Elem.str (zcK S (.slice (some ⟨g,0,none⟩) l.length cap) none) wr A' n' c' x.vals) :
 GrowM Elem.att S T none w (wr.setCell ⟨g,j * 2+1,none⟩ (.slice A' n' c')) (.slice (some ⟨g,0,none⟩) l.length cap) l:=by
 have hlt:=h.lt (b:=g) rfl
 obtain ⟨⟨vss,h1,h2,h3⟩,h4,h5⟩:=h
 have hjl:=(List.getElem?_eq_some_iff.1 hj).1
 have hv:vss[j]?=some (vss[j]'(by omega)):=List.getElem?_eq_getElem (by omega)
 obtain ⟨A1,n1,c1,e,-⟩:=h3 j _ x hv hj
 have hk:∀ v∈vss,v.length=2:=fun v hv'=>by
  obtain ⟨i,hi,rfl⟩:=List.mem_iff_getElem.1 hv'
  exact Elem.att.len (h3 i vss[i] (l[i]'(by omega)) (List.getElem?_eq_getElem hi) (List.getElem?_eq_getElem (by omega)))
 obtain ⟨k1,k2⟩:=World.ownsRow.stored h2 (j * 2+1) (.slice A' n' c')
 rw [zk9 _ hk hv (by decide)] at k1
 have hkeep:∀ b,zcK S (.slice (some ⟨g,0,none⟩) l.length cap) none b→(wr.setCell ⟨g,j * 2+1,none⟩ (.slice A' n' c')).heap[b]?=wr.heap[b]?:=fun b hb=>heap_setCell_other _ _ _ _ (fun e=>hb.2.1 (by rw [e];rfl))
 refine ⟨⟨_,by rw [List.length_set];exact h1,k1,fun i u y hi hy=>?_⟩,h4.setCell hlt.1 _,fun g' hg=>by cases hg⟩
 by_cases hij:j=i
 ·subst hij
  rw [List.getElem?_set_self (by omega)] at hi
  rw [hj] at hy
  injection hi with hi
  injection hy with hy
  subst hi hy
  rw [e]
  exact ⟨A',n',c',rfl,hr.same fun b hb=>hkeep b hb⟩
 ·rw [List.getElem?_set_ne hij] at hi
  exact Elem.att.same (h3 i u y hi hy) fun b hb=>hkeep b hb
end
theorem GrowM.base {α:Type} {E:Elem α} {S:Nat→Prop} {T:TypeId} {w0 w wr:World} {v:Value} {l:List α} (h:GrowM E S T none w wr v l) (hx:Ext w0 w):GrowM E S T none w0 wr v l:=by
 obtain ⟨⟨vss,h1,h2,h3⟩,h4,h5⟩:=h
 exact ⟨⟨vss,h1,zf1 h2 (zaD hx),h3⟩,hx.trans h4,fun g hg=>by cases hg⟩
theorem GrowM.other {α:Type} {E:Elem α} {S:Nat→Prop} {T:TypeId} {w wr:World} {v:Value} {l:List α} (h:GrowM E S T none w wr v l) {k:Nat} (hS:¬ S k) (hv:v.ownBlock≠some k) (hk:w.heap.size≤k) (i:Nat) (z:Value):GrowM E S T none w (wr.setCell ⟨k,i,none⟩ z) v l:=by
 obtain ⟨⟨vss,h1,h2,h3⟩,h4,h5⟩:=h
 refine ⟨⟨vss,h1,?_,fun i' u x hi hl=>zbm (h3 i' u x hi hl) (fun b hb _=>heap_setCell_other _ _ _ _ (fun e=>hS (by have e2:b=k:=e;rw [← e2];exact hb.1))) (fun b hb _=>hb)⟩,h4.setCell hk _,fun g hg=>by cases hg⟩
 obtain ⟨q1,q2⟩:=h2
 refine ⟨q1,?_⟩
 rcases q2 with q2 | ⟨k',cap,cur,e1,e2,e3,e4⟩
 ·exact .inl q2
 ·refine .inr ⟨k',cap,cur,e1,e2,?_,e4⟩
  rw [heap_setCell_other _ _ _ _ (fun e=>hv (by rw [e1];exact congrArg some e))]
  exact e3
def zco (S:Nat→Prop) (w:World) (nm:ByteArray) (l:List Att) (e:Ending) (w':World):Prop:=∃ A n c,e=.returned (.agg #[.string nm,.slice A n c])∧Row Elem.att (fun b=>S b∨w.heap.size≤b) w' A n c l∧Ext w w'
theorem zg2 {S:Nat→Prop} {A:Option Addr} {n c:Nat} {l:List Att} {w:World} (h:Row Elem.att S w A n c l) (nm:ByteArray) (hl:l.length≤4000000) (hv:∀ a∈l,a.vals.length≤8796093022208) :
 Calls Tryz.prog 38 #[.agg #[.string nm,.slice A n c]] w (zco S w nm l):=by
 have HL:=hid hl
 have HV:=hid hv
 have HB0:=hid (((Bx.make (Ext.refl w) #[.string nm,.slice A n c] 44).later (Ext.alloc _ (.cells #[.string ⟨#[]⟩,.slice none 0 0] 44))))
 have HB1:=hid (Bx.make (Ext.alloc w (.cells #[.string nm,.slice A n c] 44)) #[.string ⟨#[]⟩,.slice none 0 0] 44)
 rw [show (w.alloc (.cells #[.string nm,.slice A n c] 44)).heap.size=w.heap.size+1 by simp] at HB1
 have HCA:∀ w',Ext w w'→Calls Tryz.prog 65 #[.slice A n c] w' fun e w''=>∃ v,e=.returned v∧GrowM Elem.att (fun b=>S b∧b<w.heap.size) 57 none w' w'' v l:=fun w' hx=>zkV (h.lt.ext hx) hl
 show Calls _ _ _ _ (fun e w'=>zco S w nm l e w')
 clear h hl hv
 go_enter Tryz.func38,Tryz.ntmps38
 go_wp2_with (go_at_call 65;(with_reducible refine (HCA _ HB0.out.ext).mono ?_);rintro e w2 ⟨v2,rfl,hg2⟩;obtain ⟨ln,hln⟩:∃ x,x=l.length:=⟨_,rfl⟩;obtain ⟨A2,c2,hv2,hr2⟩:=hg2.row;rw [← hln] at hv2;subst hv2;have HLN:=hid hln;have HG2:=hid (hg2.mono (S':=fun x=>(S x∧x<w.heap.size)∨w.heap.size+2≤x) (fun _ h=>.inl h));have HB2:=hid (HB0.out.later hg2.ext);have HB3:=hid (HB1.out.later hg2.ext);have p1:=HB2.out.cell (i:=1) rfl;have q1:=HB2.out.frozen 1;clear hg2 hr2 hln)
 have hz1:((w.alloc (.cells #[.string nm,.slice A n c] 44)).alloc (.cells #[.string ⟨#[]⟩,.slice none 0 0] 44)).heap.size=w.heap.size+1+1:=by simp
 have HLOW:Hid (∀ b,(Value.slice A2 ln c2).ownBlock=some b→w.heap.size+2≤b):=fun b hb=>by have:=(HG2.out.lt hb).1;omega
 have HGW:=hid ((HG2.out.base HB0.out.ext).other (k:=w.heap.size) (by omega) (HG2.out.low (by omega)) (Nat.le_refl _) 1 (.slice A2 ln c2))
 have HBS:=hid (HB2.out.set1 (.slice A2 ln c2))
 have HBT:=hid (HB3.out.aside (Nat.le_refl _) (by omega) 1 (.slice A2 ln c2))
 have hln:ln≤4000000:=by have h1:=HLN.out;have h2:=HL.out;omega
 clear hz1 HG2
 go_loopw [12] (fun i wr=>∃ j:Nat,j≤ln∧i=.int .i64 j∧Hid (GrowM Elem.att (fun x=>(S x∧x<w.heap.size)∨w.heap.size+2≤x) 57 none w wr (.slice A2 ln c2) l)∧Hid (Bx w wr w.heap.size 44 #[.string nm,.slice A2 ln c2])∧Hid (Bx w wr (w.heap.size+1) 44 #[.string ⟨#[]⟩,.slice none 0 0])) (fun i _=>ln-(intOf i).toNat)
 case atStart=>exact ⟨0,by omega,rfl,HGW.out,HBS.out,HBT.out⟩
 case round=>
  obtain ⟨j,hj,rfl,HGR,HBR,HBU⟩:=hrel
  clear p1 q1
  by_cases hlt:j<ln
  ·obtain ⟨g,cap,hvf⟩:=HGR.out.form (by have:=HLN.out;omega)
   obtain rfl:=HLN.out
   injection hvf with y1 y2 y3
   subst y1 y3
   obtain ⟨x,hxj⟩:∃ x,l[j]?=some x:=⟨_,List.getElem?_eq_getElem hlt⟩
   obtain ⟨A1,n1,c1,e0,e1,hr1⟩:=HGR.out.att_at hxj
   have HXJ:=hid hxj
   have HR1:=hid hr1
   have HGL:=hid (HLOW.out g rfl)
   have HGT:=hid (HGR.out.lt (b:=g) rfl)
   have HCL:∀ w',Ext wr w'→Calls Tryz.prog 66 #[.slice A1 n1 c1] w' fun e w''=>∃ A' n' c',e=.returned (.slice A' n' c')∧Row Elem.str (fun b=>w'.heap.size≤b) w'' A' n' c' x.vals∧Ext w' w'':=fun w' hx=>zgL (hr1.ext hx) (HV.out x (List.mem_of_getElem? hxj))
   have HB4:=hid (Bx.make HBR.out.ext #[.string x.type,.slice A1 n1 c1] 57)
   clear hxj hr1
   go_wp2
   refine zaq g (.read 0 (.read 1 (.read 2 (.read 3 (.main 4 (.main 5 (.read 6 (.read 7 (.main 8 .done))))))))) (by kernel_rfl) (by kernel_rfl) ?_
   intro wD hxD
   have XB:Hid (Below g wD wD):=Below.refl _ _
   have HSW:Hid (g≤wD.heap.size):=by show _≤_;have h1:=hxD.size;simp only [World.alloc,Array.size_push] at h1;have h2:=HGT.out.2;omega
   have HX1:=hid ((Ext.alloc wr (.cells #[.string x.type,.slice A1 n1 c1] 57)).trans hxD)
   have HB5:=hid (HB4.out.later hxD)
   have HBX:=hid (HBR.out.later HX1.out)
   have hxf:Below g wr wD:=Below.mono HX1.out (by have h2:=HGT.out.2;omega)
   have pe:∀ w',Below g wD w'→w'.cell? ⟨w.heap.size,1,none⟩=some (.slice (some ⟨g,0,none⟩) l.length c2):=zso (HBR.out.cell (i:=1) rfl) (by have:=HGL.out;show w.heap.size<g;omega) hxf
   clear hxf e0 e1
   repeat' (first
    | ((first | refine zaI rfl rfl ?_ | refine zaw rfl rfl ?_ | refine walksB_skip rfl rfl ?_);simp only [Act.put,Act.eval,evs])
    | (refine walksB_unwanted rfl rfl ?_;simp only [Act.put,evp])
    | (refine zaC (v:=?_) rfl rfl (fun w' hE=>?_) ?_;rotate_left 1;(· ((try (have hEx:=Below.trans (Hid.out XB) hE));go_simp;(try go_bits);with_reducible rfl));simp only [Act.put,evp])
    | (refine zam rfl rfl (fun K hK=>?_);(first | (refine zbQ 55 (.tmp 20) rfl ⟨wr.heap.size,1,none⟩ rfl (.slice A1 n1 c1) (HB5.out.cell (i:=1) rfl) (fun _=>by kernel_rfl) ?_));refine hK _ _ (by first | assumption | exact Below.refl _ _ | exact Below.mono (Ext.alloc _ _) (Hid.out HSW) | exact Below.setCell (p:=⟨_,_,_⟩) (Below.refl _ _) (Nat.le_refl _) _) ?_;clear hK K;try simp only [Act.put,evp])
    | (refine zaQ ?_ ?_)
    | (refine zam rfl rfl (fun K hK=>?_);go_wp2_with ((go_at_call 66;(with_reducible refine (HCL _ HX1.out).mono ?_);rintro e w5 ⟨A5,n5,c5,rfl,hr5,hx5⟩;have HX5:=hid (HX1.out.trans hx5);have HR5:=hid hr5;have hs5:=Below.mono hx5 (Hid.out HSW);have HG6:=hid (HGR.out.later HX5.out);obtain ⟨A6,n6,c6,-,e6,-⟩:=HG6.out.att_at HXJ.out;have f6:=HG6.out.thaw (j * 2+1);clear hr5 hx5;have XB':=hid (Below.trans (Hid.out XB) (hs5));clear XB;have XB:=XB';clear XB'));refine hK _ _ (by first | assumption | exact Below.refl _ _ | exact Below.mono (Ext.alloc _ _) (Hid.out HSW) | exact Below.setCell (p:=⟨_,_,_⟩) (Below.refl _ _) (Nat.le_refl _) _) ?_;clear hK K;try simp only [Act.put,evp]))
   all_goals
    refine zaH ?_
    go_wp2
    have hzx:=HX1.out.size
    have hgt:=HGT.out.2
    have hgl:=HGL.out
    refine ⟨⟨j+1,by omega,by go_num,HG6.out.putAtt HXJ.out (HR5.out.mono fun b _ hb=>?_),(HBR.out.later HX5.out).aside (by omega) (by omega) (j * 2+1) _,(HBU.out.later HX5.out).aside (by omega) (by omega) (j * 2+1) _⟩,by simp [intOf];omega⟩
    have hb2:wD.heap.size≤b:=hb
    refine ⟨.inr (by omega),fun e=>?_,by simp⟩
    have e2:some b=some g:=e
    injection e2 with e2
    omega
  ·obtain rfl:j=ln:=by omega
   have n0:=HBR.out.cell (i:=0) rfl
   have n1:=HBR.out.cell (i:=1) rfl
   have r0:=HBU.out.cell (i:=0) rfl
   have r1:=HBU.out.cell (i:=1) rfl
   have f0:=HBU.out.frozen 0
   have f1:=HBU.out.frozen 1
   go_wp2
   (try simp only [Exit.inBlock,Exit.then])
   have HBF:=(HBU.out.set0 (.string nm)).set1 (.slice A2 j c2)
   have hno:(Value.slice A2 j c2).ownBlock≠some (w.heap.size+1):=fun e=>by have:=HLOW.out _ e;omega
   have HGF:=(HGR.out.other (k:=w.heap.size+1) (by omega) hno (by omega) 0 (.string nm)).other (k:=w.heap.size+1) (by omega) hno (by omega) 1 (.slice A2 j c2)
   refine zpD _ rfl rfl HBF Tryz.underlying44 rfl (by kernel_rfl) rfl ?_
   obtain ⟨A9,c9,hv9,hr9⟩:=HGF.row
   injection hv9 with y1 y2 y3
   subst y1 y3
   refine ⟨A2,j,c2,rfl,?_,HBF.ext⟩
   rw [← y2] at hr9
   refine hr9.mono (T:=fun b=>S b∨w.heap.size≤b) fun b _ hb=>?_
   rcases hb with (hb | hb) | hb
   ·exact .inl hb.1
   ·exact .inr (by omega)
   ·exact .inr hb
end Go.Proofs.YtioglicfndkgiaaGreatDoor
namespace Go.Proofs.YtioglicfndkgiaaGreatDoor
open Go.RowKit
set_option maxRecDepth 100000
theorem zih {S T:Nat→Prop} {A B:Option Addr} {n c m d:Nat} {l r:List ByteArray} {w:World} (h:Row Elem.str S w A n c l) (k:Row Elem.str T w B m d r) :
 Calls Tryz.prog 86 #[.slice A n c,.slice B m d] w fun e w'=>e=.returned (.bool (decide (l=r)))∧Ext w w':=by
 have hl:=hid h.len
 have kl:=hid k.len
 have hnl:n≤9223372036854775807:=by have:=h.cap;have:=h.most;simp only [maxLen] at this;omega
 have hml:m≤9223372036854775807:=by have:=k.cap;have:=k.most;simp only [maxLen] at this;omega
 by_cases hnm:n=m
 ·subst hnm
  have kl2:=kl
  clear kl
  go_enter Tryz.func86,Tryz.ntmps86
  go_wp2
  go_loopw [13] (fun i wr=>∃ j:Nat,j≤n∧i=.int .i64 j∧Hid (l.take j=r.take j)∧Hid (Ext w wr)) (fun i _=>n-(intOf i).toNat)
  case atStart=>exact ⟨0,by omega,rfl,by simp [Hid],Ext.refl w⟩
  case round=>
   obtain ⟨j,hj,rfl,Htk,hx⟩:=hrel
   by_cases hlt:j<n
   ·obtain ⟨b1,o1,rfl,c1⟩:=(h.ext hx.out).str_cell (by omega)
    obtain ⟨b2,o2,rfl,c2⟩:=(k.ext hx.out).str_cell (by omega)
    have e1:=c1 j hlt
    have e2:=c2 j hlt
    clear c1 c2
    have g1:l[j]?=some (l[j]?.getD ByteArray.empty):=by have:=hl.out;rw [List.getElem?_eq_getElem (by omega)];simp
    have g2:r[j]?=some (r[j]?.getD ByteArray.empty):=by have:=kl2.out;rw [List.getElem?_eq_getElem (by omega)];simp
    have Hg:=hid (And.intro g1 g2)
    clear g1 g2
    generalize l[j]?.getD ByteArray.empty=x1 at *
    generalize r[j]?.getD ByteArray.empty=x2 at *
    by_cases he:x1=x2
    ·have He:=hid he
     have Hne:=zes he
     clear he
     go_wp2
     refine zad (.read 0 (.read 1 (.read 2 (.read 3 (.read 4 (.read 5 (.read 6 (.read 7 (.read 8 .done))))))))) (by kernel_rfl) (by kernel_rfl) ?_
     intro wD hxD
     have c1:=zaa (zaa e1 _ hxD)
     have c2:=zaa (zaa e2 _ hxD)
     repeat' (first
      | ((first | refine zah rfl rfl ?_ | refine zae rfl rfl ?_ | refine zak rfl rfl ?_);simp only [Act.put,Act.eval,evs])
      | (refine zab rfl rfl ?_;simp only [Act.put,evp])
      | (refine zag (v:=?_) rfl rfl (fun w' hE=>?_) ?_;rotate_left 1;(· ((try (have hEx:=Ext.trans (Hid.out XE) hE));go_simp;(try go_bits);with_reducible rfl));simp only [Act.put,evp])
      | (refine walks_alt ?_ ?_)
      | (refine zai rfl rfl (fun K hK=>?_);go_wp2_with (fail);refine hK _ _ (by first | assumption | exact Ext.alloc _ _ | exact Ext.refl _) ?_;clear hK K;try simp only [Act.put,evp]))
     refine zaj ?_
     go_wp2
     refine ⟨⟨j+1,by omega,by go_num,?_,hx.out.trans hxD⟩,by simp [intOf];omega⟩
     show _=_
     rw [List.take_add_one,List.take_add_one,Htk.out,Hg.out.1,Hg.out.2,He.out]
    ·have He:=hid he
     have Hne:=zd9 he
     clear he
     go_wp2
     refine zad (.read 0 (.read 1 (.read 2 (.read 3 (.read 4 (.read 5 (.read 6 (.read 7 (.read 8 .done))))))))) (by kernel_rfl) (by kernel_rfl) ?_
     intro wD hxD
     have c1:=zaa (zaa e1 _ hxD)
     have c2:=zaa (zaa e2 _ hxD)
     repeat' (first
      | ((first | refine zah rfl rfl ?_ | refine zae rfl rfl ?_ | refine zak rfl rfl ?_);simp only [Act.put,Act.eval,evs])
      | (refine zab rfl rfl ?_;simp only [Act.put,evp])
      | (refine zag (v:=?_) rfl rfl (fun w' hE=>?_) ?_;rotate_left 1;(· ((try (have hEx:=Ext.trans (Hid.out XE) hE));go_simp;(try go_bits);with_reducible rfl));simp only [Act.put,evp])
      | (refine walks_alt ?_ ?_)
      | (refine zai rfl rfl (fun K hK=>?_);go_wp2_with (fail);refine hK _ _ (by first | assumption | exact Ext.alloc _ _ | exact Ext.refl _) ?_;clear hK K;try simp only [Act.put,evp]))
     refine zaj ?_
     go_wp2
     go_ret
     refine ⟨?_,hx.out.trans hxD⟩
     rw [decide_eq_false (fun e=>by subst e;exact He.out (Option.some.inj (Hg.out.1.symm.trans Hg.out.2)))]
     rfl
   ·obtain rfl:j=n:=by omega
    go_wp2
    go_ret
    refine ⟨?_,hx.out⟩
    rw [decide_eq_true (zhW hl.out kl2.out Htk.out)]
    rfl
 ·have hne:((n:Int) != (m:Int))=true:=by rw [bne_iff_ne];omega
  have hfin:Hid (decide (l=r)=false):=by
   show _=_
   rw [decide_eq_false]
   intro e
   subst e
   have:=hl.out
   have:=kl.out
   omega
  clear hnm
  go_enter Tryz.func86,Tryz.ntmps86
  go_wp2
  go_ret
  exact ⟨by rw [hfin.out];rfl,Ext.refl w⟩
def zdb (x y:List (List UInt8)):Option (List (List UInt8)):=if y.length≤x.length∧x.drop (x.length-y.length)=y then some (x.take (x.length-y.length)) else none
def zeT (S:Nat→Prop) (w:World) (x y:List (List UInt8)) (e:Ending) (w':World):Prop:=
 ∃ A n c,e=.returned (.tuple #[.slice A n c,.bool (zdb x y).isSome])∧Row Elem.str S w' A n c (strs ((zdb x y).getD []))∧Ext w w'
theorem zmP {a b:List (List UInt8)}:strs a=strs b ↔ a=b:=⟨fun h=>by rw [← zde a,h,zde],fun h=>by rw [h]⟩
theorem zqq {S T:Nat→Prop} {A B:Option Addr} {n c m d:Nat} {x y:List (List UInt8)} {w:World} (h:Row Elem.str S w A n c (strs x)) (k:Row Elem.str T w B m d (strs y)) :
 Calls Tryz.prog 58 #[.slice A n c,.slice B m d] w (zeT S w x y):=by
 have hx:n=x.length:=by rw [h.len,List.length_map]
 have hy:m=y.length:=by rw [k.len,List.length_map]
 have hn:n≤9223372036854775807:=by have:=h.cap;have:=h.most;simp only [maxLen] at this;omega
 have hm:m≤9223372036854775807:=by have:=k.cap;have:=k.most;simp only [maxLen] at this;omega
 have HR:=hid h
 have HK:=hid k
 have HD:Hid (zdb x y=if y.length≤x.length∧x.drop (x.length-y.length)=y then some (x.take (x.length-y.length)) else none):=rfl
 rw [← hx,← hy] at HD
 by_cases hlt:n<m
 ·have t1:(n:Int)-(m:Int)<0:=by omega
  have HF:Hid (zdb x y=none):=by show _=_;rw [HD.out,if_neg (fun h=>by omega)]
  clear hx hy h k HD
  go_enter Tryz.func58,Tryz.ntmps58
  go_wp2
  go_ret2
  exact ⟨none,0,0,by rw [HF.out];rfl,by rw [HF.out];exact Row.nil _ _ _,Ext.refl _⟩
 ·obtain ⟨q,hq⟩:∃ q,q=n-m:=⟨_,rfl⟩
  have t0:(n:Int)-(m:Int)=(q:Int):=by omega
  have t1:¬ (q:Int)<0:=by omega
  have hs1:=zmm A n c q (by omega)
  have hs2:=zjn A n c q (by have:=h.cap;omega)
  have HT:=hid (h.tail (k:=q) (by omega))
  have HH:=hid (h.head (k:=q) (by omega))
  have HQ:∀ w',Ext w w'→Calls Tryz.prog 86 #[.slice (cutA A q c 1) (n-q) (c-q),.slice B m d] w' fun e w''=>e=.returned (.bool (decide (x.drop q=y)))∧Ext w' w'':=fun w' hx=>by
   have:=zih (HT.out.ext hx) (HK.out.ext hx)
   have e:decide ((strs x).drop q=strs y)=decide (x.drop q=y):=by
    have e2:(strs x).drop q=strs (x.drop q):=by rw [← List.map_drop]
    rw [e2,Bool.eq_iff_iff,decide_eq_true_eq,decide_eq_true_eq,zmP]
   rw [e] at this
   exact this
  rw [← hq] at HD
  by_cases he:x.drop q=y
  ·have HF:Hid (zdb x y=some (x.take q)):=by show _=_;rw [HD.out,if_pos ⟨by omega,he⟩]
   rw [decide_eq_true he] at HQ
   have hql:q≤c:=by have:=h.cap;omega
   clear hx hy h k HD he hq
   go_enter Tryz.func58,Tryz.ntmps58
   go_wp2_with (go_at_call 86;(with_reducible refine (HQ _ (Ext.refl _)).mono ?_);rintro e w1 ⟨rfl,hx1⟩;have HX1:=hid hx1;clear hx1)
   go_ret2
   refine ⟨_,_,_,by rw [HF.out];rfl,?_,HX1.out⟩
   rw [HF.out]
   have:=HH.out.ext HX1.out
   rw [← List.map_take] at this
   exact this
  ·have HF:Hid (zdb x y=none):=by show _=_;rw [HD.out,if_neg (fun h=>he h.2)]
   rw [decide_eq_false he] at HQ
   clear hx hy h k HD he hq
   go_enter Tryz.func58,Tryz.ntmps58
   go_wp2_with (go_at_call 86;(with_reducible refine (HQ _ (Ext.refl _)).mono ?_);rintro e w1 ⟨rfl,hx1⟩;have HX1:=hid hx1;clear hx1)
   go_ret2
   exact ⟨none,0,0,by rw [HF.out];rfl,by rw [HF.out];exact Row.nil _ _ _,HX1.out⟩
theorem zoI {S T:Nat→Prop} {A B:Option Addr} {n c m d:Nat} {x y:List (List UInt8)} {w:World} (h:Row Elem.str S w A n c (strs x)) (k:Row Elem.str T w B m d (strs y)) :
 Calls Tryz.prog 60 #[.slice A n c,.slice B m d] w (zeT S w x y):=by
 have hx0:n=x.length:=by rw [h.len,List.length_map]
 have hy0:m=y.length:=by rw [k.len,List.length_map]
 have hl:=hid h.len
 have kl:=hid k.len
 have hn:n≤9223372036854775807:=by have:=h.cap;have:=h.most;simp only [maxLen] at this;omega
 have hm:m≤9223372036854775807:=by have:=k.cap;have:=k.most;simp only [maxLen] at this;omega
 have HK:=hid k
 have H0:=hid h
 have HD:Hid (zdb x y=if y.length≤x.length∧x.drop (x.length-y.length)=y then some (x.take (x.length-y.length)) else none):=rfl
 rw [← hx0,← hy0] at HD
 by_cases hlt:n<m
 ·have t1:(n:Int)<(m:Int):=by omega
  have HF:Hid (zdb x y=none):=by show _=_;rw [HD.out,if_neg (fun h=>by omega)]
  clear hx0 hy0 h k HD hl kl
  go_enter Tryz.func60,Tryz.ntmps60
  go_wp2
  go_ret2
  exact ⟨none,0,0,by rw [HF.out];rfl,by rw [HF.out];exact Row.nil _ _ _,Ext.refl _⟩
 ·obtain ⟨q,hq⟩:∃ q,q=n-m:=⟨_,rfl⟩
  have t0:(n:Int)-(m:Int)=(q:Int):=by omega
  have t1:¬ (n:Int)<(m:Int):=by omega
  have hqm:q+m≤n:=by omega
  have hs2:=zjn A n c q (by have:=h.cap;omega)
  have HH:=hid (h.head (k:=q) (by omega))
  have HDQ:Hid (decide (x.drop q=y)=decide ((strs x).drop q=strs y)):=by
   show _=_
   have e2:(strs x).drop q=strs (x.drop q):=by rw [← List.map_drop]
   rw [e2,Bool.eq_iff_iff,decide_eq_true_eq,decide_eq_true_eq,zmP]
  have HLX:Hid ((strs x).length=n∧(strs y).length=m):=⟨hl.out.symm,kl.out.symm⟩
  have HQN:Hid (q+m=n):=by show _=_;omega
  have hql:q≤c:=by have:=h.cap;omega
  rw [← hq] at HD
  generalize hX:strs x=X at *
  generalize hY:strs y=Y at *
  have HX:=hid hX
  clear hX hY hx0 hy0 h k hq hl kl
  go_enter Tryz.func60,Tryz.ntmps60
  go_wp2
  go_loopw [20] (fun i wr=>∃ j:Nat,j≤m∧i=.int .i64 j∧Hid ((X.drop q).take j=Y.take j)∧Hid (Ext w wr)) (fun i _=>m-(intOf i).toNat)
  case atStart=>exact ⟨0,by omega,rfl,by simp [Hid],Ext.refl w⟩
  case round=>
   obtain ⟨j,hj,rfl,Htk,hx⟩:=hrel
   by_cases hlt:j<m
   ·obtain ⟨b1,o1,rfl,c1⟩:=(H0.out.ext hx.out).str_cell (by omega)
    obtain ⟨b2,o2,rfl,c2⟩:=(HK.out.ext hx.out).str_cell (by omega)
    have e1:=c1 (q+j) (by omega)
    have e2:=c2 j hlt
    clear c1 c2
    have g1:X[q+j]?=some (X[q+j]?.getD ByteArray.empty):=by have:=HLX.out;rw [List.getElem?_eq_getElem (by omega)];simp
    have g2:Y[j]?=some (Y[j]?.getD ByteArray.empty):=by have:=HLX.out;rw [List.getElem?_eq_getElem (by omega)];simp
    have Hg:=hid (And.intro g1 g2)
    clear g1 g2
    have hqj:q+j<n:=by omega
    have tp:(q:Int)+(j:Int)=((q+j:Nat):Int):=by omega
    obtain ⟨p,Hpq⟩:∃ p,Hid (q+j=p):=⟨_,rfl⟩
    rw [Hpq.out] at tp hqj e1 Hg
    generalize X[p]?.getD ByteArray.empty=x1 at *
    generalize Y[j]?.getD ByteArray.empty=x2 at *
    by_cases he:x1=x2
    ·have He:=hid he
     have Hne:=zes he
     clear he
     go_wp2
     refine zad (.read 0 (.read 1 (.read 2 (.read 3 (.read 4 (.read 5 (.read 6 (.read 7 (.read 8 (.read 9 (.read 10 .done))))))))))) (by kernel_rfl) (by kernel_rfl) ?_
     intro wD hxD
     have c1:=zaa (zaa e1 _ hxD)
     have c2:=zaa (zaa e2 _ hxD)
     repeat' (first
      | ((first | refine zah rfl rfl ?_ | refine zae rfl rfl ?_ | refine zak rfl rfl ?_);simp only [Act.put,Act.eval,evs])
      | (refine zab rfl rfl ?_;simp only [Act.put,evp])
      | (refine zag (v:=?_) rfl rfl (fun w' hE=>?_) ?_;rotate_left 1;(· ((try (have hEx:=Ext.trans (Hid.out XE) hE));go_simp;(try go_bits);with_reducible rfl));simp only [Act.put,evp])
      | (refine walks_alt ?_ ?_)
      | (refine zai rfl rfl (fun K hK=>?_);go_wp2_with (fail);refine hK _ _ (by first | assumption | exact Ext.alloc _ _ | exact Ext.refl _) ?_;clear hK K;try simp only [Act.put,evp]))
     refine zaj ?_
     go_wp2
     refine ⟨⟨j+1,by omega,by go_num,?_,hx.out.trans hxD⟩,by simp [intOf];omega⟩
     show _=_
     rw [List.take_add_one,List.take_add_one,Htk.out,List.getElem?_drop,Hpq.out,Hg.out.1,Hg.out.2,He.out]
    ·have He:=hid he
     have Hne:=zd9 he
     clear he
     go_wp2
     refine zad (.read 0 (.read 1 (.read 2 (.read 3 (.read 4 (.read 5 (.read 6 (.read 7 (.read 8 (.read 9 (.read 10 .done))))))))))) (by kernel_rfl) (by kernel_rfl) ?_
     intro wD hxD
     have c1:=zaa (zaa e1 _ hxD)
     have c2:=zaa (zaa e2 _ hxD)
     repeat' (first
      | ((first | refine zah rfl rfl ?_ | refine zae rfl rfl ?_ | refine zak rfl rfl ?_);simp only [Act.put,Act.eval,evs])
      | (refine zab rfl rfl ?_;simp only [Act.put,evp])
      | (refine zag (v:=?_) rfl rfl (fun w' hE=>?_) ?_;rotate_left 1;(· ((try (have hEx:=Ext.trans (Hid.out XE) hE));go_simp;(try go_bits);with_reducible rfl));simp only [Act.put,evp])
      | (refine walks_alt ?_ ?_)
      | (refine zai rfl rfl (fun K hK=>?_);go_wp2_with (fail);refine hK _ _ (by first | assumption | exact Ext.alloc _ _ | exact Ext.refl _) ?_;clear hK K;try simp only [Act.put,evp]))
     refine zaj ?_
     go_wp2
     go_ret2
     have HF:zdb x y=none:=by
      rw [HD.out,if_neg]
      intro hh
      have e:=decide_eq_true hh.2
      rw [HDQ.out,decide_eq_true_eq] at e
      have e3:(X.drop q)[j]?=Y[j]?:=by rw [e]
      rw [List.getElem?_drop,Hpq.out,Hg.out.1,Hg.out.2] at e3
      exact He.out (Option.some.inj e3)
     exact ⟨none,0,0,by rw [HF];rfl,by rw [HF];exact Row.nil _ _ _,hx.out.trans hxD⟩
   ·obtain rfl:j=m:=by omega
    go_wp2
    go_ret2
    have HF:zdb x y=some (x.take q):=by
     rw [HD.out,if_pos]
     refine ⟨by omega,?_⟩
     have e:=zhW (by rw [List.length_drop,HLX.out.1];have:=HQN.out;omega) HLX.out.2.symm Htk.out
     have e2:=decide_eq_true e
     rw [← HDQ.out,decide_eq_true_eq] at e2
     exact e2
    refine ⟨_,_,_,by rw [HF];rfl,?_,hx.out⟩
    rw [HF]
    have:=HH.out.ext hx.out
    rw [← HX.out,← List.map_take] at this
    exact this
def zaP (a b:List UInt8):Bool:=decide (zap (zac a)=0) && decide (zap (zac b)=0) && (zdb (okL (zac a)) (okL (zac b))).isSome
theorem zoj (a b:ByteArray) (w:World) (hG:Gl w):Calls Tryz.prog 33 #[.string a,.string b] w fun e w'=>e=.returned (.bool (zaP (bys a) (bys b)))∧Ext w w':=by
 have HG:=hid hG
 have HPA:∀ w,Gl w→Calls Tryz.prog 50 #[.string a] w (zbn w (bys a)):=fun w hG=>zej a w hG
 have HPB:∀ w,Gl w→Calls Tryz.prog 50 #[.string b] w (zbn w (bys b)):=fun w hG=>zej b w hG
 unfold zbn at HPA HPB
 have HRS:∀ (S T:Nat→Prop) A B n c m d w,Row Elem.str S w A n c (strs (okL (zac (bys a))))→Row Elem.str T w B m d (strs (okL (zac (bys b)))) →
  Calls Tryz.prog 58 #[.slice A n c,.slice B m d] w (zeT S w (okL (zac (bys a))) (okL (zac (bys b)))):=fun S T A B n c m d w h k=>zqq h k
 unfold zeT at HRS
 have HUD:Hid (zaP (bys a) (bys b)=(decide (zap (zac (bys a))=0) && decide (zap (zac (bys b))=0) && (zdb (okL (zac (bys a))) (okL (zac (bys b)))).isSome)):=rfl
 clear hG
 generalize zac (bys a)=pa at *
 generalize zac (bys b)=pb at *
 generalize zaP (bys a) (bys b)=u at *
 have HRD:=hid (Eq.refl ((zdb (okL pa) (okL pb)).isSome))
 have c1:(zap pa==0)=true∨(zap pa==0)=false:=by cases zap pa==0 <;> simp
 have c2:(zap pb==0)=true∨(zap pb==0)=false:=by cases zap pb==0 <;> simp
 have c3:Hid ((zdb (okL pa) (okL pb)).isSome=true)∨Hid ((zdb (okL pa) (okL pb)).isSome=false):=by cases (zdb (okL pa) (okL pb)).isSome <;> simp [Hid]
 have e1:decide (zap pa=0)=(zap pa==0):=rfl
 have e2:decide (zap pb=0)=(zap pb==0):=rfl
 rw [e1,e2] at HUD
 clear e1 e2
 generalize zap pa=ca at *
 generalize zap pb=cb at *
 generalize okL pa=la at *
 generalize okL pb=lb at *
 rcases c1 with c1 | c1 <;> rcases c2 with c2 | c2 <;> rcases c3 with c3 | c3
 all_goals
  rw [c1,c2,c3.out] at HUD
  go_enter Tryz.func33,Tryz.ntmps33
  go_wp2_with (
   first
   | (go_at_call 50;first
       | ((with_reducible refine (HPA _ HG.out).mono ?_);rintro e w1 ⟨A1,n1,k1,rfl,hr1,hx1⟩;have HR1:=hid hr1;have HX1:=hid hx1;clear hr1 hx1)
       | ((with_reducible refine (HPB _ (HG.out.ext HX1.out)).mono ?_);rintro e w2 ⟨A2,n2,k2,rfl,hr2,hx2⟩;have HR2:=hid hr2;have HX2:=hid hx2;clear hr2 hx2))
   | (go_at_call 58;(with_reducible refine (HRS _ _ _ _ _ _ _ _ _ (HR1.out.ext HX2.out) HR2.out).mono ?_);rintro e w3 ⟨A3,n3,k3,rfl,hr3,hx3⟩;have HX3:=hid hx3;rw [c3.out];clear hr3 hx3))
  all_goals go_ret
  all_goals exact ⟨by rw [HUD.out];rfl,(HX1.out.trans HX2.out).trans HX3.out⟩
theorem zm8 (a b:ByteArray) (w:World) (hG:Gl w):Calls Tryz.prog 34 #[.string a,.string b] w fun e w'=>e=.returned (.bool (zaP (bys a) (bys b)))∧Ext w w':=by
 have HG:=hid hG
 have HPA:∀ w,Gl w→Calls Tryz.prog 59 #[.string a] w (zbn w (bys a)):=fun w hG=>zeV a w hG
 have HPB:∀ w,Gl w→Calls Tryz.prog 59 #[.string b] w (zbn w (bys b)):=fun w hG=>zeV b w hG
 unfold zbn at HPA HPB
 have HRS:∀ (S T:Nat→Prop) A B n c m d w,Row Elem.str S w A n c (strs (okL (zac (bys a))))→Row Elem.str T w B m d (strs (okL (zac (bys b)))) →
  Calls Tryz.prog 60 #[.slice A n c,.slice B m d] w (zeT S w (okL (zac (bys a))) (okL (zac (bys b)))):=fun S T A B n c m d w h k=>zoI h k
 unfold zeT at HRS
 have HUD:Hid (zaP (bys a) (bys b)=(decide (zap (zac (bys a))=0) && decide (zap (zac (bys b))=0) && (zdb (okL (zac (bys a))) (okL (zac (bys b)))).isSome)):=rfl
 clear hG
 generalize zac (bys a)=pa at *
 generalize zac (bys b)=pb at *
 generalize zaP (bys a) (bys b)=u at *
 have HRD:=hid (Eq.refl ((zdb (okL pa) (okL pb)).isSome))
 have c1:(zap pa==0)=true∨(zap pa==0)=false:=by cases zap pa==0 <;> simp
 have c2:(zap pb==0)=true∨(zap pb==0)=false:=by cases zap pb==0 <;> simp
 have c3:Hid ((zdb (okL pa) (okL pb)).isSome=true)∨Hid ((zdb (okL pa) (okL pb)).isSome=false):=by cases (zdb (okL pa) (okL pb)).isSome <;> simp [Hid]
 have e1:decide (zap pa=0)=(zap pa==0):=rfl
 have e2:decide (zap pb=0)=(zap pb==0):=rfl
 rw [e1,e2] at HUD
 clear e1 e2
 generalize zap pa=ca at *
 generalize zap pb=cb at *
 generalize okL pa=la at *
 generalize okL pb=lb at *
 rcases c1 with c1 | c1 <;> rcases c2 with c2 | c2 <;> rcases c3 with c3 | c3
 all_goals
  rw [c1,c2,c3.out] at HUD
  go_enter Tryz.func34,Tryz.ntmps34
  go_wp2_with (
   first
   | (go_at_call 59;first
       | ((with_reducible refine (HPA _ HG.out).mono ?_);rintro e w1 ⟨A1,n1,k1,rfl,hr1,hx1⟩;have HR1:=hid hr1;have HX1:=hid hx1;clear hr1 hx1)
       | ((with_reducible refine (HPB _ (HG.out.ext HX1.out)).mono ?_);rintro e w2 ⟨A2,n2,k2,rfl,hr2,hx2⟩;have HR2:=hid hr2;have HX2:=hid hx2;clear hr2 hx2))
   | (go_at_call 60;(with_reducible refine (HRS _ _ _ _ _ _ _ _ _ (HR1.out.ext HX2.out) HR2.out).mono ?_);rintro e w3 ⟨A3,n3,k3,rfl,hr3,hx3⟩;have HX3:=hid hx3;rw [c3.out];clear hr3 hx3))
  all_goals go_ret
  all_goals exact ⟨by rw [HUD.out];rfl,(HX1.out.trans HX2.out).trans HX3.out⟩
end Go.Proofs.YtioglicfndkgiaaGreatDoor
namespace Go.Proofs.YtioglicfndkgiaaGreatDoor
structure CutR where
 name:ByteArray
 server:Int
def zaz (s:List UInt8):Int:=((okL (zac s)).length:Int)
def zcr (nm:List UInt8) (i:Nat) (st:Int × Int) (c:CutR):Int × Int:=if decide (st.2<zaz (bys c.name)) && zaP nm (bys c.name) then ((i:Int),zaz (bys c.name)) else st
def za8 (nm:List UInt8):Nat→Int × Int→List CutR→Int × Int
 | _,st,[]=>st
 | i,st,c::t=>za8 nm (i+1) (zcr nm i st c) t
def zaJ (l:List CutR) (nm:List UInt8):Int:=(za8 nm 0 (-1,-1) l).1
theorem zfz (nm:List UInt8):∀ (l k:List CutR) (i:Nat) (st:Int × Int),za8 nm i st (l++k)=za8 nm (i+l.length) (za8 nm i st l) k
 | [],k,i,st=>by simp [za8]
 | c::t,k,i,st=>by
  simp only [List.cons_append,za8,List.length_cons]
  rw [zfz nm t k]
  congr 1
  omega
theorem zdM {nm:List UInt8} {l:List CutR} {j:Nat} {c:CutR} (h:l[j]?=some c):za8 nm 0 (-1,-1) (l.take (j+1))=zcr nm j (za8 nm 0 (-1,-1) (l.take j)) c:=by
 have hj:=(List.getElem?_eq_some_iff.1 h).1
 rw [List.take_add_one,h,zfz]
 simp only [Option.toList_some,za8,List.length_take]
 congr 1
 omega
theorem zgA (nm:List UInt8):∀ (l:List CutR) (i:Nat) (st:Int × Int),-1≤st.1→st.1<i→-1≤(za8 nm i st l).1∧(za8 nm i st l).1<i+l.length
 | [],i,st,h1,h2=>by simp only [za8,List.length_nil];omega
 | c::t,i,st,h1,h2=>by
  have h3:-1≤(zcr nm i st c).1∧(zcr nm i st c).1<(i+1:Nat):=by
   unfold zcr
   split <;> (try simp only) <;> omega
  have:=zgA nm t (i+1) (zcr nm i st c) h3.1 h3.2
  simp only [za8,List.length_cons]
  omega
theorem zc3 (l:List CutR) (nm:List UInt8):-1≤zaJ l nm∧zaJ l nm<l.length:=by
 have:=zgA nm l 0 (-1,-1) (by decide) (by decide)
 unfold zaJ
 omega
structure RtC where
 servers:List (List (ByteArray × List CutR))
 top:List CutR
def zcH (c:RtC) (s:Int):List (ByteArray × List CutR):=c.servers[s.toNat]?.getD []
def zb5 (l:List (ByteArray × List CutR)):List CutR:=l.map fun x=>⟨x.1,0⟩
def zca (c:RtC) (s:Int) (nm:List UInt8):Int × Int:=
 if zap (zac nm)≠0∨s<0∨(c.servers.length:Int)≤s then (-1,-1)
 else if zaJ (zb5 (zcH c s)) nm<0 then (-1,-1)
 else (zaJ (zb5 (zcH c s)) nm,zaJ (((zcH c s)[(zaJ (zb5 (zcH c s)) nm).toNat]?.map (·.2)).getD []) nm)
def zd5 (c:RtC) (s:Int) (nm:List UInt8):Int × Bool:=if (zca c s nm).1<0∨0≤(zca c s nm).2 then (0,false) else ((zca c s nm).1,true)
def zc5 (c:RtC) (s:Int) (nm:List UInt8):Int × Bool:=
 if zap (zac nm)≠0∨s<0∨(c.servers.length:Int)≤s then (0,false)
 else if 0≤(zca c s nm).2 then ((((((zcH c s)[(zca c s nm).1.toNat]?.map (·.2)).getD [])[(zca c s nm).2.toNat]?).map (·.server)).getD 0,true)
 else if 0≤(zca c s nm).1 then (0,false)
 else if s≠0 then (0,true)
 else if 0≤zaJ c.top nm then (((c.top[(zaJ c.top nm).toNat]?).map (·.server)).getD 0,true)
 else (0,false)
def zcN (held:Int→Bool) (near:Int→Int × Bool) (n:Int) (path:List Int) (s:Int):Int ⊕ Int:=
 if held s then .inl 0 else if (near s).2=false then .inl 32 else if (near s).1<0∨n≤(near s).1 then .inl 52 else if (near s).1∈path then .inl 54 else .inr (near s).1
def walkF (held:Int→Bool) (near:Int→Int × Bool) (n:Int):Nat→List Int→Int→List Int × Int
 | 0,path,_=>(path,54)
 | f+1,path,s=>match zcN held near n path s with
  | .inl c=>(path,c)
  | .inr t=>walkF held near n f (path++[t]) t
section
variable {held:Int→Bool} {near:Int→Int × Bool} {n:Int}
theorem zc8 {f:Nat} {path:List Int} {s c:Int} (h:zcN held near n path s=.inl c):walkF held near n (f+1) path s=(path,c):=by
 rw [walkF.eq_def]
 simp only [h]
theorem zkT {f:Nat} {path:List Int} {s t:Int} (h:zcN held near n path s=.inr t):walkF held near n (f+1) path s=walkF held near n f (path++[t]) t:=by
 rw [walkF.eq_def]
 simp only [h]
end
def zcX (c:RtC) (s:Int) (nm:List UInt8):List Int × Int:=
 if zap (zac nm)≠0 then ([],34)
 else if s<0∨(c.servers.length:Int)≤s then ([],1)
 else walkF (fun s=>(zd5 c s nm).2) (fun s=>zc5 c s nm) c.servers.length (c.servers.length+1) [s] s
end Go.Proofs.YtioglicfndkgiaaGreatDoor
namespace Go.Proofs.YtioglicfndkgiaaGreatDoor
open Go.RowKit
set_option maxRecDepth 100000
def CutR.cells (c:CutR):List Value:=[.string c.name,.int .i64 c.server]
def Elem.cut:Elem CutR:=⟨2,by decide,fun _ _ v x=>v=x.cells,fun h=>by rw [h];rfl,fun h _=>h,fun h _=>h⟩
structure Cxt where
 name:ByteArray
 ents:List Ent
 subs:List CutR
def Elem.cxt:Elem Cxt:=
 ⟨3,by decide,fun S w v a=>∃ A n c B m d,v=[.string a.name,.slice A n c,.slice B m d]∧Row Elem.ent S w A n c a.ents∧Row Elem.cut S w B m d a.subs,fun ⟨_,_,_,_,_,_,h,_⟩=>by rw [h];rfl,
  fun ⟨A,n,c,B,m,d,h,hr,hs⟩ hk=>⟨A,n,c,B,m,d,h,hr.same hk,hs.same hk⟩,fun ⟨A,n,c,B,m,d,h,hr,hs⟩ k=>⟨A,n,c,B,m,d,h,hr.mono k,hs.mono k⟩⟩
abbrev Elem.srw:Elem (List Cxt):=Elem.slc Elem.cxt
def rtOf (s:List (List Cxt)) (t:List CutR):RtC:=⟨s.map fun l=>l.map fun x=>(x.name,x.subs),t⟩
theorem zhH:(Tryz.prog.info? 58).map (fun i=>(i.zero,i.size,i.bytes))=some (some (.agg #[.string ByteArray.empty,.int .i64 0]),Elem.cut.k,24):=by kernel_rfl
theorem zoP (s:ByteArray) (w:World) (hG:Gl w):Calls Tryz.prog 32 #[.string s] w fun e w'=>e=.returned (.int .i64 (zaz (bys s)))∧Ext w w':=by
 have HP:=zej s w hG
 unfold zbn at HP
 have HD:Hid (zaz (bys s)=((okL (zac (bys s))).length:Int)):=rfl
 have HLS:∀ (S:Nat→Prop) w A n c,Row Elem.str S w A n c (strs (okL (zac (bys s))))→n=(okL (zac (bys s))).length:=fun S w A n c h=>by rw [h.len,List.length_map]
 generalize okL (zac (bys s))=l at *
 generalize zap (zac (bys s))=cd at *
 go_enter Tryz.func32,Tryz.ntmps32
 go_wp2_with (go_at_call 50;(with_reducible refine HP.mono ?_);rintro e w1 ⟨A1,n1,c1,rfl,hr1,hx1⟩;have HN:=hid (HLS _ _ _ _ _ hr1);have HX1:=hid hx1;clear hx1 hr1)
 go_ret
 exact ⟨by rw [HD.out,HN.out];(try rfl),HX1.out⟩
theorem zcS {S:Nat→Prop} {A:Option Addr} {n c:Nat} {l:List CutR} {w:World} (h:Row Elem.cut S w A n c l) (name:ByteArray) (hG:Gl w) :
 Calls Tryz.prog 18 #[.slice A n c,.string name] w fun e w'=>e=.returned (.int .i64 (zaJ l (bys name)))∧Ext w w':=by
 have HG:=hid hG
 have HR:=hid h
 have HLN:=hid h.len
 have hn:n≤9223372036854775807:=by have:=h.cap;have:=h.most;simp only [maxLen] at this;omega
 have HD:∀ (s:ByteArray) w,Gl w→Calls Tryz.prog 32 #[.string s] w fun e w'=>e=.returned (.int .i64 (zaz (bys s)))∧Ext w w':=fun s w hG=>zoP s w hG
 have HU:∀ (s:ByteArray) w,Gl w→Calls Tryz.prog 33 #[.string name,.string s] w fun e w'=>e=.returned (.bool (zaP (bys name) (bys s)))∧Ext w w':=fun s w hG=>zoj name s w hG
 clear h hG
 go_enter Tryz.func18,Tryz.ntmps18
 go_wp2
 go_loopw [5,6,12] (fun b d i wr=>∃ (j:Nat),j≤n∧i=.int .i64 j∧b=.int .i64 (za8 (bys name) 0 (-1,-1) (l.take j)).1∧d=.int .i64 (za8 (bys name) 0 (-1,-1) (l.take j)).2∧Hid (Ext w wr)) (fun _ _ i _=>n-(intOf i).toNat)
 case atStart=>exact ⟨0,by omega,rfl,rfl,rfl,Ext.refl _⟩
 case round=>
  obtain ⟨j,hj,rfl,rfl,rfl,hx⟩:=hrel
  by_cases hlt:j<n
  ·obtain ⟨b1,o1,v1,x1,rfl,g1,-,r1,q1⟩:=(HR.out.ext hx.out).at_ hlt
   have HTK:=hid (zdM (nm:=bys name) g1)
   have HDX:=HD x1.name
   have HUX:=HU x1.name
   have HSD:Hid (zcr (bys name) j (za8 (bys name) 0 (-1,-1) (l.take j)) x1=if decide ((za8 (bys name) 0 (-1,-1) (l.take j)).2<zaz (bys x1.name)) && zaP (bys name) (bys x1.name) then ((j:Int),zaz (bys x1.name)) else za8 (bys name) 0 (-1,-1) (l.take j)):=rfl
   clear HD HU g1
   generalize zaz (bys x1.name)=dx at *
   generalize zaP (bys name) (bys x1.name)=ux at *
   obtain ⟨nm1,sv1⟩:=x1
   cases r1
   have e10:=q1 0 _ rfl
   have e11:=q1 1 _ rfl
   simp only [Elem.cut,Nat.add_zero] at e10 e11
   simp only at HDX HUX
   clear q1
   have HB0:=hid (Bx.make hx.out #[.string nm1,.int .i64 sv1] 58)
   generalize za8 (bys name) 0 (-1,-1) (l.take j)=st at *
   obtain ⟨st2,hst2⟩:∃ x,x=za8 (bys name) 0 (-1,-1) (l.take (j+1)):=⟨_,rfl⟩
   rw [← hst2] at HTK
   have HS2:=hid hst2
   clear hst2
   obtain ⟨s1,s2⟩:=st
   obtain ⟨z1,z2⟩:=st2
   simp only at HSD
   by_cases hd:s2<dx
   ·rw [decide_eq_true hd,Bool.true_and] at HSD
    cases ux
    ·rw [if_neg (by decide)] at HSD
     have HE:=hid (HTK.out.trans HSD.out)
     go_wp2_with (first
      | (go_at_call 32;(with_reducible refine (HDX _ (HG.out.ext HB0.out.ext)).mono ?_);rintro e w1 ⟨rfl,hx1⟩;have HB1:=hid (HB0.out.later hx1);have a0:=HB1.out.cell (i:=0) rfl;clear hx1)
      | (go_at_call 33;(with_reducible refine (HUX _ (HG.out.ext HB1.out.ext)).mono ?_);rintro e w2 ⟨rfl,hx2⟩;have HX2:=hid (HB1.out.ext.trans hx2);clear hx2))
     obtain ⟨rfl,rfl⟩:z1=s1∧z2=s2:=by have:=HE.out;injection this with a b;exact ⟨a,b⟩
     exact ⟨⟨j+1,by omega,by go_num,by rw [← HS2.out],by rw [← HS2.out],HX2.out⟩,by simp [intOf];omega⟩
    ·rw [if_pos rfl] at HSD
     have HE:=hid (HTK.out.trans HSD.out)
     go_wp2_with (first
      | (go_at_call 32;(with_reducible refine (HDX _ (HG.out.ext HB0.out.ext)).mono ?_);rintro e w1 ⟨rfl,hx1⟩;have HB1:=hid (HB0.out.later hx1);have a0:=HB1.out.cell (i:=0) rfl;clear hx1)
      | (go_at_call 33;(with_reducible refine (HUX _ (HG.out.ext HB1.out.ext)).mono ?_);rintro e w2 ⟨rfl,hx2⟩;have HX2:=hid (HB1.out.ext.trans hx2);clear hx2))
     obtain ⟨rfl,rfl⟩:z1=(j:Int)∧z2=dx:=by have:=HE.out;injection this with a b;exact ⟨a,b⟩
     exact ⟨⟨j+1,by omega,by go_num,by rw [← HS2.out],by rw [← HS2.out],HX2.out⟩,by simp [intOf];omega⟩
   ·rw [decide_eq_false hd,Bool.false_and,if_neg (by decide)] at HSD
    have HE:=hid (HTK.out.trans HSD.out)
    go_wp2_with (first
     | (go_at_call 32;(with_reducible refine (HDX _ (HG.out.ext HB0.out.ext)).mono ?_);rintro e w1 ⟨rfl,hx1⟩;have HB1:=hid (HB0.out.later hx1);have a0:=HB1.out.cell (i:=0) rfl;clear hx1))
    obtain ⟨rfl,rfl⟩:z1=s1∧z2=s2:=by have:=HE.out;injection this with a b;exact ⟨a,b⟩
    exact ⟨⟨j+1,by omega,by go_num,by rw [← HS2.out],by rw [← HS2.out],HB1.out.ext⟩,by simp [intOf];omega⟩
  ·obtain rfl:j=n:=by omega
   have HF:Hid (zaJ l (bys name)=(za8 (bys name) 0 (-1,-1) (l.take j)).1):=by show _=_;rw [List.take_of_length_le (Nat.le_of_eq HLN.out.symm)];rfl
   go_wp2
   go_ret
   exact ⟨by rw [HF.out];(try rfl),hx.out⟩
end Go.Proofs.YtioglicfndkgiaaGreatDoor
