/- Lemmas of the walk that the last text of this claim joins. -/
import Derived.Test.YtejdpadhemeldaaGreatDoorZ29
import Derived.Test.YtejdpadhemeldaaGreatDoorZ31
import Derived.Test.YtejdpadhemeldaaGreatDoorZ32
import Derived.Test.YtejdpadhemeldaaGreatDoorZ03
import Derived.Test.YtejdpadhemeldaaGreatDoorZ12
import Derived.Test.YtejdpadhemeldaaGreatDoorZ26
import Derived.Test.YtejdpadhemeldaaGreatDoorZ11
import Derived.BigQuiet
import Derived.Deep.QuietTactic
import Derived.Test.YtejdpadhemeldaaGreatDoorRows
import Derived.Test.YtejdpadhemeldaaGreatDoorZ07
import Derived.Test.YtejdpadhemeldaaGreatDoorZ17
import Derived.Test.YtejdpadhemeldaaGreatDoorShl
import Derived.Lib.LaidU8
import Derived.PinnedBridge
import Derived.Stop.LaidErr
import Derived.Shelf.Vars
import Derived.MakeChecks
import Derived.ProofKit
set_option maxHeartbeats 40000000
set_option linter.unusedVariables false
set_option linter.unusedSimpArgs false
namespace Go.Proofs.YtejdpadhemeldaaGreatDoor
open Go.RowKit
set_option maxRecDepth 100000
def pairsS (nm : List UInt8) : List Ava:=match okL (parseS nm) with | []=>[] | p :: _=>p
theorem pairs_any (nm : ByteArray) (w : World) (hG : Gl w) : Calls Tryz.prog 95 #[.string nm] w fun e w'=>∃ A n c,e = .returned (.slice A n c) ∧ Row Elem.ava (fun b=>w.heap.size ≤ b) w' A n c (pairsS (bys nm)) ∧ Ext w w':=by
 have HP:=dnparse_any nm w hG
 unfold DnSays at HP
 have HD : Hid (pairsS (bys nm) = match okL (parseS (bys nm)) with | []=>[] | p :: _=>p):=rfl
 generalize okL (parseS (bys nm)) = l at *
 generalize codeR (parseS (bys nm)) = cd at *
 generalize pairsS (bys nm) = q at *
 clear hG
 cases l with
 | nil=>
  simp only at HD
  go_enter Tryz.func95,Tryz.ntmps95
  go_wp2_with (go_at_call 62;(with_reducible refine HP.mono ?_);rintro e w1 ⟨A1,n1,c1,rfl,hr1,hx1⟩;have HX1:=hid hx1;obtain rfl : n1 = 0:=hr1.len;clear hr1 hx1)
  go_ret
  exact ⟨none,0,0,rfl,by rw [HD.out];exact Row.nil _ _ _,HX1.out.trans (Ext.alloc _ _)⟩
 | cons p rest=>
  simp only at HD
  go_enter Tryz.func95,Tryz.ntmps95
  go_wp2_with (go_at_call 62;(with_reducible refine HP.mono ?_);rintro e w1 ⟨A1,n1,c1,rfl,hr1,hx1⟩;have HX1:=hid hx1;have hl1 : n1 = rest.length + 1:=hr1.len;have tl1 : ((n1 : Int) == 0) = false:=(by rw [beq_eq_false_iff_ne];omega);have tl3 : 0 < n1:=(by omega);obtain ⟨b1,o1,v1,x1,rfl,g1,-,⟨A2,n2,c2,rfl,hr2⟩,q1⟩:=hr1.at_ (i:=0) (by omega);obtain rfl : x1 = p:=(by simpa using g1.symm);have e1:=q1 0 _ rfl;simp only [Elem.part,Elem.slc,Nat.zero_mul,Nat.add_zero] at e1;have e2:=cell_later e1 _ (Ext.alloc w1 (.cells #[.slice (some ⟨b1,o1,none⟩) n1 c1] 96));have HR2:=hid hr2;clear hx1 hr1 hl1 g1 q1 hr2)
  go_ret
  exact ⟨A2,n2,c2,rfl,by rw [HD.out];exact HR2.out.ext (Ext.alloc _ _),HX1.out.trans (Ext.alloc _ _)⟩
def namedE (nm : List UInt8) (l : List Att) : Bool:=!(pairsS nm).any fun a=>!hasE a.type a.val (valsE a.type l)
theorem pairs_ok (nm : List UInt8) : ∀ a ∈ pairsS nm,a.type.length ≤ 17 ∧ (typeB a.type).2 ≠ 4 ∧ (typeB a.type).2 ≠ 5:=by
 intro a ha
 unfold pairsS at ha
 cases hp : parseS nm with
 | error er=>rw [hp] at ha;simp [okL] at ha
 | ok l=>
  rw [hp] at ha
  cases l with
  | nil=>simp [okL] at ha
  | cons p rest=>
   simp only [okL] at ha
   have hf:=parse_formed hp p (by simp)
   have h1:=formed_ok hf a ha
   refine ⟨formed_types hf a ha,?_⟩
   unfold avaOk at h1
   simp only [Bool.and_eq_true,Bool.or_eq_true,decide_eq_true_eq] at h1
   omega
theorem named1_any {S : Nat → Prop} {A : Option Addr} {n c : Nat} {l : List Att} {w : World} (h : Row Elem.att S w A n c l) (x : Ava) (nm : ByteArray) (g : Nat) (hG : Gl w) (hx : x.type.length ≤ 17 ∧ (typeB x.type).2 ≠ 4 ∧ (typeB x.type).2 ≠ 5) (hv : ∀ a ∈ l,a.vals.length ≤ 8796093022208)
 (h0 : w.cell? ⟨g,0,none⟩ = some (.string nm)) (h1 : w.cell? ⟨g,1,none⟩ = some (.slice A n c)) :
 Calls Tryz.prog 96 #[avaV x,.pointer (some ⟨g,0,none⟩)] w fun e w'=>e = .returned (.bool (!hasE x.type x.val (valsE x.type l))) ∧ Ext w w':=by
 have HH : ∀ w',Ext w w' → Calls Tryz.prog 91 #[.agg #[.string nm,.slice A n c],.string (str x.type),.string (str x.val)] w' fun e w''=>e = .returned (.bool (hasE x.type x.val (valsE x.type l))) ∧ Ext w' w'':=fun w' hxx=>by
  have:=has_any (h.ext hxx) (str x.type) nm (str x.val) (hG.ext hxx) (by rw [str_size];omega) (by rw [bys_str];exact hx.2.1) (by rw [bys_str];exact hx.2.2) hv
  rwa [bys_str,bys_str] at this
 have e0:=cell_later h0 _ (Ext.alloc w (.cells #[.string (str x.type),.string (str x.val)] 143))
 have e1:=cell_later h1 _ (Ext.alloc w (.cells #[.string (str x.type),.string (str x.val)] 143))
 clear h hG hx hv h0 h1
 generalize hasE x.type x.val (valsE x.type l) = r at *
 unfold avaV
 go_enter Tryz.func96,Tryz.ntmps96
 go_wp2_with (go_at_call 91;(with_reducible refine (HH _ (Ext.alloc _ _)).mono ?_);rintro e w1 ⟨rfl,hx1⟩;have HX1:=hid ((Ext.alloc _ _).trans hx1);clear hx1)
 go_ret
 exact ⟨by cases r <;> rfl,HX1.out⟩
theorem indexava_any {S T : Nat → Prop} {A B : Option Addr} {n c m d : Nat} {ps : List Ava} {l : List Att} {w : World} (h : Row Elem.ava S w A n c ps) (k : Row Elem.att T w B m d l) (nm : ByteArray) (g : Nat) (hG : Gl w) (hx : ∀ x ∈ ps,x.type.length ≤ 17 ∧ (typeB x.type).2 ≠ 4 ∧ (typeB x.type).2 ≠ 5) (hv : ∀ a ∈ l,a.vals.length ≤ 8796093022208)
 (h0 : w.cell? ⟨g,0,none⟩ = some (.string nm)) (h1 : w.cell? ⟨g,1,none⟩ = some (.slice B m d)) :
 Calls Tryz.prog 124 #[.slice A n c,.func (.func 96) #[] #[.pointer (some ⟨g,0,none⟩)]] w fun e w'=>
  ∃ r : Int,e = .returned (.int .i64 r) ∧ decide (0 ≤ r) = ps.any (fun a=>!hasE a.type a.val (valsE a.type l)) ∧ Ext w w':=by
 have HR:=hid h
 have hl:=hid h.len
 have hnl : n ≤ 9223372036854775807:=by have:=h.cap;have:=h.most;simp only [maxLen] at this;omega
 have HC : ∀ x w',x ∈ ps → Ext w w' → Calls Tryz.prog 96 #[avaV x,.pointer (some ⟨g,0,none⟩)] w' fun e w''=>e = .returned (.bool (!hasE x.type x.val (valsE x.type l))) ∧ Ext w' w'':=fun x w' hxm hxx=>
  named1_any (k.ext hxx) x nm g (hG.ext hxx) (hx x hxm) hv (cell_later h0 _ hxx) (cell_later h1 _ hxx)
 clear h k hG hx hv h0 h1
 generalize hP : (fun a : Ava=>!hasE a.type a.val (valsE a.type l)) = P at *
 have HC2 : ∀ x w',x ∈ ps → Ext w w' → Calls Tryz.prog 96 #[.agg #[.string (str x.type),.string (str x.val)],.pointer (some ⟨g,0,none⟩)] w' fun e w''=>e = .returned (.bool (P x)) ∧ Ext w' w'':=fun x w' hxm hxx=>by rw [← hP];exact HC x w' hxm hxx
 clear hP HC
 go_enter Tryz.func124,Tryz.ntmps124
 go_wp2
 go_loopw [8] (fun i wr=>∃ j : Nat,j ≤ n ∧ i = .int .i64 j ∧ Hid ((ps.take j).any P = false) ∧ Hid (Ext w wr)) (fun i _=>n - (intOf i).toNat)
 case atStart=>exact ⟨0,by omega,rfl,by simp [Hid],Ext.refl w⟩
 case round=>
  obtain ⟨j,hj,rfl,Htk,hx⟩:=hrel
  by_cases hlt : j < n
  ·obtain ⟨b1,o1,x,rfl,hx1,e1,e2⟩:=ava_at (HR.out.ext hx.out) hlt
   have Hg:=hid hx1
   have HCX:=HC2 x
   have HMX:=hid (List.mem_of_getElem? hx1)
   clear hx1 HC2
   obtain ⟨px,hpx⟩ : ∃ b,b = P x:=⟨_,rfl⟩
   rw [← hpx] at HCX
   have HPX:=hid hpx
   clear hpx
   cases px
   all_goals
    go_wp2_with (go_at_call 96;(with_reducible refine (HCX _ HMX.out hx.out).mono ?_);rintro e w1 ⟨rfl,hx1⟩;have HX1:=hid hx1;clear hx1)
    first
     | exact ⟨⟨j + 1,by omega,by go_num,any_take' Htk.out Hg.out HPX.out.symm,hx.out.trans HX1.out⟩,by simp [intOf];omega⟩
     | (go_ret;exact ⟨_,rfl,by rw [any_at' Hg.out HPX.out.symm];exact decide_eq_true (by omega),hx.out.trans HX1.out⟩)
  ·obtain rfl : j = n:=by omega
   go_wp2
   go_ret
   have h9:=Htk.out
   rw [List.take_of_length_le (Nat.le_of_eq hl.out.symm)] at h9
   exact ⟨_,rfl,by rw [h9];rfl,hx.out⟩
theorem containsava_any {S T : Nat → Prop} {A B : Option Addr} {n c m d : Nat} {ps : List Ava} {l : List Att} {w : World} (h : Row Elem.ava S w A n c ps) (k : Row Elem.att T w B m d l) (nm : ByteArray) (g : Nat) (hG : Gl w) (hx : ∀ x ∈ ps,x.type.length ≤ 17 ∧ (typeB x.type).2 ≠ 4 ∧ (typeB x.type).2 ≠ 5) (hv : ∀ a ∈ l,a.vals.length ≤ 8796093022208)
 (h0 : w.cell? ⟨g,0,none⟩ = some (.string nm)) (h1 : w.cell? ⟨g,1,none⟩ = some (.slice B m d)) :
 Calls Tryz.prog 94 #[.slice A n c,.func (.func 96) #[] #[.pointer (some ⟨g,0,none⟩)]] w fun e w'=>
  e = .returned (.bool (ps.any (fun a=>!hasE a.type a.val (valsE a.type l)))) ∧ Ext w w':=by
 have HI:=indexava_any h k nm g hG hx hv h0 h1
 clear h k hG hx hv h0 h1
 generalize ps.any (fun a=>!hasE a.type a.val (valsE a.type l)) = r at *
 go_enter Tryz.func94,Tryz.ntmps94
 go_wp2_with (go_at_call 124;(with_reducible refine HI.mono ?_);rintro e w1 ⟨r1,rfl,hr,hx1⟩;have HRR:=hid hr;have HX1:=hid hx1;clear hr hx1)
 go_ret
 exact ⟨by rw [← HRR.out];rfl,HX1.out⟩
theorem named_any {S : Nat → Prop} {A : Option Addr} {n c : Nat} {l : List Att} {w : World} (h : Row Elem.att S w A n c l) (nm : ByteArray) (hG : Gl w) (hv : ∀ a ∈ l,a.vals.length ≤ 8796093022208) :
 Calls Tryz.prog 55 #[.agg #[.string nm,.slice A n c]] w fun e w'=>e = .returned (.bool (namedE (bys nm) l)) ∧ Ext w w':=by
 have HB0:=hid (Bx.make (Ext.refl w) #[.string nm,.slice A n c] 31)
 have HP:=pairs_any nm _ (hG.ext HB0.out.ext)
 have HOK:=hid (pairs_ok (bys nm))
 have HD : Hid (namedE (bys nm) l = !(pairsS (bys nm)).any fun a=>!hasE a.type a.val (valsE a.type l)):=rfl
 generalize namedE (bys nm) l = r at *
 generalize pairsS (bys nm) = ps at *
 have HC : ∀ A1 n1 c1 w1,Row Elem.ava (fun b=>(w.alloc (.cells #[.string nm,.slice A n c] 31)).heap.size ≤ b) w1 A1 n1 c1 ps → Ext (w.alloc (.cells #[.string nm,.slice A n c] 31)) w1 → Calls Tryz.prog 94 #[.slice A1 n1 c1,.func (.func 96) #[] #[.pointer (some ⟨w.heap.size,0,none⟩)]] w1 fun e w'=>
  e = .returned (.bool (ps.any (fun a=>!hasE a.type a.val (valsE a.type l)))) ∧ Ext w1 w':=fun A1 n1 c1 w1 hr hx=>by
  have hb:=HB0.out.later hx
  exact containsava_any hr (h.ext hb.ext) nm w.heap.size (hG.ext hb.ext) HOK.out hv (hb.cell (i:=0) rfl) (hb.cell (i:=1) rfl)
 have hmf : ∀ (fn : Fn) (first cap : Array Value) (w : World),(Instr.makeFunc fn first cap).run Tryz.prog w = .ok (.func fn first cap) w:=fun _ _ _ _=>rfl
 clear h hG hv
 generalize ps.any (fun a=>!hasE a.type a.val (valsE a.type l)) = q at *
 go_enter Tryz.func55,Tryz.ntmps55
 go_wp2_with (first
  | (go_at_call 95;(with_reducible refine HP.mono ?_);rintro e w1 ⟨A1,n1,c1,rfl,hr1,hx1⟩;have HX1:=hid hx1;have HC1:=HC A1 n1 c1 w1 hr1 hx1;clear hr1 hx1)
  | (go_at_call 94;(with_reducible refine HC1.mono ?_);rintro e w2 ⟨rfl,hx2⟩;have HX2:=hid hx2;clear hx2))
 go_ret
 exact ⟨by rw [HD.out];rfl,HB0.out.ext.trans (HX1.out.trans HX2.out)⟩
end Go.Proofs.YtejdpadhemeldaaGreatDoor
namespace Go.Proofs.YtejdpadhemeldaaGreatDoor
open Go.RowKit
set_option maxRecDepth 100000
theorem flat_setk {k : Nat} : ∀ {vss : List (List Value)} {j r : Nat} {v : List Value} (u : Value),(∀ v ∈ vss,v.length = k) → vss[j]? = some v → r < k → vss.flatten.set (j * k + r) u = (vss.set j (v.set r u)).flatten
 | [],j,r,v,u,_,h,_=>by simp at h
 | a :: l,0,r,v,u,hl,h,hr=>by
  simp at h
  subst h
  rw [Nat.zero_mul,Nat.zero_add,List.flatten_cons,List.set_cons_zero,List.flatten_cons,List.set_append_left _ _ (by rw [hl a (by simp)];exact hr)]
 | a :: l,j + 1,r,v,u,hl,h,hr=>by
  have ih:=flat_setk (vss:=l) (j:=j) (r:=r) (v:=v) u (fun v hv=>hl v (by simp [hv])) (by simpa using h) hr
  have ha:=hl a (by simp)
  rw [List.flatten_cons,List.set_cons_succ,List.flatten_cons,← ih,List.set_append_right _ _ (by rw [ha,Nat.succ_mul];omega),ha]
  congr 2
  rw [Nat.succ_mul];omega
section
variable {S : Nat → Prop} {T : TypeId} {w wr w' : World} {v : Value} {l : List Att} {g n cap : Nat}
theorem GrowM.form {α : Type} {E : Elem α} {L : Option Nat} {l : List α} (h : GrowM E S T L w wr v l) (hl : 0 < l.length) : ∃ g cap,v = .slice (some ⟨g,0,none⟩) l.length cap:=by
 obtain ⟨⟨vss,h1,h2,h3⟩,h4,h5⟩:=h
 rcases h2.2 with ⟨h',h0⟩ | ⟨g,cap,cur,h',hb,hg,hnc,hcm,hcs,htake⟩
 ·omega
 ·exact ⟨g,cap,h'⟩
theorem GrowM.att_at (h : GrowM Elem.att S T none w wr (.slice (some ⟨g,0,none⟩) l.length cap) l) {j : Nat} {x : Att} (hj : l[j]? = some x) :
 ∃ A1 n1 c1,wr.cell? ⟨g,j * 2,none⟩ = some (.string x.type) ∧ wr.cell? ⟨g,j * 2 + 1,none⟩ = some (.slice A1 n1 c1) ∧ Row Elem.str (outer S (.slice (some ⟨g,0,none⟩) l.length cap) none) wr A1 n1 c1 x.vals:=by
 obtain ⟨⟨vss,h1,h2,h3⟩,h4,h5⟩:=h
 have hjl:=(List.getElem?_eq_some_iff.1 hj).1
 have hv : vss[j]? = some (vss[j]'(by omega)):=List.getElem?_eq_getElem (by omega)
 obtain ⟨A1,n1,c1,e,hr⟩:=h3 j _ x hv hj
 have hk : ∀ v ∈ vss,v.length = 2:=fun v hv'=>by
  obtain ⟨i,hi,rfl⟩:=List.mem_iff_getElem.1 hv'
  exact Elem.att.len (h3 i vss[i] (l[i]'(by omega)) (List.getElem?_eq_getElem hi) (List.getElem?_eq_getElem (by omega)))
 refine ⟨A1,n1,c1,?_,?_,hr⟩
 ·rw [World.ownsRow.cellAt (size:=2) h2 (j * 2) (by omega)]
  have:=flatten_at hk hv (j:=0) (u:=.string x.type) (by rw [e];rfl)
  simpa using this
 ·rw [World.ownsRow.cellAt (size:=2) h2 (j * 2 + 1) (by omega)]
  exact flatten_at hk hv (j:=1) (u:=.slice A1 n1 c1) (by rw [e];rfl)
theorem GrowM.thaw {α : Type} {E : Elem α} {l : List α} (h : GrowM E S T none w wr (.slice (some ⟨g,0,none⟩) l.length cap) l) (j : Nat) : wr.frozen? ⟨g,j,none⟩ = false:=by
 obtain ⟨⟨vss,h1,h2,h3⟩,h4,h5⟩:=h
 exact World.ownsRow.frozenAt h2 j
theorem GrowM.putAtt (h : GrowM Elem.att S T none w wr (.slice (some ⟨g,0,none⟩) l.length cap) l) {j : Nat} {x : Att} (hj : l[j]? = some x) {A' : Option Addr} {n' c' : Nat} (hr : Row Elem.str (outer S (.slice (some ⟨g,0,none⟩) l.length cap) none) wr A' n' c' x.vals) :
 GrowM Elem.att S T none w (wr.setCell ⟨g,j * 2 + 1,none⟩ (.slice A' n' c')) (.slice (some ⟨g,0,none⟩) l.length cap) l:=by
 have hlt:=h.lt (b:=g) rfl
 obtain ⟨⟨vss,h1,h2,h3⟩,h4,h5⟩:=h
 have hjl:=(List.getElem?_eq_some_iff.1 hj).1
 have hv : vss[j]? = some (vss[j]'(by omega)):=List.getElem?_eq_getElem (by omega)
 obtain ⟨A1,n1,c1,e,-⟩:=h3 j _ x hv hj
 have hk : ∀ v ∈ vss,v.length = 2:=fun v hv'=>by
  obtain ⟨i,hi,rfl⟩:=List.mem_iff_getElem.1 hv'
  exact Elem.att.len (h3 i vss[i] (l[i]'(by omega)) (List.getElem?_eq_getElem hi) (List.getElem?_eq_getElem (by omega)))
 obtain ⟨k1,k2⟩:=World.ownsRow.stored h2 (j * 2 + 1) (.slice A' n' c')
 rw [flat_setk _ hk hv (by decide)] at k1
 have hkeep : ∀ b,outer S (.slice (some ⟨g,0,none⟩) l.length cap) none b → (wr.setCell ⟨g,j * 2 + 1,none⟩ (.slice A' n' c')).heap[b]? = wr.heap[b]?:=fun b hb=>heap_setCell_other _ _ _ _ (fun e=>hb.2.1 (by rw [e];rfl))
 refine ⟨⟨_,by rw [List.length_set];exact h1,k1,fun i u y hi hy=>?_⟩,h4.setCell hlt.1 _,fun g' hg=>by cases hg⟩
 by_cases hij : j = i
 ·subst hij
  rw [List.getElem?_set_self (by omega)] at hi
  rw [hj] at hy
  injection hi with hi
  injection hy with hy
  subst hi hy
  rw [e]
  exact ⟨A',n',c',rfl,hr.same fun b hb=>hkeep b hb⟩
 ·rw [List.getElem?_set_ne hij] at hi
  exact Elem.att.same (h3 i u y hi hy) fun b hb=>hkeep b hb
end
theorem GrowM.base {α : Type} {E : Elem α} {S : Nat → Prop} {T : TypeId} {w0 w wr : World} {v : Value} {l : List α} (h : GrowM E S T none w wr v l) (hx : Ext w0 w) : GrowM E S T none w0 wr v l:=by
 obtain ⟨⟨vss,h1,h2,h3⟩,h4,h5⟩:=h
 exact ⟨⟨vss,h1,own_base h2 (ext_sz hx),h3⟩,hx.trans h4,fun g hg=>by cases hg⟩
theorem GrowM.other {α : Type} {E : Elem α} {S : Nat → Prop} {T : TypeId} {w wr : World} {v : Value} {l : List α} (h : GrowM E S T none w wr v l) {k : Nat} (hS : ¬ S k) (hv : v.ownBlock ≠ some k) (hk : w.heap.size ≤ k) (i : Nat) (z : Value) : GrowM E S T none w (wr.setCell ⟨k,i,none⟩ z) v l:=by
 obtain ⟨⟨vss,h1,h2,h3⟩,h4,h5⟩:=h
 refine ⟨⟨vss,h1,?_,fun i' u x hi hl=>elem_keep (h3 i' u x hi hl) (fun b hb _=>heap_setCell_other _ _ _ _ (fun e=>hS (by have e2 : b = k:=e;rw [← e2];exact hb.1))) (fun b hb _=>hb)⟩,h4.setCell hk _,fun g hg=>by cases hg⟩
 obtain ⟨q1,q2⟩:=h2
 refine ⟨q1,?_⟩
 rcases q2 with q2 | ⟨k',cap,cur,e1,e2,e3,e4⟩
 ·exact .inl q2
 ·refine .inr ⟨k',cap,cur,e1,e2,?_,e4⟩
  rw [heap_setCell_other _ _ _ _ (fun e=>hv (by rw [e1];exact congrArg some e))]
  exact e3
def CopyESays (S : Nat → Prop) (w : World) (nm : ByteArray) (l : List Att) (e : Ending) (w' : World) : Prop:=∃ A n c,e = .returned (.agg #[.string nm,.slice A n c]) ∧ Row Elem.att (fun b=>S b ∨ w.heap.size ≤ b) w' A n c l ∧ Ext w w'
theorem copy_any {S : Nat → Prop} {A : Option Addr} {n c : Nat} {l : List Att} {w : World} (h : Row Elem.att S w A n c l) (nm : ByteArray) (hl : l.length ≤ 4000000) (hv : ∀ a ∈ l,a.vals.length ≤ 8796093022208) :
 Calls Tryz.prog 19 #[.agg #[.string nm,.slice A n c]] w (CopyESays S w nm l):=by
 have HL:=hid hl
 have HV:=hid hv
 have HB0:=hid (((Bx.make (Ext.refl w) #[.string nm,.slice A n c] 31).later (Ext.alloc _ (.cells #[.string ⟨#[]⟩,.slice none 0 0] 31))))
 have HB1:=hid (Bx.make (Ext.alloc w (.cells #[.string nm,.slice A n c] 31)) #[.string ⟨#[]⟩,.slice none 0 0] 31)
 rw [show (w.alloc (.cells #[.string nm,.slice A n c] 31)).heap.size = w.heap.size + 1 by simp] at HB1
 have HCA : ∀ w',Ext w w' → Calls Tryz.prog 38 #[.slice A n c] w' fun e w''=>∃ v,e = .returned v ∧ GrowM Elem.att (fun b=>S b ∧ b < w.heap.size) 42 none w' w'' v l:=fun w' hx=>attclone_any (h.lt.ext hx) hl
 show Calls _ _ _ _ (fun e w'=>CopyESays S w nm l e w')
 clear h hl hv
 go_enter Tryz.func19,Tryz.ntmps19
 go_wp2_with (go_at_call 38;(with_reducible refine (HCA _ HB0.out.ext).mono ?_);rintro e w2 ⟨v2,rfl,hg2⟩;obtain ⟨ln,hln⟩ : ∃ x,x = l.length:=⟨_,rfl⟩;obtain ⟨A2,c2,hv2,hr2⟩:=hg2.row;rw [← hln] at hv2;subst hv2;have HLN:=hid hln;have HG2:=hid (hg2.mono (S':=fun x=>(S x ∧ x < w.heap.size) ∨ w.heap.size + 2 ≤ x) (fun _ h=>.inl h));have HB2:=hid (HB0.out.later hg2.ext);have HB3:=hid (HB1.out.later hg2.ext);have p1:=HB2.out.cell (i:=1) rfl;have q1:=HB2.out.frozen 1;clear hg2 hr2 hln)
 have hz1 : ((w.alloc (.cells #[.string nm,.slice A n c] 31)).alloc (.cells #[.string ⟨#[]⟩,.slice none 0 0] 31)).heap.size = w.heap.size + 1 + 1:=by simp
 have HLOW : Hid (∀ b,(Value.slice A2 ln c2).ownBlock = some b → w.heap.size + 2 ≤ b):=fun b hb=>by have:=(HG2.out.lt hb).1;omega
 have HGW:=hid ((HG2.out.base HB0.out.ext).other (k:=w.heap.size) (by omega) (HG2.out.low (by omega)) (Nat.le_refl _) 1 (.slice A2 ln c2))
 have HBS:=hid (HB2.out.set1 (.slice A2 ln c2))
 have HBT:=hid (HB3.out.aside (Nat.le_refl _) (by omega) 1 (.slice A2 ln c2))
 have hln : ln ≤ 4000000:=by have h1:=HLN.out;have h2:=HL.out;omega
 clear hz1 HG2
 go_loopw [12] (fun i wr=>∃ j : Nat,j ≤ ln ∧ i = .int .i64 j ∧ Hid (GrowM Elem.att (fun x=>(S x ∧ x < w.heap.size) ∨ w.heap.size + 2 ≤ x) 42 none w wr (.slice A2 ln c2) l) ∧ Hid (Bx w wr w.heap.size 31 #[.string nm,.slice A2 ln c2]) ∧ Hid (Bx w wr (w.heap.size + 1) 31 #[.string ⟨#[]⟩,.slice none 0 0])) (fun i _=>ln - (intOf i).toNat)
 case atStart=>exact ⟨0,by omega,rfl,HGW.out,HBS.out,HBT.out⟩
 case round=>
  obtain ⟨j,hj,rfl,HGR,HBR,HBU⟩:=hrel
  clear p1 q1
  by_cases hlt : j < ln
  ·obtain ⟨g,cap,hvf⟩:=HGR.out.form (by have:=HLN.out;omega)
   obtain rfl:=HLN.out
   injection hvf with y1 y2 y3
   subst y1 y3
   obtain ⟨x,hxj⟩ : ∃ x,l[j]? = some x:=⟨_,List.getElem?_eq_getElem hlt⟩
   obtain ⟨A1,n1,c1,e0,e1,hr1⟩:=HGR.out.att_at hxj
   have HXJ:=hid hxj
   have HR1:=hid hr1
   have HGL:=hid (HLOW.out g rfl)
   have HGT:=hid (HGR.out.lt (b:=g) rfl)
   have HCL : ∀ w',Ext wr w' → Calls Tryz.prog 39 #[.slice A1 n1 c1] w' fun e w''=>∃ A' n' c',e = .returned (.slice A' n' c') ∧ Row Elem.str (fun b=>w'.heap.size ≤ b) w'' A' n' c' x.vals ∧ Ext w' w'':=fun w' hx=>strclone_any (hr1.ext hx) (HV.out x (List.mem_of_getElem? hxj))
   have HB4:=hid (Bx.make HBR.out.ext #[.string x.type,.slice A1 n1 c1] 42)
   clear hxj hr1
   go_wp2
   refine wp_region_planB g (.read 0 (.read 1 (.read 2 (.read 3 (.main 4 (.main 5 (.read 6 (.read 7 (.main 8 .done))))))))) (by kernel_rfl) (by kernel_rfl) ?_
   intro wD hxD
   have XB : Hid (Below g wD wD):=Below.refl _ _
   have HSW : Hid (g ≤ wD.heap.size):=by show _ ≤ _;have h1:=hxD.size;simp only [World.alloc,Array.size_push] at h1;have h2:=HGT.out.2;omega
   have HX1:=hid ((Ext.alloc wr (.cells #[.string x.type,.slice A1 n1 c1] 42)).trans hxD)
   have HB5:=hid (HB4.out.later hxD)
   have HBX:=hid (HBR.out.later HX1.out)
   have hxf : Below g wr wD:=Below.mono HX1.out (by have h2:=HGT.out.2;omega)
   have pe : ∀ w',Below g wD w' → w'.cell? ⟨w.heap.size,1,none⟩ = some (.slice (some ⟨g,0,none⟩) l.length c2):=cell_lb (HBR.out.cell (i:=1) rfl) (by have:=HGL.out;show w.heap.size < g;omega) hxf
   clear hxf e0 e1
   repeat' (first
    | ((first | refine walksB_move rfl rfl ?_ | refine walksB_assign rfl rfl ?_ | refine walksB_skip rfl rfl ?_);simp only [Act.put,Act.eval,evs])
    | (refine walksB_unwanted rfl rfl ?_;simp only [Act.put,evp])
    | (refine walksB_read (v:=?_) rfl rfl (fun w' hE=>?_) ?_;rotate_left 1;(· ((try (have hEx:=Below.trans (Hid.out XB) hE));go_simp;(try go_bits);with_reducible rfl));simp only [Act.put,evp])
    | (refine walksB_main rfl rfl (fun K hK=>?_);(first | (refine wp_load_cell 36 (.tmp 20) rfl ⟨wr.heap.size,1,none⟩ rfl (.slice A1 n1 c1) (HB5.out.cell (i:=1) rfl) (fun _=>by kernel_rfl) ?_));refine hK _ _ (by first | assumption | exact Below.refl _ _ | exact Below.mono (Ext.alloc _ _) (Hid.out HSW) | exact Below.setCell (p:=⟨_,_,_⟩) (Below.refl _ _) (Nat.le_refl _) _) ?_;clear hK K;try simp only [Act.put,evp])
    | (refine walksB_alt ?_ ?_)
    | (refine walksB_main rfl rfl (fun K hK=>?_);go_wp2_with ((go_at_call 39;(with_reducible refine (HCL _ HX1.out).mono ?_);rintro e w5 ⟨A5,n5,c5,rfl,hr5,hx5⟩;have HX5:=hid (HX1.out.trans hx5);have HR5:=hid hr5;have hs5:=Below.mono hx5 (Hid.out HSW);have HG6:=hid (HGR.out.later HX5.out);obtain ⟨A6,n6,c6,-,e6,-⟩:=HG6.out.att_at HXJ.out;have f6:=HG6.out.thaw (j * 2 + 1);clear hr5 hx5;have XB':=hid (Below.trans (Hid.out XB) (hs5));clear XB;have XB:=XB';clear XB'));refine hK _ _ (by first | assumption | exact Below.refl _ _ | exact Below.mono (Ext.alloc _ _) (Hid.out HSW) | exact Below.setCell (p:=⟨_,_,_⟩) (Below.refl _ _) (Nat.le_refl _) _) ?_;clear hK K;try simp only [Act.put,evp]))
   all_goals
    refine walksB_done ?_
    go_wp2
    have hzx:=HX1.out.size
    have hgt:=HGT.out.2
    have hgl:=HGL.out
    refine ⟨⟨j + 1,by omega,by go_num,HG6.out.putAtt HXJ.out (HR5.out.mono fun b _ hb=>?_),(HBR.out.later HX5.out).aside (by omega) (by omega) (j * 2 + 1) _,(HBU.out.later HX5.out).aside (by omega) (by omega) (j * 2 + 1) _⟩,by simp [intOf];omega⟩
    have hb2 : wD.heap.size ≤ b:=hb
    refine ⟨.inr (by omega),fun e=>?_,by simp⟩
    have e2 : some b = some g:=e
    injection e2 with e2
    omega
  ·obtain rfl : j = ln:=by omega
   have n0:=HBR.out.cell (i:=0) rfl
   have n1:=HBR.out.cell (i:=1) rfl
   have r0:=HBU.out.cell (i:=0) rfl
   have r1:=HBU.out.cell (i:=1) rfl
   have f0:=HBU.out.frozen 0
   have f1:=HBU.out.frozen 1
   go_wp2
   (try simp only [Exit.inBlock,Exit.then])
   have HBF:=(HBU.out.set0 (.string nm)).set1 (.slice A2 j c2)
   have hno : (Value.slice A2 j c2).ownBlock ≠ some (w.heap.size + 1):=fun e=>by have:=HLOW.out _ e;omega
   have HGF:=(HGR.out.other (k:=w.heap.size + 1) (by omega) hno (by omega) 0 (.string nm)).other (k:=w.heap.size + 1) (by omega) hno (by omega) 1 (.slice A2 j c2)
   refine ret_cell1 _ rfl rfl HBF Tryz.underlying31 rfl (by kernel_rfl) rfl ?_
   obtain ⟨A9,c9,hv9,hr9⟩:=HGF.row
   injection hv9 with y1 y2 y3
   subst y1 y3
   refine ⟨A2,j,c2,rfl,?_,HBF.ext⟩
   rw [← y2] at hr9
   refine hr9.mono (T:=fun b=>S b ∨ w.heap.size ≤ b) fun b _ hb=>?_
   rcases hb with (hb | hb) | hb
   ·exact .inl hb.1
   ·exact .inr (by omega)
   ·exact .inr hb
end Go.Proofs.YtejdpadhemeldaaGreatDoor
namespace Go.Proofs.YtejdpadhemeldaaGreatDoor
open Go.RowKit
set_option maxRecDepth 100000
theorem judge1_any (ty : ByteArray) (A : Option Addr) (n c : Nat) (w : World) (hn : n ≤ 20) : Calls Tryz.prog 123 #[.agg #[.string ty,.slice A n c]] w fun e w'=>e = .returned (.bool false) ∧ Ext w w':=by
 have tn : decide ((20 : Int) < (n : Int)) = false:=by rw [decide_eq_false_iff_not];omega
 clear hn
 go_enter Tryz.func123,Tryz.ntmps123
 go_wp2
 go_ret
 exact ⟨rfl,Ext.alloc _ _⟩
theorem indexatt_any {S : Nat → Prop} {A : Option Addr} {n c : Nat} {l : List Att} {w : World} (h : Row Elem.att S w A n c l) (h20 : ∀ a ∈ l,a.vals.length ≤ 20) :
 Calls Tryz.prog 146 #[.slice A n c,.func (.func 123) #[] #[]] w fun e w'=>e = .returned (.int .i64 (-1)) ∧ Ext w w':=by
 have HR:=hid h
 have H20:=hid h20
 have hn : n ≤ 9223372036854775807:=by have:=h.cap;have:=h.most;simp only [maxLen] at this;omega
 clear h h20
 go_enter Tryz.func146,Tryz.ntmps146
 go_wp2
 go_loopw [8] (fun i wr=>∃ j : Nat,j ≤ n ∧ i = .int .i64 j ∧ Hid (Ext w wr)) (fun i _=>n - (intOf i).toNat)
 case atStart=>exact ⟨0,by omega,rfl,Ext.refl _⟩
 case round=>
  obtain ⟨j,hj,rfl,hx⟩:=hrel
  by_cases hlt : j < n
  ·obtain ⟨b1,o1,v1,x1,rfl,g1,-,⟨A1,n1,c1,rfl,r1⟩,q1⟩:=(HR.out.ext hx.out).at_ hlt
   have e10:=q1 0 _ rfl
   have e11:=q1 1 _ rfl
   simp only [Elem.att,Nat.add_zero] at e10 e11
   have HJ:=fun w'=>judge1_any x1.type A1 n1 c1 w' (by rw [r1.len];exact H20.out x1 (List.mem_of_getElem? g1))
   clear q1 g1 r1
   go_wp2_with (go_at_call 123;(with_reducible refine (HJ _).mono ?_);rintro e w2 ⟨rfl,hx2⟩;have HX2:=hid (hx.out.trans hx2);clear hx2)
   exact ⟨⟨j + 1,by omega,by go_num,HX2.out⟩,by simp [intOf];omega⟩
  ·obtain rfl : j = n:=by omega
   go_wp2
   go_ret
   exact ⟨rfl,hx.out⟩
theorem judge_ok {S : Nat → Prop} {A : Option Addr} {n c : Nat} {l : List Att} {w : World} (h : Row Elem.att S w A n c l) (nm : ByteArray) (k : Int) (hG : Gl w) (h20 : ∀ a ∈ l,a.vals.length ≤ 20)
 (hc : valsE (bys ⟨#[111,98,106,101,99,116,67,108,97,115,115]⟩) l ≠ []) (hn : namedE (bys nm) l = true) :
 Calls Tryz.prog 90 #[.agg #[.string nm,.slice A n c],.int .i64 k] w fun e w'=>e = .returned (.int .i64 0) ∧ Ext w w':=by
 have hv : ∀ a ∈ l,a.vals.length ≤ 8796093022208:=fun a ha=>by have:=h20 a ha;omega
 have HI : ∀ w',Ext w w' → Calls Tryz.prog 146 #[.slice A n c,.func (.func 123) #[] #[]] w' fun e w''=>e = .returned (.int .i64 (-1)) ∧ Ext w' w'':=fun w' hx=>indexatt_any (h.ext hx) h20
 have HC : ∀ w',Ext w w' → Calls Tryz.prog 122 #[.slice A n c,.func (.func 123) #[] #[]] w' fun e w''=>e = .returned (.bool false) ∧ Ext w' w'':=fun w' hx=>by
  have H:=HI w' hx
  clear HI
  go_enter Tryz.func122,Tryz.ntmps122
  go_wp2_with (go_at_call 146;(with_reducible refine H.mono ?_);rintro e w1 ⟨rfl,hx1⟩;have HX1:=hid hx1;clear hx1)
  go_ret
  exact ⟨rfl,HX1.out⟩
 have HV : ∀ w',Ext w w' → Calls Tryz.prog 47 #[.agg #[.string nm,.slice A n c],.string ⟨#[111,98,106,101,99,116,67,108,97,115,115]⟩] w' (ValsSays w' (bys ⟨#[111,98,106,101,99,116,67,108,97,115,115]⟩) l):=fun w' hx=>values_any (h.ext hx) _ nm (by decide) hv
 unfold ValsSays at HV
 have HN : ∀ w',Ext w w' → Calls Tryz.prog 55 #[.agg #[.string nm,.slice A n c]] w' fun e w''=>e = .returned (.bool true) ∧ Ext w' w'':=fun w' hx=>by have:=named_any (h.ext hx) nm (hG.ext hx) hv;rwa [hn] at this
 have HCL:=hid (List.length_pos_iff.2 hc)
 have HB0:=hid (Bx.make (Ext.refl w) #[.string nm,.slice A n c] 31)
 clear h hG h20 hc hn hv HI
 generalize valsE (bys ⟨#[111,98,106,101,99,116,67,108,97,115,115]⟩) l = vs at *
 go_enter Tryz.func90,Tryz.ntmps90
 go_wp2_with (first
  | (go_at_call 122;(with_reducible refine (HC _ HB0.out.ext).mono ?_);rintro e w1 ⟨rfl,hx1⟩;have HB1:=hid (HB0.out.later hx1);have p0:=HB1.out.cell (i:=0) rfl;have p1:=HB1.out.cell (i:=1) rfl;clear hx1)
  | (go_at_call 47;(with_reducible refine (HV _ HB1.out.ext).mono ?_);rintro e w2 ⟨A2,n2,c2,rfl,hr2,hx2⟩;have tn : ((n2 : Int) == 0) = false:=(by rw [beq_eq_false_iff_ne];have h1:=hr2.len;have h2:=HCL.out;omega);have HB2:=hid (HB1.out.later hx2);have p0:=HB2.out.cell (i:=0) rfl;have p1:=HB2.out.cell (i:=1) rfl;clear hx2 hr2)
  | (go_at_call 55;(with_reducible refine (HN _ HB2.out.ext).mono ?_);rintro e w3 ⟨rfl,hx3⟩;have HB3:=hid (HB2.out.later hx3);clear hx3))
 go_ret
 exact ⟨rfl,HB3.out.ext⟩
theorem done_ok {S : Nat → Prop} {A : Option Addr} {n c : Nat} {l : List Att} {w : World} (h : Row Elem.att S w A n c l) (nm : ByteArray) (k : Int) (hG : Gl w) (h20 : ∀ a ∈ l,a.vals.length ≤ 20) (hl : l.length ≤ 4000000)
 (hc : valsE (bys ⟨#[111,98,106,101,99,116,67,108,97,115,115]⟩) l ≠ []) (hn : namedE (bys nm) l = true) :
 Calls Tryz.prog 51 #[.agg #[.string nm,.slice A n c],.int .i64 k] w fun e w'=>∃ A' n' c',e = .returned (.tuple #[.agg #[.string nm,.slice A' n' c'],.int .i64 0]) ∧ Ext w w':=by
 have HJ : ∀ w',Ext w w' → Calls Tryz.prog 90 #[.agg #[.string nm,.slice A n c],.int .i64 k] w' fun e w''=>e = .returned (.int .i64 0) ∧ Ext w' w'':=fun w' hx=>judge_ok (h.ext hx) nm k (hG.ext hx) h20 hc hn
 have HCP : ∀ w',Ext w w' → Calls Tryz.prog 19 #[.agg #[.string nm,.slice A n c]] w' (CopyESays S w' nm l):=fun w' hx=>copy_any (h.ext hx) nm hl (fun a ha=>by have:=h20 a ha;omega)
 unfold CopyESays at HCP
 have HB0:=hid (((Bx.make (Ext.refl w) #[.string nm,.slice A n c] 31).later (Ext.alloc _ (.cells #[.string ⟨#[]⟩,.slice none 0 0] 31))))
 have HB1:=hid (Bx.make (Ext.alloc w (.cells #[.string nm,.slice A n c] 31)) #[.string ⟨#[]⟩,.slice none 0 0] 31)
 rw [show (w.alloc (.cells #[.string nm,.slice A n c] 31)).heap.size = w.heap.size + 1 by simp] at HB1
 clear h hG h20 hc hn hl
 go_enter Tryz.func51,Tryz.ntmps51
 go_wp2_with (first
  | (go_at_call 90;(with_reducible refine (HJ _ HB0.out.ext).mono ?_);rintro e w1 ⟨rfl,hx1⟩;have HB2:=hid (HB0.out.later hx1);have HB3:=hid (HB1.out.later hx1);have p0:=HB2.out.cell (i:=0) rfl;have p1:=HB2.out.cell (i:=1) rfl;clear hx1)
  | (go_at_call 19;(with_reducible refine (HCP _ HB2.out.ext).mono ?_);rintro e w2 ⟨A2,n2,c2,rfl,-,hx2⟩;have HB4:=hid (HB3.out.later hx2);have r0:=HB4.out.cell (i:=0) rfl;have r1:=HB4.out.cell (i:=1) rfl;have f0:=HB4.out.frozen 0;have f1:=HB4.out.frozen 1;clear hx2))
 (try simp only [Exit.inBlock,Exit.then])
 refine ret_cell_tmp _ rfl rfl ((HB4.out.set0 (.string nm)).set1 (.slice A2 n2 c2)) Tryz.underlying31 rfl (by kernel_rfl) rfl ?_
 exact ⟨A2,n2,c2,rfl,((HB4.out.set0 (.string nm)).set1 (.slice A2 n2 c2)).ext⟩
theorem values_none {S : Nat → Prop} {A : Option Addr} {n c : Nat} {l : List Att} {w : World} (h : Row Elem.att S w A n c l) (nm dn : ByteArray) (hn : nm.size ≤ 4000000) (hne : ∀ a ∈ l,bys a.type ≠ (typeB (bys nm)).1) :
 Calls Tryz.prog 47 #[.agg #[.string dn,.slice A n c],.string nm] w fun e w'=>e = .returned (.slice none 0 0) ∧ Ext w w':=by
 have HT : ∀ w,Calls Tryz.prog 46 #[.string nm] w (TypeSays w (bys nm)):=fun w=>type_any nm w (by simp only [maxLen];omega)
 unfold TypeSays at HT
 have hnl : n ≤ 9223372036854775807:=by have:=h.cap;have:=h.most;simp only [maxLen] at this;omega
 have HR:=hid h
 have HNE : Hid (∀ a ∈ l,a.type ≠ str (typeB (bys nm)).1):=fun a ha e=>hne a ha (by rw [e,bys_str])
 clear h hn hne
 generalize (typeB (bys nm)).1 = t at *
 generalize (typeB (bys nm)).2 = k at *
 generalize str t = ts at *
 go_enter Tryz.func47,Tryz.ntmps47
 go_wp2_with (go_at_call 46;(with_reducible refine (HT _).mono ?_);rintro e w1 ⟨rfl,hx1⟩;have HX1:=hid (Ext.trans (Ext.alloc _ _) hx1);have cB:=((Bx.make (Ext.refl w) #[.string dn,.slice A n c] 31).later hx1).cell (i:=1) rfl;clear hx1)
 go_loopw [17] (fun i wr=>∃ j : Nat,j ≤ n ∧ i = .int .i64 j ∧ Hid (Ext w wr)) (fun i _=>n - (intOf i).toNat)
 case atStart=>exact ⟨0,by omega,rfl,HX1.out⟩
 case round=>
  obtain ⟨j,hj,rfl,hx⟩:=hrel
  by_cases hlt : j < n
  ·obtain ⟨b1,o1,v1,x1,rfl,g1,-,⟨A1,n1,c1,rfl,r1⟩,q1⟩:=(HR.out.ext hx.out).at_ hlt
   have e10:=q1 0 _ rfl
   have e11:=q1 1 _ rfl
   simp only [Elem.att,Nat.add_zero] at e10 e11
   have s1:=str_ne (HNE.out x1 (List.mem_of_getElem? g1))
   clear q1 r1 g1
   go_wp2
   exact ⟨⟨j + 1,by omega,by go_num,hx.out.trans (Ext.alloc _ _)⟩,by simp [intOf];omega⟩
  ·obtain rfl : j = n:=by omega
   go_wp2
   go_ret
   exact ⟨rfl,hx.out⟩
structure StepOk (x : Att) (v : ByteArray) (l l' : List Att) : Prop where
 vals : x.vals = [v]
 ty : ∃ k,typeB (bys x.type) = (bys x.type,k) ∧ k ≠ 4 ∧ k ≠ 5
 size : x.type.size ≤ 17 ∧ ¬ x.type.size = 0
 norm : (normE (bys x.type) (bys v)).2 = 0
 apart : ∀ a ∈ l,bys a.type ≠ bys x.type
 low : ∀ (i j : Nat) a b,i ≤ j → l[i]? = some a → l[j]? = some b → cmpT x.type b < 0 → cmpT x.type a < 0
 put : ∀ i b,PlaceOf x.type l i b → setA l x.type x.vals i b = l'
 few : l.length ≤ 2
def wakeOC : Att:=⟨⟨#[111,98,106,101,99,116,67,108,97,115,115]⟩,[⟨#[111]⟩]⟩
def wakeDC : Att:=⟨⟨#[100,99]⟩,[⟨#[120]⟩]⟩
theorem place_nil {t : ByteArray} {i : Nat} {b : Bool} (h : PlaceOf t [] i b) : i = 0 ∧ b = false:=by
 have h1:=h.le
 simp at h1
 subst h1
 exact ⟨rfl,h.none rfl⟩
theorem step_oc : StepOk wakeOC ⟨#[111]⟩ [] [wakeOC] where
 vals:=rfl
 ty:=⟨(typeB (bys wakeOC.type)).2,by decide +kernel,by decide +kernel,by decide +kernel⟩
 size:=by decide
 norm:=by decide +kernel
 apart:=by simp
 low:=by intro i j a b _ h;simp at h
 put:=by intro i b h;obtain ⟨rfl,rfl⟩:=place_nil h;rfl
 few:=by simp
theorem step_dc : StepOk wakeDC ⟨#[120]⟩ [wakeOC] [wakeDC,wakeOC] where
 vals:=rfl
 ty:=⟨(typeB (bys wakeDC.type)).2,by decide +kernel,by decide +kernel,by decide +kernel⟩
 size:=by decide
 norm:=by decide +kernel
 apart:=by decide
 low:=by
  intro i j a b hij hi hj
  rcases i with _ | i
  ·rcases j with _ | j
   ·simp at hi hj;subst hi hj;exact id
   ·simp at hj
  ·simp at hi
 put:=by
  intro i b h
  have hc : cmpT wakeDC.type wakeOC = 1:=by decide +kernel
  have h0 : i = 0:=by
   rcases i with _ | i
   ·rfl
   ·have:=h.low 0 wakeOC (by omega) rfl
    rw [hc] at this
    omega
  subst h0
  have h1:=(h.here wakeOC rfl).2
  rw [hc] at h1
  have h2 : b = false:=by rw [h1];decide
  subst h2
  rfl
 few:=by simp
def wakeAcc : Nat → List Att
 | 0=>[]
 | 1=>[wakeOC]
 | _=>[wakeDC,wakeOC]
theorem wake_named : namedE [100,99,61,120] [wakeDC,wakeOC] = true:=by decide +kernel
theorem wake_cls : valsE (bys ⟨#[111,98,106,101,99,116,67,108,97,115,115]⟩) [wakeDC,wakeOC] ≠ []:=by decide +kernel
theorem wake_name : codeR (partsB [100,99,61,120]) = 0 ∧ normalS [100,99,61,120] = [100,99,61,120]:=by decide +kernel
theorem wake_step : ∀ j,j < 2 → ∃ x v,[wakeOC,wakeDC][j]? = some x ∧ StepOk x v (wakeAcc j) (wakeAcc (j + 1))
 | 0,_=>⟨_,_,rfl,step_oc⟩
 | 1,_=>⟨_,_,rfl,step_dc⟩
 | j + 2,h=>by omega
theorem make_wake {S : Nat → Prop} {A : Option Addr} {c : Nat} {w : World} (h : Row Elem.att S w A 2 c [wakeOC,wakeDC]) (hG : Gl w) :
 Calls Tryz.prog 28 #[.string ⟨#[100,99,61,120]⟩,.slice A 2 c] w fun e w'=>∃ A' n' c',e = .returned (.tuple #[.agg #[.string ⟨#[100,99,61,120]⟩,.slice A' n' c'],.int .i64 0]) ∧ Ext w w':=by
 have HG:=hid hG
 have HR:=hid h
 have HN : ∀ w,Gl w → Calls Tryz.prog 18 #[.string ⟨#[100,99,61,120]⟩] w fun e w'=>e = .returned (.tuple #[.string ⟨#[100,99,61,120]⟩,.int .i64 0]) ∧ Ext w w':=fun w hG=>by
  have:=dnnormal_any ⟨#[100,99,61,120]⟩ w hG
  unfold NormalSays at this
  rw [show bys ⟨#[100,99,61,120]⟩ = [100,99,61,120] from rfl,wake_name.1,wake_name.2] at this
  exact this
 have HB0:=hid (Bx.make (Ext.refl w) #[.string ⟨#[]⟩,.slice none 0 0] 31)
 clear h hG
 go_enter Tryz.func28,Tryz.ntmps28
 go_wp2_with (go_at_call 18;(with_reducible refine (HN _ (HG.out.ext HB0.out.ext)).mono ?_);rintro e w1 ⟨rfl,hx1⟩;have HB1:=hid (HB0.out.later hx1);clear hx1)
 obtain ⟨g8,hg8⟩ : ∃ x,x = w1.heap.size:=⟨_,rfl⟩
 have HE1:=hid (Bx.make HB1.out.ext #[.string ⟨#[100,99,61,120]⟩,.slice none 0 0] 31)
 have HR1:=hid (HB1.out.later (Ext.alloc w1 (.cells #[.string ⟨#[100,99,61,120]⟩,.slice none 0 0] 31)))
 rw [← hg8] at HE1 ⊢
 have hgl : w.heap.size < g8:=by have:=HB1.out.lt;omega
 have HGL:=hid hgl
 obtain ⟨wb,hwb⟩ : ∃ x,x = w1.alloc (.cells #[.string ⟨#[100,99,61,120]⟩,.slice none 0 0] 31):=⟨_,rfl⟩
 rw [← hwb] at HE1 HR1 ⊢
 clear hg8 hgl hwb HN
 go_loopw [34] (fun i wr=>∃ (j : Nat) (A2 : Option Addr) (n2 c2 : Nat),j ≤ 2 ∧ i = .int .i64 j ∧ Hid (Bx w wr g8 31 #[.string ⟨#[100,99,61,120]⟩,.slice A2 n2 c2]) ∧ Hid (Bx w wr w.heap.size 31 #[.string ⟨#[]⟩,.slice none 0 0]) ∧ Hid (Row Elem.att (fun b=>b ≠ w.heap.size ∧ b ≠ g8) wr A2 n2 c2 (wakeAcc j))) (fun i _=>2 - (intOf i).toNat)
 case atStart=>exact ⟨0,none,0,0,by omega,rfl,HE1.out,HR1.out,Row.nil _ _ _⟩
 case round=>
  obtain ⟨j,A2,n2,c2,hj,rfl,HE,HB,HA2⟩:=hrel
  have e80:=HE.out.cell (i:=0) rfl
  have e81:=HE.out.cell (i:=1) rfl
  by_cases hlt : j < 2
  ·obtain ⟨x,v,hxj,hst⟩:=wake_step j hlt
   obtain ⟨b1,o1,v1,x1,rfl,g1,-,⟨A1,n1,c1,rfl,r1⟩,q1⟩:=HR.out.at_ hlt
   obtain rfl : x1 = x:=by rw [g1] at hxj;injection hxj
   have e10:=cell_later (q1 0 _ rfl) _ HE.out.ext
   have e11:=cell_later (q1 1 _ rfl) _ HE.out.ext
   simp only [Elem.att,Nat.add_zero] at e10 e11
   have R1:=hid r1
   have hn1 : n1 = 1:=by rw [r1.len,hst.vals];rfl
   subst hn1
   have HST:=hid hst
   obtain ⟨kk,hty,hk4,hk5⟩:=hst.ty
   have HT : ∀ w',Calls Tryz.prog 46 #[.string x1.type] w' fun e w''=>e = .returned (.tuple #[.string x1.type,.int .i64 (kk : Int)]) ∧ Ext w' w'':=fun w'=>by
    have:=type_any x1.type w' (by have:=hst.size.1;simp only [maxLen];omega)
    unfold TypeSays at this
    rw [hty] at this
    exact this
   have s2:=emp_nb hst.size.2
   have HVA : ∀ w',Ext wr w' → Calls Tryz.prog 47 #[.agg #[.string ⟨#[100,99,61,120]⟩,.slice A2 n2 c2],.string x1.type] w' fun e w''=>e = .returned (.slice none 0 0) ∧ Ext w' w'':=fun w' hx=>values_none (HA2.out.ext hx) x1.type _ (by have:=hst.size.1;omega) (fun a ha=>by rw [hty];exact hst.apart a ha)
   have HDV : ∀ w',Gl w' → Calls Tryz.prog 48 #[.string x1.type,.string v] w' fun e w''=>(∃ q : ByteArray,e = .returned (.tuple #[.string q,.int .i64 0])) ∧ Ext w' w'':=fun w' hG=>by
    refine (dnvalue_any x1.type v w' hG (by have:=hst.size.1;omega) (by rw [hty];exact hk4) (by rw [hty];exact hk5)).mono fun e w'' hh=>?_
    unfold NormSays at hh
    rw [hst.norm] at hh
    exact ⟨⟨_,hh.1⟩,hh.2⟩
   have HFD : ∀ w',Gl w' → Calls Tryz.prog 49 #[.string x1.type,.slice none 0 0,.string v] w' fun e w''=>(∃ r : Int,e = .returned (.int .i64 r) ∧ decide (0 ≤ r) = false) ∧ Ext w' w'':=fun w' hG=>by
    refine (find_any (Row.nil Elem.str (fun _=>True) w') x1.type v hG (by have:=hst.size.1;omega) (by rw [hty];exact hk4) (by rw [hty];exact hk5)).mono fun e w'' hh=>?_
    obtain ⟨r,h1,h2,h3⟩:=hh
    refine ⟨⟨r,h1,?_⟩,h3⟩
    rw [h2]
    unfold hasE
    simp
   have HE5 : Hid (x1.vals = [v]):=hst.vals
   clear q1 g1 r1 hxj hty hst
   go_wp2_with (first
    | (go_at_call 46;(with_reducible refine (HT _).mono ?_);rintro e w2 ⟨rfl,hx2⟩;have HX2:=hid ((Ext.alloc wr (.cells #[.string x1.type,.slice A1 1 c1] 42)).trans hx2);have HE2:=hid (HE.out.later HX2.out);have HB2:=hid (HB.out.later HX2.out);have HK2:=hid ((Bx.make HE.out.ext #[.string x1.type,.slice A1 1 c1] 42).later hx2);have p1:=HK2.out.cell (i:=1) rfl;have e80:=HE2.out.cell (i:=0) rfl;have e81:=HE2.out.cell (i:=1) rfl;clear hx2)
    | (go_at_call 47;(with_reducible refine (HVA _ HX2.out).mono ?_);rintro e w3 ⟨rfl,hx3⟩;have HX3:=hid (HX2.out.trans hx3);have HE3:=hid (HE2.out.later hx3);have HB3:=hid (HB2.out.later hx3);have HK3:=hid (HK2.out.later hx3);have p1:=HK3.out.cell (i:=1) rfl;clear hx3))
   go_loopw [13,60] (fun u i wr'=>∃ (k : Nat),k ≤ 1 ∧ i = .int .i64 k ∧ Hid (GrowS w3 wr' u (x1.vals.take k)) ∧ (k = 0 → u = .slice none 0 0)) (fun _ i _=>1 - (intOf i).toNat)
   case atStart=>exact ⟨0,by omega,rfl,GrowS.nil (Ext.refl _),fun _=>rfl⟩
   case round=>
    obtain ⟨k,hk,rfl,HGK,hz⟩:=hrel
    have HEK:=hid (HE3.out.later HGK.out.ext)
    have HBK:=hid (HB3.out.later HGK.out.ext)
    by_cases hlt2 : k < 1
    ·obtain rfl : k = 0:=by omega
     obtain rfl:=hz rfl
     clear hz
     obtain ⟨b5,o5,rfl,c5⟩:=(R1.out.ext HEK.out.ext).str_cell (by omega)
     have e5:=c5 0 (by omega)
     rw [HE5.out] at e5
     simp only [List.getElem?_cons_zero,Option.getD_some,Nat.add_zero] at e5
     have HTK : Hid (x1.vals.take 1 = [] ++ [v]):=by show _ = _;rw [HE5.out];rfl
     have HGN : Hid (GrowS w3 wr (.slice none 0 0) []):=by have:=HGK.out;rwa [List.take_zero] at this
     clear c5
     go_wp2_with (first
      | (go_at_call 48;(with_reducible refine (HDV _ (HG.out.ext HEK.out.ext)).mono ?_);rintro e w5 ⟨⟨q,rfl⟩,hx5⟩;have HX5:=hid hx5;clear hx5)
      | (go_at_call 49;(with_reducible refine (HFD _ (HG.out.ext (HEK.out.ext.trans HX5.out))).mono ?_);rintro e w6 ⟨⟨r,rfl,hr⟩,hx6⟩;have HG6:=hid ((HGN.out.later HX5.out).later hx6);clear hx6)
      | (at_builtin;refine append_str1 rfl _ _ rfl _ _ rfl HG6.out rfl (by simp) ?_;intro v7 w7 hg7;have HG7:=hid hg7;clear hg7))
     exact ⟨⟨1,by omega,by go_num,by rw [HTK.out];exact HG7.out,fun h=>by omega⟩,by simp [intOf]⟩
    ·obtain rfl : k = 1:=by omega
     have HTK : Hid (x1.vals.take 1 = x1.vals):=by show _ = _;rw [HE5.out];rfl
     obtain ⟨A4,c4,hv4,hr4⟩:=HGK.out.row
     rw [HTK.out] at hv4 hr4
     subst hv4
     have HSE : Calls Tryz.prog 50 #[.agg #[.string ⟨#[100,99,61,120]⟩,.slice A2 n2 c2],.string x1.type,.slice A4 x1.vals.length c4] wr (SetSays (fun b=>b ≠ w.heap.size ∧ b ≠ g8) wr ⟨#[100,99,61,120]⟩ (wakeAcc j) x1.type x1.vals):=
      set_any (HA2.out.ext (HX3.out.trans HGK.out.ext)) hr4 _ x1.type HST.out.low (by have:=HST.out.few;omega) (by rw [HE5.out];simp)
     unfold SetSays at HSE
     have e80:=HEK.out.cell (i:=0) rfl
     have e81:=HEK.out.cell (i:=1) rfl
     clear hr4 hz
     go_wp2_with (go_at_call 50;(with_reducible refine HSE.mono ?_);rintro e w6 ⟨i6,b6,A6,n6,c6,rfl,hp6,hr6,hx6⟩;rw [HST.out.put _ _ hp6] at hr6;have HR6:=hid hr6;have HE6:=hid (HEK.out.later hx6);have HB6:=hid (HBK.out.later hx6);have q0:=HE6.out.cell (i:=0) rfl;have q1:=HE6.out.cell (i:=1) rfl;have f0:=HE6.out.frozen 0;have f1:=HE6.out.frozen 1;clear hp6 hr6 hx6 e80 e81)
     have hne : w.heap.size ≠ g8:=by have:=HGL.out;omega
     have hle : w.heap.size ≤ g8:=by have:=HGL.out;omega
     have hlk:=HEK.out.lt
     have hlb:=HBK.out.lt
     refine ⟨⟨j + 1,A6,n6,c6,by omega,by go_num,(HE6.out.set0 (.string ⟨#[100,99,61,120]⟩)).set1 (.slice A6 n6 c6),(HB6.out.aside hle hne 0 _).aside hle hne 1 _,?_⟩,by simp [intOf];omega⟩
     refine (HR6.out.same (w':=_) fun b hb=>?_).mono fun b _ hb=>?_
     ·have hn2 : b ≠ g8:=by rcases hb with hb | hb;(exact hb.2);(have h3 : wr.heap.size ≤ b:=hb;omega)
      rw [heap_setCell_other _ _ _ _ hn2,heap_setCell_other _ _ _ _ hn2]
     ·rcases hb with hb | hb
      ·exact hb
      ·have h3 : wr.heap.size ≤ b:=hb
       exact ⟨by omega,by omega⟩
  ·obtain rfl : j = 2:=by omega
   have HDN : ∀ w',Ext wr w' → Calls Tryz.prog 51 #[.agg #[.string ⟨#[100,99,61,120]⟩,.slice A2 n2 c2],.int .i64 64] w' fun e w''=>∃ A' n' c',e = .returned (.tuple #[.agg #[.string ⟨#[100,99,61,120]⟩,.slice A' n' c'],.int .i64 0]) ∧ Ext w' w'':=fun w' hx=>
    done_ok (HA2.out.ext hx) ⟨#[100,99,61,120]⟩ 64 (HG.out.ext (HB.out.ext.trans hx)) (by decide) (by decide) wake_cls wake_named
   go_wp2_with (go_at_call 51;(with_reducible refine (HDN _ (Ext.refl _)).mono ?_);rintro e w5 ⟨A5,n5,c5,rfl,hx5⟩;have HB5:=hid (HB.out.later hx5);have r0:=HB5.out.cell (i:=0) rfl;have r1:=HB5.out.cell (i:=1) rfl;have f0:=HB5.out.frozen 0;have f1:=HB5.out.frozen 1;clear hx5)
   (try simp only [Exit.inBlock,Exit.then])
   refine ret_cell_tmp _ rfl rfl ((HB5.out.set0 (.string ⟨#[100,99,61,120]⟩)).set1 (.slice A5 n5 c5)) Tryz.underlying31 rfl (by kernel_rfl) rfl ?_
   exact ⟨A5,n5,c5,rfl,((HB5.out.set0 (.string ⟨#[100,99,61,120]⟩)).set1 (.slice A5 n5 c5)).ext⟩
end Go.Proofs.YtejdpadhemeldaaGreatDoor
namespace Go.Proofs.YtejdpadhemeldaaGreatDoor
open Go.RowKit
open Go.Maps Go.MapKept
set_option maxRecDepth 100000
theorem Row.lit2 {α : Type} {E : Elem α} {w : World} {vss : List (List Value)} {l : List α} (h : ∀ (i : Nat) v x,vss[i]? = some v → l[i]? = some x → E.R (fun _=>True) w v x) (hl : vss.length = l.length) (hm : l.length ≤ maxLen) (t : TypeId) :
 Row E (fun _=>True) (w.alloc (.cells vss.flatten.toArray t)) (some ⟨w.heap.size,0,none⟩) l.length l.length l:=by
 have hx : Ext w (w.alloc (.cells vss.flatten.toArray t)):=Ext.alloc _ _
 refine ⟨rfl,Nat.le_refl _,hm,vss,hl,.inr ⟨w.heap.size,0,rfl,trivial,fun j u hj=>?_⟩,fun i v x hi hxx=>?_⟩
 ·rw [Nat.zero_add,cell_of_row _ _ j vss.flatten.toArray t (0,0) (heap_alloc_new w _)]
  simpa using hj
 ·exact (E.same (E.mono (h i v x hi hxx) (T:=fun b=>True ∧ b < w.heap.size) (fun b hb _=>⟨trivial,hb⟩)) fun b hb=>hx.block b hb.2) |> fun q=>E.mono q fun _ _ _=>trivial
theorem above_root (p : Option Addr) (w : World) : Calls Tryz.prog 29 #[.pointer p,.string ⟨#[]⟩] w fun e w'=>e = .returned (.int .i64 0) ∧ Ext w w':=by
 go_enter Tryz.func29,Tryz.ntmps29
 go_wp2
 go_ret
 exact ⟨rfl,Ext.refl _⟩
theorem len_empty {w : World} {B : Nat} (hb : w.heap[B]? = some (.map #[] 0)) : (Builtin.len_ #[51] 3 #[.map (some B)]).run Tryz.prog w = .ok (.int .i64 0) w:=by
 have:=MapKept.run_getObj_map (P:=Tryz.prog) hb
 simp [Builtin.len_,run_underlying Tryz.underlying51,this,Result.andThen]
 rfl
theorem wake_parent : parentS [100,99,61,120] = ([],true):=by decide +kernel
theorem tadd_wake {S : Nat → Prop} {A : Option Addr} {c : Nat} {w : World} (h : Row Elem.att S w A 2 c [wakeOC,wakeDC]) (hG : Gl w) (g B : Nat) (hg : w.heap[g]? = some (.cells #[.map (some B)] 53 (0,0))) (hb : w.heap[B]? = some (.map #[] 0)) :
 Calls Tryz.prog 14 #[.pointer (some ⟨g,0,none⟩),.string ⟨#[100,99,61,120]⟩,.slice A 2 c] w fun e w'=>e = .returned (.int .i64 0) ∧ ∃ es clock,w'.heap[B]? = some (.map es clock) ∧ es.size = 1 ∧ w.grownBy w' (some B):=by
 have HMK:=make_wake h hG
 have HG:=hid hG
 have HGG:=hid hg
 have HGB:=hid hb
 have hgl:=row_lt hg
 have hbl : B < w.heap.size:=(Array.getElem?_eq_some_iff.1 hb).1
 have HGL:=hid hgl
 have HBL:=hid hbl
 have HPA : ∀ w',Gl w' → Calls Tryz.prog 23 #[.string ⟨#[100,99,61,120]⟩] w' fun e w''=>e = .returned (.tuple #[.string ⟨#[]⟩,.bool true]) ∧ Ext w' w'':=fun w' hG=>by
  have:=dnparent_any ⟨#[100,99,61,120]⟩ w' hG
  unfold ParentSays at this
  rw [show bys ⟨#[100,99,61,120]⟩ = [100,99,61,120] from rfl,wake_parent] at this
  exact this
 clear h hG hg hb hgl hbl
 go_enter Tryz.func14,Tryz.ntmps14
 go_wp2_with (go_at_call 28;(with_reducible refine HMK.mono ?_);rintro e w1 ⟨A2,n2,c2,rfl,hx1⟩;have HX1:=hid hx1;have HB1:=hid (Bx.make hx1 #[.string ⟨#[100,99,61,120]⟩,.slice A2 n2 c2] 31);clear hx1)
 obtain ⟨S9,hS9⟩ : ∃ S : Nat → Prop,S = fun b=>b < w1.heap.size + 1:=⟨_,rfl⟩
 have HSI : Hid (∀ b,S9 b → b < w1.heap.size + 1):=fun b hb=>by rw [hS9] at hb;exact hb
 have HS1 : Hid (S9 w1.heap.size):=by show S9 _;rw [hS9];show _ < _;omega
 have HS2 : Hid (S9 g):=by show S9 _;rw [hS9];show _ < _;have h1:=HX1.out.size;have h2:=HGL.out;omega
 have HS3 : Hid (S9 B):=by show S9 _;rw [hS9];show _ < _;have h1:=HX1.out.size;have h2:=HBL.out;omega
 obtain ⟨PR,hPR⟩ : ∃ p,p = Pre.same S9:=⟨_,rfl⟩
 have HPS : Hid (∀ w w',Same S9 w w' → PR.r w w'):=fun w w' h=>by rw [hPR];exact h
 have HPT : Hid (∀ w w',PR.r w w' → Same S9 w w'):=fun w w' h=>by rw [hPR] at h;exact h
 clear hPR hS9
 refine wp_region_planR PR (.read 0 (.read 1 (.read 2 (.read 3 (.read 4 (.read 5 (.read 6 (.read 7 (.read 8 (.read 9 (.main 10 (.main 11 (.read 12 .done))))))))))))) (by kernel_rfl) (by kernel_rfl) ?_
 intro wD hxD
 have XR : Hid (PR.r wD wD):=PR.refl _
 have HBD:=hid (HB1.out.later hxD)
 have HGD:=hid (row_later' HGG.out HBD.out.ext)
 have HMD : Hid (wD.heap[B]? = some (.map #[] 0)):=by show _ = _;rw [HBD.out.ext.block B HBL.out];exact HGB.out
 have HSR : Hid (∀ b,S9 b → b < wD.heap.size):=fun b hb=>by have h1:=HSI.out b hb;have h2:=hxD.size;simp only [World.alloc,Array.size_push] at h2;omega
 have HNE : Hid (∀ b,S9 b → b ≠ wD.heap.size):=fun b hb=>by have h1:=HSR.out b hb;omega
 have ce0 : ∀ w',PR.r wD w' → w'.cell? ⟨w1.heap.size,0,none⟩ = some (.string ⟨#[100,99,61,120]⟩):=fun w' hk=>by rw [World.cell?_of_block (HPT.out _ _ hk _ HS1.out)];exact HBD.out.cell (i:=0) rfl
 have cg : ∀ w',PR.r wD w' → w'.cell? ⟨g,0,none⟩ = some (.map (some B)):=fun w' hk=>by rw [World.cell?_of_block (HPT.out _ _ hk _ HS2.out),cell_of_row wD g 0 _ _ (0,0) HGD.out];rfl
 have hlk : ∀ w',PR.r wD w' → (Instr.lookup 51 (.map (some B)) (.string ⟨#[100,99,61,120]⟩) true).run Tryz.prog w' = .ok (.tuple #[.agg #[.string ⟨#[]⟩,.slice none 0 0],.bool false]) w':=fun w' hk=>look_empty (by rw [HPT.out _ _ hk _ HS3.out];exact HMD.out) _ (by decide)
 repeat' (first
  | ((first | refine walksR_move rfl rfl ?_ | refine walksR_assign rfl rfl ?_ | refine walksR_skip rfl rfl ?_);simp only [Act.put,Act.eval,evs])
  | (refine walksR_unwanted rfl rfl ?_;simp only [Act.put,evp])
  | (refine walksR_read (v:=?_) rfl rfl (fun w' hE=>?_) ?_;rotate_left 1;(· ((try (have hEx:=Pre.trans _ (Hid.out XR) hE));go_simp;(try go_bits);with_reducible rfl));simp only [Act.put,evp])
  | (refine walksR_alt ?_ ?_)
  | (refine walksR_main rfl rfl (fun K hK=>?_);go_wp2_with (fail);refine hK _ _ (by first | assumption | exact Pre.refl _ _ | exact Hid.out HPS _ _ (Same.alloc_of (Hid.out HSR) _) | exact Hid.out HPS _ _ (Same.set_of (Hid.out HNE) _) | exact Hid.out HPS _ _ (Same.allocs_of (Hid.out HSR) _ _)) ?_;clear hK K;try simp only [Act.put,evp]))
 all_goals
  refine walksR_done ?_
  have HB2:=hid (HBD.out.later (Ext.alloc wD (.cells #[.string ⟨#[]⟩,.slice none 0 0] 31)))
  have p0:=HB2.out.cell (i:=0) rfl
  clear XR cg ce0 hlk
  go_wp2_with (first
   | (go_at_call 23;(with_reducible refine (HPA _ (HG.out.ext HB2.out.ext)).mono ?_);rintro e w5 ⟨rfl,hx5⟩;have HB3:=hid (HB2.out.later hx5);clear hx5)
   | (go_at_call 29;(with_reducible refine (above_root (some ⟨g,0,none⟩) _).mono ?_);rintro e w6 ⟨rfl,hx6⟩;have HB4:=hid (HB3.out.later hx6);have HG6:=hid (row_later' HGG.out HB4.out.ext);have HM6 : Hid (w6.heap[B]? = some (.map #[] 0)):=(by (show _ = _);rw [HB4.out.ext.block B HBL.out];exact HGB.out);have cg:=cell_of_row w6 g 0 _ _ (0,0) HG6.out;have hlen:=len_empty HM6.out;have q0:=HB4.out.cell (i:=0) rfl;have q1:=HB4.out.cell (i:=1) rfl;have HST:=tset_any g B ⟨#[100,99,61,120]⟩ A2 n2 c2 w6 (by decide) HG6.out HM6.out;unfold PutSays at HST;clear hx6)
   | (go_at_call 30;(with_reducible refine HST.mono ?_);rintro e w7 ⟨rfl,es,clock,h1,h2,h3⟩;have H1:=hid h1;have H2:=hid h2;have H3:=hid h3;clear h1 h2 h3))
  go_ret
  have h3:=H3.out
  have hx:=HB4.out.ext
  exact ⟨rfl,es,clock,H1.out,H2.out,⟨h3.os.trans hx.os,h3.tape.trans hx.tape,h3.output.trans hx.output,Nat.le_trans hx.size h3.size,fun k hk hn=>(h3.block k (Nat.lt_of_lt_of_le hk hx.size) hn).trans (hx.block k hk)⟩⟩
theorem wake_rows {w1 w2 w3 w4 : World} (e2 : w2 = w1.alloc (.cells #[.string ⟨#[111]⟩] 9)) (e3 : w3 = w2.alloc (.cells #[.string ⟨#[120]⟩] 9))
 (e4 : w4 = w3.alloc (.cells #[.string ⟨#[111,98,106,101,99,116,67,108,97,115,115]⟩,.slice (some ⟨w1.heap.size,0,none⟩) 1 1,.string ⟨#[100,99]⟩,.slice (some ⟨w1.heap.size + 1,0,none⟩) 1 1] 42)) :
 Ext w1 w4 ∧ Row Elem.att (fun _=>True) w4 (some ⟨w1.heap.size + 1 + 1,0,none⟩) 2 2 [wakeOC,wakeDC]:=by
 have s2 : w2.heap.size = w1.heap.size + 1:=by rw [e2];simp
 have x2 : Ext w1 w2:=by rw [e2];exact Ext.alloc _ _
 have s3 : w3.heap.size = w1.heap.size + 1 + 1:=by rw [e3];simp [s2]
 have x3 : Ext w2 w3:=by rw [e3];exact Ext.alloc _ _
 have x4 : Ext w3 w4:=by rw [e4];exact Ext.alloc _ _
 have r1 : Row Elem.str (fun _=>True) w2 (some ⟨w1.heap.size,0,none⟩) 1 1 [⟨#[111]⟩]:=by rw [e2];exact Row.one (E:=Elem.str) (S:=fun _=>True) (v:=[.string ⟨#[111]⟩]) rfl _
 have r2 : Row Elem.str (fun _=>True) w3 (some ⟨w1.heap.size + 1,0,none⟩) 1 1 [⟨#[120]⟩]:=by rw [e3,← s2];exact Row.one (E:=Elem.str) (S:=fun _=>True) (v:=[.string ⟨#[120]⟩]) rfl _
 have q1:=r1.ext x3
 refine ⟨x2.trans (x3.trans x4),?_⟩
 rw [e4,← s3]
 refine Row.lit2 (E:=Elem.att) (vss:=[[.string ⟨#[111,98,106,101,99,116,67,108,97,115,115]⟩,.slice (some ⟨w1.heap.size,0,none⟩) 1 1],[.string ⟨#[100,99]⟩,.slice (some ⟨w1.heap.size + 1,0,none⟩) 1 1]]) (l:=[wakeOC,wakeDC]) (fun i v x hv hx=>?_) rfl (by decide) _
 rcases i with _ | _ | i
 ·simp at hv hx;subst hv hx;exact ⟨_,_,_,rfl,q1⟩
 ·simp at hv hx;subst hv hx;exact ⟨_,_,_,rfl,r2⟩
 ·simp at hv
theorem awake10_any (w : World) (hG : Gl w) : Calls Tryz.prog 4 #[] w fun e w'=>e = .returned (.bool true) ∧ Ext w w':=by
 have HNW:=new_any w
 unfold NewSays at HNW
 have HAD : ∀ (g B : Nat) (A : Option Addr) w1 w4,Ext w w1 → Ext w1 w4 ∧ Row Elem.att (fun _=>True) w4 A 2 2 [wakeOC,wakeDC] → w1.heap[g]? = some (.cells #[.map (some B)] 53 (0,0)) → w1.heap[B]? = some (.map #[] 0) →
  Calls Tryz.prog 14 #[.pointer (some ⟨g,0,none⟩),.string ⟨#[100,99,61,120]⟩,.slice A 2 2] w4 fun e w'=>e = .returned (.int .i64 0) ∧ ∃ es clock,w'.heap[B]? = some (.map es clock) ∧ es.size = 1 ∧ w4.grownBy w' (some B):=
  fun g B A w1 w4 hx hh hg hb=>tadd_wake hh.2 (hG.ext (hx.trans hh.1)) g B (row_later' hg hh.1) (by rw [hh.1.block B (Array.getElem?_eq_some_iff.1 hb).1];exact hb)
 clear hG
 go_enter Tryz.func4,Tryz.ntmps4
 go_wp2_with (first
  | (go_at_call 13;(with_reducible refine HNW.mono ?_);rintro e w1 ⟨g,B,rfl,hg,hb,hB,hgB,hx1⟩;have HX1:=hid hx1;have HGT:=hid hg;have HMB:=hid hb;have HBW:=hid hB;have HGB:=hid hgB;clear hg hb hB hgB hx1)
  | (go_at_call 14;(with_reducible refine (HAD g B _ w1 _ HX1.out (wake_rows rfl rfl rfl) HGT.out HMB.out).mono ?_);rintro e w5 ⟨rfl,es,clock,h1,h2,h3⟩;have HXW:=hid ((wake_rows (w1:=w1) rfl rfl rfl).1);have H3:=hid h3;have HG5 : Hid (w5.heap[g]? = some (.cells #[.map (some B)] 53 (0,0))):=(by (show _ = _);rw [h3.block g (Nat.lt_of_lt_of_le (row_lt HGT.out) HXW.out.size) (fun e=>by injection e with e;have:=HGB.out;omega)];exact row_later' HGT.out HXW.out);have HLN:=hid (len_any g B es clock w5 HG5.out h1 h2);clear h1 h2 h3)
  | (go_at_call 15;(with_reducible refine HLN.out.mono ?_);rintro e w6 ⟨rfl,hx6⟩;have HX6:=hid hx6;clear hx6))
 go_ret
 refine ⟨rfl,?_⟩
 have hx4:=HX1.out.trans HXW.out
 have h3:=H3.out
 have hx5 : Ext w w5:=Below.grown hx4 h3 hx4.size (fun k hk=>by injection hk with hk;have:=HBW.out;omega)
 exact hx5.trans HX6.out
end Go.Proofs.YtejdpadhemeldaaGreatDoor
namespace Go.Proofs.YtejdpadhemeldaaGreatDoor
open Go.RowKit
set_option maxRecDepth 100000
theorem sametexts_any {S T : Nat → Prop} {A B : Option Addr} {n c m d : Nat} {l r : List ByteArray} {w : World} (h : Row Elem.str S w A n c l) (k : Row Elem.str T w B m d r) :
 Calls Tryz.prog 10 #[.slice A n c,.slice B m d] w fun e w'=>e = .returned (.bool (decide (l = r))) ∧ Ext w w':=by
 have hl:=hid h.len
 have kl:=hid k.len
 have hnl : n ≤ 9223372036854775807:=by have:=h.cap;have:=h.most;simp only [maxLen] at this;omega
 have hml : m ≤ 9223372036854775807:=by have:=k.cap;have:=k.most;simp only [maxLen] at this;omega
 by_cases hnm : n = m
 ·subst hnm
  have kl2:=kl
  clear kl
  go_enter Tryz.func10,Tryz.ntmps10
  go_wp2
  go_loopw [13] (fun i wr=>∃ j : Nat,j ≤ n ∧ i = .int .i64 j ∧ Hid (l.take j = r.take j) ∧ Hid (Ext w wr)) (fun i _=>n - (intOf i).toNat)
  case atStart=>exact ⟨0,by omega,rfl,by simp [Hid],Ext.refl w⟩
  case round=>
   obtain ⟨j,hj,rfl,Htk,hx⟩:=hrel
   by_cases hlt : j < n
   ·obtain ⟨b1,o1,rfl,c1⟩:=(h.ext hx.out).str_cell (by omega)
    obtain ⟨b2,o2,rfl,c2⟩:=(k.ext hx.out).str_cell (by omega)
    have e1:=c1 j hlt
    have e2:=c2 j hlt
    clear c1 c2
    have g1 : l[j]? = some (l[j]?.getD ByteArray.empty):=by have:=hl.out;rw [List.getElem?_eq_getElem (by omega)];simp
    have g2 : r[j]? = some (r[j]?.getD ByteArray.empty):=by have:=kl2.out;rw [List.getElem?_eq_getElem (by omega)];simp
    have Hg:=hid (And.intro g1 g2)
    clear g1 g2
    generalize l[j]?.getD ByteArray.empty = x1 at *
    generalize r[j]?.getD ByteArray.empty = x2 at *
    by_cases he : x1 = x2
    ·have He:=hid he
     have Hne:=str_eq he
     clear he
     go_wp2
     refine wp_region_plan (.read 0 (.read 1 (.read 2 (.read 3 (.read 4 (.read 5 (.read 6 (.read 7 (.read 8 .done))))))))) (by kernel_rfl) (by kernel_rfl) ?_
     intro wD hxD
     have c1:=cell_later (cell_later e1 _ hxD)
     have c2:=cell_later (cell_later e2 _ hxD)
     repeat' (first
      | ((first | refine walks_move rfl rfl ?_ | refine walks_assign rfl rfl ?_ | refine walks_skip rfl rfl ?_);simp only [Act.put,Act.eval,evs])
      | (refine walks_unwanted rfl rfl ?_;simp only [Act.put,evp])
      | (refine walks_read (v:=?_) rfl rfl (fun w' hE=>?_) ?_;rotate_left 1;(· ((try (have hEx:=Ext.trans (Hid.out XE) hE));go_simp;(try go_bits);with_reducible rfl));simp only [Act.put,evp])
      | (refine walks_alt ?_ ?_)
      | (refine walks_main rfl rfl (fun K hK=>?_);go_wp2_with (fail);refine hK _ _ (by first | assumption | exact Ext.alloc _ _ | exact Ext.refl _) ?_;clear hK K;try simp only [Act.put,evp]))
     refine walks_done ?_
     go_wp2
     refine ⟨⟨j + 1,by omega,by go_num,?_,hx.out.trans hxD⟩,by simp [intOf];omega⟩
     show _ = _
     rw [List.take_add_one,List.take_add_one,Htk.out,Hg.out.1,Hg.out.2,He.out]
    ·have He:=hid he
     have Hne:=str_ne he
     clear he
     go_wp2
     refine wp_region_plan (.read 0 (.read 1 (.read 2 (.read 3 (.read 4 (.read 5 (.read 6 (.read 7 (.read 8 .done))))))))) (by kernel_rfl) (by kernel_rfl) ?_
     intro wD hxD
     have c1:=cell_later (cell_later e1 _ hxD)
     have c2:=cell_later (cell_later e2 _ hxD)
     repeat' (first
      | ((first | refine walks_move rfl rfl ?_ | refine walks_assign rfl rfl ?_ | refine walks_skip rfl rfl ?_);simp only [Act.put,Act.eval,evs])
      | (refine walks_unwanted rfl rfl ?_;simp only [Act.put,evp])
      | (refine walks_read (v:=?_) rfl rfl (fun w' hE=>?_) ?_;rotate_left 1;(· ((try (have hEx:=Ext.trans (Hid.out XE) hE));go_simp;(try go_bits);with_reducible rfl));simp only [Act.put,evp])
      | (refine walks_alt ?_ ?_)
      | (refine walks_main rfl rfl (fun K hK=>?_);go_wp2_with (fail);refine hK _ _ (by first | assumption | exact Ext.alloc _ _ | exact Ext.refl _) ?_;clear hK K;try simp only [Act.put,evp]))
     refine walks_done ?_
     go_wp2
     go_ret
     refine ⟨?_,hx.out.trans hxD⟩
     rw [decide_eq_false (fun e=>by subst e;exact He.out (Option.some.inj (Hg.out.1.symm.trans Hg.out.2)))]
     rfl
   ·obtain rfl : j = n:=by omega
    go_wp2
    go_ret
    refine ⟨?_,hx.out⟩
    rw [decide_eq_true (take_eq_all hl.out kl2.out Htk.out)]
    rfl
 ·have hne : ((n : Int) != (m : Int)) = true:=by rw [bne_iff_ne];omega
  have hfin : Hid (decide (l = r) = false):=by
   show _ = _
   rw [decide_eq_false]
   intro e
   subst e
   have:=hl.out
   have:=kl.out
   omega
  clear hnm
  go_enter Tryz.func10,Tryz.ntmps10
  go_wp2
  go_ret
  exact ⟨by rw [hfin.out];rfl,Ext.refl w⟩
theorem att_eq {a b : Att} : a = b ↔ a.type = b.type ∧ a.vals = b.vals:=by
 obtain ⟨t,v⟩:=a
 obtain ⟨u,x⟩:=b
 simp
instance : DecidableEq Att:=fun _ _=>decidable_of_iff _ att_eq.symm
theorem ret_bool {a b : Bool} (h : a = b) : Ending.returned (.bool b) = .returned (.bool a):=by rw [h]
theorem att_dec (a b : Att) : decide (a = b) = (decide (a.type = b.type) && decide (a.vals = b.vals)):=by
 rw [Bool.eq_iff_iff];simp [att_eq]
theorem rsameatts_any {S T : Nat → Prop} {A B : Option Addr} {n c m d : Nat} {l r : List Att} {w : World} (h : Row Elem.att S w A n c l) (k : Row Elem.att T w B m d r) :
 Calls Tryz.prog 22 #[.slice A n c,.slice B m d] w fun e w'=>e = .returned (.bool (decide (l = r))) ∧ Ext w w':=by
 have hl:=hid h.len
 have kl:=hid k.len
 have hnl : n ≤ 9223372036854775807:=by have:=h.cap;have:=h.most;simp only [maxLen] at this;omega
 have hml : m ≤ 9223372036854775807:=by have:=k.cap;have:=k.most;simp only [maxLen] at this;omega
 by_cases hnm : n = m
 ·subst hnm
  have kl2:=kl
  clear kl
  go_enter Tryz.func22,Tryz.ntmps22
  go_wp2
  go_loopw [13] (fun i wr=>∃ j : Nat,j ≤ n ∧ i = .int .i64 j ∧ Hid (l.take j = r.take j) ∧ Hid (Ext w wr)) (fun i _=>n - (intOf i).toNat)
  case atStart=>exact ⟨0,by omega,rfl,by simp [Hid],Ext.refl w⟩
  case round=>
   obtain ⟨j,hj,rfl,Htk,hx⟩:=hrel
   by_cases hlt : j < n
   ·obtain ⟨b1,o1,v1,x1,rfl,g1,_,⟨A1,n1,c1,rfl,r1⟩,q1⟩:=(h.ext hx.out).at_ hlt
    obtain ⟨b2,o2,v2,x2,rfl,g2,_,⟨A2,n2,c2,rfl,r2⟩,q2⟩:=(k.ext hx.out).at_ hlt
    have e10:=q1 0 _ rfl;have e11:=q1 1 _ rfl;have e20:=q2 0 _ rfl;have e21:=q2 1 _ rfl
    clear q1 q2
    simp only [Elem.att,Nat.add_zero] at e10 e11 e20 e21
    have Hg:=hid (And.intro g1 g2)
    clear g1 g2
    have hd:=hid (att_dec x1 x2)
    by_cases ht : x1.type = x2.type
    ·have f1:=str_eq ht
     by_cases hv : x1.vals = x2.vals
     ·have Hd:=hid (decide_eq_true hv)
      have Hx : Hid (x1 = x2):=att_eq.2 ⟨ht,hv⟩
      clear ht hv
      go_wp2
      refine wp_region_plan (.read 0 (.read 1 (.read 2 (.read 3 (.read 4 (.read 5 (.read 6 (.read 7 (.read 8 (.read 9 (.read 10 (.read 11 (.read 12 (.read 13 (.read 14 (.read 15 (.read 16 (.read 17 (.read 18 (.read 19 (.read 20 (.read 21 (.main 22 (.read 23 (.read 24 .done))))))))))))))))))))))))) (by kernel_rfl) (by kernel_rfl) ?_
      intro wD hxD
      have c10:=cell_later (cell_later e10 _ hxD);have c11:=cell_later (cell_later e11 _ hxD);have c20:=cell_later (cell_later e20 _ hxD);have c21:=cell_later (cell_later e21 _ hxD)
      repeat' (first
       | ((first | refine walks_move rfl rfl ?_ | refine walks_assign rfl rfl ?_ | refine walks_skip rfl rfl ?_);simp only [Act.put,Act.eval,evs])
       | (refine walks_unwanted rfl rfl ?_;simp only [Act.put,evp])
       | (refine walks_read (v:=?_) rfl rfl (fun w' hE=>?_) ?_;rotate_left 1;(· ((try (have hEx:=Ext.trans (Hid.out XE) hE));go_simp;(try go_bits);with_reducible rfl));simp only [Act.put,evp])
       | (refine walks_alt ?_ ?_)
       | (refine walks_main rfl rfl (fun K hK=>?_);go_wp2_with ((go_at_call 10;(with_reducible refine (sametexts_any (r1.ext hxD) (r2.ext hxD)).mono ?_);rintro e w1 ⟨he,hx1⟩;rw [Hd.out] at he;subst he));refine hK _ _ (by first | assumption | exact Ext.alloc _ _ | exact Ext.refl _) ?_;clear hK K;try simp only [Act.put,evp]))
      refine walks_done ?_
      go_wp2
      refine ⟨⟨j + 1,by omega,by go_num,?_,hx.out.trans (hxD.trans hx1)⟩,by simp [intOf];omega⟩
      show _ = _
      rw [List.take_add_one,List.take_add_one,Htk.out,Hg.out.1,Hg.out.2,Hx.out]
     ·have Hd:=hid (decide_eq_false hv)
      have Hx : Hid (¬ x1 = x2):=fun e=>hv (att_eq.1 e).2
      clear ht hv
      go_wp2
      refine wp_region_plan (.read 0 (.read 1 (.read 2 (.read 3 (.read 4 (.read 5 (.read 6 (.read 7 (.read 8 (.read 9 (.read 10 (.read 11 (.read 12 (.read 13 (.read 14 (.read 15 (.read 16 (.read 17 (.read 18 (.read 19 (.read 20 (.read 21 (.main 22 (.read 23 (.read 24 .done))))))))))))))))))))))))) (by kernel_rfl) (by kernel_rfl) ?_
      intro wD hxD
      have c10:=cell_later (cell_later e10 _ hxD);have c11:=cell_later (cell_later e11 _ hxD);have c20:=cell_later (cell_later e20 _ hxD);have c21:=cell_later (cell_later e21 _ hxD)
      repeat' (first
       | ((first | refine walks_move rfl rfl ?_ | refine walks_assign rfl rfl ?_ | refine walks_skip rfl rfl ?_);simp only [Act.put,Act.eval,evs])
       | (refine walks_unwanted rfl rfl ?_;simp only [Act.put,evp])
       | (refine walks_read (v:=?_) rfl rfl (fun w' hE=>?_) ?_;rotate_left 1;(· ((try (have hEx:=Ext.trans (Hid.out XE) hE));go_simp;(try go_bits);with_reducible rfl));simp only [Act.put,evp])
       | (refine walks_alt ?_ ?_)
       | (refine walks_main rfl rfl (fun K hK=>?_);go_wp2_with ((go_at_call 10;(with_reducible refine (sametexts_any (r1.ext hxD) (r2.ext hxD)).mono ?_);rintro e w1 ⟨he,hx1⟩;rw [Hd.out] at he;subst he));refine hK _ _ (by first | assumption | exact Ext.alloc _ _ | exact Ext.refl _) ?_;clear hK K;try simp only [Act.put,evp]))
      refine walks_done ?_
      go_wp2
      go_ret
      exact ⟨ret_bool (decide_eq_false (fun e=>by subst e;exact Hx.out (Option.some.inj (Hg.out.1.symm.trans Hg.out.2)))),hx.out.trans (hxD.trans hx1)⟩
    ·have f1:=str_ne ht
     have Hx : Hid (¬ x1 = x2):=fun e=>ht (att_eq.1 e).1
     clear ht
     go_wp2
     refine wp_region_plan (.read 0 (.read 1 (.read 2 (.read 3 (.read 4 (.read 5 (.read 6 (.read 7 (.read 8 (.read 9 (.read 10 (.read 11 (.read 12 (.read 13 (.read 14 (.read 15 (.read 16 (.read 17 (.read 18 (.read 19 (.read 20 (.read 21 (.main 22 (.read 23 (.read 24 .done))))))))))))))))))))))))) (by kernel_rfl) (by kernel_rfl) ?_
     intro wD hxD
     have c10:=cell_later (cell_later e10 _ hxD);have c11:=cell_later (cell_later e11 _ hxD);have c20:=cell_later (cell_later e20 _ hxD);have c21:=cell_later (cell_later e21 _ hxD)
     repeat' (first
      | ((first | refine walks_move rfl rfl ?_ | refine walks_assign rfl rfl ?_ | refine walks_skip rfl rfl ?_);simp only [Act.put,Act.eval,evs])
      | (refine walks_unwanted rfl rfl ?_;simp only [Act.put,evp])
      | (refine walks_read (v:=?_) rfl rfl (fun w' hE=>?_) ?_;rotate_left 1;(· ((try (have hEx:=Ext.trans (Hid.out XE) hE));go_simp;(try go_bits);with_reducible rfl));simp only [Act.put,evp])
      | (refine walks_alt ?_ ?_)
      | (refine walks_main rfl rfl (fun K hK=>?_);go_wp2_with (fail);refine hK _ _ (by first | assumption | exact Ext.alloc _ _ | exact Ext.refl _) ?_;clear hK K;try simp only [Act.put,evp]))
     refine walks_done ?_
     go_wp2
     go_ret
     exact ⟨ret_bool (decide_eq_false (fun e=>by subst e;exact Hx.out (Option.some.inj (Hg.out.1.symm.trans Hg.out.2)))),hx.out.trans hxD⟩
   ·obtain rfl : j = n:=by omega
    go_wp2
    go_ret
    exact ⟨ret_bool (decide_eq_true (take_eq_all hl.out kl2.out Htk.out)),hx.out⟩
 ·have hne : ((n : Int) != (m : Int)) = true:=by rw [bne_iff_ne];omega
  have hfin : Hid (decide (l = r) = false):=by
   refine decide_eq_false fun e=>?_
   subst e
   have:=hl.out
   have:=kl.out
   omega
  clear hnm
  go_enter Tryz.func22,Tryz.ntmps22
  go_wp2
  go_ret
  exact ⟨ret_bool hfin.out,Ext.refl w⟩
theorem ent_eq {a b : Ent} : a = b ↔ a.name = b.name ∧ a.atts = b.atts:=by
 obtain ⟨t,v⟩:=a
 obtain ⟨u,x⟩:=b
 simp
instance : DecidableEq Ent:=fun _ _=>decidable_of_iff _ ent_eq.symm
theorem ent_dec (a b : Ent) : decide (a = b) = (decide (a.name = b.name) && decide (a.atts = b.atts)):=by
 rw [Bool.eq_iff_iff];simp [ent_eq]
theorem rsame_any {S T : Nat → Prop} {a b : Ent} {A B : Option Addr} {n c m d : Nat} {w : World} (h : Row Elem.att S w A n c a.atts) (k : Row Elem.att T w B m d b.atts) :
 Calls Tryz.prog 9 #[.agg #[.string a.name,.slice A n c],.agg #[.string b.name,.slice B m d]] w fun e w'=>e = .returned (.bool (decide (a = b))) ∧ Ext w w':=by
 have hd:=hid (ent_dec a b)
 by_cases he : a.name = b.name
 ·have hf:=hid (show decide (a = b) = decide (a.atts = b.atts) by rw [hd.out,decide_eq_true he,Bool.true_and])
  have hs:=str_eq he
  clear he
  go_enter Tryz.func9,Tryz.ntmps9
  go_wp2_with (go_at_call 22;(with_reducible refine (rsameatts_any (h.ext ((Ext.alloc _ _).trans (Ext.alloc _ _))) (k.ext ((Ext.alloc _ _).trans (Ext.alloc _ _)))).mono ?_);rintro e w1 ⟨rfl,hx1⟩)
  go_ret
  exact ⟨ret_bool hf.out,((Ext.alloc _ _).trans (Ext.alloc _ _)).trans hx1⟩
 ·have hf:=hid (show decide (a = b) = false by rw [hd.out,decide_eq_false he,Bool.false_and])
  have hs:=str_ne he
  clear he
  go_enter Tryz.func9,Tryz.ntmps9
  go_wp2
  go_ret
  exact ⟨ret_bool hf.out,(Ext.alloc _ _).trans (Ext.alloc _ _)⟩
theorem errStar : "*" ++ "errors.errorString" = "*errors.errorString" := by decide
theorem errRow (u : TypeId) (h : Tryz.prog.typeName? 3 u = some "*errors.errorString") : u = 248:=
 typeName_ptr_named (nm := "errors.errorString") (by rw [errStar];kernel_rfl) (by kernel_rfl) (by decide) u (by rw [errStar];exact h)
theorem pow_eq : (Rows.laid_internal_strconv_uint64pow10 : DataW Unit) = Lib.tabData .u64 Lib.pow10Tab:=by kernel_rfl
theorem gl_of_laid {W : World} (h : laidMetH Tryz.prog Rows.treeLooksUptoRow.laid W) (hs : W.ShapedOpen Tryz.prog) : Gl W:=by
 rw [MakeChecks.laidMetH_plain _ _ _ (by kernel_rfl)] at h
 have h2 : laidMet Tryz.prog (("internal/strconv.uint64pow10", Lib.tabData .u64 Lib.pow10Tab) :: Rows.treeLooksUptoRow.laid.drop 3) W:=by
  have:=h.tail.tail
  rw [← pow_eq]
  exact this
 have h4 : laidMet Tryz.prog (("strconv.ErrRange", .iface "*errors.errorString" (.ptr (.agg [.lit (.string [118,97,108,117,101,32,111,117,116,32,111,102,32,114,97,110,103,101])]))) :: Rows.treeLooksUptoRow.laid.drop 5) W:=h2.tail.tail
 have h5 : laidMet Tryz.prog (("strconv.ErrSyntax", .iface "*errors.errorString" (.ptr (.agg [.lit (.string [105,110,118,97,108,105,100,32,115,121,110,116,97,120])]))) :: Rows.treeLooksUptoRow.laid.drop 6) W:=h4.tail
 obtain ⟨a0,s0,hv0,-,-,-⟩:=laid_sentinel h4 gRng (by kernel_rfl) Tryz.underlying110 errRow Tryz.underlying248 Tryz.underlying250 rfl rfl Tryz.underlying9 (by kernel_rfl) (by kernel_rfl)
 obtain ⟨a1,s1,hv1,-,-,-⟩:=laid_sentinel h5 gSyn (by kernel_rfl) Tryz.underlying110 errRow Tryz.underlying248 Tryz.underlying250 rfl rfl Tryz.underlying9 (by kernel_rfl) (by kernel_rfl)
 refine ⟨?_,⟨_,_,hv1⟩,⟨_,_,hv0⟩,?_⟩
 ·exact cell_of_shapedOpen_int (t:=3) (k:=.i64) (zero:=#[.int .i64 0]) hs (of_decide_eq_true (by kernel_rfl)) (by kernel_rfl) rfl (by kernel_rfl) (by kernel_rfl) Tryz.underlying3
 ·exact Lib.tabIs_of_head gPow (by kernel_rfl) Tryz.underlying241 Tryz.underlying125 (by kernel_rfl) (by kernel_rfl) h2
theorem acc_eq : (Rows.laid_unicode_utf8_acceptRanges : DataW Unit) = Lib.acceptData:=by kernel_rfl
theorem ug_of_laid {W : World} (h : laidMetH Tryz.prog Rows.treeLooksUptoRow.laid W) : Ug W:=by
 rw [MakeChecks.laidMetH_plain _ _ _ (by kernel_rfl)] at h
 have h3 : Lib.VarReads Tryz.prog W "unicode/utf8.first" Lib.firstData:=by
  rw [← Pinned.utf8First_eq]
  exact Lib.laidMet.reads h (show (("unicode/utf8.first", Rows.laid_unicode_utf8_first) : String × DataW Unit) ∈ Rows.treeLooksUptoRow.laid from .tail _ (.tail _ (.tail _ (.tail _ (.tail _ (.tail _ (.head _)))))))
 have h4 : Lib.VarReads Tryz.prog W "unicode/utf8.acceptRanges" Lib.acceptData:=by
  rw [← acc_eq]
  exact Lib.laidMet.reads h (show (("unicode/utf8.acceptRanges", Rows.laid_unicode_utf8_acceptRanges) : String × DataW Unit) ∈ Rows.treeLooksUptoRow.laid from .tail _ (.tail _ (.tail _ (.head _))))
 exact utf8Tabs_of_reads Tryz.lays260 ⟨by kernel_rfl,by kernel_rfl,by kernel_rfl,by kernel_rfl,by kernel_rfl,by kernel_rfl,by kernel_rfl⟩ h3 h4
theorem gu_of_laid {W : World} (h : laidMetH Tryz.prog Rows.treeLooksUptoRow.laid W) (hs : W.ShapedOpen Tryz.prog) : Gu W:=⟨gl_of_laid h hs,ug_of_laid h⟩
end Go.Proofs.YtejdpadhemeldaaGreatDoor
