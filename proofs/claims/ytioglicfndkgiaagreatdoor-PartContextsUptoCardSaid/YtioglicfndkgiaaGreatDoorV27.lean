/- Lemmas of the walk. -/
import Derived.Test.YtioglicfndkgiaaGreatDoorV25
import Derived.Test.YtioglicfndkgiaaGreatDoorV14
import Derived.Test.YtioglicfndkgiaaGreatDoorV13
import Derived.Test.YtioglicfndkgiaaGreatDoorV01
import Derived.Test.YtioglicfndkgiaaGreatDoorV24
import Derived.Test.YtioglicfndkgiaaGreatDoorV23
import Derived.BigQuiet
import Derived.Deep.QuietTactic
import Derived.Test.YtioglicfndkgiaaGreatDoorV22
set_option maxHeartbeats 40000000
set_option linter.unusedVariables false
set_option linter.unusedSimpArgs false
namespace Go.Proofs.YtioglicfndkgiaaGreatDoor
open Go.RowKit
set_option maxRecDepth 100000
def zf5 (nm : List UInt8) : List Ava:=match okL (za4 nm) with | []=>[] | p :: _=>p
theorem znO (nm : ByteArray) (w : World) (hG : Gl w) : Calls Tryz.prog 94 #[.string nm] w fun e w'=>∃ A n c,e = .returned (.slice A n c) ∧ Row Elem.ava (fun b=>w.heap.size ≤ b) w' A n c (zf5 (bys nm)) ∧ Ext w w':=by
 have HP:=zg4 nm w hG
 unfold zlF at HP
 have HD : Hid (zf5 (bys nm) = match okL (za4 (bys nm)) with | []=>[] | p :: _=>p):=rfl
 generalize okL (za4 (bys nm)) = l at *
 generalize zaD (za4 (bys nm)) = cd at *
 generalize zf5 (bys nm) = q at *
 clear hG
 cases l with
 | nil=>
  simp only at HD
  go_enter Tryz.func94,Tryz.ntmps94
  go_wp2_with (go_at_call 75;(with_reducible refine HP.mono ?_);rintro e w1 ⟨A1,n1,c1,rfl,hr1,hx1⟩;have HX1:=hid hx1;obtain rfl : n1 = 0:=hr1.len;clear hr1 hx1)
  go_ret
  exact ⟨none,0,0,rfl,by rw [HD.out];exact Row.nil _ _ _,HX1.out.trans (Ext.alloc _ _)⟩
 | cons p rest=>
  simp only at HD
  go_enter Tryz.func94,Tryz.ntmps94
  go_wp2_with (go_at_call 75;(with_reducible refine HP.mono ?_);rintro e w1 ⟨A1,n1,c1,rfl,hr1,hx1⟩;have HX1:=hid hx1;have hl1 : n1 = rest.length + 1:=hr1.len;have tl1 : ((n1 : Int) == 0) = false:=(by rw [beq_eq_false_iff_ne];omega);have tl3 : 0 < n1:=(by omega);obtain ⟨b1,o1,v1,x1,rfl,g1,-,⟨A2,n2,c2,rfl,hr2⟩,q1⟩:=hr1.at_ (i:=0) (by omega);obtain rfl : x1 = p:=(by simpa using g1.symm);have e1:=q1 0 _ rfl;simp only [Elem.part,Elem.slc,Nat.zero_mul,Nat.add_zero] at e1;have e2:=zaa e1 _ (Ext.alloc w1 (.cells #[.slice (some ⟨b1,o1,none⟩) n1 c1] 120));have HR2:=hid hr2;clear hx1 hr1 hl1 g1 q1 hr2)
  go_ret
  exact ⟨A2,n2,c2,rfl,by rw [HD.out];exact HR2.out.ext (Ext.alloc _ _),HX1.out.trans (Ext.alloc _ _)⟩
def ze0 (nm : List UInt8) (l : List Att) : Bool:=!(zf5 nm).any fun a=>!hasE a.type a.val (zbv a.type l)
theorem zpK (nm : List UInt8) : ∀ a ∈ zf5 nm,a.type.length ≤ 17 ∧ (zas a.type).2 ≠ 4 ∧ (zas a.type).2 ≠ 5:=by
 intro a ha
 unfold zf5 at ha
 cases hp : za4 nm with
 | error er=>rw [hp] at ha;simp [okL] at ha
 | ok l=>
  rw [hp] at ha
  cases l with
  | nil=>simp [okL] at ha
  | cons p rest=>
   simp only [okL] at ha
   have hf:=zdY hp p (by simp)
   have h1:=zcK hf a ha
   refine ⟨zd0 hf a ha,?_⟩
   unfold zbD at h1
   simp only [Bool.and_eq_true,Bool.or_eq_true,decide_eq_true_eq] at h1
   omega
theorem zma {S : Nat → Prop} {A : Option Addr} {n c : Nat} {l : List Att} {w : World} (h : Row Elem.att S w A n c l) (x : Ava) (nm : ByteArray) (g : Nat) (hG : Gl w) (hx : x.type.length ≤ 17 ∧ (zas x.type).2 ≠ 4 ∧ (zas x.type).2 ≠ 5) (hv : ∀ a ∈ l,a.vals.length ≤ 8796093022208)
 (h0 : w.cell? ⟨g,0,none⟩ = some (.string nm)) (h1 : w.cell? ⟨g,1,none⟩ = some (.slice A n c)) :
 Calls Tryz.prog 95 #[avaV x,.pointer (some ⟨g,0,none⟩)] w fun e w'=>e = .returned (.bool (!hasE x.type x.val (zbv x.type l))) ∧ Ext w w':=by
 have HH : ∀ w',Ext w w' → Calls Tryz.prog 26 #[.agg #[.string nm,.slice A n c],.string (str x.type),.string (str x.val)] w' fun e w''=>e = .returned (.bool (hasE x.type x.val (zbv x.type l))) ∧ Ext w' w'':=fun w' hxx=>by
  have:=zqJ (h.ext hxx) (str x.type) nm (str x.val) (hG.ext hxx) (by rw [zaI];omega) (by rw [zao];exact hx.2.1) (by rw [zao];exact hx.2.2) hv
  rwa [zao,zao] at this
 have e0:=zaa h0 _ (Ext.alloc w (.cells #[.string (str x.type),.string (str x.val)] 151))
 have e1:=zaa h1 _ (Ext.alloc w (.cells #[.string (str x.type),.string (str x.val)] 151))
 clear h hG hx hv h0 h1
 generalize hasE x.type x.val (zbv x.type l) = r at *
 unfold avaV
 go_enter Tryz.func95,Tryz.ntmps95
 go_wp2_with (go_at_call 26;(with_reducible refine (HH _ (Ext.alloc _ _)).mono ?_);rintro e w1 ⟨rfl,hx1⟩;have HX1:=hid ((Ext.alloc _ _).trans hx1);clear hx1)
 go_ret
 exact ⟨by cases r <;> rfl,HX1.out⟩
theorem zjv {S T : Nat → Prop} {A B : Option Addr} {n c m d : Nat} {ps : List Ava} {l : List Att} {w : World} (h : Row Elem.ava S w A n c ps) (k : Row Elem.att T w B m d l) (nm : ByteArray) (g : Nat) (hG : Gl w) (hx : ∀ x ∈ ps,x.type.length ≤ 17 ∧ (zas x.type).2 ≠ 4 ∧ (zas x.type).2 ≠ 5) (hv : ∀ a ∈ l,a.vals.length ≤ 8796093022208)
 (h0 : w.cell? ⟨g,0,none⟩ = some (.string nm)) (h1 : w.cell? ⟨g,1,none⟩ = some (.slice B m d)) :
 Calls Tryz.prog 118 #[.slice A n c,.func (.func 95) #[] #[.pointer (some ⟨g,0,none⟩)]] w fun e w'=>
  ∃ r : Int,e = .returned (.int .i64 r) ∧ decide (0 ≤ r) = ps.any (fun a=>!hasE a.type a.val (zbv a.type l)) ∧ Ext w w':=by
 have HR:=hid h
 have hl:=hid h.len
 have hnl : n ≤ 9223372036854775807:=by have:=h.cap;have:=h.most;simp only [maxLen] at this;omega
 have HC : ∀ x w',x ∈ ps → Ext w w' → Calls Tryz.prog 95 #[avaV x,.pointer (some ⟨g,0,none⟩)] w' fun e w''=>e = .returned (.bool (!hasE x.type x.val (zbv x.type l))) ∧ Ext w' w'':=fun x w' hxm hxx=>
  zma (k.ext hxx) x nm g (hG.ext hxx) (hx x hxm) hv (zaa h0 _ hxx) (zaa h1 _ hxx)
 clear h k hG hx hv h0 h1
 generalize hP : (fun a : Ava=>!hasE a.type a.val (zbv a.type l)) = P at *
 have HC2 : ∀ x w',x ∈ ps → Ext w w' → Calls Tryz.prog 95 #[.agg #[.string (str x.type),.string (str x.val)],.pointer (some ⟨g,0,none⟩)] w' fun e w''=>e = .returned (.bool (P x)) ∧ Ext w' w'':=fun x w' hxm hxx=>by rw [← hP];exact HC x w' hxm hxx
 clear hP HC
 go_enter Tryz.func118,Tryz.ntmps118
 go_wp2
 go_loopw [8] (fun i wr=>∃ j : Nat,j ≤ n ∧ i = .int .i64 j ∧ Hid ((ps.take j).any P = false) ∧ Hid (Ext w wr)) (fun i _=>n - (intOf i).toNat)
 case atStart=>exact ⟨0,by omega,rfl,by simp [Hid],Ext.refl w⟩
 case round=>
  obtain ⟨j,hj,rfl,Htk,hx⟩:=hrel
  by_cases hlt : j < n
  ·obtain ⟨b1,o1,x,rfl,hx1,e1,e2⟩:=zgb (HR.out.ext hx.out) hlt
   have Hg:=hid hx1
   have HCX:=HC2 x
   have HMX:=hid (List.mem_of_getElem? hx1)
   clear hx1 HC2
   obtain ⟨px,hpx⟩ : ∃ b,b = P x:=⟨_,rfl⟩
   rw [← hpx] at HCX
   have HPX:=hid hpx
   clear hpx
   cases px
   all_goals
    go_wp2_with (go_at_call 95;(with_reducible refine (HCX _ HMX.out hx.out).mono ?_);rintro e w1 ⟨rfl,hx1⟩;have HX1:=hid hx1;clear hx1)
    first
     | exact ⟨⟨j + 1,by omega,by go_num,zd3 Htk.out Hg.out HPX.out.symm,hx.out.trans HX1.out⟩,by simp [intOf];omega⟩
     | (go_ret;exact ⟨_,rfl,by rw [zll Hg.out HPX.out.symm];exact decide_eq_true (by omega),hx.out.trans HX1.out⟩)
  ·obtain rfl : j = n:=by omega
   go_wp2
   go_ret
   have h9:=Htk.out
   rw [List.take_of_length_le (Nat.le_of_eq hl.out.symm)] at h9
   exact ⟨_,rfl,by rw [h9];rfl,hx.out⟩
theorem zg7 {S T : Nat → Prop} {A B : Option Addr} {n c m d : Nat} {ps : List Ava} {l : List Att} {w : World} (h : Row Elem.ava S w A n c ps) (k : Row Elem.att T w B m d l) (nm : ByteArray) (g : Nat) (hG : Gl w) (hx : ∀ x ∈ ps,x.type.length ≤ 17 ∧ (zas x.type).2 ≠ 4 ∧ (zas x.type).2 ≠ 5) (hv : ∀ a ∈ l,a.vals.length ≤ 8796093022208)
 (h0 : w.cell? ⟨g,0,none⟩ = some (.string nm)) (h1 : w.cell? ⟨g,1,none⟩ = some (.slice B m d)) :
 Calls Tryz.prog 93 #[.slice A n c,.func (.func 95) #[] #[.pointer (some ⟨g,0,none⟩)]] w fun e w'=>
  e = .returned (.bool (ps.any (fun a=>!hasE a.type a.val (zbv a.type l)))) ∧ Ext w w':=by
 have HI:=zjv h k nm g hG hx hv h0 h1
 clear h k hG hx hv h0 h1
 generalize ps.any (fun a=>!hasE a.type a.val (zbv a.type l)) = r at *
 go_enter Tryz.func93,Tryz.ntmps93
 go_wp2_with (go_at_call 118;(with_reducible refine HI.mono ?_);rintro e w1 ⟨r1,rfl,hr,hx1⟩;have HRR:=hid hr;have HX1:=hid hx1;clear hr hx1)
 go_ret
 exact ⟨by rw [← HRR.out];rfl,HX1.out⟩
theorem znb {S : Nat → Prop} {A : Option Addr} {n c : Nat} {l : List Att} {w : World} (h : Row Elem.att S w A n c l) (nm : ByteArray) (hG : Gl w) (hv : ∀ a ∈ l,a.vals.length ≤ 8796093022208) :
 Calls Tryz.prog 64 #[.agg #[.string nm,.slice A n c]] w fun e w'=>e = .returned (.bool (ze0 (bys nm) l)) ∧ Ext w w':=by
 have HB0:=hid (Bx.make (Ext.refl w) #[.string nm,.slice A n c] 44)
 have HP:=znO nm _ (hG.ext HB0.out.ext)
 have HOK:=hid (zpK (bys nm))
 have HD : Hid (ze0 (bys nm) l = !(zf5 (bys nm)).any fun a=>!hasE a.type a.val (zbv a.type l)):=rfl
 generalize ze0 (bys nm) l = r at *
 generalize zf5 (bys nm) = ps at *
 have HC : ∀ A1 n1 c1 w1,Row Elem.ava (fun b=>(w.alloc (.cells #[.string nm,.slice A n c] 44)).heap.size ≤ b) w1 A1 n1 c1 ps → Ext (w.alloc (.cells #[.string nm,.slice A n c] 44)) w1 → Calls Tryz.prog 93 #[.slice A1 n1 c1,.func (.func 95) #[] #[.pointer (some ⟨w.heap.size,0,none⟩)]] w1 fun e w'=>
  e = .returned (.bool (ps.any (fun a=>!hasE a.type a.val (zbv a.type l)))) ∧ Ext w1 w':=fun A1 n1 c1 w1 hr hx=>by
  have hb:=HB0.out.later hx
  exact zg7 hr (h.ext hb.ext) nm w.heap.size (hG.ext hb.ext) HOK.out hv (hb.cell (i:=0) rfl) (hb.cell (i:=1) rfl)
 have hmf : ∀ (fn : Fn) (first cap : Array Value) (w : World),(Instr.makeFunc fn first cap).run Tryz.prog w = .ok (.func fn first cap) w:=fun _ _ _ _=>rfl
 clear h hG hv
 generalize ps.any (fun a=>!hasE a.type a.val (zbv a.type l)) = q at *
 go_enter Tryz.func64,Tryz.ntmps64
 go_wp2_with (first
  | (go_at_call 94;(with_reducible refine HP.mono ?_);rintro e w1 ⟨A1,n1,c1,rfl,hr1,hx1⟩;have HX1:=hid hx1;have HC1:=HC A1 n1 c1 w1 hr1 hx1;clear hr1 hx1)
  | (go_at_call 93;(with_reducible refine HC1.mono ?_);rintro e w2 ⟨rfl,hx2⟩;have HX2:=hid hx2;clear hx2))
 go_ret
 exact ⟨by rw [HD.out];rfl,HB0.out.ext.trans (HX1.out.trans HX2.out)⟩
end Go.Proofs.YtioglicfndkgiaaGreatDoor
namespace Go.Proofs.YtioglicfndkgiaaGreatDoor
open Go.RowKit
set_option maxRecDepth 100000
theorem zjY {k : Nat} : ∀ {vss : List (List Value)} {j r : Nat} {v : List Value} (u : Value),(∀ v ∈ vss,v.length = k) → vss[j]? = some v → r < k → vss.flatten.set (j * k + r) u = (vss.set j (v.set r u)).flatten
 | [],j,r,v,u,_,h,_=>by simp at h
 | a :: l,0,r,v,u,hl,h,hr=>by
  simp at h
  subst h
  rw [Nat.zero_mul,Nat.zero_add,List.flatten_cons,List.set_cons_zero,List.flatten_cons,List.set_append_left _ _ (by rw [hl a (by simp)];exact hr)]
 | a :: l,j + 1,r,v,u,hl,h,hr=>by
  have ih:=zjY (vss:=l) (j:=j) (r:=r) (v:=v) u (fun v hv=>hl v (by simp [hv])) (by simpa using h) hr
  have ha:=hl a (by simp)
  rw [List.flatten_cons,List.set_cons_succ,List.flatten_cons,← ih,List.set_append_right _ _ (by rw [ha,Nat.succ_mul];omega),ha]
  congr 2
  rw [Nat.succ_mul];omega
section
variable {S : Nat → Prop} {T : TypeId} {w wr w' : World} {v : Value} {l : List Att} {g n cap : Nat}
theorem GrowM.form {α : Type} {E : Elem α} {L : Option Nat} {l : List α} (h : GrowM E S T L w wr v l) (hl : 0 < l.length) : ∃ g cap,v = .slice (some ⟨g,0,none⟩) l.length cap:=by
 obtain ⟨⟨vss,h1,h2,h3⟩,h4,h5⟩:=h
 rcases h2.2 with ⟨h',h0⟩ | ⟨g,cap,cur,h',hb,hg,hnc,hcm,hcs,htake⟩
 ·omega
 ·exact ⟨g,cap,h'⟩
theorem GrowM.att_at (h : GrowM Elem.att S T none w wr (.slice (some ⟨g,0,none⟩) l.length cap) l) {j : Nat} {x : Att} (hj : l[j]? = some x) :
 ∃ A1 n1 c1,wr.cell? ⟨g,j * 2,none⟩ = some (.string x.type) ∧ wr.cell? ⟨g,j * 2 + 1,none⟩ = some (.slice A1 n1 c1) ∧ Row Elem.str (zcy S (.slice (some ⟨g,0,none⟩) l.length cap) none) wr A1 n1 c1 x.vals:=by
 obtain ⟨⟨vss,h1,h2,h3⟩,h4,h5⟩:=h
 have hjl:=(List.getElem?_eq_some_iff.1 hj).1
 have hv : vss[j]? = some (vss[j]'(by omega)):=List.getElem?_eq_getElem (by omega)
 obtain ⟨A1,n1,c1,e,hr⟩:=h3 j _ x hv hj
 have hk : ∀ v ∈ vss,v.length = 2:=fun v hv'=>by
  obtain ⟨i,hi,rfl⟩:=List.mem_iff_getElem.1 hv'
  exact Elem.att.len (h3 i vss[i] (l[i]'(by omega)) (List.getElem?_eq_getElem hi) (List.getElem?_eq_getElem (by omega)))
 refine ⟨A1,n1,c1,?_,?_,hr⟩
 ·rw [World.ownsRow.cellAt (size:=2) h2 (j * 2) (by omega)]
  have:=zb7 hk hv (j:=0) (u:=.string x.type) (by rw [e];rfl)
  simpa using this
 ·rw [World.ownsRow.cellAt (size:=2) h2 (j * 2 + 1) (by omega)]
  exact zb7 hk hv (j:=1) (u:=.slice A1 n1 c1) (by rw [e];rfl)
theorem GrowM.thaw {α : Type} {E : Elem α} {l : List α} (h : GrowM E S T none w wr (.slice (some ⟨g,0,none⟩) l.length cap) l) (j : Nat) : wr.frozen? ⟨g,j,none⟩ = false:=by
 obtain ⟨⟨vss,h1,h2,h3⟩,h4,h5⟩:=h
 exact World.ownsRow.frozenAt h2 j
theorem GrowM.putAtt (h : GrowM Elem.att S T none w wr (.slice (some ⟨g,0,none⟩) l.length cap) l) {j : Nat} {x : Att} (hj : l[j]? = some x) {A' : Option Addr} {n' c' : Nat} (hr : Row Elem.str (zcy S (.slice (some ⟨g,0,none⟩) l.length cap) none) wr A' n' c' x.vals) :
 GrowM Elem.att S T none w (wr.setCell ⟨g,j * 2 + 1,none⟩ (.slice A' n' c')) (.slice (some ⟨g,0,none⟩) l.length cap) l:=by
 have hlt:=h.lt (b:=g) rfl
 obtain ⟨⟨vss,h1,h2,h3⟩,h4,h5⟩:=h
 have hjl:=(List.getElem?_eq_some_iff.1 hj).1
 have hv : vss[j]? = some (vss[j]'(by omega)):=List.getElem?_eq_getElem (by omega)
 obtain ⟨A1,n1,c1,e,-⟩:=h3 j _ x hv hj
 have hk : ∀ v ∈ vss,v.length = 2:=fun v hv'=>by
  obtain ⟨i,hi,rfl⟩:=List.mem_iff_getElem.1 hv'
  exact Elem.att.len (h3 i vss[i] (l[i]'(by omega)) (List.getElem?_eq_getElem hi) (List.getElem?_eq_getElem (by omega)))
 obtain ⟨k1,k2⟩:=World.ownsRow.stored h2 (j * 2 + 1) (.slice A' n' c')
 rw [zjY _ hk hv (by decide)] at k1
 have hkeep : ∀ b,zcy S (.slice (some ⟨g,0,none⟩) l.length cap) none b → (wr.setCell ⟨g,j * 2 + 1,none⟩ (.slice A' n' c')).heap[b]? = wr.heap[b]?:=fun b hb=>heap_setCell_other _ _ _ _ (fun e=>hb.2.1 (by rw [e];rfl))
 refine ⟨⟨_,by rw [List.length_set];exact h1,k1,fun i u y hi hy=>?_⟩,h4.setCell hlt.1 _,fun g' hg=>by cases hg⟩
 by_cases hij : j = i
 ·subst hij
  rw [List.getElem?_set_self (by omega)] at hi
  rw [hj] at hy
  injection hi with hi
  injection hy with hy
  subst hi hy
  rw [e]
  exact ⟨A',n',c',rfl,hr.same fun b hb=>hkeep b hb⟩
 ·rw [List.getElem?_set_ne hij] at hi
  exact Elem.att.same (h3 i u y hi hy) fun b hb=>hkeep b hb
end
theorem GrowM.base {α : Type} {E : Elem α} {S : Nat → Prop} {T : TypeId} {w0 w wr : World} {v : Value} {l : List α} (h : GrowM E S T none w wr v l) (hx : Ext w0 w) : GrowM E S T none w0 wr v l:=by
 obtain ⟨⟨vss,h1,h2,h3⟩,h4,h5⟩:=h
 exact ⟨⟨vss,h1,zgv h2 (zaG hx),h3⟩,hx.trans h4,fun g hg=>by cases hg⟩
theorem GrowM.other {α : Type} {E : Elem α} {S : Nat → Prop} {T : TypeId} {w wr : World} {v : Value} {l : List α} (h : GrowM E S T none w wr v l) {k : Nat} (hS : ¬ S k) (hv : v.ownBlock ≠ some k) (hk : w.heap.size ≤ k) (i : Nat) (z : Value) : GrowM E S T none w (wr.setCell ⟨k,i,none⟩ z) v l:=by
 obtain ⟨⟨vss,h1,h2,h3⟩,h4,h5⟩:=h
 refine ⟨⟨vss,h1,?_,fun i' u x hi hl=>zbi (h3 i' u x hi hl) (fun b hb _=>heap_setCell_other _ _ _ _ (fun e=>hS (by have e2 : b = k:=e;rw [← e2];exact hb.1))) (fun b hb _=>hb)⟩,h4.setCell hk _,fun g hg=>by cases hg⟩
 obtain ⟨q1,q2⟩:=h2
 refine ⟨q1,?_⟩
 rcases q2 with q2 | ⟨k',cap,cur,e1,e2,e3,e4⟩
 ·exact .inl q2
 ·refine .inr ⟨k',cap,cur,e1,e2,?_,e4⟩
  rw [heap_setCell_other _ _ _ _ (fun e=>hv (by rw [e1];exact congrArg some e))]
  exact e3
def zcc (S : Nat → Prop) (w : World) (nm : ByteArray) (l : List Att) (e : Ending) (w' : World) : Prop:=∃ A n c,e = .returned (.agg #[.string nm,.slice A n c]) ∧ Row Elem.att (fun b=>S b ∨ w.heap.size ≤ b) w' A n c l ∧ Ext w w'
theorem zgn {S : Nat → Prop} {A : Option Addr} {n c : Nat} {l : List Att} {w : World} (h : Row Elem.att S w A n c l) (nm : ByteArray) (hl : l.length ≤ 4000000) (hv : ∀ a ∈ l,a.vals.length ≤ 8796093022208) :
 Calls Tryz.prog 38 #[.agg #[.string nm,.slice A n c]] w (zcc S w nm l):=by
 have HL:=hid hl
 have HV:=hid hv
 have HB0:=hid (((Bx.make (Ext.refl w) #[.string nm,.slice A n c] 44).later (Ext.alloc _ (.cells #[.string ⟨#[]⟩,.slice none 0 0] 44))))
 have HB1:=hid (Bx.make (Ext.alloc w (.cells #[.string nm,.slice A n c] 44)) #[.string ⟨#[]⟩,.slice none 0 0] 44)
 rw [show (w.alloc (.cells #[.string nm,.slice A n c] 44)).heap.size = w.heap.size + 1 by simp] at HB1
 have HCA : ∀ w',Ext w w' → Calls Tryz.prog 65 #[.slice A n c] w' fun e w''=>∃ v,e = .returned v ∧ GrowM Elem.att (fun b=>S b ∧ b < w.heap.size) 57 none w' w'' v l:=fun w' hx=>zkt (h.lt.ext hx) hl
 show Calls _ _ _ _ (fun e w'=>zcc S w nm l e w')
 clear h hl hv
 go_enter Tryz.func38,Tryz.ntmps38
 go_wp2_with (go_at_call 65;(with_reducible refine (HCA _ HB0.out.ext).mono ?_);rintro e w2 ⟨v2,rfl,hg2⟩;obtain ⟨ln,hln⟩ : ∃ x,x = l.length:=⟨_,rfl⟩;obtain ⟨A2,c2,hv2,hr2⟩:=hg2.row;rw [← hln] at hv2;subst hv2;have HLN:=hid hln;have HG2:=hid (hg2.mono (S':=fun x=>(S x ∧ x < w.heap.size) ∨ w.heap.size + 2 ≤ x) (fun _ h=>.inl h));have HB2:=hid (HB0.out.later hg2.ext);have HB3:=hid (HB1.out.later hg2.ext);have p1:=HB2.out.cell (i:=1) rfl;have q1:=HB2.out.frozen 1;clear hg2 hr2 hln)
 have hz1 : ((w.alloc (.cells #[.string nm,.slice A n c] 44)).alloc (.cells #[.string ⟨#[]⟩,.slice none 0 0] 44)).heap.size = w.heap.size + 1 + 1:=by simp
 have HLOW : Hid (∀ b,(Value.slice A2 ln c2).ownBlock = some b → w.heap.size + 2 ≤ b):=fun b hb=>by have:=(HG2.out.lt hb).1;omega
 have HGW:=hid ((HG2.out.base HB0.out.ext).other (k:=w.heap.size) (by omega) (HG2.out.low (by omega)) (Nat.le_refl _) 1 (.slice A2 ln c2))
 have HBS:=hid (HB2.out.set1 (.slice A2 ln c2))
 have HBT:=hid (HB3.out.aside (Nat.le_refl _) (by omega) 1 (.slice A2 ln c2))
 have hln : ln ≤ 4000000:=by have h1:=HLN.out;have h2:=HL.out;omega
 clear hz1 HG2
 go_loopw [12] (fun i wr=>∃ j : Nat,j ≤ ln ∧ i = .int .i64 j ∧ Hid (GrowM Elem.att (fun x=>(S x ∧ x < w.heap.size) ∨ w.heap.size + 2 ≤ x) 57 none w wr (.slice A2 ln c2) l) ∧ Hid (Bx w wr w.heap.size 44 #[.string nm,.slice A2 ln c2]) ∧ Hid (Bx w wr (w.heap.size + 1) 44 #[.string ⟨#[]⟩,.slice none 0 0])) (fun i _=>ln - (intOf i).toNat)
 case atStart=>exact ⟨0,by omega,rfl,HGW.out,HBS.out,HBT.out⟩
 case round=>
  obtain ⟨j,hj,rfl,HGR,HBR,HBU⟩:=hrel
  clear p1 q1
  by_cases hlt : j < ln
  ·obtain ⟨g,cap,hvf⟩:=HGR.out.form (by have:=HLN.out;omega)
   obtain rfl:=HLN.out
   injection hvf with y1 y2 y3
   subst y1 y3
   obtain ⟨x,hxj⟩ : ∃ x,l[j]? = some x:=⟨_,List.getElem?_eq_getElem hlt⟩
   obtain ⟨A1,n1,c1,e0,e1,hr1⟩:=HGR.out.att_at hxj
   have HXJ:=hid hxj
   have HR1:=hid hr1
   have HGL:=hid (HLOW.out g rfl)
   have HGT:=hid (HGR.out.lt (b:=g) rfl)
   have HCL : ∀ w',Ext wr w' → Calls Tryz.prog 66 #[.slice A1 n1 c1] w' fun e w''=>∃ A' n' c',e = .returned (.slice A' n' c') ∧ Row Elem.str (fun b=>w'.heap.size ≤ b) w'' A' n' c' x.vals ∧ Ext w' w'':=fun w' hx=>zf0 (hr1.ext hx) (HV.out x (List.mem_of_getElem? hxj))
   have HB4:=hid (Bx.make HBR.out.ext #[.string x.type,.slice A1 n1 c1] 57)
   clear hxj hr1
   go_wp2
   refine zap g (.read 0 (.read 1 (.read 2 (.read 3 (.main 4 (.main 5 (.read 6 (.read 7 (.main 8 .done))))))))) (by kernel_rfl) (by kernel_rfl) ?_
   intro wD hxD
   have XB : Hid (Below g wD wD):=Below.refl _ _
   have HSW : Hid (g ≤ wD.heap.size):=by show _ ≤ _;have h1:=hxD.size;simp only [World.alloc,Array.size_push] at h1;have h2:=HGT.out.2;omega
   have HX1:=hid ((Ext.alloc wr (.cells #[.string x.type,.slice A1 n1 c1] 57)).trans hxD)
   have HB5:=hid (HB4.out.later hxD)
   have HBX:=hid (HBR.out.later HX1.out)
   have hxf : Below g wr wD:=Below.mono HX1.out (by have h2:=HGT.out.2;omega)
   have pe : ∀ w',Below g wD w' → w'.cell? ⟨w.heap.size,1,none⟩ = some (.slice (some ⟨g,0,none⟩) l.length c2):=zqM (HBR.out.cell (i:=1) rfl) (by have:=HGL.out;show w.heap.size < g;omega) hxf
   clear hxf e0 e1
   repeat' (first
    | ((first | refine zaF rfl rfl ?_ | refine zav rfl rfl ?_ | refine walksB_skip rfl rfl ?_);simp only [Act.put,Act.eval,evs])
    | (refine walksB_unwanted rfl rfl ?_;simp only [Act.put,evp])
    | (refine zaA (v:=?_) rfl rfl (fun w' hE=>?_) ?_;rotate_left 1;(· ((try (have hEx:=Below.trans (Hid.out XB) hE));go_simp;(try go_bits);with_reducible rfl));simp only [Act.put,evp])
    | (refine zam rfl rfl (fun K hK=>?_);(first | (refine zbI 55 (.tmp 20) rfl ⟨wr.heap.size,1,none⟩ rfl (.slice A1 n1 c1) (HB5.out.cell (i:=1) rfl) (fun _=>by kernel_rfl) ?_));refine hK _ _ (by first | assumption | exact Below.refl _ _ | exact Below.mono (Ext.alloc _ _) (Hid.out HSW) | exact Below.setCell (p:=⟨_,_,_⟩) (Below.refl _ _) (Nat.le_refl _) _) ?_;clear hK K;try simp only [Act.put,evp])
    | (refine zaJ ?_ ?_)
    | (refine zam rfl rfl (fun K hK=>?_);go_wp2_with ((go_at_call 66;(with_reducible refine (HCL _ HX1.out).mono ?_);rintro e w5 ⟨A5,n5,c5,rfl,hr5,hx5⟩;have HX5:=hid (HX1.out.trans hx5);have HR5:=hid hr5;have hs5:=Below.mono hx5 (Hid.out HSW);have HG6:=hid (HGR.out.later HX5.out);obtain ⟨A6,n6,c6,-,e6,-⟩:=HG6.out.att_at HXJ.out;have f6:=HG6.out.thaw (j * 2 + 1);clear hr5 hx5;have XB':=hid (Below.trans (Hid.out XB) (hs5));clear XB;have XB:=XB';clear XB'));refine hK _ _ (by first | assumption | exact Below.refl _ _ | exact Below.mono (Ext.alloc _ _) (Hid.out HSW) | exact Below.setCell (p:=⟨_,_,_⟩) (Below.refl _ _) (Nat.le_refl _) _) ?_;clear hK K;try simp only [Act.put,evp]))
   all_goals
    refine zaE ?_
    go_wp2
    have hzx:=HX1.out.size
    have hgt:=HGT.out.2
    have hgl:=HGL.out
    refine ⟨⟨j + 1,by omega,by go_num,HG6.out.putAtt HXJ.out (HR5.out.mono fun b _ hb=>?_),(HBR.out.later HX5.out).aside (by omega) (by omega) (j * 2 + 1) _,(HBU.out.later HX5.out).aside (by omega) (by omega) (j * 2 + 1) _⟩,by simp [intOf];omega⟩
    have hb2 : wD.heap.size ≤ b:=hb
    refine ⟨.inr (by omega),fun e=>?_,by simp⟩
    have e2 : some b = some g:=e
    injection e2 with e2
    omega
  ·obtain rfl : j = ln:=by omega
   have n0:=HBR.out.cell (i:=0) rfl
   have n1:=HBR.out.cell (i:=1) rfl
   have r0:=HBU.out.cell (i:=0) rfl
   have r1:=HBU.out.cell (i:=1) rfl
   have f0:=HBU.out.frozen 0
   have f1:=HBU.out.frozen 1
   go_wp2
   (try simp only [Exit.inBlock,Exit.then])
   have HBF:=(HBU.out.set0 (.string nm)).set1 (.slice A2 j c2)
   have hno : (Value.slice A2 j c2).ownBlock ≠ some (w.heap.size + 1):=fun e=>by have:=HLOW.out _ e;omega
   have HGF:=(HGR.out.other (k:=w.heap.size + 1) (by omega) hno (by omega) 0 (.string nm)).other (k:=w.heap.size + 1) (by omega) hno (by omega) 1 (.slice A2 j c2)
   refine zna _ rfl rfl HBF Tryz.underlying44 rfl (by kernel_rfl) rfl ?_
   obtain ⟨A9,c9,hv9,hr9⟩:=HGF.row
   injection hv9 with y1 y2 y3
   subst y1 y3
   refine ⟨A2,j,c2,rfl,?_,HBF.ext⟩
   rw [← y2] at hr9
   refine hr9.mono (T:=fun b=>S b ∨ w.heap.size ≤ b) fun b _ hb=>?_
   rcases hb with (hb | hb) | hb
   ·exact .inl hb.1
   ·exact .inr (by omega)
   ·exact .inr hb
end Go.Proofs.YtioglicfndkgiaaGreatDoor
namespace Go.Proofs.YtioglicfndkgiaaGreatDoor
open Go.RowKit
set_option maxRecDepth 100000
theorem zhw {S T : Nat → Prop} {A B : Option Addr} {n c m d : Nat} {l r : List ByteArray} {w : World} (h : Row Elem.str S w A n c l) (k : Row Elem.str T w B m d r) :
 Calls Tryz.prog 86 #[.slice A n c,.slice B m d] w fun e w'=>e = .returned (.bool (decide (l = r))) ∧ Ext w w':=by
 have hl:=hid h.len
 have kl:=hid k.len
 have hnl : n ≤ 9223372036854775807:=by have:=h.cap;have:=h.most;simp only [maxLen] at this;omega
 have hml : m ≤ 9223372036854775807:=by have:=k.cap;have:=k.most;simp only [maxLen] at this;omega
 by_cases hnm : n = m
 ·subst hnm
  have kl2:=kl
  clear kl
  go_enter Tryz.func86,Tryz.ntmps86
  go_wp2
  go_loopw [13] (fun i wr=>∃ j : Nat,j ≤ n ∧ i = .int .i64 j ∧ Hid (l.take j = r.take j) ∧ Hid (Ext w wr)) (fun i _=>n - (intOf i).toNat)
  case atStart=>exact ⟨0,by omega,rfl,by simp [Hid],Ext.refl w⟩
  case round=>
   obtain ⟨j,hj,rfl,Htk,hx⟩:=hrel
   by_cases hlt : j < n
   ·obtain ⟨b1,o1,rfl,c1⟩:=(h.ext hx.out).str_cell (by omega)
    obtain ⟨b2,o2,rfl,c2⟩:=(k.ext hx.out).str_cell (by omega)
    have e1:=c1 j hlt
    have e2:=c2 j hlt
    clear c1 c2
    have g1 : l[j]? = some (l[j]?.getD ByteArray.empty):=by have:=hl.out;rw [List.getElem?_eq_getElem (by omega)];simp
    have g2 : r[j]? = some (r[j]?.getD ByteArray.empty):=by have:=kl2.out;rw [List.getElem?_eq_getElem (by omega)];simp
    have Hg:=hid (And.intro g1 g2)
    clear g1 g2
    generalize l[j]?.getD ByteArray.empty = x1 at *
    generalize r[j]?.getD ByteArray.empty = x2 at *
    by_cases he : x1 = x2
    ·have He:=hid he
     have Hne:=ze4 he
     clear he
     go_wp2
     refine zac (.read 0 (.read 1 (.read 2 (.read 3 (.read 4 (.read 5 (.read 6 (.read 7 (.read 8 .done))))))))) (by kernel_rfl) (by kernel_rfl) ?_
     intro wD hxD
     have c1:=zaa (zaa e1 _ hxD)
     have c2:=zaa (zaa e2 _ hxD)
     repeat' (first
      | ((first | refine zak rfl rfl ?_ | refine zad rfl rfl ?_ | refine zaj rfl rfl ?_);simp only [Act.put,Act.eval,evs])
      | (refine zab rfl rfl ?_;simp only [Act.put,evp])
      | (refine zag (v:=?_) rfl rfl (fun w' hE=>?_) ?_;rotate_left 1;(· ((try (have hEx:=Ext.trans (Hid.out XE) hE));go_simp;(try go_bits);with_reducible rfl));simp only [Act.put,evp])
      | (refine walks_alt ?_ ?_)
      | (refine zai rfl rfl (fun K hK=>?_);go_wp2_with (fail);refine hK _ _ (by first | assumption | exact Ext.alloc _ _ | exact Ext.refl _) ?_;clear hK K;try simp only [Act.put,evp]))
     refine zah ?_
     go_wp2
     refine ⟨⟨j + 1,by omega,by go_num,?_,hx.out.trans hxD⟩,by simp [intOf];omega⟩
     show _ = _
     rw [List.take_add_one,List.take_add_one,Htk.out,Hg.out.1,Hg.out.2,He.out]
    ·have He:=hid he
     have Hne:=zey he
     clear he
     go_wp2
     refine zac (.read 0 (.read 1 (.read 2 (.read 3 (.read 4 (.read 5 (.read 6 (.read 7 (.read 8 .done))))))))) (by kernel_rfl) (by kernel_rfl) ?_
     intro wD hxD
     have c1:=zaa (zaa e1 _ hxD)
     have c2:=zaa (zaa e2 _ hxD)
     repeat' (first
      | ((first | refine zak rfl rfl ?_ | refine zad rfl rfl ?_ | refine zaj rfl rfl ?_);simp only [Act.put,Act.eval,evs])
      | (refine zab rfl rfl ?_;simp only [Act.put,evp])
      | (refine zag (v:=?_) rfl rfl (fun w' hE=>?_) ?_;rotate_left 1;(· ((try (have hEx:=Ext.trans (Hid.out XE) hE));go_simp;(try go_bits);with_reducible rfl));simp only [Act.put,evp])
      | (refine walks_alt ?_ ?_)
      | (refine zai rfl rfl (fun K hK=>?_);go_wp2_with (fail);refine hK _ _ (by first | assumption | exact Ext.alloc _ _ | exact Ext.refl _) ?_;clear hK K;try simp only [Act.put,evp]))
     refine zah ?_
     go_wp2
     go_ret
     refine ⟨?_,hx.out.trans hxD⟩
     rw [decide_eq_false (fun e=>by subst e;exact He.out (Option.some.inj (Hg.out.1.symm.trans Hg.out.2)))]
     rfl
   ·obtain rfl : j = n:=by omega
    go_wp2
    go_ret
    refine ⟨?_,hx.out⟩
    rw [decide_eq_true (zgN hl.out kl2.out Htk.out)]
    rfl
 ·have hne : ((n : Int) != (m : Int)) = true:=by rw [bne_iff_ne];omega
  have hfin : Hid (decide (l = r) = false):=by
   show _ = _
   rw [decide_eq_false]
   intro e
   subst e
   have:=hl.out
   have:=kl.out
   omega
  clear hnm
  go_enter Tryz.func86,Tryz.ntmps86
  go_wp2
  go_ret
  exact ⟨by rw [hfin.out];rfl,Ext.refl w⟩
def zcR (x y : List (List UInt8)) : Option (List (List UInt8)):=if y.length ≤ x.length ∧ x.drop (x.length - y.length) = y then some (x.take (x.length - y.length)) else none
def zeh (S : Nat → Prop) (w : World) (x y : List (List UInt8)) (e : Ending) (w' : World) : Prop:=
 ∃ A n c,e = .returned (.tuple #[.slice A n c,.bool (zcR x y).isSome]) ∧ Row Elem.str S w' A n c (strs ((zcR x y).getD [])) ∧ Ext w w'
theorem zlI {a b : List (List UInt8)} : strs a = strs b ↔ a = b:=⟨fun h=>by rw [← zc0 a,h,zc0],fun h=>by rw [h]⟩
theorem zpQ {S T : Nat → Prop} {A B : Option Addr} {n c m d : Nat} {x y : List (List UInt8)} {w : World} (h : Row Elem.str S w A n c (strs x)) (k : Row Elem.str T w B m d (strs y)) :
 Calls Tryz.prog 58 #[.slice A n c,.slice B m d] w (zeh S w x y):=by
 have hx : n = x.length:=by rw [h.len,List.length_map]
 have hy : m = y.length:=by rw [k.len,List.length_map]
 have hn : n ≤ 9223372036854775807:=by have:=h.cap;have:=h.most;simp only [maxLen] at this;omega
 have hm : m ≤ 9223372036854775807:=by have:=k.cap;have:=k.most;simp only [maxLen] at this;omega
 have HR:=hid h
 have HK:=hid k
 have HD : Hid (zcR x y = if y.length ≤ x.length ∧ x.drop (x.length - y.length) = y then some (x.take (x.length - y.length)) else none):=rfl
 rw [← hx,← hy] at HD
 by_cases hlt : n < m
 ·have t1 : (n : Int) - (m : Int) < 0:=by omega
  have HF : Hid (zcR x y = none):=by show _ = _;rw [HD.out,if_neg (fun h=>by omega)]
  clear hx hy h k HD
  go_enter Tryz.func58,Tryz.ntmps58
  go_wp2
  go_ret2
  exact ⟨none,0,0,by rw [HF.out];rfl,by rw [HF.out];exact Row.nil _ _ _,Ext.refl _⟩
 ·obtain ⟨q,hq⟩ : ∃ q,q = n - m:=⟨_,rfl⟩
  have t0 : (n : Int) - (m : Int) = (q : Int):=by omega
  have t1 : ¬ (q : Int) < 0:=by omega
  have hs1:=zlC A n c q (by omega)
  have hs2:=ziO A n c q (by have:=h.cap;omega)
  have HT:=hid (h.tail (k:=q) (by omega))
  have HH:=hid (h.head (k:=q) (by omega))
  have HQ : ∀ w',Ext w w' → Calls Tryz.prog 86 #[.slice (cutA A q c 1) (n - q) (c - q),.slice B m d] w' fun e w''=>e = .returned (.bool (decide (x.drop q = y))) ∧ Ext w' w'':=fun w' hx=>by
   have:=zhw (HT.out.ext hx) (HK.out.ext hx)
   have e : decide ((strs x).drop q = strs y) = decide (x.drop q = y):=by
    have e2 : (strs x).drop q = strs (x.drop q):=by rw [← List.map_drop]
    rw [e2,Bool.eq_iff_iff,decide_eq_true_eq,decide_eq_true_eq,zlI]
   rw [e] at this
   exact this
  rw [← hq] at HD
  by_cases he : x.drop q = y
  ·have HF : Hid (zcR x y = some (x.take q)):=by show _ = _;rw [HD.out,if_pos ⟨by omega,he⟩]
   rw [decide_eq_true he] at HQ
   have hql : q ≤ c:=by have:=h.cap;omega
   clear hx hy h k HD he hq
   go_enter Tryz.func58,Tryz.ntmps58
   go_wp2_with (go_at_call 86;(with_reducible refine (HQ _ (Ext.refl _)).mono ?_);rintro e w1 ⟨rfl,hx1⟩;have HX1:=hid hx1;clear hx1)
   go_ret2
   refine ⟨_,_,_,by rw [HF.out];rfl,?_,HX1.out⟩
   rw [HF.out]
   have:=HH.out.ext HX1.out
   rw [← List.map_take] at this
   exact this
  ·have HF : Hid (zcR x y = none):=by show _ = _;rw [HD.out,if_neg (fun h=>he h.2)]
   rw [decide_eq_false he] at HQ
   clear hx hy h k HD he hq
   go_enter Tryz.func58,Tryz.ntmps58
   go_wp2_with (go_at_call 86;(with_reducible refine (HQ _ (Ext.refl _)).mono ?_);rintro e w1 ⟨rfl,hx1⟩;have HX1:=hid hx1;clear hx1)
   go_ret2
   exact ⟨none,0,0,by rw [HF.out];rfl,by rw [HF.out];exact Row.nil _ _ _,HX1.out⟩
theorem znl {S T : Nat → Prop} {A B : Option Addr} {n c m d : Nat} {x y : List (List UInt8)} {w : World} (h : Row Elem.str S w A n c (strs x)) (k : Row Elem.str T w B m d (strs y)) :
 Calls Tryz.prog 60 #[.slice A n c,.slice B m d] w (zeh S w x y):=by
 have hx0 : n = x.length:=by rw [h.len,List.length_map]
 have hy0 : m = y.length:=by rw [k.len,List.length_map]
 have hl:=hid h.len
 have kl:=hid k.len
 have hn : n ≤ 9223372036854775807:=by have:=h.cap;have:=h.most;simp only [maxLen] at this;omega
 have hm : m ≤ 9223372036854775807:=by have:=k.cap;have:=k.most;simp only [maxLen] at this;omega
 have HK:=hid k
 have H0:=hid h
 have HD : Hid (zcR x y = if y.length ≤ x.length ∧ x.drop (x.length - y.length) = y then some (x.take (x.length - y.length)) else none):=rfl
 rw [← hx0,← hy0] at HD
 by_cases hlt : n < m
 ·have t1 : (n : Int) < (m : Int):=by omega
  have HF : Hid (zcR x y = none):=by show _ = _;rw [HD.out,if_neg (fun h=>by omega)]
  clear hx0 hy0 h k HD hl kl
  go_enter Tryz.func60,Tryz.ntmps60
  go_wp2
  go_ret2
  exact ⟨none,0,0,by rw [HF.out];rfl,by rw [HF.out];exact Row.nil _ _ _,Ext.refl _⟩
 ·obtain ⟨q,hq⟩ : ∃ q,q = n - m:=⟨_,rfl⟩
  have t0 : (n : Int) - (m : Int) = (q : Int):=by omega
  have t1 : ¬ (n : Int) < (m : Int):=by omega
  have hqm : q + m ≤ n:=by omega
  have hs2:=ziO A n c q (by have:=h.cap;omega)
  have HH:=hid (h.head (k:=q) (by omega))
  have HDQ : Hid (decide (x.drop q = y) = decide ((strs x).drop q = strs y)):=by
   show _ = _
   have e2 : (strs x).drop q = strs (x.drop q):=by rw [← List.map_drop]
   rw [e2,Bool.eq_iff_iff,decide_eq_true_eq,decide_eq_true_eq,zlI]
  have HLX : Hid ((strs x).length = n ∧ (strs y).length = m):=⟨hl.out.symm,kl.out.symm⟩
  have HQN : Hid (q + m = n):=by show _ = _;omega
  have hql : q ≤ c:=by have:=h.cap;omega
  rw [← hq] at HD
  generalize hX : strs x = X at *
  generalize hY : strs y = Y at *
  have HX:=hid hX
  clear hX hY hx0 hy0 h k hq hl kl
  go_enter Tryz.func60,Tryz.ntmps60
  go_wp2
  go_loopw [20] (fun i wr=>∃ j : Nat,j ≤ m ∧ i = .int .i64 j ∧ Hid ((X.drop q).take j = Y.take j) ∧ Hid (Ext w wr)) (fun i _=>m - (intOf i).toNat)
  case atStart=>exact ⟨0,by omega,rfl,by simp [Hid],Ext.refl w⟩
  case round=>
   obtain ⟨j,hj,rfl,Htk,hx⟩:=hrel
   by_cases hlt : j < m
   ·obtain ⟨b1,o1,rfl,c1⟩:=(H0.out.ext hx.out).str_cell (by omega)
    obtain ⟨b2,o2,rfl,c2⟩:=(HK.out.ext hx.out).str_cell (by omega)
    have e1:=c1 (q + j) (by omega)
    have e2:=c2 j hlt
    clear c1 c2
    have g1 : X[q + j]? = some (X[q + j]?.getD ByteArray.empty):=by have:=HLX.out;rw [List.getElem?_eq_getElem (by omega)];simp
    have g2 : Y[j]? = some (Y[j]?.getD ByteArray.empty):=by have:=HLX.out;rw [List.getElem?_eq_getElem (by omega)];simp
    have Hg:=hid (And.intro g1 g2)
    clear g1 g2
    have hqj : q + j < n:=by omega
    have tp : (q : Int) + (j : Int) = ((q + j : Nat) : Int):=by omega
    obtain ⟨p,Hpq⟩ : ∃ p,Hid (q + j = p):=⟨_,rfl⟩
    rw [Hpq.out] at tp hqj e1 Hg
    generalize X[p]?.getD ByteArray.empty = x1 at *
    generalize Y[j]?.getD ByteArray.empty = x2 at *
    by_cases he : x1 = x2
    ·have He:=hid he
     have Hne:=ze4 he
     clear he
     go_wp2
     refine zac (.read 0 (.read 1 (.read 2 (.read 3 (.read 4 (.read 5 (.read 6 (.read 7 (.read 8 (.read 9 (.read 10 .done))))))))))) (by kernel_rfl) (by kernel_rfl) ?_
     intro wD hxD
     have c1:=zaa (zaa e1 _ hxD)
     have c2:=zaa (zaa e2 _ hxD)
     repeat' (first
      | ((first | refine zak rfl rfl ?_ | refine zad rfl rfl ?_ | refine zaj rfl rfl ?_);simp only [Act.put,Act.eval,evs])
      | (refine zab rfl rfl ?_;simp only [Act.put,evp])
      | (refine zag (v:=?_) rfl rfl (fun w' hE=>?_) ?_;rotate_left 1;(· ((try (have hEx:=Ext.trans (Hid.out XE) hE));go_simp;(try go_bits);with_reducible rfl));simp only [Act.put,evp])
      | (refine walks_alt ?_ ?_)
      | (refine zai rfl rfl (fun K hK=>?_);go_wp2_with (fail);refine hK _ _ (by first | assumption | exact Ext.alloc _ _ | exact Ext.refl _) ?_;clear hK K;try simp only [Act.put,evp]))
     refine zah ?_
     go_wp2
     refine ⟨⟨j + 1,by omega,by go_num,?_,hx.out.trans hxD⟩,by simp [intOf];omega⟩
     show _ = _
     rw [List.take_add_one,List.take_add_one,Htk.out,List.getElem?_drop,Hpq.out,Hg.out.1,Hg.out.2,He.out]
    ·have He:=hid he
     have Hne:=zey he
     clear he
     go_wp2
     refine zac (.read 0 (.read 1 (.read 2 (.read 3 (.read 4 (.read 5 (.read 6 (.read 7 (.read 8 (.read 9 (.read 10 .done))))))))))) (by kernel_rfl) (by kernel_rfl) ?_
     intro wD hxD
     have c1:=zaa (zaa e1 _ hxD)
     have c2:=zaa (zaa e2 _ hxD)
     repeat' (first
      | ((first | refine zak rfl rfl ?_ | refine zad rfl rfl ?_ | refine zaj rfl rfl ?_);simp only [Act.put,Act.eval,evs])
      | (refine zab rfl rfl ?_;simp only [Act.put,evp])
      | (refine zag (v:=?_) rfl rfl (fun w' hE=>?_) ?_;rotate_left 1;(· ((try (have hEx:=Ext.trans (Hid.out XE) hE));go_simp;(try go_bits);with_reducible rfl));simp only [Act.put,evp])
      | (refine walks_alt ?_ ?_)
      | (refine zai rfl rfl (fun K hK=>?_);go_wp2_with (fail);refine hK _ _ (by first | assumption | exact Ext.alloc _ _ | exact Ext.refl _) ?_;clear hK K;try simp only [Act.put,evp]))
     refine zah ?_
     go_wp2
     go_ret2
     have HF : zcR x y = none:=by
      rw [HD.out,if_neg]
      intro hh
      have e:=decide_eq_true hh.2
      rw [HDQ.out,decide_eq_true_eq] at e
      have e3 : (X.drop q)[j]? = Y[j]?:=by rw [e]
      rw [List.getElem?_drop,Hpq.out,Hg.out.1,Hg.out.2] at e3
      exact He.out (Option.some.inj e3)
     exact ⟨none,0,0,by rw [HF];rfl,by rw [HF];exact Row.nil _ _ _,hx.out.trans hxD⟩
   ·obtain rfl : j = m:=by omega
    go_wp2
    go_ret2
    have HF : zcR x y = some (x.take q):=by
     rw [HD.out,if_pos]
     refine ⟨by omega,?_⟩
     have e:=zgN (by rw [List.length_drop,HLX.out.1];have:=HQN.out;omega) HLX.out.2.symm Htk.out
     have e2:=decide_eq_true e
     rw [← HDQ.out,decide_eq_true_eq] at e2
     exact e2
    refine ⟨_,_,_,by rw [HF];rfl,?_,hx.out⟩
    rw [HF]
    have:=HH.out.ext hx.out
    rw [← HX.out,← List.map_take] at this
    exact this
def za9 (a b : List UInt8) : Bool:=decide (zaD (zaf a) = 0) && decide (zaD (zaf b) = 0) && (zcR (okL (zaf a)) (okL (zaf b))).isSome
theorem zni (a b : ByteArray) (w : World) (hG : Gl w) : Calls Tryz.prog 33 #[.string a,.string b] w fun e w'=>e = .returned (.bool (za9 (bys a) (bys b))) ∧ Ext w w':=by
 have HG:=hid hG
 have HPA : ∀ w,Gl w → Calls Tryz.prog 50 #[.string a] w (zbq w (bys a)):=fun w hG=>zd9 a w hG
 have HPB : ∀ w,Gl w → Calls Tryz.prog 50 #[.string b] w (zbq w (bys b)):=fun w hG=>zd9 b w hG
 unfold zbq at HPA HPB
 have HRS : ∀ (S T : Nat → Prop) A B n c m d w,Row Elem.str S w A n c (strs (okL (zaf (bys a)))) → Row Elem.str T w B m d (strs (okL (zaf (bys b)))) →
  Calls Tryz.prog 58 #[.slice A n c,.slice B m d] w (zeh S w (okL (zaf (bys a))) (okL (zaf (bys b)))):=fun S T A B n c m d w h k=>zpQ h k
 unfold zeh at HRS
 have HUD : Hid (za9 (bys a) (bys b) = (decide (zaD (zaf (bys a)) = 0) && decide (zaD (zaf (bys b)) = 0) && (zcR (okL (zaf (bys a))) (okL (zaf (bys b)))).isSome)):=rfl
 clear hG
 generalize zaf (bys a) = pa at *
 generalize zaf (bys b) = pb at *
 generalize za9 (bys a) (bys b) = u at *
 have HRD:=hid (Eq.refl ((zcR (okL pa) (okL pb)).isSome))
 have c1 : (zaD pa == 0) = true ∨ (zaD pa == 0) = false:=by cases zaD pa == 0 <;> simp
 have c2 : (zaD pb == 0) = true ∨ (zaD pb == 0) = false:=by cases zaD pb == 0 <;> simp
 have c3 : Hid ((zcR (okL pa) (okL pb)).isSome = true) ∨ Hid ((zcR (okL pa) (okL pb)).isSome = false):=by cases (zcR (okL pa) (okL pb)).isSome <;> simp [Hid]
 have e1 : decide (zaD pa = 0) = (zaD pa == 0):=rfl
 have e2 : decide (zaD pb = 0) = (zaD pb == 0):=rfl
 rw [e1,e2] at HUD
 clear e1 e2
 generalize zaD pa = ca at *
 generalize zaD pb = cb at *
 generalize okL pa = la at *
 generalize okL pb = lb at *
 rcases c1 with c1 | c1 <;> rcases c2 with c2 | c2 <;> rcases c3 with c3 | c3
 all_goals
  rw [c1,c2,c3.out] at HUD
  go_enter Tryz.func33,Tryz.ntmps33
  go_wp2_with (
   first
   | (go_at_call 50;first
       | ((with_reducible refine (HPA _ HG.out).mono ?_);rintro e w1 ⟨A1,n1,k1,rfl,hr1,hx1⟩;have HR1:=hid hr1;have HX1:=hid hx1;clear hr1 hx1)
       | ((with_reducible refine (HPB _ (HG.out.ext HX1.out)).mono ?_);rintro e w2 ⟨A2,n2,k2,rfl,hr2,hx2⟩;have HR2:=hid hr2;have HX2:=hid hx2;clear hr2 hx2))
   | (go_at_call 58;(with_reducible refine (HRS _ _ _ _ _ _ _ _ _ (HR1.out.ext HX2.out) HR2.out).mono ?_);rintro e w3 ⟨A3,n3,k3,rfl,hr3,hx3⟩;have HX3:=hid hx3;rw [c3.out];clear hr3 hx3))
  all_goals go_ret
  all_goals exact ⟨by rw [HUD.out];rfl,(HX1.out.trans HX2.out).trans HX3.out⟩
theorem zmE (a b : ByteArray) (w : World) (hG : Gl w) : Calls Tryz.prog 34 #[.string a,.string b] w fun e w'=>e = .returned (.bool (za9 (bys a) (bys b))) ∧ Ext w w':=by
 have HG:=hid hG
 have HPA : ∀ w,Gl w → Calls Tryz.prog 59 #[.string a] w (zbq w (bys a)):=fun w hG=>zfv a w hG
 have HPB : ∀ w,Gl w → Calls Tryz.prog 59 #[.string b] w (zbq w (bys b)):=fun w hG=>zfv b w hG
 unfold zbq at HPA HPB
 have HRS : ∀ (S T : Nat → Prop) A B n c m d w,Row Elem.str S w A n c (strs (okL (zaf (bys a)))) → Row Elem.str T w B m d (strs (okL (zaf (bys b)))) →
  Calls Tryz.prog 60 #[.slice A n c,.slice B m d] w (zeh S w (okL (zaf (bys a))) (okL (zaf (bys b)))):=fun S T A B n c m d w h k=>znl h k
 unfold zeh at HRS
 have HUD : Hid (za9 (bys a) (bys b) = (decide (zaD (zaf (bys a)) = 0) && decide (zaD (zaf (bys b)) = 0) && (zcR (okL (zaf (bys a))) (okL (zaf (bys b)))).isSome)):=rfl
 clear hG
 generalize zaf (bys a) = pa at *
 generalize zaf (bys b) = pb at *
 generalize za9 (bys a) (bys b) = u at *
 have HRD:=hid (Eq.refl ((zcR (okL pa) (okL pb)).isSome))
 have c1 : (zaD pa == 0) = true ∨ (zaD pa == 0) = false:=by cases zaD pa == 0 <;> simp
 have c2 : (zaD pb == 0) = true ∨ (zaD pb == 0) = false:=by cases zaD pb == 0 <;> simp
 have c3 : Hid ((zcR (okL pa) (okL pb)).isSome = true) ∨ Hid ((zcR (okL pa) (okL pb)).isSome = false):=by cases (zcR (okL pa) (okL pb)).isSome <;> simp [Hid]
 have e1 : decide (zaD pa = 0) = (zaD pa == 0):=rfl
 have e2 : decide (zaD pb = 0) = (zaD pb == 0):=rfl
 rw [e1,e2] at HUD
 clear e1 e2
 generalize zaD pa = ca at *
 generalize zaD pb = cb at *
 generalize okL pa = la at *
 generalize okL pb = lb at *
 rcases c1 with c1 | c1 <;> rcases c2 with c2 | c2 <;> rcases c3 with c3 | c3
 all_goals
  rw [c1,c2,c3.out] at HUD
  go_enter Tryz.func34,Tryz.ntmps34
  go_wp2_with (
   first
   | (go_at_call 59;first
       | ((with_reducible refine (HPA _ HG.out).mono ?_);rintro e w1 ⟨A1,n1,k1,rfl,hr1,hx1⟩;have HR1:=hid hr1;have HX1:=hid hx1;clear hr1 hx1)
       | ((with_reducible refine (HPB _ (HG.out.ext HX1.out)).mono ?_);rintro e w2 ⟨A2,n2,k2,rfl,hr2,hx2⟩;have HR2:=hid hr2;have HX2:=hid hx2;clear hr2 hx2))
   | (go_at_call 60;(with_reducible refine (HRS _ _ _ _ _ _ _ _ _ (HR1.out.ext HX2.out) HR2.out).mono ?_);rintro e w3 ⟨A3,n3,k3,rfl,hr3,hx3⟩;have HX3:=hid hx3;rw [c3.out];clear hr3 hx3))
  all_goals go_ret
  all_goals exact ⟨by rw [HUD.out];rfl,(HX1.out.trans HX2.out).trans HX3.out⟩
end Go.Proofs.YtioglicfndkgiaaGreatDoor
namespace Go.Proofs.YtioglicfndkgiaaGreatDoor
structure CutR where
 name : ByteArray
 server : Int
def za1 (s : List UInt8) : Int:=((okL (zaf s)).length : Int)
def zcg (nm : List UInt8) (i : Nat) (st : Int × Int) (c : CutR) : Int × Int:=if decide (st.2 < za1 (bys c.name)) && za9 nm (bys c.name) then ((i : Int),za1 (bys c.name)) else st
def za8 (nm : List UInt8) : Nat → Int × Int → List CutR → Int × Int
 | _,st,[]=>st
 | i,st,c :: t=>za8 nm (i + 1) (zcg nm i st c) t
def zbS (l : List CutR) (nm : List UInt8) : Int:=(za8 nm 0 (-1,-1) l).1
theorem zfl (nm : List UInt8) : ∀ (l k : List CutR) (i : Nat) (st : Int × Int),za8 nm i st (l ++ k) = za8 nm (i + l.length) (za8 nm i st l) k
 | [],k,i,st=>by simp [za8]
 | c :: t,k,i,st=>by
  simp only [List.cons_append,za8,List.length_cons]
  rw [zfl nm t k]
  congr 1
  omega
theorem zdy {nm : List UInt8} {l : List CutR} {j : Nat} {c : CutR} (h : l[j]? = some c) : za8 nm 0 (-1,-1) (l.take (j + 1)) = zcg nm j (za8 nm 0 (-1,-1) (l.take j)) c:=by
 have hj:=(List.getElem?_eq_some_iff.1 h).1
 rw [List.take_add_one,h,zfl]
 simp only [Option.toList_some,za8,List.length_take]
 congr 1
 omega
theorem zf9 (nm : List UInt8) : ∀ (l : List CutR) (i : Nat) (st : Int × Int),-1 ≤ st.1 → st.1 < i → -1 ≤ (za8 nm i st l).1 ∧ (za8 nm i st l).1 < i + l.length
 | [],i,st,h1,h2=>by simp only [za8,List.length_nil];omega
 | c :: t,i,st,h1,h2=>by
  have h3 : -1 ≤ (zcg nm i st c).1 ∧ (zcg nm i st c).1 < (i + 1 : Nat):=by
   unfold zcg
   split <;> (try simp only) <;> omega
  have:=zf9 nm t (i + 1) (zcg nm i st c) h3.1 h3.2
  simp only [za8,List.length_cons]
  omega
theorem zgG (l : List CutR) (nm : List UInt8) : -1 ≤ zbS l nm ∧ zbS l nm < l.length:=by
 have:=zf9 nm l 0 (-1,-1) (by decide) (by decide)
 unfold zbS
 omega
section
variable {held : Int → Bool} {near : Int → Int × Bool} {n : Int}
end
end Go.Proofs.YtioglicfndkgiaaGreatDoor
namespace Go.Proofs.YtioglicfndkgiaaGreatDoor
open Go.RowKit
set_option maxRecDepth 100000
def CutR.cells (c : CutR) : List Value:=[.string c.name,.int .i64 c.server]
def Elem.cut : Elem CutR:=⟨2,by decide,fun _ _ v x=>v = x.cells,fun h=>by rw [h];rfl,fun h _=>h,fun h _=>h⟩
structure Cxt where
 name : ByteArray
 ents : List Ent
 subs : List CutR
def Elem.cxt : Elem Cxt:=
 ⟨3,by decide,fun S w v a=>∃ A n c B m d,v = [.string a.name,.slice A n c,.slice B m d] ∧ Row Elem.ent S w A n c a.ents ∧ Row Elem.cut S w B m d a.subs,fun ⟨_,_,_,_,_,_,h,_⟩=>by rw [h];rfl,
  fun ⟨A,n,c,B,m,d,h,hr,hs⟩ hk=>⟨A,n,c,B,m,d,h,hr.same hk,hs.same hk⟩,fun ⟨A,n,c,B,m,d,h,hr,hs⟩ k=>⟨A,n,c,B,m,d,h,hr.mono k,hs.mono k⟩⟩
abbrev Elem.srw : Elem (List Cxt):=Elem.slc Elem.cxt
theorem ziY : (Tryz.prog.info? 58).map (fun i=>(i.zero,i.size,i.bytes)) = some (some (.agg #[.string ByteArray.empty,.int .i64 0]),Elem.cut.k,24):=by kernel_rfl
def zkc : Att:=⟨⟨#[111,98,106,101,99,116,67,108,97,115,115]⟩,[⟨#[111]⟩]⟩
def zji : Att:=⟨⟨#[100,99]⟩,[⟨#[120]⟩]⟩
end Go.Proofs.YtioglicfndkgiaaGreatDoor
namespace Go.Proofs.YtioglicfndkgiaaGreatDoor
open Go.RowKit
open Go.Maps Go.MapKept
set_option maxRecDepth 100000
theorem Row.lit2 {α : Type} {E : Elem α} {w : World} {vss : List (List Value)} {l : List α} (h : ∀ (i : Nat) v x,vss[i]? = some v → l[i]? = some x → E.R (fun _=>True) w v x) (hl : vss.length = l.length) (hm : l.length ≤ maxLen) (t : TypeId) :
 Row E (fun _=>True) (w.alloc (.cells vss.flatten.toArray t)) (some ⟨w.heap.size,0,none⟩) l.length l.length l:=by
 have hx : Ext w (w.alloc (.cells vss.flatten.toArray t)):=Ext.alloc _ _
 refine ⟨rfl,Nat.le_refl _,hm,vss,hl,.inr ⟨w.heap.size,0,rfl,trivial,fun j u hj=>?_⟩,fun i v x hi hxx=>?_⟩
 ·rw [Nat.zero_add,cell_of_row _ _ j vss.flatten.toArray t (0,0) (heap_alloc_new w _)]
  simpa using hj
 ·exact (E.same (E.mono (h i v x hi hxx) (T:=fun b=>True ∧ b < w.heap.size) (fun b hb _=>⟨trivial,hb⟩)) fun b hb=>hx.block b hb.2) |> fun q=>E.mono q fun _ _ _=>trivial
theorem zhr : zaR [100,99,61,120] = ([],true):=by decide +kernel
end Go.Proofs.YtioglicfndkgiaaGreatDoor
namespace Go.Proofs.YtioglicfndkgiaaGreatDoor
open Go.RowKit
set_option maxRecDepth 100000
theorem znm (s : ByteArray) (w : World) (hG : Gl w) : Calls Tryz.prog 32 #[.string s] w fun e w'=>e = .returned (.int .i64 (za1 (bys s))) ∧ Ext w w':=by
 have HP:=zd9 s w hG
 unfold zbq at HP
 have HD : Hid (za1 (bys s) = ((okL (zaf (bys s))).length : Int)):=rfl
 have HLS : ∀ (S : Nat → Prop) w A n c,Row Elem.str S w A n c (strs (okL (zaf (bys s)))) → n = (okL (zaf (bys s))).length:=fun S w A n c h=>by rw [h.len,List.length_map]
 generalize okL (zaf (bys s)) = l at *
 generalize zaD (zaf (bys s)) = cd at *
 go_enter Tryz.func32,Tryz.ntmps32
 go_wp2_with (go_at_call 50;(with_reducible refine HP.mono ?_);rintro e w1 ⟨A1,n1,c1,rfl,hr1,hx1⟩;have HN:=hid (HLS _ _ _ _ _ hr1);have HX1:=hid hx1;clear hx1 hr1)
 go_ret
 exact ⟨by rw [HD.out,HN.out];(try rfl),HX1.out⟩
theorem zeG {S : Nat → Prop} {A : Option Addr} {n c : Nat} {l : List CutR} {w : World} (h : Row Elem.cut S w A n c l) (name : ByteArray) (hG : Gl w) :
 Calls Tryz.prog 18 #[.slice A n c,.string name] w fun e w'=>e = .returned (.int .i64 (zbS l (bys name))) ∧ Ext w w':=by
 have HG:=hid hG
 have HR:=hid h
 have HLN:=hid h.len
 have hn : n ≤ 9223372036854775807:=by have:=h.cap;have:=h.most;simp only [maxLen] at this;omega
 have HD : ∀ (s : ByteArray) w,Gl w → Calls Tryz.prog 32 #[.string s] w fun e w'=>e = .returned (.int .i64 (za1 (bys s))) ∧ Ext w w':=fun s w hG=>znm s w hG
 have HU : ∀ (s : ByteArray) w,Gl w → Calls Tryz.prog 33 #[.string name,.string s] w fun e w'=>e = .returned (.bool (za9 (bys name) (bys s))) ∧ Ext w w':=fun s w hG=>zni name s w hG
 clear h hG
 go_enter Tryz.func18,Tryz.ntmps18
 go_wp2
 go_loopw [5,6,12] (fun b d i wr=>∃ (j : Nat),j ≤ n ∧ i = .int .i64 j ∧ b = .int .i64 (za8 (bys name) 0 (-1,-1) (l.take j)).1 ∧ d = .int .i64 (za8 (bys name) 0 (-1,-1) (l.take j)).2 ∧ Hid (Ext w wr)) (fun _ _ i _=>n - (intOf i).toNat)
 case atStart=>exact ⟨0,by omega,rfl,rfl,rfl,Ext.refl _⟩
 case round=>
  obtain ⟨j,hj,rfl,rfl,rfl,hx⟩:=hrel
  by_cases hlt : j < n
  ·obtain ⟨b1,o1,v1,x1,rfl,g1,-,r1,q1⟩:=(HR.out.ext hx.out).at_ hlt
   have HTK:=hid (zdy (nm:=bys name) g1)
   have HDX:=HD x1.name
   have HUX:=HU x1.name
   have HSD : Hid (zcg (bys name) j (za8 (bys name) 0 (-1,-1) (l.take j)) x1 = if decide ((za8 (bys name) 0 (-1,-1) (l.take j)).2 < za1 (bys x1.name)) && za9 (bys name) (bys x1.name) then ((j : Int),za1 (bys x1.name)) else za8 (bys name) 0 (-1,-1) (l.take j)):=rfl
   clear HD HU g1
   generalize za1 (bys x1.name) = dx at *
   generalize za9 (bys name) (bys x1.name) = ux at *
   obtain ⟨nm1,sv1⟩:=x1
   cases r1
   have e10:=q1 0 _ rfl
   have e11:=q1 1 _ rfl
   simp only [Elem.cut,Nat.add_zero] at e10 e11
   simp only at HDX HUX
   clear q1
   have HB0:=hid (Bx.make hx.out #[.string nm1,.int .i64 sv1] 58)
   generalize za8 (bys name) 0 (-1,-1) (l.take j) = st at *
   obtain ⟨st2,hst2⟩ : ∃ x,x = za8 (bys name) 0 (-1,-1) (l.take (j + 1)):=⟨_,rfl⟩
   rw [← hst2] at HTK
   have HS2:=hid hst2
   clear hst2
   obtain ⟨s1,s2⟩:=st
   obtain ⟨z1,z2⟩:=st2
   simp only at HSD
   by_cases hd : s2 < dx
   ·rw [decide_eq_true hd,Bool.true_and] at HSD
    cases ux
    ·rw [if_neg (by decide)] at HSD
     have HE:=hid (HTK.out.trans HSD.out)
     go_wp2_with (first
      | (go_at_call 32;(with_reducible refine (HDX _ (HG.out.ext HB0.out.ext)).mono ?_);rintro e w1 ⟨rfl,hx1⟩;have HB1:=hid (HB0.out.later hx1);have a0:=HB1.out.cell (i:=0) rfl;clear hx1)
      | (go_at_call 33;(with_reducible refine (HUX _ (HG.out.ext HB1.out.ext)).mono ?_);rintro e w2 ⟨rfl,hx2⟩;have HX2:=hid (HB1.out.ext.trans hx2);clear hx2))
     obtain ⟨rfl,rfl⟩ : z1 = s1 ∧ z2 = s2:=by have:=HE.out;injection this with a b;exact ⟨a,b⟩
     exact ⟨⟨j + 1,by omega,by go_num,by rw [← HS2.out],by rw [← HS2.out],HX2.out⟩,by simp [intOf];omega⟩
    ·rw [if_pos rfl] at HSD
     have HE:=hid (HTK.out.trans HSD.out)
     go_wp2_with (first
      | (go_at_call 32;(with_reducible refine (HDX _ (HG.out.ext HB0.out.ext)).mono ?_);rintro e w1 ⟨rfl,hx1⟩;have HB1:=hid (HB0.out.later hx1);have a0:=HB1.out.cell (i:=0) rfl;clear hx1)
      | (go_at_call 33;(with_reducible refine (HUX _ (HG.out.ext HB1.out.ext)).mono ?_);rintro e w2 ⟨rfl,hx2⟩;have HX2:=hid (HB1.out.ext.trans hx2);clear hx2))
     obtain ⟨rfl,rfl⟩ : z1 = (j : Int) ∧ z2 = dx:=by have:=HE.out;injection this with a b;exact ⟨a,b⟩
     exact ⟨⟨j + 1,by omega,by go_num,by rw [← HS2.out],by rw [← HS2.out],HX2.out⟩,by simp [intOf];omega⟩
   ·rw [decide_eq_false hd,Bool.false_and,if_neg (by decide)] at HSD
    have HE:=hid (HTK.out.trans HSD.out)
    go_wp2_with (first
     | (go_at_call 32;(with_reducible refine (HDX _ (HG.out.ext HB0.out.ext)).mono ?_);rintro e w1 ⟨rfl,hx1⟩;have HB1:=hid (HB0.out.later hx1);have a0:=HB1.out.cell (i:=0) rfl;clear hx1))
    obtain ⟨rfl,rfl⟩ : z1 = s1 ∧ z2 = s2:=by have:=HE.out;injection this with a b;exact ⟨a,b⟩
    exact ⟨⟨j + 1,by omega,by go_num,by rw [← HS2.out],by rw [← HS2.out],HB1.out.ext⟩,by simp [intOf];omega⟩
  ·obtain rfl : j = n:=by omega
   have HF : Hid (zbS l (bys name) = (za8 (bys name) 0 (-1,-1) (l.take j)).1):=by show _ = _;rw [List.take_of_length_le (Nat.le_of_eq HLN.out.symm)];rfl
   go_wp2
   go_ret
   exact ⟨by rw [HF.out];(try rfl),hx.out⟩
end Go.Proofs.YtioglicfndkgiaaGreatDoor
