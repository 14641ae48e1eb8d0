/- Lemmas of the walk that the last text of this claim joins. -/
import Derived.Test.YtlbneoilhapkmaaGreatDoorZ30
import Derived.Test.YtlbneoilhapkmaaGreatDoorZ12
import Derived.Test.YtlbneoilhapkmaaGreatDoorZ04
import Derived.Test.YtlbneoilhapkmaaGreatDoorZ34
set_option maxHeartbeats 40000000
set_option linter.unusedVariables false
set_option linter.unusedSimpArgs false
namespace Go.Proofs.YtlbneoilhapkmaaGreatDoor
open Go.RowKit
set_option maxRecDepth 100000
def namedZ (nm : List UInt8) (l : List Att) : Bool:=match parseS nm with | .ok (p :: _)=>p.all fun a=>hasZ a.type a.val (valsE a.type l) | _=>false
theorem all_take {α : Type} {p : α → Bool} {l : List α} {j : Nat} {x : α} (h : (l.take j).all p = true) (hx : l[j]? = some x) (hp : p x = true) : (l.take (j + 1)).all p = true:=by
 rw [List.take_add_one,hx]
 simp only [Option.toList,List.all_append,h,List.all_cons,hp,List.all_nil,Bool.and_self]
theorem all_not {α : Type} {p : α → Bool} {l : List α} {j : Nat} {x : α} (hx : l[j]? = some x) (hp : p x = false) : l.all p = false:=by
 rw [Bool.eq_false_iff]
 intro h
 have:=List.all_eq_true.1 h x (List.mem_of_getElem? hx)
 rw [hp] at this
 cases this
theorem rnamed_any {S : Nat → Prop} {A : Option Addr} {n c : Nat} {l : List Att} {w : World} (h : Row Elem.att S w A n c l) (nm : ByteArray) (hG : Gl w) (hv : ∀ a ∈ l,a.vals.length ≤ 8796093022208) :
 Calls Tryz.prog 125 #[.agg #[.string nm,.slice A n c]] w fun e w'=>e = .returned (.bool (namedZ (bys nm) l)) ∧ Ext w w':=by
 have HG:=hid hG
 have HPR : ∀ w,Gl w → Calls Tryz.prog 134 #[.string nm] w (RDnSays w (bys nm)):=fun w hG=>rdnsparse_any nm w hG
 unfold RDnSays at HPR
 have HPF : Hid (∀ p,parseS (bys nm) = .ok p → ∀ q ∈ p,formedA q = true):=fun p hp=>parse_formed hp
 have HD : Hid (namedZ (bys nm) l = match parseS (bys nm) with | .ok (p :: _)=>p.all fun a=>hasZ a.type a.val (valsE a.type l) | _=>false):=rfl
 have HH : ∀ (x : Ava) w',x.type.length ≤ 17 → Ext w w' → Calls Tryz.prog 40 #[.agg #[.string nm,.slice A n c],.string (str x.type),.string (str x.val)] w' fun e w''=>e = .returned (.bool (hasZ x.type x.val (valsE x.type l))) ∧ Ext w' w'':=fun x w' hx hxx=>by
  have:=rhas_any (h.ext hxx) (str x.type) nm (str x.val) (hG.ext hxx) (by rw [str_size];omega) hv
  rwa [bys_str,bys_str] at this
 have HB0:=hid (Bx.make (Ext.refl w) #[.string nm,.slice A n c] 57)
 clear h hG hv
 generalize namedZ (bys nm) l = r at *
 cases hp : parseS (bys nm) with
 | error er=>
  rw [hp] at HD HPR
  have hne : (codeR (α:=List (List Ava)) (.error er) != 0) = true:=by cases er <;> rfl
  simp only at HD
  generalize codeR (α:=List (List Ava)) (.error er) = cd at *
  clear hp HPF
  go_enter Tryz.func125,Tryz.ntmps125
  go_wp2_with (go_at_call 134;(with_reducible refine (HPR _ (HG.out.ext (Ext.alloc _ _))).mono ?_);rintro e w1 ⟨A1,n1,c1,rfl,-,hx1⟩;have HX1:=hid (HB0.out.ext.trans hx1);clear hx1)
  go_ret
  exact ⟨by rw [HD.out];rfl,HX1.out⟩
 | ok p=>
  rw [hp] at HD HPR
  have HFM:=hid (HPF.out p hp)
  simp only [okL,codeR] at HPR
  clear hp HPF
  cases p with
  | nil=>
   simp only at HD
   go_enter Tryz.func125,Tryz.ntmps125
   go_wp2_with (go_at_call 134;(with_reducible refine (HPR _ (HG.out.ext (Ext.alloc _ _))).mono ?_);rintro e w1 ⟨A1,n1,c1,rfl,hr1,hx1⟩;have HX1:=hid (HB0.out.ext.trans hx1);obtain rfl : n1 = 0:=hr1.len;clear hx1 hr1)
   go_ret
   exact ⟨by rw [HD.out];rfl,HX1.out⟩
  | cons q rest=>
   simp only at HD
   have HTY:=hid (formed_types (HFM.out q (by simp)))
   clear HFM
   generalize hP : (fun a : Ava=>hasZ a.type a.val (valsE a.type l)) = P at *
   have HH2 : ∀ (x : Ava) w',x.type.length ≤ 17 → Ext w w' → Calls Tryz.prog 40 #[.agg #[.string nm,.slice A n c],.string (str x.type),.string (str x.val)] w' fun e w''=>e = .returned (.bool (P x)) ∧ Ext w' w'':=fun x w' hx hxx=>by rw [← hP];exact HH x w' hx hxx
   clear HH hP
   go_enter Tryz.func125,Tryz.ntmps125
   go_wp2_with (go_at_call 134;(with_reducible refine (HPR _ (HG.out.ext (Ext.alloc _ _))).mono ?_);rintro e w1 ⟨A1,n1,c1,rfl,hr1,hx1⟩;have HB1:=hid (HB0.out.later hx1);have hl1 : n1 = rest.length + 1:=hr1.len;have tl1 : ((n1 : Int) == 0) = false:=(by rw [beq_eq_false_iff_ne];omega);have tl2 : (0 : Int) < (n1 : Int):=(by omega);have tl3 : 0 < n1:=(by omega);obtain ⟨b1,o1,v1,x1,rfl,g1,-,⟨A2,n2,c2,rfl,hr2⟩,q1⟩:=hr1.at_ (i:=0) (by omega);obtain rfl : x1 = q:=(by simpa using g1.symm);have e1:=q1 0 _ rfl;simp only [Elem.part,Elem.slc,Nat.zero_mul,Nat.add_zero] at e1;have E1:=hid e1;have HR2:=hid hr2;have hn2 : n2 ≤ 9223372036854775807:=(by have:=hr2.cap;have:=hr2.most;simp only [maxLen] at this;omega);clear hx1 hr1 hl1 g1 q1 hr2)
   clear e1
   go_loopw [23] (fun i wr=>∃ j : Nat,j ≤ n2 ∧ i = .int .i64 j ∧ Hid ((x1.take j).all P = true) ∧ Hid (Ext w1 wr)) (fun i _=>n2 - (intOf i).toNat)
   case atStart=>exact ⟨0,by omega,rfl,by simp [Hid],Ext.refl _⟩
   case round=>
    obtain ⟨j,hj,rfl,Htk,hx⟩:=hrel
    by_cases hlt : j < n2
    ·obtain ⟨b2,o2,x,rfl,hx2,e2,e3⟩:=ava_at (HR2.out.ext hx.out) hlt
     have Hg:=hid hx2
     have HTX:=hid (HTY.out x (List.mem_of_getElem? hx2))
     obtain ⟨px,hpx⟩ : ∃ b,b = P x:=⟨_,rfl⟩
     have HHX : ∀ w',x.type.length ≤ 17 → Ext w w' → Calls Tryz.prog 40 #[.agg #[.string nm,.slice A n c],.string (str x.type),.string (str x.val)] w' fun e w''=>e = .returned (.bool px) ∧ Ext w' w'':=fun w' a b=>by rw [hpx];exact HH2 x w' a b
     have HPX:=hid hpx
     clear hx2 HH2 hpx
     have tj : (j : Int) < (n2 : Int):=by omega
     cases px
     all_goals
      go_wp2
      refine wp_region_plan (.read 0 (.read 1 (.read 2 (.read 3 (.read 4 (.read 5 (.read 6 (.read 7 (.read 8 (.read 9 (.read 10 (.read 11 (.read 12 (.read 13 (.read 14 (.main 15 (.read 16 .done))))))))))))))))) (by kernel_rfl) (by kernel_rfl) ?_
      intro wD hxD
      have XE : Hid (Ext wD wD):=Ext.refl _
      have HBD:=hid (HB1.out.later (hx.out.trans hxD))
      have c0:=cell_later (cell_later E1.out _ (hx.out.trans hxD))
      have c2':=cell_later (cell_later e2 _ hxD)
      have c3':=cell_later (cell_later e3 _ hxD)
      repeat' (first
       | ((first | refine walks_move rfl rfl ?_ | refine walks_assign rfl rfl ?_ | refine walks_skip rfl rfl ?_);simp only [Act.put,Act.eval,evs])
       | (refine walks_read (v:=.agg #[.string nm,.slice A n c]) rfl rfl (fun w' hE=>run_load_row 57 (.tmp 1) rfl _ rfl _ _ _ ((HBD.out.later (XE.out.trans hE)).blk) Tryz.underlying57 rfl (by kernel_rfl)) ?_;simp only [Act.put,evp])
       | (refine walks_unwanted rfl rfl ?_;simp only [Act.put,evp])
       | (refine walks_read (v:=?_) rfl rfl (fun w' hE=>?_) ?_;rotate_left 1;(· ((try (have hEx:=Ext.trans (Hid.out XE) hE));go_simp;(try go_bits);with_reducible rfl));simp only [Act.put,evp])
       | (refine walks_alt ?_ ?_)
       | (refine walks_main rfl rfl (fun K hK=>?_);go_wp2_with ((go_at_call 40;(with_reducible refine (HHX _ HTX.out (HBD.out.ext.trans XE.out)).mono ?_);rintro e w5 ⟨rfl,hx5⟩;have XE':=hid (Ext.trans (Hid.out XE) hx5);clear XE;have XE:=XE';clear XE'));refine hK _ _ (by first | assumption | exact Ext.alloc _ _ | exact Ext.refl _) ?_;clear hK K;try simp only [Act.put,evp]))
      refine walks_done ?_
      have HXZ:=hid (hx.out.trans (hxD.trans XE.out))
      go_wp2
      first
       | (go_ret;exact ⟨by rw [HD.out,all_not Hg.out HPX.out.symm];rfl,HB1.out.ext.trans HXZ.out⟩)
       | exact ⟨⟨j + 1,by omega,by go_num,all_take Htk.out Hg.out HPX.out.symm,HXZ.out⟩,by simp [intOf];omega⟩
    ·obtain rfl : j = n2:=by omega
     have h9:=Htk.out
     rw [List.take_of_length_le (Nat.le_of_eq HR2.out.len.symm)] at h9
     have HF : Hid (r = true):=by show _ = _;rw [HD.out,h9]
     clear h9
     go_wp2
     go_ret
     exact ⟨by rw [HF.out];rfl,HB1.out.ext.trans hx.out⟩
def pairsS (nm : List UInt8) : List Ava:=match okL (parseS nm) with | []=>[] | p :: _=>p
theorem pairs_any (nm : ByteArray) (w : World) (hG : Gl w) : Calls Tryz.prog 171 #[.string nm] w fun e w'=>∃ A n c,e = .returned (.slice A n c) ∧ Row Elem.ava (fun b=>w.heap.size ≤ b) w' A n c (pairsS (bys nm)) ∧ Ext w w':=by
 have HP:=dnparse_any nm w hG
 unfold DnSays at HP
 have HD : Hid (pairsS (bys nm) = match okL (parseS (bys nm)) with | []=>[] | p :: _=>p):=rfl
 generalize okL (parseS (bys nm)) = l at *
 generalize codeR (parseS (bys nm)) = cd at *
 generalize pairsS (bys nm) = q at *
 clear hG
 cases l with
 | nil=>
  simp only at HD
  go_enter Tryz.func171,Tryz.ntmps171
  go_wp2_with (go_at_call 191;(with_reducible refine HP.mono ?_);rintro e w1 ⟨A1,n1,c1,rfl,hr1,hx1⟩;have HX1:=hid hx1;obtain rfl : n1 = 0:=hr1.len;clear hr1 hx1)
  go_ret
  exact ⟨none,0,0,rfl,by rw [HD.out];exact Row.nil _ _ _,HX1.out.trans (Ext.alloc _ _)⟩
 | cons p rest=>
  simp only at HD
  go_enter Tryz.func171,Tryz.ntmps171
  go_wp2_with (go_at_call 191;(with_reducible refine HP.mono ?_);rintro e w1 ⟨A1,n1,c1,rfl,hr1,hx1⟩;have HX1:=hid hx1;have hl1 : n1 = rest.length + 1:=hr1.len;have tl1 : ((n1 : Int) == 0) = false:=(by rw [beq_eq_false_iff_ne];omega);have tl3 : 0 < n1:=(by omega);obtain ⟨b1,o1,v1,x1,rfl,g1,-,⟨A2,n2,c2,rfl,hr2⟩,q1⟩:=hr1.at_ (i:=0) (by omega);obtain rfl : x1 = p:=(by simpa using g1.symm);have e1:=q1 0 _ rfl;simp only [Elem.part,Elem.slc,Nat.zero_mul,Nat.add_zero] at e1;have e2:=cell_later e1 _ (Ext.alloc w1 (.cells #[.slice (some ⟨b1,o1,none⟩) n1 c1] 233));have HR2:=hid hr2;clear hx1 hr1 hl1 g1 q1 hr2)
  go_ret
  exact ⟨A2,n2,c2,rfl,by rw [HD.out];exact HR2.out.ext (Ext.alloc _ _),HX1.out.trans (Ext.alloc _ _)⟩
def namedE (nm : List UInt8) (l : List Att) : Bool:=!(pairsS nm).any fun a=>!hasE a.type a.val (valsE a.type l)
theorem pairs_ok (nm : List UInt8) : ∀ a ∈ pairsS nm,a.type.length ≤ 17 ∧ (typeB a.type).2 ≠ 4 ∧ (typeB a.type).2 ≠ 5:=by
 intro a ha
 unfold pairsS at ha
 cases hp : parseS nm with
 | error er=>rw [hp] at ha;simp [okL] at ha
 | ok l=>
  rw [hp] at ha
  cases l with
  | nil=>simp [okL] at ha
  | cons p rest=>
   simp only [okL] at ha
   have hf:=parse_formed hp p (by simp)
   have h1:=formed_ok hf a ha
   refine ⟨formed_types hf a ha,?_⟩
   unfold avaOk at h1
   simp only [Bool.and_eq_true,Bool.or_eq_true,decide_eq_true_eq] at h1
   omega
theorem named1_any {S : Nat → Prop} {A : Option Addr} {n c : Nat} {l : List Att} {w : World} (h : Row Elem.att S w A n c l) (x : Ava) (nm : ByteArray) (g : Nat) (hG : Gl w) (hx : x.type.length ≤ 17 ∧ (typeB x.type).2 ≠ 4 ∧ (typeB x.type).2 ≠ 5) (hv : ∀ a ∈ l,a.vals.length ≤ 8796093022208)
 (h0 : w.cell? ⟨g,0,none⟩ = some (.string nm)) (h1 : w.cell? ⟨g,1,none⟩ = some (.slice A n c)) :
 Calls Tryz.prog 190 #[avaV x,.pointer (some ⟨g,0,none⟩)] w fun e w'=>e = .returned (.bool (!hasE x.type x.val (valsE x.type l))) ∧ Ext w w':=by
 have HH : ∀ w',Ext w w' → Calls Tryz.prog 90 #[.agg #[.string nm,.slice A n c],.string (str x.type),.string (str x.val)] w' fun e w''=>e = .returned (.bool (hasE x.type x.val (valsE x.type l))) ∧ Ext w' w'':=fun w' hxx=>by
  have:=has_any (h.ext hxx) (str x.type) nm (str x.val) (hG.ext hxx) (by rw [str_size];omega) (by rw [bys_str];exact hx.2.1) (by rw [bys_str];exact hx.2.2) hv
  rwa [bys_str,bys_str] at this
 have e0:=cell_later h0 _ (Ext.alloc w (.cells #[.string (str x.type),.string (str x.val)] 213))
 have e1:=cell_later h1 _ (Ext.alloc w (.cells #[.string (str x.type),.string (str x.val)] 213))
 clear h hG hx hv h0 h1
 generalize hasE x.type x.val (valsE x.type l) = r at *
 unfold avaV
 go_enter Tryz.func190,Tryz.ntmps190
 go_wp2_with (go_at_call 90;(with_reducible refine (HH _ (Ext.alloc _ _)).mono ?_);rintro e w1 ⟨rfl,hx1⟩;have HX1:=hid ((Ext.alloc _ _).trans hx1);clear hx1)
 go_ret
 exact ⟨by cases r <;> rfl,HX1.out⟩
theorem indexava_any {S T : Nat → Prop} {A B : Option Addr} {n c m d : Nat} {ps : List Ava} {l : List Att} {w : World} (h : Row Elem.ava S w A n c ps) (k : Row Elem.att T w B m d l) (nm : ByteArray) (g : Nat) (hG : Gl w) (hx : ∀ x ∈ ps,x.type.length ≤ 17 ∧ (typeB x.type).2 ≠ 4 ∧ (typeB x.type).2 ≠ 5) (hv : ∀ a ∈ l,a.vals.length ≤ 8796093022208)
 (h0 : w.cell? ⟨g,0,none⟩ = some (.string nm)) (h1 : w.cell? ⟨g,1,none⟩ = some (.slice B m d)) :
 Calls Tryz.prog 231 #[.slice A n c,.func (.func 190) #[] #[.pointer (some ⟨g,0,none⟩)]] w fun e w'=>
  ∃ r : Int,e = .returned (.int .i64 r) ∧ decide (0 ≤ r) = ps.any (fun a=>!hasE a.type a.val (valsE a.type l)) ∧ Ext w w':=by
 have HR:=hid h
 have hl:=hid h.len
 have hnl : n ≤ 9223372036854775807:=by have:=h.cap;have:=h.most;simp only [maxLen] at this;omega
 have HC : ∀ x w',x ∈ ps → Ext w w' → Calls Tryz.prog 190 #[avaV x,.pointer (some ⟨g,0,none⟩)] w' fun e w''=>e = .returned (.bool (!hasE x.type x.val (valsE x.type l))) ∧ Ext w' w'':=fun x w' hxm hxx=>
  named1_any (k.ext hxx) x nm g (hG.ext hxx) (hx x hxm) hv (cell_later h0 _ hxx) (cell_later h1 _ hxx)
 clear h k hG hx hv h0 h1
 generalize hP : (fun a : Ava=>!hasE a.type a.val (valsE a.type l)) = P at *
 have HC2 : ∀ x w',x ∈ ps → Ext w w' → Calls Tryz.prog 190 #[.agg #[.string (str x.type),.string (str x.val)],.pointer (some ⟨g,0,none⟩)] w' fun e w''=>e = .returned (.bool (P x)) ∧ Ext w' w'':=fun x w' hxm hxx=>by rw [← hP];exact HC x w' hxm hxx
 clear hP HC
 go_enter Tryz.func231,Tryz.ntmps231
 go_wp2
 go_loopw [8] (fun i wr=>∃ j : Nat,j ≤ n ∧ i = .int .i64 j ∧ Hid ((ps.take j).any P = false) ∧ Hid (Ext w wr)) (fun i _=>n - (intOf i).toNat)
 case atStart=>exact ⟨0,by omega,rfl,by simp [Hid],Ext.refl w⟩
 case round=>
  obtain ⟨j,hj,rfl,Htk,hx⟩:=hrel
  by_cases hlt : j < n
  ·obtain ⟨b1,o1,x,rfl,hx1,e1,e2⟩:=ava_at (HR.out.ext hx.out) hlt
   have Hg:=hid hx1
   have HCX:=HC2 x
   have HMX:=hid (List.mem_of_getElem? hx1)
   clear hx1 HC2
   obtain ⟨px,hpx⟩ : ∃ b,b = P x:=⟨_,rfl⟩
   rw [← hpx] at HCX
   have HPX:=hid hpx
   clear hpx
   cases px
   all_goals
    go_wp2_with (go_at_call 190;(with_reducible refine (HCX _ HMX.out hx.out).mono ?_);rintro e w1 ⟨rfl,hx1⟩;have HX1:=hid hx1;clear hx1)
    first
     | exact ⟨⟨j + 1,by omega,by go_num,any_take' Htk.out Hg.out HPX.out.symm,hx.out.trans HX1.out⟩,by simp [intOf];omega⟩
     | (go_ret;exact ⟨_,rfl,by rw [any_at' Hg.out HPX.out.symm];exact decide_eq_true (by omega),hx.out.trans HX1.out⟩)
  ·obtain rfl : j = n:=by omega
   go_wp2
   go_ret
   have h9:=Htk.out
   rw [List.take_of_length_le (Nat.le_of_eq hl.out.symm)] at h9
   exact ⟨_,rfl,by rw [h9];rfl,hx.out⟩
theorem containsava_any {S T : Nat → Prop} {A B : Option Addr} {n c m d : Nat} {ps : List Ava} {l : List Att} {w : World} (h : Row Elem.ava S w A n c ps) (k : Row Elem.att T w B m d l) (nm : ByteArray) (g : Nat) (hG : Gl w) (hx : ∀ x ∈ ps,x.type.length ≤ 17 ∧ (typeB x.type).2 ≠ 4 ∧ (typeB x.type).2 ≠ 5) (hv : ∀ a ∈ l,a.vals.length ≤ 8796093022208)
 (h0 : w.cell? ⟨g,0,none⟩ = some (.string nm)) (h1 : w.cell? ⟨g,1,none⟩ = some (.slice B m d)) :
 Calls Tryz.prog 173 #[.slice A n c,.func (.func 190) #[] #[.pointer (some ⟨g,0,none⟩)]] w fun e w'=>
  e = .returned (.bool (ps.any (fun a=>!hasE a.type a.val (valsE a.type l)))) ∧ Ext w w':=by
 have HI:=indexava_any h k nm g hG hx hv h0 h1
 clear h k hG hx hv h0 h1
 generalize ps.any (fun a=>!hasE a.type a.val (valsE a.type l)) = r at *
 go_enter Tryz.func173,Tryz.ntmps173
 go_wp2_with (go_at_call 231;(with_reducible refine HI.mono ?_);rintro e w1 ⟨r1,rfl,hr,hx1⟩;have HRR:=hid hr;have HX1:=hid hx1;clear hr hx1)
 go_ret
 exact ⟨by rw [← HRR.out];rfl,HX1.out⟩
theorem named_any {S : Nat → Prop} {A : Option Addr} {n c : Nat} {l : List Att} {w : World} (h : Row Elem.att S w A n c l) (nm : ByteArray) (hG : Gl w) (hv : ∀ a ∈ l,a.vals.length ≤ 8796093022208) :
 Calls Tryz.prog 119 #[.agg #[.string nm,.slice A n c]] w fun e w'=>e = .returned (.bool (namedE (bys nm) l)) ∧ Ext w w':=by
 have HB0:=hid (Bx.make (Ext.refl w) #[.string nm,.slice A n c] 57)
 have HP:=pairs_any nm _ (hG.ext HB0.out.ext)
 have HOK:=hid (pairs_ok (bys nm))
 have HD : Hid (namedE (bys nm) l = !(pairsS (bys nm)).any fun a=>!hasE a.type a.val (valsE a.type l)):=rfl
 generalize namedE (bys nm) l = r at *
 generalize pairsS (bys nm) = ps at *
 have HC : ∀ A1 n1 c1 w1,Row Elem.ava (fun b=>(w.alloc (.cells #[.string nm,.slice A n c] 57)).heap.size ≤ b) w1 A1 n1 c1 ps → Ext (w.alloc (.cells #[.string nm,.slice A n c] 57)) w1 → Calls Tryz.prog 173 #[.slice A1 n1 c1,.func (.func 190) #[] #[.pointer (some ⟨w.heap.size,0,none⟩)]] w1 fun e w'=>
  e = .returned (.bool (ps.any (fun a=>!hasE a.type a.val (valsE a.type l)))) ∧ Ext w1 w':=fun A1 n1 c1 w1 hr hx=>by
  have hb:=HB0.out.later hx
  exact containsava_any hr (h.ext hb.ext) nm w.heap.size (hG.ext hb.ext) HOK.out hv (hb.cell (i:=0) rfl) (hb.cell (i:=1) rfl)
 have hmf : ∀ (fn : Fn) (first cap : Array Value) (w : World),(Instr.makeFunc fn first cap).run Tryz.prog w = .ok (.func fn first cap) w:=fun _ _ _ _=>rfl
 clear h hG hv
 generalize ps.any (fun a=>!hasE a.type a.val (valsE a.type l)) = q at *
 go_enter Tryz.func119,Tryz.ntmps119
 go_wp2_with (first
  | (go_at_call 171;(with_reducible refine HP.mono ?_);rintro e w1 ⟨A1,n1,c1,rfl,hr1,hx1⟩;have HX1:=hid hx1;have HC1:=HC A1 n1 c1 w1 hr1 hx1;clear hr1 hx1)
  | (go_at_call 173;(with_reducible refine HC1.mono ?_);rintro e w2 ⟨rfl,hx2⟩;have HX2:=hid hx2;clear hx2))
 go_ret
 exact ⟨by rw [HD.out];rfl,HB0.out.ext.trans (HX1.out.trans HX2.out)⟩
end Go.Proofs.YtlbneoilhapkmaaGreatDoor
