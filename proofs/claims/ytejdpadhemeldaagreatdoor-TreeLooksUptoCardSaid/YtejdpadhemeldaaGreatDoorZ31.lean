/- Lemmas of the walk that the last text of this claim joins. -/
import Derived.Test.YtejdpadhemeldaaGreatDoorZ29
import Derived.Test.YtejdpadhemeldaaGreatDoorZ18
import Derived.Test.YtejdpadhemeldaaGreatDoorZ11
import Derived.Test.YtejdpadhemeldaaGreatDoorZ03
set_option maxHeartbeats 40000000
set_option linter.unusedVariables false
set_option linter.unusedSimpArgs false
namespace Go.Proofs.YtejdpadhemeldaaGreatDoor
open Go.RowKit
set_option maxRecDepth 100000
def namedZ (nm : List UInt8) (l : List Att) : Bool:=match parseS nm with | .ok (p :: _)=>p.all fun a=>hasZ a.type a.val (valsE a.type l) | _=>false
theorem all_take {α : Type} {p : α → Bool} {l : List α} {j : Nat} {x : α} (h : (l.take j).all p = true) (hx : l[j]? = some x) (hp : p x = true) : (l.take (j + 1)).all p = true:=by
 rw [List.take_add_one,hx]
 simp only [Option.toList,List.all_append,h,List.all_cons,hp,List.all_nil,Bool.and_self]
theorem all_not {α : Type} {p : α → Bool} {l : List α} {j : Nat} {x : α} (hx : l[j]? = some x) (hp : p x = false) : l.all p = false:=by
 rw [Bool.eq_false_iff]
 intro h
 have:=List.all_eq_true.1 h x (List.mem_of_getElem? hx)
 rw [hp] at this
 cases this
theorem rnamed_any {S : Nat → Prop} {A : Option Addr} {n c : Nat} {l : List Att} {w : World} (h : Row Elem.att S w A n c l) (nm : ByteArray) (hG : Gl w) (hv : ∀ a ∈ l,a.vals.length ≤ 8796093022208) :
 Calls Tryz.prog 58 #[.agg #[.string nm,.slice A n c]] w fun e w'=>e = .returned (.bool (namedZ (bys nm) l)) ∧ Ext w w':=by
 have HG:=hid hG
 have HPR : ∀ w,Gl w → Calls Tryz.prog 80 #[.string nm] w (RDnSays w (bys nm)):=fun w hG=>rdnsparse_any nm w hG
 unfold RDnSays at HPR
 have HPF : Hid (∀ p,parseS (bys nm) = .ok p → ∀ q ∈ p,formedA q = true):=fun p hp=>parse_formed hp
 have HD : Hid (namedZ (bys nm) l = match parseS (bys nm) with | .ok (p :: _)=>p.all fun a=>hasZ a.type a.val (valsE a.type l) | _=>false):=rfl
 have HH : ∀ (x : Ava) w',x.type.length ≤ 17 → Ext w w' → Calls Tryz.prog 59 #[.agg #[.string nm,.slice A n c],.string (str x.type),.string (str x.val)] w' fun e w''=>e = .returned (.bool (hasZ x.type x.val (valsE x.type l))) ∧ Ext w' w'':=fun x w' hx hxx=>by
  have:=rhas_any (h.ext hxx) (str x.type) nm (str x.val) (hG.ext hxx) (by rw [str_size];omega) hv
  rwa [bys_str,bys_str] at this
 have HB0:=hid (Bx.make (Ext.refl w) #[.string nm,.slice A n c] 31)
 clear h hG hv
 generalize namedZ (bys nm) l = r at *
 cases hp : parseS (bys nm) with
 | error er=>
  rw [hp] at HD HPR
  have hne : (codeR (α:=List (List Ava)) (.error er) != 0) = true:=by cases er <;> rfl
  simp only at HD
  generalize codeR (α:=List (List Ava)) (.error er) = cd at *
  clear hp HPF
  go_enter Tryz.func58,Tryz.ntmps58
  go_wp2_with (go_at_call 80;(with_reducible refine (HPR _ (HG.out.ext (Ext.alloc _ _))).mono ?_);rintro e w1 ⟨A1,n1,c1,rfl,-,hx1⟩;have HX1:=hid (HB0.out.ext.trans hx1);clear hx1)
  go_ret
  exact ⟨by rw [HD.out];rfl,HX1.out⟩
 | ok p=>
  rw [hp] at HD HPR
  have HFM:=hid (HPF.out p hp)
  simp only [okL,codeR] at HPR
  clear hp HPF
  cases p with
  | nil=>
   simp only at HD
   go_enter Tryz.func58,Tryz.ntmps58
   go_wp2_with (go_at_call 80;(with_reducible refine (HPR _ (HG.out.ext (Ext.alloc _ _))).mono ?_);rintro e w1 ⟨A1,n1,c1,rfl,hr1,hx1⟩;have HX1:=hid (HB0.out.ext.trans hx1);obtain rfl : n1 = 0:=hr1.len;clear hx1 hr1)
   go_ret
   exact ⟨by rw [HD.out];rfl,HX1.out⟩
  | cons q rest=>
   simp only at HD
   have HTY:=hid (formed_types (HFM.out q (by simp)))
   clear HFM
   generalize hP : (fun a : Ava=>hasZ a.type a.val (valsE a.type l)) = P at *
   have HH2 : ∀ (x : Ava) w',x.type.length ≤ 17 → Ext w w' → Calls Tryz.prog 59 #[.agg #[.string nm,.slice A n c],.string (str x.type),.string (str x.val)] w' fun e w''=>e = .returned (.bool (P x)) ∧ Ext w' w'':=fun x w' hx hxx=>by rw [← hP];exact HH x w' hx hxx
   clear HH hP
   go_enter Tryz.func58,Tryz.ntmps58
   go_wp2_with (go_at_call 80;(with_reducible refine (HPR _ (HG.out.ext (Ext.alloc _ _))).mono ?_);rintro e w1 ⟨A1,n1,c1,rfl,hr1,hx1⟩;have HB1:=hid (HB0.out.later hx1);have hl1 : n1 = rest.length + 1:=hr1.len;have tl1 : ((n1 : Int) == 0) = false:=(by rw [beq_eq_false_iff_ne];omega);have tl2 : (0 : Int) < (n1 : Int):=(by omega);have tl3 : 0 < n1:=(by omega);obtain ⟨b1,o1,v1,x1,rfl,g1,-,⟨A2,n2,c2,rfl,hr2⟩,q1⟩:=hr1.at_ (i:=0) (by omega);obtain rfl : x1 = q:=(by simpa using g1.symm);have e1:=q1 0 _ rfl;simp only [Elem.part,Elem.slc,Nat.zero_mul,Nat.add_zero] at e1;have E1:=hid e1;have HR2:=hid hr2;have hn2 : n2 ≤ 9223372036854775807:=(by have:=hr2.cap;have:=hr2.most;simp only [maxLen] at this;omega);clear hx1 hr1 hl1 g1 q1 hr2)
   clear e1
   go_loopw [23] (fun i wr=>∃ j : Nat,j ≤ n2 ∧ i = .int .i64 j ∧ Hid ((x1.take j).all P = true) ∧ Hid (Ext w1 wr)) (fun i _=>n2 - (intOf i).toNat)
   case atStart=>exact ⟨0,by omega,rfl,by simp [Hid],Ext.refl _⟩
   case round=>
    obtain ⟨j,hj,rfl,Htk,hx⟩:=hrel
    by_cases hlt : j < n2
    ·obtain ⟨b2,o2,x,rfl,hx2,e2,e3⟩:=ava_at (HR2.out.ext hx.out) hlt
     have Hg:=hid hx2
     have HTX:=hid (HTY.out x (List.mem_of_getElem? hx2))
     obtain ⟨px,hpx⟩ : ∃ b,b = P x:=⟨_,rfl⟩
     have HHX : ∀ w',x.type.length ≤ 17 → Ext w w' → Calls Tryz.prog 59 #[.agg #[.string nm,.slice A n c],.string (str x.type),.string (str x.val)] w' fun e w''=>e = .returned (.bool px) ∧ Ext w' w'':=fun w' a b=>by rw [hpx];exact HH2 x w' a b
     have HPX:=hid hpx
     clear hx2 HH2 hpx
     have tj : (j : Int) < (n2 : Int):=by omega
     cases px
     all_goals
      go_wp2
      refine wp_region_plan (.read 0 (.read 1 (.read 2 (.read 3 (.read 4 (.read 5 (.read 6 (.read 7 (.read 8 (.read 9 (.read 10 (.read 11 (.read 12 (.read 13 (.read 14 (.main 15 (.read 16 .done))))))))))))))))) (by kernel_rfl) (by kernel_rfl) ?_
      intro wD hxD
      have XE : Hid (Ext wD wD):=Ext.refl _
      have HBD:=hid (HB1.out.later (hx.out.trans hxD))
      have c0:=cell_later (cell_later E1.out _ (hx.out.trans hxD))
      have c2':=cell_later (cell_later e2 _ hxD)
      have c3':=cell_later (cell_later e3 _ hxD)
      repeat' (first
       | ((first | refine walks_move rfl rfl ?_ | refine walks_assign rfl rfl ?_ | refine walks_skip rfl rfl ?_);simp only [Act.put,Act.eval,evs])
       | (refine walks_read (v:=.agg #[.string nm,.slice A n c]) rfl rfl (fun w' hE=>run_load_row 31 (.tmp 1) rfl _ rfl _ _ _ ((HBD.out.later (XE.out.trans hE)).blk) Tryz.underlying31 rfl (by kernel_rfl)) ?_;simp only [Act.put,evp])
       | (refine walks_unwanted rfl rfl ?_;simp only [Act.put,evp])
       | (refine walks_read (v:=?_) rfl rfl (fun w' hE=>?_) ?_;rotate_left 1;(· ((try (have hEx:=Ext.trans (Hid.out XE) hE));go_simp;(try go_bits);with_reducible rfl));simp only [Act.put,evp])
       | (refine walks_alt ?_ ?_)
       | (refine walks_main rfl rfl (fun K hK=>?_);go_wp2_with ((go_at_call 59;(with_reducible refine (HHX _ HTX.out (HBD.out.ext.trans XE.out)).mono ?_);rintro e w5 ⟨rfl,hx5⟩;have XE':=hid (Ext.trans (Hid.out XE) hx5);clear XE;have XE:=XE';clear XE'));refine hK _ _ (by first | assumption | exact Ext.alloc _ _ | exact Ext.refl _) ?_;clear hK K;try simp only [Act.put,evp]))
      refine walks_done ?_
      have HXZ:=hid (hx.out.trans (hxD.trans XE.out))
      go_wp2
      first
       | (go_ret;exact ⟨by rw [HD.out,all_not Hg.out HPX.out.symm];rfl,HB1.out.ext.trans HXZ.out⟩)
       | exact ⟨⟨j + 1,by omega,by go_num,all_take Htk.out Hg.out HPX.out.symm,HXZ.out⟩,by simp [intOf];omega⟩
    ·obtain rfl : j = n2:=by omega
     have h9:=Htk.out
     rw [List.take_of_length_le (Nat.le_of_eq HR2.out.len.symm)] at h9
     have HF : Hid (r = true):=by show _ = _;rw [HD.out,h9]
     clear h9
     go_wp2
     go_ret
     exact ⟨by rw [HF.out];rfl,HB1.out.ext.trans hx.out⟩
end Go.Proofs.YtejdpadhemeldaaGreatDoor
