/- Lemmas of the walk that the last text of this claim joins. -/
import Derived.Test.YtejdpadhemeldaaGreatDoorZ16
import Derived.Test.YtejdpadhemeldaaGreatDoorZ15
import Derived.Test.YtejdpadhemeldaaGreatDoorZ10
import Derived.Lib.AppendZeros
set_option maxHeartbeats 40000000
set_option linter.unusedVariables false
set_option linter.unusedSimpArgs false
namespace Go.Proofs.YtejdpadhemeldaaGreatDoor
open Go.RowKit
set_option maxRecDepth 100000
def tailP : List Ava → List UInt8
 | []=>[]
 | a :: t=>43 :: (a.type ++ 61 :: writeF true a.val ++ tailP t)
theorem printF_cons : ∀ (a : Ava) (t : List Ava),printF (a :: t) = a.type ++ 61 :: writeF true a.val ++ tailP t
 | a,[]=>by simp [printF,tailP]
 | a,b :: t=>by
  have h:=printF_cons b t
  rw [printF,h,tailP]
def restP (j : Nat) (l : List Ava) : List UInt8:=if j = 0 then printF l else tailP l
theorem rest_zero (x : Ava) (t : List Ava) : restP 0 (x :: t) = (x.type ++ [61]) ++ writeF true x.val ++ restP 1 t:=by
 unfold restP;rw [if_pos rfl,if_neg (by decide),printF_cons];simp
theorem rest_succ {j : Nat} (h : ¬ j = 0) (x : Ava) (t : List Ava) : restP j (x :: t) = [43] ++ (x.type ++ [61]) ++ writeF true x.val ++ restP (j + 1) t:=by
 unfold restP;rw [if_neg h,if_neg (by omega),tailP];simp
theorem type_small (n : List UInt8) : (typeB n).1.length ≤ 17:=by
 unfold typeB
 cases h : typTab.find? (fun p=>lowerB p.1 == lowerB n) with
 | none=>simp
 | some p=>
  have hm:=List.mem_of_find?_eq_some h
  have hall : ∀ p ∈ typTab,p.1.length ≤ 17:=by decide
  exact hall p hm
theorem norm_small {k : Nat} {v : List UInt8} (h : (normB k v).isSome = true) : v.length ≤ 200:=by
 unfold normB at h
 by_cases hv : v = [] ∨ 200 < v.length
 ·rw [if_pos hv] at h;cases h
 ·have : ¬ 200 < v.length:=fun e=>hv (.inr e)
  omega
theorem ok_small {a : Ava} (h : avaOk a = true) : a.type.length ≤ 17 ∧ a.val.length ≤ 200:=by
 unfold avaOk at h
 simp only [Bool.and_eq_true,Bool.or_eq_true,decide_eq_true_eq] at h
 exact ⟨by have:=type_small a.type;rw [h.1.1] at this;exact this,norm_small h.2⟩
theorem formed_ok {l : List Ava} (h : formedA l = true) : ∀ a ∈ l,avaOk a = true:=by
 unfold formedA at h
 simp only [Bool.and_eq_true,List.all_eq_true] at h
 exact h.1.2
theorem formed_len {l : List Ava} (h : formedA l = true) : l.length ≤ 3:=by
 unfold formedA at h
 simp only [Bool.and_eq_true,decide_eq_true_eq] at h
 exact h.1.1.2
theorem plus_kept {B b : Nat} {xs : List UInt8} {w : World} (h : IsB B b xs w) (hl : xs.length + 1 ≤ 140737488355328) :
 Calls Tryz.prog 106 #[.pointer (some ⟨b,0,none⟩),.int .u8 43] w fun e w'=>e = .returned .nilIface ∧ IsB B b (xs ++ [43]) w' ∧ Kept B b w w':=writeByte_kept 43 h hl
def PrintSays (w : World) (l : List Ava) (e : Ending) (w' : World) : Prop:=e = .returned (.tuple #[.string (str (printB l)),.int .i64 (if formedA l then 0 else 1)]) ∧ Ext w w'
theorem print_any {S : Nat → Prop} {A : Option Addr} {n c : Nat} {l : List Ava} {w : World} (hG : Gl w) (h : Row Elem.ava S w A n c l) (hb : ∀ a ∈ l,a.type.length ≤ 4000000) :
 Calls Tryz.prog 64 #[.slice A n c] w (PrintSays w l):=by
 have HR:=hid h
 have HF:=hid (fun w' hx=>formed_any (hG.ext hx) (h.ext hx) hb : ∀ w',Ext w w' → Calls Tryz.prog 104 #[.slice A n c] w' fun e w''=>e = .returned (.bool (formedA l)) ∧ Ext w' w'')
 clear hG h hb
 cases hf : formedA l with
 | false=>
  have HE : Hid (printB l = [] ∧ formedA l = false):=⟨by unfold printB;rw [hf];rfl,hf⟩
  rw [hf] at HF
  clear hf
  go_enter Tryz.func64,Tryz.ntmps64
  go_wp2_with (go_at_call 104;(with_reducible refine (HF.out _ (Ext.refl _)).mono ?_);rintro e w1 ⟨rfl,hx1⟩;have HX1:=hid hx1;clear hx1)
  go_ret2
  exact ⟨by rw [HE.out.1,HE.out.2];rfl,HX1.out⟩
 | true=>
  have HE : Hid (printB l = printF l ∧ formedA l = true):=⟨by unfold printB;rw [hf];rfl,hf⟩
  have HO:=hid (formed_ok hf)
  have hn3 : n ≤ 3:=by rw [HR.out.len];exact formed_len hf
  rw [hf] at HF
  clear hf
  go_enter Tryz.func64,Tryz.ntmps64
  go_wp2_with (go_at_call 104;(with_reducible refine (HF.out _ (Ext.refl _)).mono ?_);rintro e w1 ⟨rfl,hx1⟩;have HX1:=hid hx1;clear hx1)
  go_loopw [12] (fun i wr=>∃ (j : Nat) (acc : List UInt8),j ≤ n ∧ i = .int .i64 j ∧ acc.length ≤ 1000 * j ∧ Hid (IsB w1.heap.size w1.heap.size acc wr ∧ Below w1.heap.size w1 wr) ∧ Hid (acc ++ restP j (l.drop j) = printF l)) (fun i _=>n - (intOf i).toNat)
  case atStart=>exact ⟨0,[],by omega,rfl,by simp,⟨isB_new w1,Ext.alloc _ _⟩,rfl⟩
  case round=>
   obtain ⟨j,acc,hj,rfl,hacc,HI,HP⟩:=hrel
   by_cases hlt : j < n
   ·obtain ⟨b,o,x,rfl,hx,e1,e2⟩:=ava_at ((HR.out.ext HX1.out).ext HI.out.2) hlt
    obtain ⟨hs1,hs2⟩:=ok_small (HO.out x (List.mem_of_getElem? hx))
    have hd : Hid (l.drop j = x :: l.drop (j + 1)):=by
     show _ = _
     obtain ⟨h1,h2⟩:=List.getElem?_eq_some_iff.1 hx
     rw [List.drop_eq_getElem_cons h1,h2]
    have hw3:=writeF_length x.val true
    have hz1 : (str x.type ++ str [61]) = str (x.type ++ [61]):=str_app _ _
    have z1 : ¬ 9223372036854775807 < x.type.length + 1:=by omega
    have hgB : Hid (wr.heap.size ≠ w1.heap.size):=by show _ ≠ _;have:=HI.out.1.lt;omega
    clear hx
    by_cases hj0 : j = 0
    ·have tj : decide (0 < j) = false:=by rw [decide_eq_false_iff_not];omega
     have HP2 : Hid (acc ++ (x.type ++ [61]) ++ writeF true x.val ++ restP (j + 1) (l.drop (j + 1)) = printF l):=by show _ = _;rw [← HP.out,hd.out,hj0,rest_zero];simp
     clear hj0
     go_wp2_with (first
      | (go_at_call 67;(with_reducible refine (writeString_kept (str (x.type ++ [61])) (HI.out.1.ext (Ext.alloc _ _)) (by rw [str_size];simp;omega)).mono ?_);rintro e w3 ⟨rfl,hi3,hk3⟩;rw [bys_str] at hi3;have HI3:=hid hi3;have HK3:=hid (Kept.trans (kept_ext (Ext.alloc _ _) HI.out.1.le) hk3);have c1:=hk3.cell (j:=1) (heap_alloc_new wr _) (by decide) hgB.out rfl;clear hi3 hk3)
      | (go_at_call 107;(with_reducible refine (writeall_kept (str x.val) _ HI3.out (by rw [str_size];omega) (by simp;omega)).mono ?_);rintro e w4 ⟨rfl,hi4,hk4⟩;rw [bys_str] at hi4;have HI4:=hid hi4;have HK4:=hid (HK3.out.trans hk4);clear hi4 hk4))
     exact ⟨⟨j + 1,_,by omega,by go_num,by simp;omega,⟨HI4.out,Below.trans HI.out.2 HK4.out.below⟩,HP2⟩,by simp [intOf];omega⟩
    ·have tj : decide (0 < j) = true:=by rw [decide_eq_true_eq];omega
     have HP2 : Hid (acc ++ [43] ++ (x.type ++ [61]) ++ writeF true x.val ++ restP (j + 1) (l.drop (j + 1)) = printF l):=by show _ = _;rw [← HP.out,hd.out,rest_succ hj0];simp
     clear hj0
     go_wp2_with (first
      | (go_at_call 106;(with_reducible refine (plus_kept (HI.out.1.ext (Ext.alloc _ _)) (by omega)).mono ?_);rintro e w2 ⟨rfl,hi2,hk2⟩;have HI2:=hid hi2;have HK2:=hid (Kept.trans (kept_ext (Ext.alloc _ _) HI.out.1.le) hk2);have HKA:=hid hk2;have c0:=hk2.cell (j:=0) (heap_alloc_new wr _) (by decide) hgB.out rfl;clear hi2 hk2)
      | (go_at_call 67;(with_reducible refine (writeString_kept (str (x.type ++ [61])) HI2.out (by rw [str_size];simp;omega)).mono ?_);rintro e w3 ⟨rfl,hi3,hk3⟩;rw [bys_str] at hi3;have HI3:=hid hi3;have HK3:=hid (HK2.out.trans hk3);have c1:=(HKA.out.trans hk3).cell (j:=1) (heap_alloc_new wr _) (by decide) hgB.out rfl;clear hi3 hk3)
      | (go_at_call 107;(with_reducible refine (writeall_kept (str x.val) _ HI3.out (by rw [str_size];omega) (by simp;omega)).mono ?_);rintro e w4 ⟨rfl,hi4,hk4⟩;rw [bys_str] at hi4;have HI4:=hid hi4;have HK4:=hid (HK3.out.trans hk4);clear hi4 hk4))
     exact ⟨⟨j + 1,_,by omega,by go_num,by simp;omega,⟨HI4.out,Below.trans HI.out.2 HK4.out.below⟩,HP2⟩,by simp [intOf];omega⟩
   ·obtain rfl : j = n:=by omega
    have HQ : Hid (printF l = acc):=by
     show _ = _
     rw [← HP.out,List.drop_of_length_le (Nat.le_of_eq HR.out.len.symm)]
     have : restP j [] = []:=by unfold restP;split <;> rfl
     rw [this,List.append_nil]
    go_wp2_with (go_at_call 68;(with_reducible refine (string_any HI.out.1).mono ?_);rintro e w4 ⟨rfl,hx4⟩;have HX4:=hid hx4;clear hx4)
    go_ret2
    exact ⟨by rw [HE.out.1,HE.out.2,HQ.out];rfl,HX1.out.trans (Below.trans HI.out.2 HX4.out)⟩
theorem rprint_any {S : Nat → Prop} {A : Option Addr} {n c : Nat} {l : List Ava} {w : World} (hG : Gl w) (h : Row Elem.ava S w A n c l) (hb : ∀ a ∈ l,a.type.length ≤ 4000000) :
 Calls Tryz.prog 82 #[.slice A n c] w (PrintSays w l):=by
 have HR:=hid h
 have HF:=hid (fun w' hx=>rformed_any (hG.ext hx) (h.ext hx) hb : ∀ w',Ext w w' → Calls Tryz.prog 118 #[.slice A n c] w' fun e w''=>e = .returned (.bool (formedA l)) ∧ Ext w' w'')
 clear hG h hb
 cases hf : formedA l with
 | false=>
  have HE : Hid (printB l = [] ∧ formedA l = false):=⟨by unfold printB;rw [hf];rfl,hf⟩
  rw [hf] at HF
  clear hf
  go_enter Tryz.func82,Tryz.ntmps82
  go_wp2_with (go_at_call 118;(with_reducible refine (HF.out _ (Ext.refl _)).mono ?_);rintro e w1 ⟨rfl,hx1⟩;have HX1:=hid hx1;clear hx1)
  go_ret2
  exact ⟨by rw [HE.out.1,HE.out.2];rfl,HX1.out⟩
 | true=>
  have HE : Hid (printB l = printF l ∧ formedA l = true):=⟨by unfold printB;rw [hf];rfl,hf⟩
  have HO:=hid (formed_ok hf)
  have hn3 : n ≤ 3:=by rw [HR.out.len];exact formed_len hf
  rw [hf] at HF
  clear hf
  go_enter Tryz.func82,Tryz.ntmps82
  go_wp2_with (go_at_call 118;(with_reducible refine (HF.out _ (Ext.refl _)).mono ?_);rintro e w1 ⟨rfl,hx1⟩;have HX1:=hid hx1;clear hx1)
  go_loopw [4,11] (fun v i wr=>∃ (j : Nat) (acc : List UInt8),j ≤ n ∧ i = .int .i64 j ∧ v = .string (str acc) ∧ acc.length ≤ 1000 * j ∧ Hid (Ext w1 wr) ∧ Hid (acc ++ restP j (l.drop j) = printF l)) (fun _ i _=>n - (intOf i).toNat)
  case atStart=>exact ⟨0,[],by omega,rfl,rfl,by simp,Ext.refl _,rfl⟩
  case round=>
   obtain ⟨j,acc,hj,rfl,rfl,hacc,HX,HP⟩:=hrel
   by_cases hlt : j < n
   ·have hlt' : (j : Int) < (n : Int):=by omega
    obtain ⟨b,o,x,rfl,hx,e1,e2⟩:=ava_at ((HR.out.ext HX1.out).ext HX.out) hlt
    obtain ⟨hs1,hs2⟩:=ok_small (HO.out x (List.mem_of_getElem? hx))
    have hd : Hid (l.drop j = x :: l.drop (j + 1)):=by
     show _ = _
     obtain ⟨h1,h2⟩:=List.getElem?_eq_some_iff.1 hx
     rw [List.drop_eq_getElem_cons h1,h2]
    have hw3:=writeF_length x.val true
    have HW : ∀ w,Calls Tryz.prog 119 #[.string (str x.val)] w fun e w'=>e = .returned (.string (str (writeF true x.val))) ∧ Ext w w':=fun w=>by
     have:=rvalue_any (str x.val) w (by rw [str_size];omega)
     rwa [bys_str] at this
    obtain ⟨wv,hgw⟩ : ∃ wv,wv = writeF true x.val:=⟨_,rfl⟩
    rw [← hgw] at HW hw3
    have HGW:=hid hgw
    clear hgw hx
    by_cases hj0 : j = 0
    ·have tj : decide (0 < j) = false:=by rw [decide_eq_false_iff_not];omega
     have HP2 : Hid (acc ++ x.type ++ [61] ++ wv ++ restP (j + 1) (l.drop (j + 1)) = printF l):=by show _ = _;rw [← HP.out,hd.out,hj0,rest_zero,← HGW.out];simp
     clear hj0
     have z1 : ¬ 9223372036854775807 < acc.length + x.type.length:=by (try simp);omega
     have z2 : ¬ 9223372036854775807 < acc.length + x.type.length + 1:=by (try simp);omega
     have z3 : ¬ 9223372036854775807 < acc.length + x.type.length + 1 + wv.length:=by (try simp);omega
     go_wp2
     refine wp_region_plan (.read 0 (.read 1 (.read 2 (.read 3 (.read 4 (.read 5 (.read 6 (.read 7 (.read 8 (.read 9 (.read 10 (.read 11 (.read 12 (.main 13 (.read 14 (.read 15 .done)))))))))))))))) (by kernel_rfl) (by kernel_rfl) ?_
     intro wD hxD
     have XE : Hid (Ext wD wD):=Ext.refl _
     have p1:=cell_later (cell_later e1 _ hxD)
     have p2:=cell_later (cell_later e2 _ hxD)
     repeat' (first
      | ((first | refine walks_move rfl rfl ?_ | refine walks_assign rfl rfl ?_ | refine walks_skip rfl rfl ?_);simp only [Act.put,Act.eval,evs])
      | (refine walks_unwanted rfl rfl ?_;simp only [Act.put,evp])
      | (refine walks_read (v:=?_) rfl rfl (fun w' hE=>?_) ?_;rotate_left 1;(· ((try (have hEx:=Ext.trans (Hid.out XE) hE));go_simp;(try go_bits);with_reducible rfl));simp only [Act.put,evp])
      | (refine walks_alt ?_ ?_)
      | (refine walks_main rfl rfl (fun K hK=>?_);go_wp2_with ((go_at_call 119;(with_reducible refine (HW _).mono ?_);rintro e w2 ⟨rfl,hx2⟩;have XE':=hid (Ext.trans (Hid.out XE) hx2);clear XE;have XE:=XE';clear XE'));refine hK _ _ (by first | assumption | exact Ext.alloc _ _ | exact Ext.refl _) ?_;clear hK K;try simp only [Act.put,evp]))
     refine walks_done ?_
     go_wp2
     exact ⟨⟨j + 1,_,by omega,by go_num,rfl,by simp;omega,HX.out.trans (hxD.trans XE.out),HP2⟩,by simp [intOf];omega⟩
    ·have tj : decide (0 < j) = true:=by rw [decide_eq_true_eq];omega
     have HP2 : Hid (acc ++ [43] ++ x.type ++ [61] ++ wv ++ restP (j + 1) (l.drop (j + 1)) = printF l):=by show _ = _;rw [← HP.out,hd.out,rest_succ hj0,← HGW.out];simp
     have z0 : ¬ 9223372036854775807 < acc.length + 1:=by omega
     obtain ⟨ac,hac⟩ : ∃ ac,ac = acc ++ [43]:=⟨_,rfl⟩
     have hz0 : (str acc ++ str [43]) = str ac:=by rw [hac];exact str_app _ _
     have hacl : ac.length ≤ 1000 * j + 1:=by rw [hac];simp;omega
     rw [← hac] at HP2
     clear hj0 hac
     have z1 : ¬ 9223372036854775807 < ac.length + x.type.length:=by (try simp);omega
     have z2 : ¬ 9223372036854775807 < ac.length + x.type.length + 1:=by (try simp);omega
     have z3 : ¬ 9223372036854775807 < ac.length + x.type.length + 1 + wv.length:=by (try simp);omega
     go_wp2
     refine wp_region_plan (.read 0 (.read 1 (.read 2 (.read 3 (.read 4 (.read 5 (.read 6 (.read 7 (.read 8 (.read 9 (.read 10 (.read 11 (.read 12 (.main 13 (.read 14 (.read 15 .done)))))))))))))))) (by kernel_rfl) (by kernel_rfl) ?_
     intro wD hxD
     have XE : Hid (Ext wD wD):=Ext.refl _
     have p1:=cell_later (cell_later e1 _ hxD)
     have p2:=cell_later (cell_later e2 _ hxD)
     repeat' (first
      | ((first | refine walks_move rfl rfl ?_ | refine walks_assign rfl rfl ?_ | refine walks_skip rfl rfl ?_);simp only [Act.put,Act.eval,evs])
      | (refine walks_unwanted rfl rfl ?_;simp only [Act.put,evp])
      | (refine walks_read (v:=?_) rfl rfl (fun w' hE=>?_) ?_;rotate_left 1;(· ((try (have hEx:=Ext.trans (Hid.out XE) hE));go_simp;(try go_bits);with_reducible rfl));simp only [Act.put,evp])
      | (refine walks_alt ?_ ?_)
      | (refine walks_main rfl rfl (fun K hK=>?_);go_wp2_with ((go_at_call 119;(with_reducible refine (HW _).mono ?_);rintro e w2 ⟨rfl,hx2⟩;have XE':=hid (Ext.trans (Hid.out XE) hx2);clear XE;have XE:=XE';clear XE'));refine hK _ _ (by first | assumption | exact Ext.alloc _ _ | exact Ext.refl _) ?_;clear hK K;try simp only [Act.put,evp]))
     refine walks_done ?_
     go_wp2
     exact ⟨⟨j + 1,_,by omega,by go_num,rfl,by simp;omega,HX.out.trans (hxD.trans XE.out),HP2⟩,by simp [intOf];omega⟩
   ·obtain rfl : j = n:=by omega
    have HQ : Hid (printF l = acc):=by
     show _ = _
     rw [← HP.out,List.drop_of_length_le (Nat.le_of_eq HR.out.len.symm)]
     have : restP j [] = []:=by unfold restP;split <;> rfl
     rw [this,List.append_nil]
    go_wp2
    go_ret2
    exact ⟨by rw [HE.out.1,HE.out.2,HQ.out];rfl,HX1.out.trans HX.out⟩
theorem GrowA.empty (w : World) (T : TypeId) : GrowA T w (w.alloc (.cells #[] T)) (.slice (some ⟨w.heap.size,0,none⟩) 0 0) []:=
 ⟨own_empty w _ (Nat.le_refl _) _ _,Ext.alloc _ _⟩
theorem cloneA_any {S : Nat → Prop} {A : Option Addr} {n c : Nat} {l : List Ava} {w : World} (h : Row Elem.ava S w A n c l) (hl : l.length ≤ 4000000) :
 Calls Tryz.prog 105 #[.slice A n c] w fun e w'=>∃ v,e = .returned v ∧ GrowA 143 w w' v l:=by
 have HR:=hid h
 have HL:=hid hl
 have HN:=hid h.len
 clear h hl
 rcases A with _ | ⟨b,o,sp⟩
 ·have hnil : l = []:=by
   rcases Nat.eq_zero_or_pos n with h0 | h0
   ·exact HR.out.nil_iff.1 h0
   ·obtain ⟨b,off,v,x,hA,_⟩:=HR.out.at_ h0
    cases hA
  have HNL:=hid hnil
  clear hnil
  have hz:=fun W=>Lib.run_eql_slice_nil (P:=Tryz.prog) W 99 143 none n c 0 0 Tryz.underlying99
  go_enter Tryz.func105,Tryz.ntmps105
  go_wp2
  go_ret
  exact ⟨_,rfl,by rw [HNL.out];exact GrowA.nil (Ext.refl _)⟩
 ·have hz:=fun W=>Lib.run_eql_slice_nil (P:=Tryz.prog) W 99 143 (some ⟨b,o,sp⟩) n c 0 0 Tryz.underlying99
  go_enter Tryz.func105,Tryz.ntmps105
  go_wp2_with (at_builtin;refine append_avas rfl _ _ rfl _ [] rfl (GrowA.empty w 143) _ n c l rfl HN.out ((row_cells HR.out).below (Ext.alloc _ _)) (by have:=HN.out;have:=HL.out;simp;omega) ?_;intro v' w3 hg3;have HG3:=hid hg3;clear hg3)
  go_ret
  exact ⟨_,rfl,by simpa using HG3.out⟩
def mixA (j : Nat) (l : List Ava) : List Ava:=normA (l.take j) ++ l.drop j
theorem mixA_zero (l : List Ava) : mixA 0 l = l:=by simp [mixA,normA]
theorem mixA_all (l : List Ava) : mixA l.length l = normA l:=by simp [mixA]
theorem mixA_at {j : Nat} {l : List Ava} {x : Ava} (h : l[j]? = some x) : (mixA j l)[j]? = some x:=by
 have hl:=(List.getElem?_eq_some_iff.1 h).1
 unfold mixA
 rw [List.getElem?_append_right (by simp [normA];omega)]
 have : j - (normA (l.take j)).length = 0:=by simp [normA];omega
 rw [this,List.getElem?_drop]
 simpa using h
theorem mixA_step {j : Nat} {l : List Ava} {x : Ava} (h : l[j]? = some x) : (mixA j l).set j ⟨x.type,(normB (typeB x.type).2 x.val).getD []⟩ = mixA (j + 1) l:=by
 obtain ⟨h1,h2⟩:=List.getElem?_eq_some_iff.1 h
 have hj : (normA (l.take j)).length = j:=by simp [normA];omega
 unfold mixA
 rw [List.set_append_right _ _ (by omega),hj,Nat.sub_self,List.drop_eq_getElem_cons h1,List.set_cons_zero,List.take_add_one,h]
 simp [normA]
theorem norm_val {a : Ava} (h : avaOk a = true) : (normE a.type a.val).1 = (normB (typeB a.type).2 a.val).getD [] ∧ (normZ a.type a.val).1 = (normB (typeB a.type).2 a.val).getD []:=by
 unfold avaOk at h
 simp only [Bool.and_eq_true,Bool.or_eq_true,decide_eq_true_eq] at h
 have hz : normZ a.type a.val = normE a.type a.val:=by unfold normZ;rw [if_neg (by omega)]
 rw [hz]
 have hE : (normE a.type a.val).1 = (normB (typeB a.type).2 a.val).getD []:=by
  have hs:=h.2
  unfold normE normB at *
  rw [if_neg (by omega),if_neg (by omega)]
  by_cases hv : a.val = [] ∨ 200 < a.val.length
  ·rw [if_pos hv] at hs;cases hs
  ·rw [if_neg hv] at hs
   rw [if_neg hv,if_neg hv]
   rcases h.1.2 with h1 | h1
   ·rw [h1] at hs ⊢
    simp only [normP,textN,if_true] at hs ⊢
    by_cases ht : joinSp (wordsB (lowerB a.val)) = [] ∨ (0 : UInt8) ∈ joinSp (wordsB (lowerB a.val))
    ·rw [if_pos ht] at hs;cases hs
    ·have h2 : joinSp (wordsB (lowerB a.val)) ≠ [] ∧ (0 : UInt8) ∉ joinSp (wordsB (lowerB a.val)):=⟨fun e=>ht (.inl e),fun e=>ht (.inr e)⟩
     simp [h2]
   ·rw [h1] at hs ⊢
    cases hb : intB a.val with
    | false=>simp [hb] at hs
    | true=>simp [normP,hb]
 exact ⟨hE,hE⟩
def NPSays (w : World) (l : List Ava) (e : Ending) (w' : World) : Prop:=
 ∃ A n c,e = .returned (.tuple #[.slice A n c,.int .i64 (if formedA l then 0 else 1)]) ∧ Row Elem.ava (fun b=>w.heap.size ≤ b) w' A n c (if formedA l then normA l else []) ∧ Ext w w'
theorem nparts_any {S : Nat → Prop} {A : Option Addr} {n c : Nat} {l : List Ava} {w : World} (hG : Gl w) (h : Row Elem.ava S w A n c l) (hb : ∀ a ∈ l,a.type.length ≤ 4000000) :
 Calls Tryz.prog 63 #[.slice A n c] w (NPSays w l):=by
 have HG:=hid hG
 have HR:=hid h
 have HF:=hid (fun w' hx=>formed_any (hG.ext hx) (h.ext hx) hb : ∀ w',Ext w w' → Calls Tryz.prog 104 #[.slice A n c] w' fun e w''=>e = .returned (.bool (formedA l)) ∧ Ext w' w'')
 clear hG h hb
 cases hf : formedA l with
 | false=>
  have HE : Hid (formedA l = false):=hf
  rw [hf] at HF
  clear hf
  go_enter Tryz.func63,Tryz.ntmps63
  go_wp2_with (go_at_call 104;(with_reducible refine (HF.out _ (Ext.refl _)).mono ?_);rintro e w1 ⟨rfl,hx1⟩;have HX1:=hid hx1;clear hx1)
  go_ret2
  exact ⟨none,0,0,by rw [HE.out];rfl,by rw [HE.out];exact Row.nil _ _ _,HX1.out⟩
 | true=>
  have HE : Hid (formedA l = true):=hf
  have HO:=hid (formed_ok hf)
  have hl3:=formed_len hf
  have hn3 : n ≤ 3:=by rw [HR.out.len];exact hl3
  have HLN:=hid HR.out.len
  have hne : 0 < l.length:=by
   unfold formedA at hf
   simp only [Bool.and_eq_true,decide_eq_true_eq] at hf
   exact hf.1.1.1
  rw [hf] at HF
  have HL3:=hid hl3
  have HNE:=hid hne
  clear hf hl3 hne
  go_enter Tryz.func63,Tryz.ntmps63
  go_wp2_with (first
   | (go_at_call 104;(with_reducible refine (HF.out _ (Ext.refl _)).mono ?_);rintro e w1 ⟨rfl,hx1⟩;have HX1:=hid hx1;clear hx1)
   | (go_at_call 105;(with_reducible refine (cloneA_any (HR.out.ext HX1.out) (by have:=HL3.out;omega)).mono ?_);rintro e w2 ⟨v2,rfl,hg2⟩;obtain ⟨g,cap,rfl,hc1,hc2⟩:=hg2.form HNE.out;have HG2:=hid hg2;clear hg2))
  have hl4 : l.length ≤ 3:=HL3.out
  go_loopw [14] (fun i wr=>∃ (j : Nat),j ≤ l.length ∧ i = .int .i64 j ∧ Hid (GrowA 143 w1 wr (.slice (some ⟨g,0,none⟩) l.length cap) (mixA j l))) (fun i _=>l.length - (intOf i).toNat)
  case atStart=>exact ⟨0,by omega,rfl,by rw [mixA_zero];exact HG2⟩
  case round=>
   obtain ⟨j,hj,rfl,HGR⟩:=hrel
   by_cases hlt : j < l.length
   ·obtain ⟨x,hx⟩ : ∃ x,l[j]? = some x:=⟨_,List.getElem?_eq_getElem hlt⟩
    have e1:=HGR.out.at0 (mixA_at hx)
    have e2:=HGR.out.at1 (mixA_at hx)
    have hox:=HO.out x (List.mem_of_getElem? hx)
    have hxs:=ok_small hox
    have HST:=hid (mixA_step hx)
    have HMX:=hid (mixA_at hx)
    have HNC : ∀ w,Gl w → Calls Tryz.prog 84 #[.string (str x.type),.string (str x.val)] w (NormSays w x.type x.val):=fun w hG=>by
     have h4 : (typeB x.type).2 ≠ 4:=by
      unfold avaOk at hox
      simp only [Bool.and_eq_true,Bool.or_eq_true,decide_eq_true_eq] at hox
      omega
     have:=normal_any (str x.type) (str x.val) w hG (by rw [str_size];omega) (by rw [bys_str];exact h4)
     rwa [bys_str,bys_str] at this
    have HNV:=hid (norm_val hox).1
    unfold NormSays at HNC
    generalize normE x.type x.val = q at *
    obtain ⟨nv,ne⟩:=q
    simp only at HNC HNV
    clear hx hox
    go_wp2_with (first
     | (go_at_call 84;(with_reducible refine (HNC _ (HG.out.ext (HX1.out.trans (HGR.out.ext.trans (Ext.alloc _ _))))).mono ?_);rintro e w3 ⟨rfl,hx3⟩;have HG4:=hid ((HGR.out.later (Ext.alloc _ _)).later hx3);have e3:=HG4.out.at1 HMX.out;have e4:=HG4.out.thaw (j * 2 + 1);clear hx3))
    refine ⟨⟨j + 1,by omega,by go_num,?_⟩,by simp [intOf];omega⟩
    have:=HG4.out.set1 HMX.out nv
    rw [← HST.out,← HNV.out]
    exact this
   ·obtain rfl : j = l.length:=by omega
    rw [mixA_all] at HGR
    obtain ⟨A',c',hv,hr⟩:=HGR.out.row
    injection hv with hv1 hv2 hv3
    subst hv1 hv3
    have HRR:=hid hr
    have HNL : Hid (l.length = (normA l).length):=by show _ = _;simp [normA]
    clear hr hv2
    go_wp2
    go_ret2
    refine ⟨some ⟨g,0,none⟩,l.length,cap,by rw [HE.out];rfl,?_,HX1.out.trans HGR.out.ext⟩
    rw [HE.out,if_pos rfl,HNL.out]
    exact HRR.out.mono fun _ _ hs=>Nat.le_trans (ext_sz HX1.out) hs
theorem rnparts_any {S : Nat → Prop} {A : Option Addr} {n c : Nat} {l : List Ava} {w : World} (hG : Gl w) (h : Row Elem.ava S w A n c l) (hb : ∀ a ∈ l,a.type.length ≤ 4000000) :
 Calls Tryz.prog 81 #[.slice A n c] w (NPSays w l):=by
 have HG:=hid hG
 have HR:=hid h
 have HF:=hid (fun w' hx=>rformed_any (hG.ext hx) (h.ext hx) hb : ∀ w',Ext w w' → Calls Tryz.prog 118 #[.slice A n c] w' fun e w''=>e = .returned (.bool (formedA l)) ∧ Ext w' w'')
 clear hG h hb
 cases hf : formedA l with
 | false=>
  have HE : Hid (formedA l = false):=hf
  rw [hf] at HF
  clear hf
  go_enter Tryz.func81,Tryz.ntmps81
  go_wp2_with (go_at_call 118;(with_reducible refine (HF.out _ (Ext.refl _)).mono ?_);rintro e w1 ⟨rfl,hx1⟩;have HX1:=hid hx1;clear hx1)
  go_ret2
  exact ⟨none,0,0,by rw [HE.out];rfl,by rw [HE.out];exact Row.nil _ _ _,HX1.out⟩
 | true=>
  have HE : Hid (formedA l = true):=hf
  have HO:=hid (formed_ok hf)
  have hl3:=formed_len hf
  have hn3 : n ≤ 3:=by rw [HR.out.len];exact hl3
  have HL3:=hid hl3
  rw [hf] at HF
  clear hf hl3
  go_enter Tryz.func81,Tryz.ntmps81
  go_wp2_with (first
   | (go_at_call 118;(with_reducible refine (HF.out _ (Ext.refl _)).mono ?_);rintro e w1 ⟨rfl,hx1⟩;have HX1:=hid hx1;clear hx1))
  go_loopw [4,13] (fun v i wr=>∃ (j : Nat),j ≤ n ∧ i = .int .i64 j ∧ Hid (GrowA 146 w1 wr v (normA (l.take j)))) (fun _ i _=>n - (intOf i).toNat)
  case atStart=>exact ⟨0,by omega,rfl,GrowA.nil (Ext.refl _)⟩
  case round=>
   obtain ⟨j,hj,rfl,HGR⟩:=hrel
   by_cases hlt : j < n
   ·have hlt' : (j : Int) < (n : Int):=by omega
    obtain ⟨b,o,x,rfl,hx,e1,e2⟩:=ava_at (HR.out.ext (HX1.out.trans HGR.out.ext)) hlt
    have hox:=HO.out x (List.mem_of_getElem? hx)
    have hxs:=ok_small hox
    have HNC : ∀ w,Gl w → Calls Tryz.prog 100 #[.string (str x.type),.string (str x.val)] w (NormZSays w x.type x.val):=fun w hG=>by
     have:=rnormal_any (str x.type) (str x.val) w hG (by rw [str_size];omega)
     rwa [bys_str,bys_str] at this
    have HNV:=hid (norm_val hox).2
    have HST : Hid (normA (l.take (j + 1)) = normA (l.take j) ++ [⟨x.type,(normB (typeB x.type).2 x.val).getD []⟩]):=by show _ = _;unfold normA;rw [List.take_add_one,hx];simp
    unfold NormZSays at HNC
    generalize normZ x.type x.val = q at *
    obtain ⟨nv,ne⟩:=q
    simp only at HNC HNV
    rw [← HNV.out] at HST
    clear hx hox HNV
    go_wp2
    refine wp_region_plan (.read 0 (.read 1 (.read 2 (.read 3 (.read 4 (.read 5 (.read 6 (.read 7 (.read 8 (.read 9 (.main 10 (.read 11 (.read 12 (.read 13 (.read 14 (.read 15 .done)))))))))))))))) (by kernel_rfl) (by kernel_rfl) ?_
    intro wD hxD
    have XE : Hid (Ext wD wD):=Ext.refl _
    have HGD:=hid (HGR.out.later hxD)
    have p1:=cell_later (cell_later e1 _ hxD)
    have p2:=cell_later (cell_later e2 _ hxD)
    repeat' (first
     | ((first | refine walks_move rfl rfl ?_ | refine walks_assign rfl rfl ?_ | refine walks_skip rfl rfl ?_);simp only [Act.put,Act.eval,evs])
     | (refine walks_unwanted rfl rfl ?_;simp only [Act.put,evp])
     | (refine walks_read (v:=?_) rfl rfl (fun w' hE=>?_) ?_;rotate_left 1;(· ((try (have hEx:=Ext.trans (Hid.out XE) hE));go_simp;(try go_bits);with_reducible rfl));simp only [Act.put,evp])
     | (refine walks_alt ?_ ?_)
     | (refine walks_main rfl rfl (fun K hK=>?_);go_wp2_with ((go_at_call 100;(with_reducible refine (HNC _ (HG.out.ext (HX1.out.trans (HGD.out.ext.trans XE.out)))).mono ?_);rintro e w2 ⟨rfl,hx2⟩;have XE':=hid (Ext.trans (Hid.out XE) hx2);clear XE;have XE:=XE';clear XE'));refine hK _ _ (by first | assumption | exact Ext.alloc _ _ | exact Ext.refl _) ?_;clear hK K;try simp only [Act.put,evp]))
    refine walks_done ?_
    have q1:=p1 _ XE.out
    have HG2:=hid (HGD.out.later XE.out)
    clear p1 p2
    go_wp2_with (at_builtin;refine rappend_avas rfl _ _ rfl _ _ rfl (HG2.out.later (Ext.alloc _ _)) _ 1 1 [⟨x.type,nv⟩] rfl rfl (lit_ava1 _ ⟨x.type,nv⟩ _) (by have:=List.length_take_le j l;have:=HL3.out;simp [normA];omega) ?_;intro v' w5 hg5;have HG5:=hid hg5;clear hg5)
    refine ⟨⟨j + 1,by omega,by go_num,?_⟩,by simp [intOf];omega⟩
    rw [HST.out]
    exact HG5
   ·obtain rfl : j = n:=by omega
    have HT : Hid (normA (l.take j) = normA l):=by show _ = _;rw [List.take_of_length_le (Nat.le_of_eq HR.out.len.symm)]
    rw [HT.out] at HGR
    obtain ⟨A',c',rfl,hr⟩:=HGR.out.row
    have HRR:=hid hr
    clear hr
    go_wp2
    go_ret2
    refine ⟨_,_,c',by rw [HE.out];rfl,?_,HX1.out.trans HGR.out.ext⟩
    rw [HE.out,if_pos rfl]
    exact HRR.out.mono fun _ _ hs=>Nat.le_trans (ext_sz HX1.out) hs
end Go.Proofs.YtejdpadhemeldaaGreatDoor
