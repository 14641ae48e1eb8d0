import Derived.Test.YtencmdpjiafnaaaGreatDoorZ24
import Derived.Test.YtencmdpjiafnaaaGreatDoorZ25
/- The walks of rdn's and of the reference's Print of a part. -/
namespace Go.Proofs.YtencmdpjiafnaaaGreatDoor
open Go.RowKit
set_option maxRecDepth 100000
set_option linter.unusedSimpArgs false
set_option linter.unusedVariables false

/-- What stands behind the first pair. -/
def tailP : List Ava → List UInt8
  | [] => []
  | a :: t => 43 :: (a.type ++ 61 :: writeF true a.val ++ tailP t)
theorem printF_cons : ∀ (a : Ava) (t : List Ava), printF (a :: t) = a.type ++ 61 :: writeF true a.val ++ tailP t
  | a, [] => by simp [printF, tailP]
  | a, b :: t => by
    have h := printF_cons b t
    rw [printF, h, tailP]
/-- What is left to print from a place on. -/
def restP (j : Nat) (l : List Ava) : List UInt8 := if j = 0 then printF l else tailP l
theorem rest_zero (x : Ava) (t : List Ava) : restP 0 (x :: t) = (x.type ++ [61]) ++ writeF true x.val ++ restP 1 t := by
  unfold restP; rw [if_pos rfl, if_neg (by decide), printF_cons]; simp
theorem rest_succ {j : Nat} (h : ¬ j = 0) (x : Ava) (t : List Ava) : restP j (x :: t) = [43] ++ (x.type ++ [61]) ++ writeF true x.val ++ restP (j + 1) t := by
  unfold restP; rw [if_neg h, if_neg (by omega), tailP]; simp
theorem type_small (n : List UInt8) : (typeB n).1.length ≤ 17 := by
  unfold typeB
  cases h : typTab.find? (fun p => lowerB p.1 == lowerB n) with
  | none => simp
  | some p =>
    have hm := List.mem_of_find?_eq_some h
    have hall : ∀ p ∈ typTab, p.1.length ≤ 17 := by decide
    exact hall p hm
theorem norm_small {k : Nat} {v : List UInt8} (h : (normB k v).isSome = true) : v.length ≤ 200 := by
  unfold normB at h
  by_cases hv : v = [] ∨ 200 < v.length
  · rw [if_pos hv] at h; cases h
  · have : ¬ 200 < v.length := fun e => hv (.inr e)
    omega
theorem ok_small {a : Ava} (h : avaOk a = true) : a.type.length ≤ 17 ∧ a.val.length ≤ 200 := by
  unfold avaOk at h
  simp only [Bool.and_eq_true, Bool.or_eq_true, decide_eq_true_eq] at h
  exact ⟨by have := type_small a.type; rw [h.1.1] at this; exact this, norm_small h.2⟩
theorem formed_ok {l : List Ava} (h : formedA l = true) : ∀ a ∈ l, avaOk a = true := by
  unfold formedA at h
  simp only [Bool.and_eq_true, List.all_eq_true] at h
  exact h.1.2
theorem formed_len {l : List Ava} (h : formedA l = true) : l.length ≤ 3 := by
  unfold formedA at h
  simp only [Bool.and_eq_true, decide_eq_true_eq] at h
  exact h.1.1.2
theorem plus_kept {B b : Nat} {xs : List UInt8} {w : World} (h : IsB B b xs w) (hl : xs.length + 1 ≤ 140737488355328) :
    Calls Tryz.prog 161 #[.pointer (some ⟨b, 0, none⟩), .int .u8 43] w fun e w' => e = .returned .nilIface ∧ IsB B b (xs ++ [43]) w' ∧ Kept B b w w' := writeByte_kept 43 h hl
def PrintSays (w : World) (l : List Ava) (e : Ending) (w' : World) : Prop := e = .returned (.tuple #[.string (str (printB l)), .int .i64 (if formedA l then 0 else 1)]) ∧ Ext w w'
set_option maxHeartbeats 2000000 in
theorem print_any {S : Nat → Prop} {A : Option Addr} {n c : Nat} {l : List Ava} {w : World} (hG : Gl w) (h : Row Elem.ava S w A n c l) (hb : ∀ a ∈ l, a.type.length ≤ 4000000) :
    Calls Tryz.prog 106 #[.slice A n c] w (PrintSays w l) := by
  have HR := hid h
  have HF := hid (fun w' hx => formed_any (hG.ext hx) (h.ext hx) hb : ∀ w', Ext w w' → Calls Tryz.prog 140 #[.slice A n c] w' fun e w'' => e = .returned (.bool (formedA l)) ∧ Ext w' w'')
  clear hG h hb
  cases hf : formedA l with
  | false =>
    have HE : Hid (printB l = [] ∧ formedA l = false) := ⟨by unfold printB; rw [hf]; rfl, hf⟩
    rw [hf] at HF
    clear hf
    go_enter Tryz.func106, Tryz.ntmps106
    go_wp2_with (go_at_call 140; (with_reducible refine (HF.out _ (Ext.refl _)).mono ?_); rintro e w1 ⟨rfl, hx1⟩; have HX1 := hid hx1; clear hx1)
    go_ret2
    exact ⟨by rw [HE.out.1, HE.out.2]; rfl, HX1.out⟩
  | true =>
    have HE : Hid (printB l = printF l ∧ formedA l = true) := ⟨by unfold printB; rw [hf]; rfl, hf⟩
    have HO := hid (formed_ok hf)
    have hn3 : n ≤ 3 := by rw [HR.out.len]; exact formed_len hf
    rw [hf] at HF
    clear hf
    go_enter Tryz.func106, Tryz.ntmps106
    go_wp2_with (go_at_call 140; (with_reducible refine (HF.out _ (Ext.refl _)).mono ?_); rintro e w1 ⟨rfl, hx1⟩; have HX1 := hid hx1; clear hx1)
    go_loopw [12] (fun i wr => ∃ (j : Nat) (acc : List UInt8), j ≤ n ∧ i = .int .i64 j ∧ acc.length ≤ 1000 * j ∧ Hid (IsB w1.heap.size w1.heap.size acc wr ∧ Below w1.heap.size w1 wr) ∧ Hid (acc ++ restP j (l.drop j) = printF l)) (fun i _ => n - (intOf i).toNat)
    case atStart => exact ⟨0, [], by omega, rfl, by simp, ⟨isB_new w1, Ext.alloc _ _⟩, rfl⟩
    case round =>
      obtain ⟨j, acc, hj, rfl, hacc, HI, HP⟩ := hrel
      by_cases hlt : j < n
      · obtain ⟨b, o, x, rfl, hx, e1, e2⟩ := ava_at ((HR.out.ext HX1.out).ext HI.out.2) hlt
        obtain ⟨hs1, hs2⟩ := ok_small (HO.out x (List.mem_of_getElem? hx))
        have hd : Hid (l.drop j = x :: l.drop (j + 1)) := by
          show _ = _
          obtain ⟨h1, h2⟩ := List.getElem?_eq_some_iff.1 hx
          rw [List.drop_eq_getElem_cons h1, h2]
        have hw3 := writeF_length x.val true
        have hz1 : (str x.type ++ str [61]) = str (x.type ++ [61]) := str_app _ _
        have z1 : ¬ 9223372036854775807 < x.type.length + 1 := by omega
        have hgB : Hid (wr.heap.size ≠ w1.heap.size) := by show _ ≠ _; have := HI.out.1.lt; omega
        clear hx
        by_cases hj0 : j = 0
        · have tj : decide (0 < j) = false := by rw [decide_eq_false_iff_not]; omega
          have HP2 : Hid (acc ++ (x.type ++ [61]) ++ writeF true x.val ++ restP (j + 1) (l.drop (j + 1)) = printF l) := by show _ = _; rw [← HP.out, hd.out, hj0, rest_zero]; simp
          clear hj0
          go_wp2_with (first
            | (go_at_call 109; (with_reducible refine (writeString_kept (str (x.type ++ [61])) (HI.out.1.ext (Ext.alloc _ _)) (by rw [str_size]; simp; omega)).mono ?_); rintro e w3 ⟨rfl, hi3, hk3⟩; rw [bys_str] at hi3; have HI3 := hid hi3; have HK3 := hid (Kept.trans (kept_ext (Ext.alloc _ _) HI.out.1.le) hk3); have c1 := hk3.cell (j := 1) (heap_alloc_new wr _) (by decide) hgB.out rfl; clear hi3 hk3)
            | (go_at_call 162; (with_reducible refine (writeall_kept (str x.val) _ HI3.out (by rw [str_size]; omega) (by simp; omega)).mono ?_); rintro e w4 ⟨rfl, hi4, hk4⟩; rw [bys_str] at hi4; have HI4 := hid hi4; have HK4 := hid (HK3.out.trans hk4); clear hi4 hk4))
          exact ⟨⟨j + 1, _, by omega, by go_num, by simp; omega, ⟨HI4.out, Below.trans HI.out.2 HK4.out.below⟩, HP2⟩, by simp [intOf]; omega⟩
        · have tj : decide (0 < j) = true := by rw [decide_eq_true_eq]; omega
          have HP2 : Hid (acc ++ [43] ++ (x.type ++ [61]) ++ writeF true x.val ++ restP (j + 1) (l.drop (j + 1)) = printF l) := by show _ = _; rw [← HP.out, hd.out, rest_succ hj0]; simp
          clear hj0
          go_wp2_with (first
            | (go_at_call 161; (with_reducible refine (plus_kept (HI.out.1.ext (Ext.alloc _ _)) (by omega)).mono ?_); rintro e w2 ⟨rfl, hi2, hk2⟩; have HI2 := hid hi2; have HK2 := hid (Kept.trans (kept_ext (Ext.alloc _ _) HI.out.1.le) hk2); have HKA := hid hk2; have c0 := hk2.cell (j := 0) (heap_alloc_new wr _) (by decide) hgB.out rfl; clear hi2 hk2)
            | (go_at_call 109; (with_reducible refine (writeString_kept (str (x.type ++ [61])) HI2.out (by rw [str_size]; simp; omega)).mono ?_); rintro e w3 ⟨rfl, hi3, hk3⟩; rw [bys_str] at hi3; have HI3 := hid hi3; have HK3 := hid (HK2.out.trans hk3); have c1 := (HKA.out.trans hk3).cell (j := 1) (heap_alloc_new wr _) (by decide) hgB.out rfl; clear hi3 hk3)
            | (go_at_call 162; (with_reducible refine (writeall_kept (str x.val) _ HI3.out (by rw [str_size]; omega) (by simp; omega)).mono ?_); rintro e w4 ⟨rfl, hi4, hk4⟩; rw [bys_str] at hi4; have HI4 := hid hi4; have HK4 := hid (HK3.out.trans hk4); clear hi4 hk4))
          exact ⟨⟨j + 1, _, by omega, by go_num, by simp; omega, ⟨HI4.out, Below.trans HI.out.2 HK4.out.below⟩, HP2⟩, by simp [intOf]; omega⟩
      · obtain rfl : j = n := by omega
        have HQ : Hid (printF l = acc) := by
          show _ = _
          rw [← HP.out, List.drop_of_length_le (Nat.le_of_eq HR.out.len.symm)]
          have : restP j [] = [] := by unfold restP; split <;> rfl
          rw [this, List.append_nil]
        go_wp2_with (go_at_call 110; (with_reducible refine (string_any HI.out.1).mono ?_); rintro e w4 ⟨rfl, hx4⟩; have HX4 := hid hx4; clear hx4)
        go_ret2
        exact ⟨by rw [HE.out.1, HE.out.2, HQ.out]; rfl, HX1.out.trans (Below.trans HI.out.2 HX4.out)⟩
set_option maxHeartbeats 2000000 in
theorem rprint_any {S : Nat → Prop} {A : Option Addr} {n c : Nat} {l : List Ava} {w : World} (hG : Gl w) (h : Row Elem.ava S w A n c l) (hb : ∀ a ∈ l, a.type.length ≤ 4000000) :
    Calls Tryz.prog 115 #[.slice A n c] w (PrintSays w l) := by
  have HR := hid h
  have HF := hid (fun w' hx => rformed_any (hG.ext hx) (h.ext hx) hb : ∀ w', Ext w w' → Calls Tryz.prog 147 #[.slice A n c] w' fun e w'' => e = .returned (.bool (formedA l)) ∧ Ext w' w'')
  clear hG h hb
  cases hf : formedA l with
  | false =>
    have HE : Hid (printB l = [] ∧ formedA l = false) := ⟨by unfold printB; rw [hf]; rfl, hf⟩
    rw [hf] at HF
    clear hf
    go_enter Tryz.func115, Tryz.ntmps115
    go_wp2_with (go_at_call 147; (with_reducible refine (HF.out _ (Ext.refl _)).mono ?_); rintro e w1 ⟨rfl, hx1⟩; have HX1 := hid hx1; clear hx1)
    go_ret2
    exact ⟨by rw [HE.out.1, HE.out.2]; rfl, HX1.out⟩
  | true =>
    have HE : Hid (printB l = printF l ∧ formedA l = true) := ⟨by unfold printB; rw [hf]; rfl, hf⟩
    have HO := hid (formed_ok hf)
    have hn3 : n ≤ 3 := by rw [HR.out.len]; exact formed_len hf
    rw [hf] at HF
    clear hf
    go_enter Tryz.func115, Tryz.ntmps115
    go_wp2_with (go_at_call 147; (with_reducible refine (HF.out _ (Ext.refl _)).mono ?_); rintro e w1 ⟨rfl, hx1⟩; have HX1 := hid hx1; clear hx1)
    go_loopw [4, 11] (fun v i wr => ∃ (j : Nat) (acc : List UInt8), j ≤ n ∧ i = .int .i64 j ∧ v = .string (str acc) ∧ acc.length ≤ 1000 * j ∧ Hid (Ext w1 wr) ∧ Hid (acc ++ restP j (l.drop j) = printF l)) (fun _ i _ => n - (intOf i).toNat)
    case atStart => exact ⟨0, [], by omega, rfl, rfl, by simp, Ext.refl _, rfl⟩
    case round =>
      obtain ⟨j, acc, hj, rfl, rfl, hacc, HX, HP⟩ := hrel
      by_cases hlt : j < n
      · have hlt' : (j : Int) < (n : Int) := by omega
        obtain ⟨b, o, x, rfl, hx, e1, e2⟩ := ava_at ((HR.out.ext HX1.out).ext HX.out) hlt
        obtain ⟨hs1, hs2⟩ := ok_small (HO.out x (List.mem_of_getElem? hx))
        have hd : Hid (l.drop j = x :: l.drop (j + 1)) := by
          show _ = _
          obtain ⟨h1, h2⟩ := List.getElem?_eq_some_iff.1 hx
          rw [List.drop_eq_getElem_cons h1, h2]
        have hw3 := writeF_length x.val true
        have HW : ∀ w, Calls Tryz.prog 166 #[.string (str x.val)] w fun e w' => e = .returned (.string (str (writeF true x.val))) ∧ Ext w w' := fun w => by
          have := rvalue_any (str x.val) w (by rw [str_size]; omega)
          rwa [bys_str] at this
        obtain ⟨wv, hgw⟩ : ∃ wv, wv = writeF true x.val := ⟨_, rfl⟩
        rw [← hgw] at HW hw3
        have HGW := hid hgw
        clear hgw hx
        by_cases hj0 : j = 0
        · have tj : decide (0 < j) = false := by rw [decide_eq_false_iff_not]; omega
          have HP2 : Hid (acc ++ x.type ++ [61] ++ wv ++ restP (j + 1) (l.drop (j + 1)) = printF l) := by show _ = _; rw [← HP.out, hd.out, hj0, rest_zero, ← HGW.out]; simp
          clear hj0
          have z1 : ¬ 9223372036854775807 < acc.length + x.type.length := by (try simp); omega
          have z2 : ¬ 9223372036854775807 < acc.length + x.type.length + 1 := by (try simp); omega
          have z3 : ¬ 9223372036854775807 < acc.length + x.type.length + 1 + wv.length := by (try simp); omega
          go_wp2
          refine wp_region_plan (.read 0 (.read 1 (.read 2 (.read 3 (.read 4 (.read 5 (.read 6 (.read 7 (.read 8 (.read 9 (.read 10 (.read 11 (.read 12 (.main 13 (.read 14 (.read 15 .done)))))))))))))))) (by kernel_rfl) (by kernel_rfl) ?_
          intro wD hxD
          have XE : Hid (Ext wD wD) := Ext.refl _
          have p1 := cell_later (cell_later e1 _ hxD)
          have p2 := cell_later (cell_later e2 _ hxD)
          repeat' (first
            | (refine walks_move rfl rfl ?_; simp only [Act.put, Act.eval, List.setIfInBounds_toArray, List.set_cons_zero, List.set_cons_succ, Array.getD_eq_getD_getElem?, List.getElem?_toArray, List.getElem?_cons_zero, List.getElem?_cons_succ, Option.getD_some])
            | (refine walks_assign rfl rfl ?_; simp only [Act.put, Act.eval, List.setIfInBounds_toArray, List.set_cons_zero, List.set_cons_succ, Array.getD_eq_getD_getElem?, List.getElem?_toArray, List.getElem?_cons_zero, List.getElem?_cons_succ, Option.getD_some])
            | (refine walks_skip rfl rfl ?_; simp only [Act.put, List.setIfInBounds_toArray, List.set_cons_zero, List.set_cons_succ])
            | (refine walks_unwanted rfl rfl ?_; simp only [Act.put, List.setIfInBounds_toArray, List.set_cons_zero, List.set_cons_succ])
            | (refine walks_read (v := ?_) rfl rfl (fun w' hE => ?_) ?_; rotate_left 1; (· ((try (have hEx := Ext.trans (Hid.out XE) hE)); go_simp; (try go_bits); with_reducible rfl)); simp only [Act.put, List.setIfInBounds_toArray, List.set_cons_zero, List.set_cons_succ])
            | (refine walks_alt ?_ ?_)
            | (refine walks_main rfl rfl (fun K hK => ?_); go_wp2_with ((go_at_call 166; (with_reducible refine (HW _).mono ?_); rintro e w2 ⟨rfl, hx2⟩; have XE' := hid (Ext.trans (Hid.out XE) hx2); clear XE; have XE := XE'; clear XE')); refine hK _ _ (by first | assumption | exact Ext.alloc _ _ | exact Ext.refl _) ?_; clear hK K; try simp only [Act.put, List.setIfInBounds_toArray, List.set_cons_zero, List.set_cons_succ]))
          refine walks_done ?_
          go_wp2
          exact ⟨⟨j + 1, _, by omega, by go_num, rfl, by simp; omega, HX.out.trans (hxD.trans XE.out), HP2⟩, by simp [intOf]; omega⟩
        · have tj : decide (0 < j) = true := by rw [decide_eq_true_eq]; omega
          have HP2 : Hid (acc ++ [43] ++ x.type ++ [61] ++ wv ++ restP (j + 1) (l.drop (j + 1)) = printF l) := by show _ = _; rw [← HP.out, hd.out, rest_succ hj0, ← HGW.out]; simp
          have z0 : ¬ 9223372036854775807 < acc.length + 1 := by omega
          obtain ⟨ac, hac⟩ : ∃ ac, ac = acc ++ [43] := ⟨_, rfl⟩
          have hz0 : (str acc ++ str [43]) = str ac := by rw [hac]; exact str_app _ _
          have hacl : ac.length ≤ 1000 * j + 1 := by rw [hac]; simp; omega
          rw [← hac] at HP2
          clear hj0 hac
          have z1 : ¬ 9223372036854775807 < ac.length + x.type.length := by (try simp); omega
          have z2 : ¬ 9223372036854775807 < ac.length + x.type.length + 1 := by (try simp); omega
          have z3 : ¬ 9223372036854775807 < ac.length + x.type.length + 1 + wv.length := by (try simp); omega
          go_wp2
          refine wp_region_plan (.read 0 (.read 1 (.read 2 (.read 3 (.read 4 (.read 5 (.read 6 (.read 7 (.read 8 (.read 9 (.read 10 (.read 11 (.read 12 (.main 13 (.read 14 (.read 15 .done)))))))))))))))) (by kernel_rfl) (by kernel_rfl) ?_
          intro wD hxD
          have XE : Hid (Ext wD wD) := Ext.refl _
          have p1 := cell_later (cell_later e1 _ hxD)
          have p2 := cell_later (cell_later e2 _ hxD)
          repeat' (first
            | (refine walks_move rfl rfl ?_; simp only [Act.put, Act.eval, List.setIfInBounds_toArray, List.set_cons_zero, List.set_cons_succ, Array.getD_eq_getD_getElem?, List.getElem?_toArray, List.getElem?_cons_zero, List.getElem?_cons_succ, Option.getD_some])
            | (refine walks_assign rfl rfl ?_; simp only [Act.put, Act.eval, List.setIfInBounds_toArray, List.set_cons_zero, List.set_cons_succ, Array.getD_eq_getD_getElem?, List.getElem?_toArray, List.getElem?_cons_zero, List.getElem?_cons_succ, Option.getD_some])
            | (refine walks_skip rfl rfl ?_; simp only [Act.put, List.setIfInBounds_toArray, List.set_cons_zero, List.set_cons_succ])
            | (refine walks_unwanted rfl rfl ?_; simp only [Act.put, List.setIfInBounds_toArray, List.set_cons_zero, List.set_cons_succ])
            | (refine walks_read (v := ?_) rfl rfl (fun w' hE => ?_) ?_; rotate_left 1; (· ((try (have hEx := Ext.trans (Hid.out XE) hE)); go_simp; (try go_bits); with_reducible rfl)); simp only [Act.put, List.setIfInBounds_toArray, List.set_cons_zero, List.set_cons_succ])
            | (refine walks_alt ?_ ?_)
            | (refine walks_main rfl rfl (fun K hK => ?_); go_wp2_with ((go_at_call 166; (with_reducible refine (HW _).mono ?_); rintro e w2 ⟨rfl, hx2⟩; have XE' := hid (Ext.trans (Hid.out XE) hx2); clear XE; have XE := XE'; clear XE')); refine hK _ _ (by first | assumption | exact Ext.alloc _ _ | exact Ext.refl _) ?_; clear hK K; try simp only [Act.put, List.setIfInBounds_toArray, List.set_cons_zero, List.set_cons_succ]))
          refine walks_done ?_
          go_wp2
          exact ⟨⟨j + 1, _, by omega, by go_num, rfl, by simp; omega, HX.out.trans (hxD.trans XE.out), HP2⟩, by simp [intOf]; omega⟩
      · obtain rfl : j = n := by omega
        have HQ : Hid (printF l = acc) := by
          show _ = _
          rw [← HP.out, List.drop_of_length_le (Nat.le_of_eq HR.out.len.symm)]
          have : restP j [] = [] := by unfold restP; split <;> rfl
          rw [this, List.append_nil]
        go_wp2
        go_ret2
        exact ⟨by rw [HE.out.1, HE.out.2, HQ.out]; rfl, HX1.out.trans HX.out⟩
end Go.Proofs.YtencmdpjiafnaaaGreatDoor
