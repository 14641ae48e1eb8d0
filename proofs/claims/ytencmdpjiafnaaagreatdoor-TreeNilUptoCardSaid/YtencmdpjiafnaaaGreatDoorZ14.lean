import Derived.Test.YtencmdpjiafnaaaGreatDoorZ13
import Derived.Deep.DeepCutAuto
/- The walk of slices.symMergeCmpFunc at pairs: a row stays a row. -/
namespace Go.Proofs.YtencmdpjiafnaaaGreatDoor
open Go.RowKit
set_option maxRecDepth 100000
set_option linter.unusedSimpArgs false
set_option linter.unusedVariables false

set_option maxHeartbeats 8000000 in
theorem sym_one {w0 w : World} {g n cap a m b : Nat} {l : List Ava} (h : GrowA 129 w0 w (.slice (some ⟨g, 0, none⟩) n cap) l) (h1 : a < m) (h2 : m < b) (h3 : b ≤ n) (hn : n ≤ 4000000) (hma : m = a + 1) :
    Calls Tryz.prog 208 #[.slice (some ⟨g, 0, none⟩) n cap, .int .i64 a, .int .i64 m, .int .i64 b, cmpV] w (SubSays w0 w g n cap l) := by
  have HG0 := hid h
  have HML : Hid (l.length = n) := by show _ = _; rw [h.n_eq]
  clear h
  have t0 : ((m : Int) - (a : Int) == 1) = true := by rw [beq_iff_eq]; omega
  have hm1 : m ≤ a + 1 := by omega
  clear hma
  go_enter Tryz.func208, Tryz.ntmps208
  go_wp2
  go_loopw [10, 11] (fun u v wr => ∃ (i j : Nat), m ≤ i ∧ i ≤ j ∧ j ≤ b ∧ u = .int .i64 i ∧ v = .int .i64 j ∧ Hid (Ext w wr)) (fun u v _ => (intOf v).toNat - (intOf u).toNat)
  case atStart => exact ⟨m, b, by omega, by omega, by omega, rfl, rfl, Ext.refl _⟩
  case round =>
    obtain ⟨i, j, hi, hij, hj, rfl, rfl, HX⟩ := hrel
    have HGM := hid (HG0.out.later HX.out)
    by_cases hlt : i < j
    · have hlt' : (i : Int) < (j : Int) := by omega
      obtain ⟨q, hq⟩ : ∃ q, q = (i + j) / 2 := ⟨_, rfl⟩
      have hq1 : i ≤ q := by omega
      have hq2 : q < j := by omega
      have zq : ((i : Int) + (j : Int)) / 2 = (q : Int) := by omega
      clear hq
      have hml := HML.out
      obtain ⟨x, hx⟩ : ∃ x, l[q]? = some x := ⟨_, List.getElem?_eq_getElem (show q < l.length by omega)⟩
      obtain ⟨y, hy⟩ : ∃ y, l[a]? = some y := ⟨_, List.getElem?_eq_getElem (show a < l.length by omega)⟩
      have z2 : (q : Int) < (n : Int) := by omega
      have z3 : (a : Int) < (n : Int) := by omega
      have z4 : q < n := by omega
      have z5 : a < n := by omega
      have x0 := HGM.out.at0 hx
      have x1 := HGM.out.at1 hx
      have y0 := HGM.out.at0 hy
      have y1 := HGM.out.at1 hy
      clear hx hy hml
      cases hcb : decide (cmpA x y < 0) with
      | false =>
        go_wp2
        refine wp_region_plan (.read 0 (.read 1 (.read 2 (.read 3 (.read 4 (.read 5 (.read 6 (.read 7 (.read 8 (.main 9 (.read 10 .done))))))))))) (by kernel_rfl) (by kernel_rfl) ?_
        intro wD hxD
        have XE : Hid (Ext wD wD) := Ext.refl _
        have px0 := cell_later (cell_later x0 _ hxD)
        have px1 := cell_later (cell_later x1 _ hxD)
        have py0 := cell_later (cell_later y0 _ hxD)
        have py1 := cell_later (cell_later y1 _ hxD)
        repeat' (first
          | (refine walks_move rfl rfl ?_; simp only [Act.put, Act.eval, List.setIfInBounds_toArray, List.set_cons_zero, List.set_cons_succ, Array.getD_eq_getD_getElem?, List.getElem?_toArray, List.getElem?_cons_zero, List.getElem?_cons_succ, Option.getD_some])
          | (refine walks_assign rfl rfl ?_; simp only [Act.put, Act.eval, List.setIfInBounds_toArray, List.set_cons_zero, List.set_cons_succ, Array.getD_eq_getD_getElem?, List.getElem?_toArray, List.getElem?_cons_zero, List.getElem?_cons_succ, Option.getD_some])
          | (refine walks_skip rfl rfl ?_; simp only [Act.put, List.setIfInBounds_toArray, List.set_cons_zero, List.set_cons_succ])
          | (refine walks_unwanted rfl rfl ?_; simp only [Act.put, List.setIfInBounds_toArray, List.set_cons_zero, List.set_cons_succ])
          | (refine walks_read (v := ?_) rfl rfl (fun w' hE => ?_) ?_; rotate_left 1; (· ((try (have hEx := Ext.trans (Hid.out XE) hE)); go_simp; (try go_bits); with_reducible rfl)); simp only [Act.put, List.setIfInBounds_toArray, List.set_cons_zero, List.set_cons_succ])
          | (refine walks_alt ?_ ?_)
          | (refine walks_main rfl rfl (fun K hK => ?_); go_wp2_with ((go_at_call 138; (with_reducible refine (cmp_any x y _).mono ?_); rintro e w2 ⟨rfl, hx2⟩; have XE' := hid (Ext.trans (Hid.out XE) hx2); clear XE; have XE := XE'; clear XE')); refine hK _ _ (by first | assumption | exact Ext.alloc _ _ | exact Ext.refl _) ?_; clear hK K; try simp only [Act.put, List.setIfInBounds_toArray, List.set_cons_zero, List.set_cons_succ]))
        refine walks_done ?_
        have HXW := hid (hxD.trans XE.out)
        clear px0 px1 py0 py1 x0 x1 y0 y1
        go_wp2
        exact ⟨⟨i, q, by omega, by omega, by omega, rfl, rfl, HX.out.trans HXW.out⟩, by simp [intOf]; omega⟩
      | true =>
        have hc := of_decide_eq_true hcb
        clear hcb
        go_wp2
        refine wp_region_plan (.read 0 (.read 1 (.read 2 (.read 3 (.read 4 (.read 5 (.read 6 (.read 7 (.read 8 (.main 9 (.read 10 .done))))))))))) (by kernel_rfl) (by kernel_rfl) ?_
        intro wD hxD
        have XE : Hid (Ext wD wD) := Ext.refl _
        have px0 := cell_later (cell_later x0 _ hxD)
        have px1 := cell_later (cell_later x1 _ hxD)
        have py0 := cell_later (cell_later y0 _ hxD)
        have py1 := cell_later (cell_later y1 _ hxD)
        repeat' (first
          | (refine walks_move rfl rfl ?_; simp only [Act.put, Act.eval, List.setIfInBounds_toArray, List.set_cons_zero, List.set_cons_succ, Array.getD_eq_getD_getElem?, List.getElem?_toArray, List.getElem?_cons_zero, List.getElem?_cons_succ, Option.getD_some])
          | (refine walks_assign rfl rfl ?_; simp only [Act.put, Act.eval, List.setIfInBounds_toArray, List.set_cons_zero, List.set_cons_succ, Array.getD_eq_getD_getElem?, List.getElem?_toArray, List.getElem?_cons_zero, List.getElem?_cons_succ, Option.getD_some])
          | (refine walks_skip rfl rfl ?_; simp only [Act.put, List.setIfInBounds_toArray, List.set_cons_zero, List.set_cons_succ])
          | (refine walks_unwanted rfl rfl ?_; simp only [Act.put, List.setIfInBounds_toArray, List.set_cons_zero, List.set_cons_succ])
          | (refine walks_read (v := ?_) rfl rfl (fun w' hE => ?_) ?_; rotate_left 1; (· ((try (have hEx := Ext.trans (Hid.out XE) hE)); go_simp; (try go_bits); with_reducible rfl)); simp only [Act.put, List.setIfInBounds_toArray, List.set_cons_zero, List.set_cons_succ])
          | (refine walks_alt ?_ ?_)
          | (refine walks_main rfl rfl (fun K hK => ?_); go_wp2_with ((go_at_call 138; (with_reducible refine (cmp_any x y _).mono ?_); rintro e w2 ⟨rfl, hx2⟩; have XE' := hid (Ext.trans (Hid.out XE) hx2); clear XE; have XE := XE'; clear XE')); refine hK _ _ (by first | assumption | exact Ext.alloc _ _ | exact Ext.refl _) ?_; clear hK K; try simp only [Act.put, List.setIfInBounds_toArray, List.set_cons_zero, List.set_cons_succ]))
        refine walks_done ?_
        have HXW := hid (hxD.trans XE.out)
        clear px0 px1 py0 py1 x0 x1 y0 y1
        go_wp2
        exact ⟨⟨q + 1, j, by omega, by omega, by omega, by go_num, rfl, HX.out.trans HXW.out⟩, by simp [intOf]; omega⟩
    · have hlt' : ¬ (i : Int) < (j : Int) := by omega
      obtain ⟨i1, hi1⟩ : ∃ i1, i1 = i - 1 := ⟨_, rfl⟩
      have zi : (i : Int) - 1 = (i1 : Int) := by omega
      have hb1 : a ≤ i1 := by omega
      have hb2 : i1 < n := by omega
      clear hi1
      have HBR : Hid (Below w0.heap.size w wr) := Below.mono HX.out (ext_sz HG0.out.ext)
      go_wp2
      go_loopw [13] (fun u wq => ∃ (k : Nat) (m1 : List Ava), a ≤ k ∧ k ≤ i1 ∧ u = .int .i64 k ∧ Hid (GrowA 129 w0 wq (.slice (some ⟨g, 0, none⟩) n cap) m1 ∧ Below w0.heap.size w wq) ∧ Hid (Sub l m1)) (fun u _ => i1 - (intOf u).toNat)
      case atStart => exact ⟨a, l, by omega, by omega, rfl, ⟨HGM.out, HBR.out⟩, Sub.refl l⟩
      case round =>
        obtain ⟨k, m1, hk1, hk2, rfl, HGK, HS⟩ := hrel
        by_cases hlt2 : k < i1
        · have hlt2' : (k : Int) < (i1 : Int) := by omega
          obtain ⟨k1, hk3⟩ : ∃ k1, k1 = k + 1 := ⟨_, rfl⟩
          have zk : (k : Int) + 1 = (k1 : Int) := by omega
          have hk4 : k1 ≤ i1 := by omega
          have hk5 : k < k1 := by omega
          have HM1 : Hid (m1.length = n) := by show _ = _; rw [HS.out.1]; exact HML.out
          clear HML
          have HML := HM1
          have hml := HML.out
          obtain ⟨x, hx⟩ : ∃ x, m1[k]? = some x := ⟨_, List.getElem?_eq_getElem (show k < m1.length by omega)⟩
          obtain ⟨y, hy⟩ : ∃ y, m1[k1]? = some y := ⟨_, List.getElem?_eq_getElem (show k1 < m1.length by omega)⟩
          have z2 : (k : Int) < (n : Int) := by omega
          have z3 : (k1 : Int) < (n : Int) := by omega
          have z4 : k < n := by omega
          have z5 : k1 < n := by omega
          have HKA : Hid (k < m1.length) := by show _ < _; omega
          have HKB : Hid (k1 < m1.length) := by show _ < _; omega
          have HXA := hid hx
          have HYB := hid hy
          have HSW := hid (swapL_at hx hy)
          have HS2 := hid (HS.out.trans (swapL_sub m1 k k1))
          clear hx hy hml
          clear hk3
          go_wp2
          refine wp_region_planB w0.heap.size (.read 0 (.read 1 (.read 2 (.read 3 (.read 4 (.read 5 (.read 6 (.read 7 (.read 8 (.read 10 (.read 11 (.read 12 (.alt 9 (.main 13 (.read 14 (.main 15 (.read 16 (.main 17 .done))))) (.main 13 (.main 9 (.read 14 (.main 15 (.read 16 (.main 17 .done))))))))))))))))))) (by kernel_rfl) (by kernel_rfl) ?_
          intro wD hxD
          have XB : Hid (Below w0.heap.size wD wD) := Below.refl _ _
          have HGD := hid (HGK.out.1.later hxD)
          repeat' (first
            | (refine walksB_move rfl rfl ?_; simp only [Act.put, Act.eval, List.setIfInBounds_toArray, List.set_cons_zero, List.set_cons_succ, Array.getD_eq_getD_getElem?, List.getElem?_toArray, List.getElem?_cons_zero, List.getElem?_cons_succ, Option.getD_some])
            | (refine walksB_assign rfl rfl ?_; simp only [Act.put, Act.eval, List.setIfInBounds_toArray, List.set_cons_zero, List.set_cons_succ, Array.getD_eq_getD_getElem?, List.getElem?_toArray, List.getElem?_cons_zero, List.getElem?_cons_succ, Option.getD_some])
            | (refine walksB_skip rfl rfl ?_; simp only [Act.put, List.setIfInBounds_toArray, List.set_cons_zero, List.set_cons_succ])
            | (refine walksB_unwanted rfl rfl ?_; simp only [Act.put, List.setIfInBounds_toArray, List.set_cons_zero, List.set_cons_succ])
            | (refine walksB_read (v := ?_) rfl rfl (fun w' hE => ?_) ?_; rotate_left 1; (· ((try (have hEx := Below.trans (Hid.out XB) hE)); go_simp; (try go_bits); with_reducible rfl)); simp only [Act.put, List.setIfInBounds_toArray, List.set_cons_zero, List.set_cons_succ])
            | (refine walksB_main rfl rfl (fun K hK => ?_); (first | (refine load_ava_wp _ rfl (k) rfl HGD.out x HXA.out ?_) | (refine load_ava_wp _ rfl (k1) rfl HGD.out y HYB.out ?_) | (refine store_ava_wp _ _ rfl (k) rfl y rfl HGD.out HKA.out ?_; intro w7 hg7 hb7; have HG7 := hid hg7; clear hg7; have XB' := hid (Below.trans (Hid.out XB) (hb7)); clear XB; have XB := XB'; clear XB') | (refine store_ava_wp _ _ rfl (k1) rfl x rfl HG7.out (by rw [List.length_set]; exact HKB.out) ?_; intro w8 hg8 hb8; have HG8 := hid hg8; clear hg8; have XB' := hid (Below.trans (Hid.out XB) (hb8)); clear XB; have XB := XB'; clear XB')); refine hK _ _ (by first | assumption | exact Below.refl _ _ | exact Below.mono (Ext.alloc _ _) (Hid.out HSW) | exact Below.setCell (p := ⟨_, _, _⟩) (Below.refl _ _) (Nat.le_refl _) _) ?_; clear hK K; try simp only [Act.put, List.setIfInBounds_toArray, List.set_cons_zero, List.set_cons_succ])
            | (refine walksB_alt ?_ ?_)
            | (refine walksB_main rfl rfl (fun K hK => ?_); go_wp2_with (fail); refine hK _ _ (by first | assumption | exact Below.refl _ _ | exact Below.mono (Ext.alloc _ _) (Hid.out HSW) | exact Below.setCell (p := ⟨_, _, _⟩) (Below.refl _ _) (Nat.le_refl _) _) ?_; clear hK K; try simp only [Act.put, List.setIfInBounds_toArray, List.set_cons_zero, List.set_cons_succ]))
          all_goals
            refine walksB_done ?_
            rw [← HSW.out] at HG8
            have HBX := hid (Below.trans HGK.out.2 (Below.trans (Below.mono hxD (ext_sz HGK.out.1.ext)) XB.out))
            go_wp2
            exact ⟨⟨k1, _, by omega, by omega, rfl, ⟨HG8.out, HBX.out⟩, HS2⟩, by simp [intOf]; omega⟩
        · have hlt2' : ¬ (k : Int) < (i1 : Int) := by omega
          go_wp2
          (try simp only [Exit.inBlock, Exit.then])
          refine bodyPost_ret (results_none rfl _ _ _) rfl ?_
          exact ⟨rfl, ⟨m1, HGK.out.1, HS.out⟩, HGK.out.2⟩
set_option maxHeartbeats 8000000 in
theorem sym_two {w0 w : World} {g n cap a m b : Nat} {l : List Ava} (h : GrowA 129 w0 w (.slice (some ⟨g, 0, none⟩) n cap) l) (h1 : a < m) (h2 : m < b) (h3 : b ≤ n) (hn : n ≤ 4000000) (hma : ¬ m = a + 1) (hbm : b = m + 1) :
    Calls Tryz.prog 208 #[.slice (some ⟨g, 0, none⟩) n cap, .int .i64 a, .int .i64 m, .int .i64 b, cmpV] w (SubSays w0 w g n cap l) := by
  have HG0 := hid h
  have HML : Hid (l.length = n) := by show _ = _; rw [h.n_eq]
  clear h
  have t0 : ((m : Int) - (a : Int) == 1) = false := by rw [beq_eq_false_iff_ne]; omega
  have t1 : ((b : Int) - (m : Int) == 1) = true := by rw [beq_iff_eq]; omega
  have hbm1 : b ≤ m + 1 := by omega
  have hmn : m < n := by omega
  have hmn' : (m : Int) < (n : Int) := by omega
  clear hma hbm
  go_enter Tryz.func208, Tryz.ntmps208
  go_wp2
  go_loopw [14, 15] (fun u v wr => ∃ (i j : Nat), a ≤ i ∧ i ≤ j ∧ j ≤ m ∧ u = .int .i64 i ∧ v = .int .i64 j ∧ Hid (Ext w wr)) (fun u v _ => (intOf v).toNat - (intOf u).toNat)
  case atStart => exact ⟨a, m, by omega, by omega, by omega, rfl, rfl, Ext.refl _⟩
  case round =>
    obtain ⟨i, j, hi, hij, hj, rfl, rfl, HX⟩ := hrel
    have HGM := hid (HG0.out.later HX.out)
    by_cases hlt : i < j
    · have hlt' : (i : Int) < (j : Int) := by omega
      obtain ⟨q, hq⟩ : ∃ q, q = (i + j) / 2 := ⟨_, rfl⟩
      have hq1 : i ≤ q := by omega
      have hq2 : q < j := by omega
      have zq : ((i : Int) + (j : Int)) / 2 = (q : Int) := by omega
      clear hq
      have hml := HML.out
      obtain ⟨x, hx⟩ : ∃ x, l[m]? = some x := ⟨_, List.getElem?_eq_getElem (show m < l.length by omega)⟩
      obtain ⟨y, hy⟩ : ∃ y, l[q]? = some y := ⟨_, List.getElem?_eq_getElem (show q < l.length by omega)⟩
      have z2 : (m : Int) < (n : Int) := by omega
      have z3 : (q : Int) < (n : Int) := by omega
      have z4 : m < n := by omega
      have z5 : q < n := by omega
      have x0 := HGM.out.at0 hx
      have x1 := HGM.out.at1 hx
      have y0 := HGM.out.at0 hy
      have y1 := HGM.out.at1 hy
      clear hx hy hml
      cases hcb : decide (cmpA x y < 0) with
      | false =>
        go_wp2
        refine wp_region_plan (.read 0 (.read 1 (.read 2 (.read 3 (.read 4 (.read 5 (.read 6 (.read 7 (.read 8 (.main 9 (.read 10 (.read 11 .done)))))))))))) (by kernel_rfl) (by kernel_rfl) ?_
        intro wD hxD
        have XE : Hid (Ext wD wD) := Ext.refl _
        have px0 := cell_later (cell_later x0 _ hxD)
        have px1 := cell_later (cell_later x1 _ hxD)
        have py0 := cell_later (cell_later y0 _ hxD)
        have py1 := cell_later (cell_later y1 _ hxD)
        repeat' (first
          | (refine walks_move rfl rfl ?_; simp only [Act.put, Act.eval, List.setIfInBounds_toArray, List.set_cons_zero, List.set_cons_succ, Array.getD_eq_getD_getElem?, List.getElem?_toArray, List.getElem?_cons_zero, List.getElem?_cons_succ, Option.getD_some])
          | (refine walks_assign rfl rfl ?_; simp only [Act.put, Act.eval, List.setIfInBounds_toArray, List.set_cons_zero, List.set_cons_succ, Array.getD_eq_getD_getElem?, List.getElem?_toArray, List.getElem?_cons_zero, List.getElem?_cons_succ, Option.getD_some])
          | (refine walks_skip rfl rfl ?_; simp only [Act.put, List.setIfInBounds_toArray, List.set_cons_zero, List.set_cons_succ])
          | (refine walks_unwanted rfl rfl ?_; simp only [Act.put, List.setIfInBounds_toArray, List.set_cons_zero, List.set_cons_succ])
          | (refine walks_read (v := ?_) rfl rfl (fun w' hE => ?_) ?_; rotate_left 1; (· ((try (have hEx := Ext.trans (Hid.out XE) hE)); go_simp; (try go_bits); with_reducible rfl)); simp only [Act.put, List.setIfInBounds_toArray, List.set_cons_zero, List.set_cons_succ])
          | (refine walks_alt ?_ ?_)
          | (refine walks_main rfl rfl (fun K hK => ?_); go_wp2_with ((go_at_call 138; (with_reducible refine (cmp_any x y _).mono ?_); rintro e w2 ⟨rfl, hx2⟩; have XE' := hid (Ext.trans (Hid.out XE) hx2); clear XE; have XE := XE'; clear XE')); refine hK _ _ (by first | assumption | exact Ext.alloc _ _ | exact Ext.refl _) ?_; clear hK K; try simp only [Act.put, List.setIfInBounds_toArray, List.set_cons_zero, List.set_cons_succ]))
        refine walks_done ?_
        have HXW := hid (hxD.trans XE.out)
        clear px0 px1 py0 py1 x0 x1 y0 y1
        go_wp2
        exact ⟨⟨q + 1, j, by omega, by omega, by omega, by go_num, rfl, HX.out.trans HXW.out⟩, by simp [intOf]; omega⟩
      | true =>
        have hc := of_decide_eq_true hcb
        clear hcb
        go_wp2
        refine wp_region_plan (.read 0 (.read 1 (.read 2 (.read 3 (.read 4 (.read 5 (.read 6 (.read 7 (.read 8 (.main 9 (.read 10 (.read 11 .done)))))))))))) (by kernel_rfl) (by kernel_rfl) ?_
        intro wD hxD
        have XE : Hid (Ext wD wD) := Ext.refl _
        have px0 := cell_later (cell_later x0 _ hxD)
        have px1 := cell_later (cell_later x1 _ hxD)
        have py0 := cell_later (cell_later y0 _ hxD)
        have py1 := cell_later (cell_later y1 _ hxD)
        repeat' (first
          | (refine walks_move rfl rfl ?_; simp only [Act.put, Act.eval, List.setIfInBounds_toArray, List.set_cons_zero, List.set_cons_succ, Array.getD_eq_getD_getElem?, List.getElem?_toArray, List.getElem?_cons_zero, List.getElem?_cons_succ, Option.getD_some])
          | (refine walks_assign rfl rfl ?_; simp only [Act.put, Act.eval, List.setIfInBounds_toArray, List.set_cons_zero, List.set_cons_succ, Array.getD_eq_getD_getElem?, List.getElem?_toArray, List.getElem?_cons_zero, List.getElem?_cons_succ, Option.getD_some])
          | (refine walks_skip rfl rfl ?_; simp only [Act.put, List.setIfInBounds_toArray, List.set_cons_zero, List.set_cons_succ])
          | (refine walks_unwanted rfl rfl ?_; simp only [Act.put, List.setIfInBounds_toArray, List.set_cons_zero, List.set_cons_succ])
          | (refine walks_read (v := ?_) rfl rfl (fun w' hE => ?_) ?_; rotate_left 1; (· ((try (have hEx := Ext.trans (Hid.out XE) hE)); go_simp; (try go_bits); with_reducible rfl)); simp only [Act.put, List.setIfInBounds_toArray, List.set_cons_zero, List.set_cons_succ])
          | (refine walks_alt ?_ ?_)
          | (refine walks_main rfl rfl (fun K hK => ?_); go_wp2_with ((go_at_call 138; (with_reducible refine (cmp_any x y _).mono ?_); rintro e w2 ⟨rfl, hx2⟩; have XE' := hid (Ext.trans (Hid.out XE) hx2); clear XE; have XE := XE'; clear XE')); refine hK _ _ (by first | assumption | exact Ext.alloc _ _ | exact Ext.refl _) ?_; clear hK K; try simp only [Act.put, List.setIfInBounds_toArray, List.set_cons_zero, List.set_cons_succ]))
        refine walks_done ?_
        have HXW := hid (hxD.trans XE.out)
        clear px0 px1 py0 py1 x0 x1 y0 y1
        go_wp2
        exact ⟨⟨i, q, by omega, by omega, by omega, rfl, rfl, HX.out.trans HXW.out⟩, by simp [intOf]; omega⟩
    · have hlt' : ¬ (i : Int) < (j : Int) := by omega
      have HBR : Hid (Below w0.heap.size w wr) := Below.mono HX.out (ext_sz HG0.out.ext)
      go_wp2
      go_loopw [17] (fun u wq => ∃ (k : Nat) (m1 : List Ava), i ≤ k ∧ k ≤ m ∧ u = .int .i64 k ∧ Hid (GrowA 129 w0 wq (.slice (some ⟨g, 0, none⟩) n cap) m1 ∧ Below w0.heap.size w wq) ∧ Hid (Sub l m1)) (fun u _ => (intOf u).toNat)
      case atStart => exact ⟨m, l, by omega, by omega, rfl, ⟨HGM.out, HBR.out⟩, Sub.refl l⟩
      case round =>
        obtain ⟨k, m1, hk1, hk2, rfl, HGK, HS⟩ := hrel
        by_cases hlt2 : i < k
        · have hlt2' : (i : Int) < (k : Int) := by omega
          obtain ⟨k1, hk3⟩ : ∃ k1, k1 = k - 1 := ⟨_, rfl⟩
          have zk : (k : Int) - 1 = (k1 : Int) := by omega
          have hk4 : k1 < k := by omega
          have hk5 : i ≤ k1 := by omega
          have HM1 : Hid (m1.length = n) := by show _ = _; rw [HS.out.1]; exact HML.out
          clear HML
          have HML := HM1
          have hml := HML.out
          obtain ⟨x, hx⟩ : ∃ x, m1[k]? = some x := ⟨_, List.getElem?_eq_getElem (show k < m1.length by omega)⟩
          obtain ⟨y, hy⟩ : ∃ y, m1[k1]? = some y := ⟨_, List.getElem?_eq_getElem (show k1 < m1.length by omega)⟩
          have z2 : (k : Int) < (n : Int) := by omega
          have z3 : (k1 : Int) < (n : Int) := by omega
          have z4 : k < n := by omega
          have z5 : k1 < n := by omega
          have HKA : Hid (k < m1.length) := by show _ < _; omega
          have HKB : Hid (k1 < m1.length) := by show _ < _; omega
          have HXA := hid hx
          have HYB := hid hy
          have HSW := hid (swapL_at hx hy)
          have HS2 := hid (HS.out.trans (swapL_sub m1 k k1))
          clear hx hy hml
          clear hk3
          go_wp2
          refine wp_region_planB w0.heap.size (.read 0 (.read 1 (.read 2 (.read 3 (.read 4 (.read 5 (.read 6 (.read 7 (.read 8 (.read 10 (.read 11 (.read 12 (.alt 9 (.main 13 (.read 14 (.main 15 (.read 16 (.main 17 .done))))) (.main 13 (.main 9 (.read 14 (.main 15 (.read 16 (.main 17 .done))))))))))))))))))) (by kernel_rfl) (by kernel_rfl) ?_
          intro wD hxD
          have XB : Hid (Below w0.heap.size wD wD) := Below.refl _ _
          have HGD := hid (HGK.out.1.later hxD)
          repeat' (first
            | (refine walksB_move rfl rfl ?_; simp only [Act.put, Act.eval, List.setIfInBounds_toArray, List.set_cons_zero, List.set_cons_succ, Array.getD_eq_getD_getElem?, List.getElem?_toArray, List.getElem?_cons_zero, List.getElem?_cons_succ, Option.getD_some])
            | (refine walksB_assign rfl rfl ?_; simp only [Act.put, Act.eval, List.setIfInBounds_toArray, List.set_cons_zero, List.set_cons_succ, Array.getD_eq_getD_getElem?, List.getElem?_toArray, List.getElem?_cons_zero, List.getElem?_cons_succ, Option.getD_some])
            | (refine walksB_skip rfl rfl ?_; simp only [Act.put, List.setIfInBounds_toArray, List.set_cons_zero, List.set_cons_succ])
            | (refine walksB_unwanted rfl rfl ?_; simp only [Act.put, List.setIfInBounds_toArray, List.set_cons_zero, List.set_cons_succ])
            | (refine walksB_read (v := ?_) rfl rfl (fun w' hE => ?_) ?_; rotate_left 1; (· ((try (have hEx := Below.trans (Hid.out XB) hE)); go_simp; (try go_bits); with_reducible rfl)); simp only [Act.put, List.setIfInBounds_toArray, List.set_cons_zero, List.set_cons_succ])
            | (refine walksB_main rfl rfl (fun K hK => ?_); (first | (refine load_ava_wp _ rfl (k) rfl HGD.out x HXA.out ?_) | (refine load_ava_wp _ rfl (k1) rfl HGD.out y HYB.out ?_) | (refine store_ava_wp _ _ rfl (k) rfl y rfl HGD.out HKA.out ?_; intro w7 hg7 hb7; have HG7 := hid hg7; clear hg7; have XB' := hid (Below.trans (Hid.out XB) (hb7)); clear XB; have XB := XB'; clear XB') | (refine store_ava_wp _ _ rfl (k1) rfl x rfl HG7.out (by rw [List.length_set]; exact HKB.out) ?_; intro w8 hg8 hb8; have HG8 := hid hg8; clear hg8; have XB' := hid (Below.trans (Hid.out XB) (hb8)); clear XB; have XB := XB'; clear XB')); refine hK _ _ (by first | assumption | exact Below.refl _ _ | exact Below.mono (Ext.alloc _ _) (Hid.out HSW) | exact Below.setCell (p := ⟨_, _, _⟩) (Below.refl _ _) (Nat.le_refl _) _) ?_; clear hK K; try simp only [Act.put, List.setIfInBounds_toArray, List.set_cons_zero, List.set_cons_succ])
            | (refine walksB_alt ?_ ?_)
            | (refine walksB_main rfl rfl (fun K hK => ?_); go_wp2_with (fail); refine hK _ _ (by first | assumption | exact Below.refl _ _ | exact Below.mono (Ext.alloc _ _) (Hid.out HSW) | exact Below.setCell (p := ⟨_, _, _⟩) (Below.refl _ _) (Nat.le_refl _) _) ?_; clear hK K; try simp only [Act.put, List.setIfInBounds_toArray, List.set_cons_zero, List.set_cons_succ]))
          all_goals
            refine walksB_done ?_
            rw [← HSW.out] at HG8
            have HBX := hid (Below.trans HGK.out.2 (Below.trans (Below.mono hxD (ext_sz HGK.out.1.ext)) XB.out))
            go_wp2
            exact ⟨⟨k1, _, by omega, by omega, rfl, ⟨HG8.out, HBX.out⟩, HS2⟩, by simp [intOf]; omega⟩
        · have hlt2' : ¬ (i : Int) < (k : Int) := by omega
          go_wp2
          (try simp only [Exit.inBlock, Exit.then])
          refine bodyPost_ret (results_none rfl _ _ _) rfl ?_
          exact ⟨rfl, ⟨m1, HGK.out.1, HS.out⟩, HGK.out.2⟩
end Go.Proofs.YtencmdpjiafnaaaGreatDoor
