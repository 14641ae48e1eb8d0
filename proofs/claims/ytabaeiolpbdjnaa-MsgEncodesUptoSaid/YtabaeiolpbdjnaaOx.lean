/- The walk of msg's own, the other kinds. -/
import Derived.Test.YtabaeiolpbdjnaaOw
namespace Go.Proofs.Ytabaeiolpbdjnaa
open Go.RowKit
set_option maxRecDepth 100000
set_option linter.unusedSimpArgs false
set_option maxHeartbeats 400000 in
theorem own_12f {m : Msg} {d : MsgD} {cs : Array Value} {S : Nat → Prop} (hcs : Hid (cs = (msgCells m d).toArray)) (w : World) (hm : MsgRows S w m d) (hk : m.kind = 12) (hs0 : m.hsup = false) :
    Calls Try.prog 40 #[.agg cs] w (MsgNew w ({ bareM m with name := m.name, nrdn := m.nrdn, dold := m.dold } : Msg)) := by
  have Hm := hid hm
  have hz := (zero_of_info (P := Try.prog) (t := 42) (v := .agg zeroMsg.toArray) (n := 32) (by kernel_rfl)).1
  have HZ := hid hz
  have t0 : (m.kind == 0) = false := by rw [hk]; rfl
  have t3 : (m.kind == 3) = false := by rw [hk]; rfl
  have t6 : (m.kind == 6) = false := by rw [hk]; rfl
  have t8 : (m.kind == 8) = false := by rw [hk]; rfl
  have t4 : (m.kind == 4) = false := by rw [hk]; rfl
  have t10 : (m.kind == 10) = false := by rw [hk]; rfl
  have t12 : (m.kind == 12) = true := by rw [hk]; rfl
  have t14 : (m.kind == 14) = false := by rw [hk]; rfl
  have t16 : (m.kind == 16) = false := by rw [hk]; rfl
  have t19 : (m.kind == 19) = false := by rw [hk]; rfl
  have ta : Hid (ansB m.kind = false) := by rw [hk]; rfl
  clear hm hz hk
  go_enter Try.func40, Try.ntmps40
  go_wp2_with (first
    | (refine box_arm rfl 42 (.tmp 0) rfl cs rfl ?_; intro w1 hx1 hz1 hg1; have Hg1 := hid hg1; have X1 := hid hx1; clear hz1 hg1 hx1)
    | (have X2' := X2; clear X2'; refine alloc_arm rfl 42 rfl _ HZ.out ?_; intro w3 hx3 hz3 hg3; have Hg3 := hid hg3; have X3 := hid hx3; clear hz3 hg3 hx3; clear y0 y1 y31)
    | (refine alloc_arm rfl 42 rfl _ HZ.out ?_; intro w2 hx2 hz2 hg2; have Hg2 := hid hg2; have X2 := hid hx2; have y0 := cell_later (boxCell Hg1.out 0 hcs rfl).out _ hx2; have y1 := cell_later (boxCell Hg1.out 1 hcs rfl).out _ hx2; have y31 := cell_later (boxCell Hg1.out 31 hcs rfl).out _ hx2; clear hz2 hg2 hx2)
    | (refine value_arm rfl 10 rfl (.agg (msgCells (bareM m) (bareD d)).toArray) (by kernel_rfl) ?_)
    | (refine store_arm rfl 42 (.tmp 3) (.tmp 10) rfl w2.heap.size 0 rfl (.agg (msgCells (bareM m) (bareD d)).toArray) rfl _ _ Hg3.out (by kernel_rfl) (by simp [Value.cells, zeroMsg]) (by simp [Value.cells, Value.oneCell']) ?_; intro w4 hg4 hz4 hr4; have HG : Hid (w4.heap[w2.heap.size]? = some (.cells (msgCells (bareM m) (bareD d)).toArray 42 (0, 0))) := hr4; have X4 := hid (ext_grown' X3.out hg4); have y1 := cell_later (boxCell Hg1.out 1 hcs rfl).out _ (X2.out.trans X4.out); clear hg4 hz4 hr4))
  refine wp_region_planB w2.heap.size (.read 0 (.read 1 (.read 2 (.read 3 (.read 4 (.read 5 (.read 6 (.main 7 (.read 8 (.main 9 (.read 10 (.main 11 .done)))))))))))) (by kernel_rfl) (by kernel_rfl) ?_
  intro wD hxD
  have XB : Hid (Below w2.heap.size wD wD) := Below.refl _ _
  have XF : Hid (Below w2.heap.size w2 wD) := X4.out.trans hxD
  have hBD := ext_sz XF.out
  have HG' := hid (row_later' HG.out hxD)
  clear HG
  have HG := HG'
  clear HG'
  have q2 : ∀ w', Below w2.heap.size wD w' → w'.cell? ⟨w.heap.size, 2, none⟩ = some (.string m.name) := cell_laterB (cell_later (boxCell Hg1.out 2 hcs rfl).out _ X2.out) (Nat.le_refl _) XF.out
  have q20 : ∀ w', Below w2.heap.size wD w' → w'.cell? ⟨w.heap.size, 20, none⟩ = some (.string m.nrdn) := cell_laterB (cell_later (boxCell Hg1.out 20 hcs rfl).out _ X2.out) (Nat.le_refl _) XF.out
  have q21 : ∀ w', Below w2.heap.size wD w' → w'.cell? ⟨w.heap.size, 21, none⟩ = some (.bool m.dold) := cell_laterB (cell_later (boxCell Hg1.out 21 hcs rfl).out _ X2.out) (Nat.le_refl _) XF.out
  repeat' (first
    | (refine walksB_move rfl rfl ?_; simp only [Act.put, Act.eval, List.setIfInBounds_toArray, List.set_cons_zero, List.set_cons_succ, Array.getD_eq_getD_getElem?, List.getElem?_toArray, List.getElem?_cons_zero, List.getElem?_cons_succ, Option.getD_some])
    | (refine walksB_assign rfl rfl ?_; simp only [Act.put, Act.eval, List.setIfInBounds_toArray, List.set_cons_zero, List.set_cons_succ, Array.getD_eq_getD_getElem?, List.getElem?_toArray, List.getElem?_cons_zero, List.getElem?_cons_succ, Option.getD_some])
    | (refine walksB_skip rfl rfl ?_; simp only [Act.put, List.setIfInBounds_toArray, List.set_cons_zero, List.set_cons_succ])
    | (refine walksB_unwanted rfl rfl ?_; simp only [Act.put, List.setIfInBounds_toArray, List.set_cons_zero, List.set_cons_succ])
    | (refine walksB_read (v := ?_) rfl rfl (fun w' hE => ?_) ?_; rotate_left 1; (· ((try (have hEx := Below.trans (Hid.out XB) hE)); go_simp; (try go_bits); with_reducible rfl)); simp only [Act.put, List.setIfInBounds_toArray, List.set_cons_zero, List.set_cons_succ])
    | (refine walksB_main rfl rfl (fun K hK => ?_); (first | (refine wp_store' 9 (.tmp 80) (.tmp 75) rfl w2.heap.size 2 rfl (.string m.name) rfl _ _ HG.out (by kernel_rfl) (by simp [Value.cells]) (by simp [Value.cells, Value.oneCell']) ?_; intro we hge hre; have hBe := below_stored hge (Nat.le_trans hBD (Below.size XB.out)) (Nat.le_refl _); have HG' : Hid (we.heap[w2.heap.size]? = some (.cells (msgCells ({ bareM m with name := m.name } : Msg) (bareD d)).toArray 42 (0, 0))) := hre; clear HG; have HG := HG'; clear HG' hge hre; have XB' := hid (Below.trans (Hid.out XB) (hBe)); clear XB; have XB := XB'; clear XB') | (refine wp_store' 9 (.tmp 81) (.tmp 77) rfl w2.heap.size 20 rfl (.string m.nrdn) rfl _ _ HG.out (by kernel_rfl) (by simp [Value.cells]) (by simp [Value.cells, Value.oneCell']) ?_; intro we hge hre; have hBe := below_stored hge (Nat.le_trans hBD (Below.size XB.out)) (Nat.le_refl _); have HG' : Hid (we.heap[w2.heap.size]? = some (.cells (msgCells ({ bareM m with name := m.name, nrdn := m.nrdn } : Msg) (bareD d)).toArray 42 (0, 0))) := hre; clear HG; have HG := HG'; clear HG' hge hre; have XB' := hid (Below.trans (Hid.out XB) (hBe)); clear XB; have XB := XB'; clear XB') | (refine wp_store' 4 (.tmp 82) (.tmp 79) rfl w2.heap.size 21 rfl (.bool m.dold) rfl _ _ HG.out (by kernel_rfl) (by simp [Value.cells]) (by simp [Value.cells, Value.oneCell']) ?_; intro we hge hre; have hBe := below_stored hge (Nat.le_trans hBD (Below.size XB.out)) (Nat.le_refl _); have HG' : Hid (we.heap[w2.heap.size]? = some (.cells (msgCells ({ bareM m with name := m.name, nrdn := m.nrdn, dold := m.dold } : Msg) (bareD d)).toArray 42 (0, 0))) := hre; clear HG; have HG := HG'; clear HG' hge hre; have XB' := hid (Below.trans (Hid.out XB) (hBe)); clear XB; have XB := XB'; clear XB')); refine hK _ _ (by first | assumption | exact Below.refl _ _) ?_; clear hK K; try simp only [Act.put, List.setIfInBounds_toArray, List.set_cons_zero, List.set_cons_succ])
    | (refine walksB_alt ?_ ?_)
    | (refine walksB_main rfl rfl (fun K hK => ?_); go_wp2_with (fail); refine hK _ _ (by first | assumption | exact Below.refl _ _) ?_; clear hK K; try simp only [Act.put, List.setIfInBounds_toArray, List.set_cons_zero, List.set_cons_succ]))
  refine walksB_done ?_
  have X4' : Hid (Ext w2 _) := Below.trans XF.out XB.out
  clear X4
  have X4 := X4'
  clear X4'
  clear q2 q20 q21
  clear XB XF hBD hxD
  have y22 := cell_later (boxCell Hg1.out 22 hcs rfl).out _ (X2.out.trans X4.out)
  rw [hs0] at y22
  have y1 := cell_later (boxCell Hg1.out 1 hcs rfl).out _ (X2.out.trans X4.out)
  go_wp2_with (first
    | (go_at_call 56; (with_reducible refine (answer_any _ _).mono ?_); rintro e w5 ⟨he, rfl⟩; rw [ta.out] at he; subst he)
    | (refine wpList_load_row rfl 42 (.tmp 3) rfl w2.heap.size rfl _ _ _ _ HG.out Try.underlying42 rfl (by kernel_rfl) ?_)
    | (refine store_arm rfl 42 (.tmp 2) (.tmp 125) rfl w1.heap.size 0 rfl (.agg (msgCells ({ bareM m with name := m.name, nrdn := m.nrdn, dold := m.dold } : Msg) (bareD d)).toArray) rfl _ _ (row_later' Hg2.out X4.out) (by kernel_rfl) (by simp [Value.cells, zeroMsg]) (by simp [Value.cells, Value.oneCell']) ?_; intro wz hgz hzz hrz; have Hrz := hid hrz; have Hgz := hid hgz; clear hgz hzz hrz))
  refine bodyPost_ret (v := .agg (msgCells ({ bareM m with name := m.name, nrdn := m.nrdn, dold := m.dold } : Msg) (bareD d)).toArray) (results_cell_row (p := 2) (ty := 42) (by kernel_rfl) _ _ _ _ _ _ _ rfl Hrz.out Try.underlying42 rfl (by kernel_rfl)) rfl ⟨_, (bareD d), rfl, rfl, ?_, ?_⟩
  · have XZ : Ext w _ := X1.out.trans (ext_grown' (X2.out.trans X4.out) Hgz.out)
    exact MsgRows.mono (MsgRows.ext ⟨Row.nil _ _ _, Row.nil _ _ _, Row.nil _ _ _, Row.nil _ _ _, Row.nil _ _ _, Row.nil _ _ _, Hm.out.ctls⟩ XZ) fun _ _ _ => trivial
  · exact X1.out.trans (ext_grown' (X2.out.trans X4.out) Hgz.out)
set_option maxHeartbeats 400000 in
theorem own_12t {m : Msg} {d : MsgD} {cs : Array Value} {S : Nat → Prop} (hcs : Hid (cs = (msgCells m d).toArray)) (w : World) (hm : MsgRows S w m d) (hk : m.kind = 12) (hs0 : m.hsup = true) :
    Calls Try.prog 40 #[.agg cs] w (MsgNew w ({ bareM m with name := m.name, nrdn := m.nrdn, dold := m.dold, hsup := true, sup := m.sup } : Msg)) := by
  have Hm := hid hm
  have hz := (zero_of_info (P := Try.prog) (t := 42) (v := .agg zeroMsg.toArray) (n := 32) (by kernel_rfl)).1
  have HZ := hid hz
  have t0 : (m.kind == 0) = false := by rw [hk]; rfl
  have t3 : (m.kind == 3) = false := by rw [hk]; rfl
  have t6 : (m.kind == 6) = false := by rw [hk]; rfl
  have t8 : (m.kind == 8) = false := by rw [hk]; rfl
  have t4 : (m.kind == 4) = false := by rw [hk]; rfl
  have t10 : (m.kind == 10) = false := by rw [hk]; rfl
  have t12 : (m.kind == 12) = true := by rw [hk]; rfl
  have t14 : (m.kind == 14) = false := by rw [hk]; rfl
  have t16 : (m.kind == 16) = false := by rw [hk]; rfl
  have t19 : (m.kind == 19) = false := by rw [hk]; rfl
  have ta : Hid (ansB m.kind = false) := by rw [hk]; rfl
  clear hm hz hk
  go_enter Try.func40, Try.ntmps40
  go_wp2_with (first
    | (refine box_arm rfl 42 (.tmp 0) rfl cs rfl ?_; intro w1 hx1 hz1 hg1; have Hg1 := hid hg1; have X1 := hid hx1; clear hz1 hg1 hx1)
    | (have X2' := X2; clear X2'; refine alloc_arm rfl 42 rfl _ HZ.out ?_; intro w3 hx3 hz3 hg3; have Hg3 := hid hg3; have X3 := hid hx3; clear hz3 hg3 hx3; clear y0 y1 y31)
    | (refine alloc_arm rfl 42 rfl _ HZ.out ?_; intro w2 hx2 hz2 hg2; have Hg2 := hid hg2; have X2 := hid hx2; have y0 := cell_later (boxCell Hg1.out 0 hcs rfl).out _ hx2; have y1 := cell_later (boxCell Hg1.out 1 hcs rfl).out _ hx2; have y31 := cell_later (boxCell Hg1.out 31 hcs rfl).out _ hx2; clear hz2 hg2 hx2)
    | (refine value_arm rfl 10 rfl (.agg (msgCells (bareM m) (bareD d)).toArray) (by kernel_rfl) ?_)
    | (refine store_arm rfl 42 (.tmp 3) (.tmp 10) rfl w2.heap.size 0 rfl (.agg (msgCells (bareM m) (bareD d)).toArray) rfl _ _ Hg3.out (by kernel_rfl) (by simp [Value.cells, zeroMsg]) (by simp [Value.cells, Value.oneCell']) ?_; intro w4 hg4 hz4 hr4; have HG : Hid (w4.heap[w2.heap.size]? = some (.cells (msgCells (bareM m) (bareD d)).toArray 42 (0, 0))) := hr4; have X4 := hid (ext_grown' X3.out hg4); have y1 := cell_later (boxCell Hg1.out 1 hcs rfl).out _ (X2.out.trans X4.out); clear hg4 hz4 hr4))
  refine wp_region_planB w2.heap.size (.read 0 (.read 1 (.read 2 (.read 3 (.read 4 (.read 5 (.read 6 (.main 7 (.read 8 (.main 9 (.read 10 (.main 11 .done)))))))))))) (by kernel_rfl) (by kernel_rfl) ?_
  intro wD hxD
  have XB : Hid (Below w2.heap.size wD wD) := Below.refl _ _
  have XF : Hid (Below w2.heap.size w2 wD) := X4.out.trans hxD
  have hBD := ext_sz XF.out
  have HG' := hid (row_later' HG.out hxD)
  clear HG
  have HG := HG'
  clear HG'
  have q2 : ∀ w', Below w2.heap.size wD w' → w'.cell? ⟨w.heap.size, 2, none⟩ = some (.string m.name) := cell_laterB (cell_later (boxCell Hg1.out 2 hcs rfl).out _ X2.out) (Nat.le_refl _) XF.out
  have q20 : ∀ w', Below w2.heap.size wD w' → w'.cell? ⟨w.heap.size, 20, none⟩ = some (.string m.nrdn) := cell_laterB (cell_later (boxCell Hg1.out 20 hcs rfl).out _ X2.out) (Nat.le_refl _) XF.out
  have q21 : ∀ w', Below w2.heap.size wD w' → w'.cell? ⟨w.heap.size, 21, none⟩ = some (.bool m.dold) := cell_laterB (cell_later (boxCell Hg1.out 21 hcs rfl).out _ X2.out) (Nat.le_refl _) XF.out
  repeat' (first
    | (refine walksB_move rfl rfl ?_; simp only [Act.put, Act.eval, List.setIfInBounds_toArray, List.set_cons_zero, List.set_cons_succ, Array.getD_eq_getD_getElem?, List.getElem?_toArray, List.getElem?_cons_zero, List.getElem?_cons_succ, Option.getD_some])
    | (refine walksB_assign rfl rfl ?_; simp only [Act.put, Act.eval, List.setIfInBounds_toArray, List.set_cons_zero, List.set_cons_succ, Array.getD_eq_getD_getElem?, List.getElem?_toArray, List.getElem?_cons_zero, List.getElem?_cons_succ, Option.getD_some])
    | (refine walksB_skip rfl rfl ?_; simp only [Act.put, List.setIfInBounds_toArray, List.set_cons_zero, List.set_cons_succ])
    | (refine walksB_unwanted rfl rfl ?_; simp only [Act.put, List.setIfInBounds_toArray, List.set_cons_zero, List.set_cons_succ])
    | (refine walksB_read (v := ?_) rfl rfl (fun w' hE => ?_) ?_; rotate_left 1; (· ((try (have hEx := Below.trans (Hid.out XB) hE)); go_simp; (try go_bits); with_reducible rfl)); simp only [Act.put, List.setIfInBounds_toArray, List.set_cons_zero, List.set_cons_succ])
    | (refine walksB_main rfl rfl (fun K hK => ?_); (first | (refine wp_store' 9 (.tmp 80) (.tmp 75) rfl w2.heap.size 2 rfl (.string m.name) rfl _ _ HG.out (by kernel_rfl) (by simp [Value.cells]) (by simp [Value.cells, Value.oneCell']) ?_; intro we hge hre; have hBe := below_stored hge (Nat.le_trans hBD (Below.size XB.out)) (Nat.le_refl _); have HG' : Hid (we.heap[w2.heap.size]? = some (.cells (msgCells ({ bareM m with name := m.name } : Msg) (bareD d)).toArray 42 (0, 0))) := hre; clear HG; have HG := HG'; clear HG' hge hre; have XB' := hid (Below.trans (Hid.out XB) (hBe)); clear XB; have XB := XB'; clear XB') | (refine wp_store' 9 (.tmp 81) (.tmp 77) rfl w2.heap.size 20 rfl (.string m.nrdn) rfl _ _ HG.out (by kernel_rfl) (by simp [Value.cells]) (by simp [Value.cells, Value.oneCell']) ?_; intro we hge hre; have hBe := below_stored hge (Nat.le_trans hBD (Below.size XB.out)) (Nat.le_refl _); have HG' : Hid (we.heap[w2.heap.size]? = some (.cells (msgCells ({ bareM m with name := m.name, nrdn := m.nrdn } : Msg) (bareD d)).toArray 42 (0, 0))) := hre; clear HG; have HG := HG'; clear HG' hge hre; have XB' := hid (Below.trans (Hid.out XB) (hBe)); clear XB; have XB := XB'; clear XB') | (refine wp_store' 4 (.tmp 82) (.tmp 79) rfl w2.heap.size 21 rfl (.bool m.dold) rfl _ _ HG.out (by kernel_rfl) (by simp [Value.cells]) (by simp [Value.cells, Value.oneCell']) ?_; intro we hge hre; have hBe := below_stored hge (Nat.le_trans hBD (Below.size XB.out)) (Nat.le_refl _); have HG' : Hid (we.heap[w2.heap.size]? = some (.cells (msgCells ({ bareM m with name := m.name, nrdn := m.nrdn, dold := m.dold } : Msg) (bareD d)).toArray 42 (0, 0))) := hre; clear HG; have HG := HG'; clear HG' hge hre; have XB' := hid (Below.trans (Hid.out XB) (hBe)); clear XB; have XB := XB'; clear XB')); refine hK _ _ (by first | assumption | exact Below.refl _ _) ?_; clear hK K; try simp only [Act.put, List.setIfInBounds_toArray, List.set_cons_zero, List.set_cons_succ])
    | (refine walksB_alt ?_ ?_)
    | (refine walksB_main rfl rfl (fun K hK => ?_); go_wp2_with (fail); refine hK _ _ (by first | assumption | exact Below.refl _ _) ?_; clear hK K; try simp only [Act.put, List.setIfInBounds_toArray, List.set_cons_zero, List.set_cons_succ]))
  refine walksB_done ?_
  have X4' : Hid (Ext w2 _) := Below.trans XF.out XB.out
  clear X4
  have X4 := X4'
  clear X4'
  clear q2 q20 q21
  clear XB XF hBD hxD
  have y22 := cell_later (boxCell Hg1.out 22 hcs rfl).out _ (X2.out.trans X4.out)
  rw [hs0] at y22
  have y1 := cell_later (boxCell Hg1.out 1 hcs rfl).out _ (X2.out.trans X4.out)
  go_wp2
  refine wp_region_planB w2.heap.size (.read 0 (.read 1 (.read 2 (.main 3 (.read 4 (.main 5 .done)))))) (by kernel_rfl) (by kernel_rfl) ?_
  intro wD hxD
  have XB : Hid (Below w2.heap.size wD wD) := Below.refl _ _
  have XF : Hid (Below w2.heap.size w2 wD) := X4.out.trans hxD
  have hBD := ext_sz XF.out
  have HG' := hid (row_later' HG.out hxD)
  clear HG
  have HG := HG'
  clear HG'
  have q23 : ∀ w', Below w2.heap.size wD w' → w'.cell? ⟨w.heap.size, 23, none⟩ = some (.string m.sup) := cell_laterB (cell_later (boxCell Hg1.out 23 hcs rfl).out _ X2.out) (Nat.le_refl _) XF.out
  repeat' (first
    | (refine walksB_move rfl rfl ?_; simp only [Act.put, Act.eval, List.setIfInBounds_toArray, List.set_cons_zero, List.set_cons_succ, Array.getD_eq_getD_getElem?, List.getElem?_toArray, List.getElem?_cons_zero, List.getElem?_cons_succ, Option.getD_some])
    | (refine walksB_assign rfl rfl ?_; simp only [Act.put, Act.eval, List.setIfInBounds_toArray, List.set_cons_zero, List.set_cons_succ, Array.getD_eq_getD_getElem?, List.getElem?_toArray, List.getElem?_cons_zero, List.getElem?_cons_succ, Option.getD_some])
    | (refine walksB_skip rfl rfl ?_; simp only [Act.put, List.setIfInBounds_toArray, List.set_cons_zero, List.set_cons_succ])
    | (refine walksB_unwanted rfl rfl ?_; simp only [Act.put, List.setIfInBounds_toArray, List.set_cons_zero, List.set_cons_succ])
    | (refine walksB_read (v := ?_) rfl rfl (fun w' hE => ?_) ?_; rotate_left 1; (· ((try (have hEx := Below.trans (Hid.out XB) hE)); go_simp; (try go_bits); with_reducible rfl)); simp only [Act.put, List.setIfInBounds_toArray, List.set_cons_zero, List.set_cons_succ])
    | (refine walksB_main rfl rfl (fun K hK => ?_); (first | (refine wp_store' 4 (.tmp 87) (.const (.bool true)) rfl w2.heap.size 22 rfl (.bool true) rfl _ _ HG.out (by kernel_rfl) (by simp [Value.cells]) (by simp [Value.cells, Value.oneCell']) ?_; intro we hge hre; have hBe := below_stored hge (Nat.le_trans hBD (Below.size XB.out)) (Nat.le_refl _); have HG' : Hid (we.heap[w2.heap.size]? = some (.cells (msgCells ({ bareM m with name := m.name, nrdn := m.nrdn, dold := m.dold, hsup := true } : Msg) (bareD d)).toArray 42 (0, 0))) := hre; clear HG; have HG := HG'; clear HG' hge hre; have XB' := hid (Below.trans (Hid.out XB) (hBe)); clear XB; have XB := XB'; clear XB') | (refine wp_store' 9 (.tmp 88) (.tmp 86) rfl w2.heap.size 23 rfl (.string m.sup) rfl _ _ HG.out (by kernel_rfl) (by simp [Value.cells]) (by simp [Value.cells, Value.oneCell']) ?_; intro we hge hre; have hBe := below_stored hge (Nat.le_trans hBD (Below.size XB.out)) (Nat.le_refl _); have HG' : Hid (we.heap[w2.heap.size]? = some (.cells (msgCells ({ bareM m with name := m.name, nrdn := m.nrdn, dold := m.dold, hsup := true, sup := m.sup } : Msg) (bareD d)).toArray 42 (0, 0))) := hre; clear HG; have HG := HG'; clear HG' hge hre; have XB' := hid (Below.trans (Hid.out XB) (hBe)); clear XB; have XB := XB'; clear XB')); refine hK _ _ (by first | assumption | exact Below.refl _ _) ?_; clear hK K; try simp only [Act.put, List.setIfInBounds_toArray, List.set_cons_zero, List.set_cons_succ])
    | (refine walksB_alt ?_ ?_)
    | (refine walksB_main rfl rfl (fun K hK => ?_); go_wp2_with (fail); refine hK _ _ (by first | assumption | exact Below.refl _ _) ?_; clear hK K; try simp only [Act.put, List.setIfInBounds_toArray, List.set_cons_zero, List.set_cons_succ]))
  refine walksB_done ?_
  have X4' : Hid (Ext w2 _) := Below.trans XF.out XB.out
  clear X4
  have X4 := X4'
  clear X4'
  clear q23
  clear XB XF hBD hxD
  have y1 := cell_later (boxCell Hg1.out 1 hcs rfl).out _ (X2.out.trans X4.out)
  go_wp2_with (first
    | (go_at_call 56; (with_reducible refine (answer_any _ _).mono ?_); rintro e w5 ⟨he, rfl⟩; rw [ta.out] at he; subst he)
    | (refine wpList_load_row rfl 42 (.tmp 3) rfl w2.heap.size rfl _ _ _ _ HG.out Try.underlying42 rfl (by kernel_rfl) ?_)
    | (refine store_arm rfl 42 (.tmp 2) (.tmp 125) rfl w1.heap.size 0 rfl (.agg (msgCells ({ bareM m with name := m.name, nrdn := m.nrdn, dold := m.dold, hsup := true, sup := m.sup } : Msg) (bareD d)).toArray) rfl _ _ (row_later' Hg2.out X4.out) (by kernel_rfl) (by simp [Value.cells, zeroMsg]) (by simp [Value.cells, Value.oneCell']) ?_; intro wz hgz hzz hrz; have Hrz := hid hrz; have Hgz := hid hgz; clear hgz hzz hrz))
  refine bodyPost_ret (v := .agg (msgCells ({ bareM m with name := m.name, nrdn := m.nrdn, dold := m.dold, hsup := true, sup := m.sup } : Msg) (bareD d)).toArray) (results_cell_row (p := 2) (ty := 42) (by kernel_rfl) _ _ _ _ _ _ _ rfl Hrz.out Try.underlying42 rfl (by kernel_rfl)) rfl ⟨_, (bareD d), rfl, rfl, ?_, ?_⟩
  · have XZ : Ext w _ := X1.out.trans (ext_grown' (X2.out.trans X4.out) Hgz.out)
    exact MsgRows.mono (MsgRows.ext ⟨Row.nil _ _ _, Row.nil _ _ _, Row.nil _ _ _, Row.nil _ _ _, Row.nil _ _ _, Row.nil _ _ _, Hm.out.ctls⟩ XZ) fun _ _ _ => trivial
  · exact X1.out.trans (ext_grown' (X2.out.trans X4.out) Hgz.out)
set_option maxHeartbeats 400000 in
theorem own_14 {m : Msg} {d : MsgD} {cs : Array Value} {S : Nat → Prop} (hcs : Hid (cs = (msgCells m d).toArray)) (w : World) (hm : MsgRows S w m d) (hk : m.kind = 14) :
    Calls Try.prog 40 #[.agg cs] w (MsgNew w ({ bareM m with name := m.name, attr := m.attr, value := m.value } : Msg)) := by
  have Hm := hid hm
  have hz := (zero_of_info (P := Try.prog) (t := 42) (v := .agg zeroMsg.toArray) (n := 32) (by kernel_rfl)).1
  have HZ := hid hz
  have t0 : (m.kind == 0) = false := by rw [hk]; rfl
  have t3 : (m.kind == 3) = false := by rw [hk]; rfl
  have t6 : (m.kind == 6) = false := by rw [hk]; rfl
  have t8 : (m.kind == 8) = false := by rw [hk]; rfl
  have t4 : (m.kind == 4) = false := by rw [hk]; rfl
  have t10 : (m.kind == 10) = false := by rw [hk]; rfl
  have t12 : (m.kind == 12) = false := by rw [hk]; rfl
  have t14 : (m.kind == 14) = true := by rw [hk]; rfl
  have t16 : (m.kind == 16) = false := by rw [hk]; rfl
  have t19 : (m.kind == 19) = false := by rw [hk]; rfl
  have ta : Hid (ansB m.kind = false) := by rw [hk]; rfl
  clear hm hz hk
  go_enter Try.func40, Try.ntmps40
  go_wp2_with (first
    | (refine box_arm rfl 42 (.tmp 0) rfl cs rfl ?_; intro w1 hx1 hz1 hg1; have Hg1 := hid hg1; have X1 := hid hx1; clear hz1 hg1 hx1)
    | (have X2' := X2; clear X2'; refine alloc_arm rfl 42 rfl _ HZ.out ?_; intro w3 hx3 hz3 hg3; have Hg3 := hid hg3; have X3 := hid hx3; clear hz3 hg3 hx3; clear y0 y1 y31)
    | (refine alloc_arm rfl 42 rfl _ HZ.out ?_; intro w2 hx2 hz2 hg2; have Hg2 := hid hg2; have X2 := hid hx2; have y0 := cell_later (boxCell Hg1.out 0 hcs rfl).out _ hx2; have y1 := cell_later (boxCell Hg1.out 1 hcs rfl).out _ hx2; have y31 := cell_later (boxCell Hg1.out 31 hcs rfl).out _ hx2; clear hz2 hg2 hx2)
    | (refine value_arm rfl 10 rfl (.agg (msgCells (bareM m) (bareD d)).toArray) (by kernel_rfl) ?_)
    | (refine store_arm rfl 42 (.tmp 3) (.tmp 10) rfl w2.heap.size 0 rfl (.agg (msgCells (bareM m) (bareD d)).toArray) rfl _ _ Hg3.out (by kernel_rfl) (by simp [Value.cells, zeroMsg]) (by simp [Value.cells, Value.oneCell']) ?_; intro w4 hg4 hz4 hr4; have HG : Hid (w4.heap[w2.heap.size]? = some (.cells (msgCells (bareM m) (bareD d)).toArray 42 (0, 0))) := hr4; have X4 := hid (ext_grown' X3.out hg4); have y1 := cell_later (boxCell Hg1.out 1 hcs rfl).out _ (X2.out.trans X4.out); clear hg4 hz4 hr4))
  refine wp_region_planB w2.heap.size (.read 0 (.read 1 (.read 2 (.read 3 (.read 4 (.read 5 (.read 6 (.main 7 (.read 8 (.main 9 (.read 10 (.main 11 .done)))))))))))) (by kernel_rfl) (by kernel_rfl) ?_
  intro wD hxD
  have XB : Hid (Below w2.heap.size wD wD) := Below.refl _ _
  have XF : Hid (Below w2.heap.size w2 wD) := X4.out.trans hxD
  have hBD := ext_sz XF.out
  have HG' := hid (row_later' HG.out hxD)
  clear HG
  have HG := HG'
  clear HG'
  have q2 : ∀ w', Below w2.heap.size wD w' → w'.cell? ⟨w.heap.size, 2, none⟩ = some (.string m.name) := cell_laterB (cell_later (boxCell Hg1.out 2 hcs rfl).out _ X2.out) (Nat.le_refl _) XF.out
  have q24 : ∀ w', Below w2.heap.size wD w' → w'.cell? ⟨w.heap.size, 24, none⟩ = some (.string m.attr) := cell_laterB (cell_later (boxCell Hg1.out 24 hcs rfl).out _ X2.out) (Nat.le_refl _) XF.out
  have q25 : ∀ w', Below w2.heap.size wD w' → w'.cell? ⟨w.heap.size, 25, none⟩ = some (.string m.value) := cell_laterB (cell_later (boxCell Hg1.out 25 hcs rfl).out _ X2.out) (Nat.le_refl _) XF.out
  repeat' (first
    | (refine walksB_move rfl rfl ?_; simp only [Act.put, Act.eval, List.setIfInBounds_toArray, List.set_cons_zero, List.set_cons_succ, Array.getD_eq_getD_getElem?, List.getElem?_toArray, List.getElem?_cons_zero, List.getElem?_cons_succ, Option.getD_some])
    | (refine walksB_assign rfl rfl ?_; simp only [Act.put, Act.eval, List.setIfInBounds_toArray, List.set_cons_zero, List.set_cons_succ, Array.getD_eq_getD_getElem?, List.getElem?_toArray, List.getElem?_cons_zero, List.getElem?_cons_succ, Option.getD_some])
    | (refine walksB_skip rfl rfl ?_; simp only [Act.put, List.setIfInBounds_toArray, List.set_cons_zero, List.set_cons_succ])
    | (refine walksB_unwanted rfl rfl ?_; simp only [Act.put, List.setIfInBounds_toArray, List.set_cons_zero, List.set_cons_succ])
    | (refine walksB_read (v := ?_) rfl rfl (fun w' hE => ?_) ?_; rotate_left 1; (· ((try (have hEx := Below.trans (Hid.out XB) hE)); go_simp; (try go_bits); with_reducible rfl)); simp only [Act.put, List.setIfInBounds_toArray, List.set_cons_zero, List.set_cons_succ])
    | (refine walksB_main rfl rfl (fun K hK => ?_); (first | (refine wp_store' 9 (.tmp 97) (.tmp 92) rfl w2.heap.size 2 rfl (.string m.name) rfl _ _ HG.out (by kernel_rfl) (by simp [Value.cells]) (by simp [Value.cells, Value.oneCell']) ?_; intro we hge hre; have hBe := below_stored hge (Nat.le_trans hBD (Below.size XB.out)) (Nat.le_refl _); have HG' : Hid (we.heap[w2.heap.size]? = some (.cells (msgCells ({ bareM m with name := m.name } : Msg) (bareD d)).toArray 42 (0, 0))) := hre; clear HG; have HG := HG'; clear HG' hge hre; have XB' := hid (Below.trans (Hid.out XB) (hBe)); clear XB; have XB := XB'; clear XB') | (refine wp_store' 9 (.tmp 98) (.tmp 94) rfl w2.heap.size 24 rfl (.string m.attr) rfl _ _ HG.out (by kernel_rfl) (by simp [Value.cells]) (by simp [Value.cells, Value.oneCell']) ?_; intro we hge hre; have hBe := below_stored hge (Nat.le_trans hBD (Below.size XB.out)) (Nat.le_refl _); have HG' : Hid (we.heap[w2.heap.size]? = some (.cells (msgCells ({ bareM m with name := m.name, attr := m.attr } : Msg) (bareD d)).toArray 42 (0, 0))) := hre; clear HG; have HG := HG'; clear HG' hge hre; have XB' := hid (Below.trans (Hid.out XB) (hBe)); clear XB; have XB := XB'; clear XB') | (refine wp_store' 9 (.tmp 99) (.tmp 96) rfl w2.heap.size 25 rfl (.string m.value) rfl _ _ HG.out (by kernel_rfl) (by simp [Value.cells]) (by simp [Value.cells, Value.oneCell']) ?_; intro we hge hre; have hBe := below_stored hge (Nat.le_trans hBD (Below.size XB.out)) (Nat.le_refl _); have HG' : Hid (we.heap[w2.heap.size]? = some (.cells (msgCells ({ bareM m with name := m.name, attr := m.attr, value := m.value } : Msg) (bareD d)).toArray 42 (0, 0))) := hre; clear HG; have HG := HG'; clear HG' hge hre; have XB' := hid (Below.trans (Hid.out XB) (hBe)); clear XB; have XB := XB'; clear XB')); refine hK _ _ (by first | assumption | exact Below.refl _ _) ?_; clear hK K; try simp only [Act.put, List.setIfInBounds_toArray, List.set_cons_zero, List.set_cons_succ])
    | (refine walksB_alt ?_ ?_)
    | (refine walksB_main rfl rfl (fun K hK => ?_); go_wp2_with (fail); refine hK _ _ (by first | assumption | exact Below.refl _ _) ?_; clear hK K; try simp only [Act.put, List.setIfInBounds_toArray, List.set_cons_zero, List.set_cons_succ]))
  refine walksB_done ?_
  have X4' : Hid (Ext w2 _) := Below.trans XF.out XB.out
  clear X4
  have X4 := X4'
  clear X4'
  clear q2 q24 q25
  clear XB XF hBD hxD
  have y1 := cell_later (boxCell Hg1.out 1 hcs rfl).out _ (X2.out.trans X4.out)
  go_wp2_with (first
    | (go_at_call 56; (with_reducible refine (answer_any _ _).mono ?_); rintro e w5 ⟨he, rfl⟩; rw [ta.out] at he; subst he)
    | (refine wpList_load_row rfl 42 (.tmp 3) rfl w2.heap.size rfl _ _ _ _ HG.out Try.underlying42 rfl (by kernel_rfl) ?_)
    | (refine store_arm rfl 42 (.tmp 2) (.tmp 125) rfl w1.heap.size 0 rfl (.agg (msgCells ({ bareM m with name := m.name, attr := m.attr, value := m.value } : Msg) (bareD d)).toArray) rfl _ _ (row_later' Hg2.out X4.out) (by kernel_rfl) (by simp [Value.cells, zeroMsg]) (by simp [Value.cells, Value.oneCell']) ?_; intro wz hgz hzz hrz; have Hrz := hid hrz; have Hgz := hid hgz; clear hgz hzz hrz))
  refine bodyPost_ret (v := .agg (msgCells ({ bareM m with name := m.name, attr := m.attr, value := m.value } : Msg) (bareD d)).toArray) (results_cell_row (p := 2) (ty := 42) (by kernel_rfl) _ _ _ _ _ _ _ rfl Hrz.out Try.underlying42 rfl (by kernel_rfl)) rfl ⟨_, (bareD d), rfl, rfl, ?_, ?_⟩
  · have XZ : Ext w _ := X1.out.trans (ext_grown' (X2.out.trans X4.out) Hgz.out)
    exact MsgRows.mono (MsgRows.ext ⟨Row.nil _ _ _, Row.nil _ _ _, Row.nil _ _ _, Row.nil _ _ _, Row.nil _ _ _, Row.nil _ _ _, Hm.out.ctls⟩ XZ) fun _ _ _ => trivial
  · exact X1.out.trans (ext_grown' (X2.out.trans X4.out) Hgz.out)
set_option maxHeartbeats 400000 in
theorem own_16 {m : Msg} {d : MsgD} {cs : Array Value} {S : Nat → Prop} (hcs : Hid (cs = (msgCells m d).toArray)) (w : World) (hm : MsgRows S w m d) (hk : m.kind = 16) :
    Calls Try.prog 40 #[.agg cs] w (MsgNew w ({ bareM m with target := m.target } : Msg)) := by
  have Hm := hid hm
  have hz := (zero_of_info (P := Try.prog) (t := 42) (v := .agg zeroMsg.toArray) (n := 32) (by kernel_rfl)).1
  have HZ := hid hz
  have t0 : (m.kind == 0) = false := by rw [hk]; rfl
  have t3 : (m.kind == 3) = false := by rw [hk]; rfl
  have t6 : (m.kind == 6) = false := by rw [hk]; rfl
  have t8 : (m.kind == 8) = false := by rw [hk]; rfl
  have t4 : (m.kind == 4) = false := by rw [hk]; rfl
  have t10 : (m.kind == 10) = false := by rw [hk]; rfl
  have t12 : (m.kind == 12) = false := by rw [hk]; rfl
  have t14 : (m.kind == 14) = false := by rw [hk]; rfl
  have t16 : (m.kind == 16) = true := by rw [hk]; rfl
  have t19 : (m.kind == 19) = false := by rw [hk]; rfl
  have ta : Hid (ansB m.kind = false) := by rw [hk]; rfl
  clear hm hz hk
  go_enter Try.func40, Try.ntmps40
  go_wp2_with (first
    | (refine box_arm rfl 42 (.tmp 0) rfl cs rfl ?_; intro w1 hx1 hz1 hg1; have Hg1 := hid hg1; have X1 := hid hx1; clear hz1 hg1 hx1)
    | (have X2' := X2; clear X2'; refine alloc_arm rfl 42 rfl _ HZ.out ?_; intro w3 hx3 hz3 hg3; have Hg3 := hid hg3; have X3 := hid hx3; clear hz3 hg3 hx3; clear y0 y1 y31)
    | (refine alloc_arm rfl 42 rfl _ HZ.out ?_; intro w2 hx2 hz2 hg2; have Hg2 := hid hg2; have X2 := hid hx2; have y0 := cell_later (boxCell Hg1.out 0 hcs rfl).out _ hx2; have y1 := cell_later (boxCell Hg1.out 1 hcs rfl).out _ hx2; have y31 := cell_later (boxCell Hg1.out 31 hcs rfl).out _ hx2; clear hz2 hg2 hx2)
    | (refine value_arm rfl 10 rfl (.agg (msgCells (bareM m) (bareD d)).toArray) (by kernel_rfl) ?_)
    | (refine store_arm rfl 42 (.tmp 3) (.tmp 10) rfl w2.heap.size 0 rfl (.agg (msgCells (bareM m) (bareD d)).toArray) rfl _ _ Hg3.out (by kernel_rfl) (by simp [Value.cells, zeroMsg]) (by simp [Value.cells, Value.oneCell']) ?_; intro w4 hg4 hz4 hr4; have HG : Hid (w4.heap[w2.heap.size]? = some (.cells (msgCells (bareM m) (bareD d)).toArray 42 (0, 0))) := hr4; have X4 := hid (ext_grown' X3.out hg4); have y1 := cell_later (boxCell Hg1.out 1 hcs rfl).out _ (X2.out.trans X4.out); have y26 := cell_later (boxCell Hg1.out 26 hcs rfl).out _ (X2.out.trans X4.out); clear hg4 hz4 hr4)
    | (refine store_arm rfl 2 (.tmp 104) (.tmp 103) rfl w2.heap.size 26 rfl (.int .i64 m.target) rfl _ _ HG.out (by kernel_rfl) (by simp [Value.cells]) (by simp [Value.cells, Value.oneCell']) ?_; intro w6 hg6 hz6 hr6; have HG' : Hid (w6.heap[w2.heap.size]? = some (.cells (msgCells ({ bareM m with target := m.target } : Msg) (bareD d)).toArray 42 (0, 0))) := hr6; clear HG; have HG := HG'; clear HG'; have X4' := hid (ext_grown' X4.out hg6); clear X4; have X4 := X4'; clear X4'; have y1 := cell_later (boxCell Hg1.out 1 hcs rfl).out _ (X2.out.trans X4.out); clear hg6 hz6 hr6)
    | (go_at_call 56; (with_reducible refine (answer_any _ _).mono ?_); rintro e w5 ⟨he, rfl⟩; rw [ta.out] at he; subst he)
    | (refine wpList_load_row rfl 42 (.tmp 3) rfl w2.heap.size rfl _ _ _ _ HG.out Try.underlying42 rfl (by kernel_rfl) ?_)
    | (refine store_arm rfl 42 (.tmp 2) (.tmp 125) rfl w1.heap.size 0 rfl (.agg (msgCells ({ bareM m with target := m.target } : Msg) (bareD d)).toArray) rfl _ _ (row_later' Hg2.out X4.out) (by kernel_rfl) (by simp [Value.cells, zeroMsg]) (by simp [Value.cells, Value.oneCell']) ?_; intro wz hgz hzz hrz; have Hrz := hid hrz; have Hgz := hid hgz; clear hgz hzz hrz))
  refine bodyPost_ret (v := .agg (msgCells ({ bareM m with target := m.target } : Msg) (bareD d)).toArray) (results_cell_row (p := 2) (ty := 42) (by kernel_rfl) _ _ _ _ _ _ _ rfl Hrz.out Try.underlying42 rfl (by kernel_rfl)) rfl ⟨_, (bareD d), rfl, rfl, ?_, ?_⟩
  · have XZ : Ext w _ := X1.out.trans (ext_grown' (X2.out.trans X4.out) Hgz.out)
    exact MsgRows.mono (MsgRows.ext ⟨Row.nil _ _ _, Row.nil _ _ _, Row.nil _ _ _, Row.nil _ _ _, Row.nil _ _ _, Row.nil _ _ _, Hm.out.ctls⟩ XZ) fun _ _ _ => trivial
  · exact X1.out.trans (ext_grown' (X2.out.trans X4.out) Hgz.out)
set_option maxHeartbeats 400000 in
theorem own_19 {m : Msg} {d : MsgD} {cs : Array Value} {S : Nat → Prop} (hcs : Hid (cs = (msgCells m d).toArray)) (w : World) (hm : MsgRows S w m d) (hk : m.kind = 19) :
    Calls Try.prog 40 #[.agg cs] w (MsgNew w ({ bareM m with refs := m.refs } : Msg)) := by
  have Hm := hid hm
  have hz := (zero_of_info (P := Try.prog) (t := 42) (v := .agg zeroMsg.toArray) (n := 32) (by kernel_rfl)).1
  have HZ := hid hz
  have t0 : (m.kind == 0) = false := by rw [hk]; rfl
  have t3 : (m.kind == 3) = false := by rw [hk]; rfl
  have t6 : (m.kind == 6) = false := by rw [hk]; rfl
  have t8 : (m.kind == 8) = false := by rw [hk]; rfl
  have t4 : (m.kind == 4) = false := by rw [hk]; rfl
  have t10 : (m.kind == 10) = false := by rw [hk]; rfl
  have t12 : (m.kind == 12) = false := by rw [hk]; rfl
  have t14 : (m.kind == 14) = false := by rw [hk]; rfl
  have t16 : (m.kind == 16) = false := by rw [hk]; rfl
  have t19 : (m.kind == 19) = true := by rw [hk]; rfl
  have ta : Hid (ansB m.kind = false) := by rw [hk]; rfl
  clear hm hz hk
  go_enter Try.func40, Try.ntmps40
  go_wp2_with (first
    | (refine box_arm rfl 42 (.tmp 0) rfl cs rfl ?_; intro w1 hx1 hz1 hg1; have Hg1 := hid hg1; have X1 := hid hx1; clear hz1 hg1 hx1)
    | (have X2' := X2; clear X2'; refine alloc_arm rfl 42 rfl _ HZ.out ?_; intro w3 hx3 hz3 hg3; have Hg3 := hid hg3; have X3 := hid hx3; clear hz3 hg3 hx3; clear y0 y1 y31)
    | (refine alloc_arm rfl 42 rfl _ HZ.out ?_; intro w2 hx2 hz2 hg2; have Hg2 := hid hg2; have X2 := hid hx2; have y0 := cell_later (boxCell Hg1.out 0 hcs rfl).out _ hx2; have y1 := cell_later (boxCell Hg1.out 1 hcs rfl).out _ hx2; have y31 := cell_later (boxCell Hg1.out 31 hcs rfl).out _ hx2; clear hz2 hg2 hx2)
    | (refine value_arm rfl 10 rfl (.agg (msgCells (bareM m) (bareD d)).toArray) (by kernel_rfl) ?_)
    | (refine store_arm rfl 42 (.tmp 3) (.tmp 10) rfl w2.heap.size 0 rfl (.agg (msgCells (bareM m) (bareD d)).toArray) rfl _ _ Hg3.out (by kernel_rfl) (by simp [Value.cells, zeroMsg]) (by simp [Value.cells, Value.oneCell']) ?_; intro w4 hg4 hz4 hr4; have HG : Hid (w4.heap[w2.heap.size]? = some (.cells (msgCells (bareM m) (bareD d)).toArray 42 (0, 0))) := hr4; have X4 := hid (ext_grown' X3.out hg4); have y1 := cell_later (boxCell Hg1.out 1 hcs rfl).out _ (X2.out.trans X4.out); have y30 := cell_later (boxCell Hg1.out 30 hcs rfl).out _ (X2.out.trans X4.out); clear hg4 hz4 hr4)
    | (refine store_arm rfl 22 (.tmp 109) (.tmp 108) rfl w2.heap.size 30 rfl (.slice d.refs.A d.refs.n d.refs.c) rfl _ _ HG.out (by kernel_rfl) (by simp [Value.cells]) (by simp [Value.cells, Value.oneCell']) ?_; intro w6 hg6 hz6 hr6; have HG' : Hid (w6.heap[w2.heap.size]? = some (.cells (msgCells ({ bareM m with refs := m.refs } : Msg) ({ bareD d with refs := d.refs } : MsgD)).toArray 42 (0, 0))) := hr6; clear HG; have HG := HG'; clear HG'; have X4' := hid (ext_grown' X4.out hg6); clear X4; have X4 := X4'; clear X4'; have y1 := cell_later (boxCell Hg1.out 1 hcs rfl).out _ (X2.out.trans X4.out); clear hg6 hz6 hr6)
    | (go_at_call 56; (with_reducible refine (answer_any _ _).mono ?_); rintro e w5 ⟨he, rfl⟩; rw [ta.out] at he; subst he)
    | (refine wpList_load_row rfl 42 (.tmp 3) rfl w2.heap.size rfl _ _ _ _ HG.out Try.underlying42 rfl (by kernel_rfl) ?_)
    | (refine store_arm rfl 42 (.tmp 2) (.tmp 125) rfl w1.heap.size 0 rfl (.agg (msgCells ({ bareM m with refs := m.refs } : Msg) ({ bareD d with refs := d.refs } : MsgD)).toArray) rfl _ _ (row_later' Hg2.out X4.out) (by kernel_rfl) (by simp [Value.cells, zeroMsg]) (by simp [Value.cells, Value.oneCell']) ?_; intro wz hgz hzz hrz; have Hrz := hid hrz; have Hgz := hid hgz; clear hgz hzz hrz))
  refine bodyPost_ret (v := .agg (msgCells ({ bareM m with refs := m.refs } : Msg) ({ bareD d with refs := d.refs } : MsgD)).toArray) (results_cell_row (p := 2) (ty := 42) (by kernel_rfl) _ _ _ _ _ _ _ rfl Hrz.out Try.underlying42 rfl (by kernel_rfl)) rfl ⟨_, ({ bareD d with refs := d.refs } : MsgD), rfl, rfl, ?_, ?_⟩
  · have XZ : Ext w _ := X1.out.trans (ext_grown' (X2.out.trans X4.out) Hgz.out)
    exact MsgRows.mono (MsgRows.ext ⟨Row.nil _ _ _, Row.nil _ _ _, Row.nil _ _ _, Row.nil _ _ _, Row.nil _ _ _, Hm.out.refs, Hm.out.ctls⟩ XZ) fun _ _ _ => trivial
  · exact X1.out.trans (ext_grown' (X2.out.trans X4.out) Hgz.out)
set_option maxHeartbeats 400000 in
theorem own_ans {m : Msg} {d : MsgD} {cs : Array Value} {S : Nat → Prop} (hcs : Hid (cs = (msgCells m d).toArray)) (w : World) (hm : MsgRows S w m d) (ha : ansB m.kind = true) :
    Calls Try.prog 40 #[.agg cs] w (MsgNew w ({ bareM m with code := m.code, matched := m.matched, text := m.text, refs := m.refs } : Msg)) := by
  have Hm := hid hm
  have hz := (zero_of_info (P := Try.prog) (t := 42) (v := .agg zeroMsg.toArray) (n := 32) (by kernel_rfl)).1
  have HZ := hid hz
  have t0 : (m.kind == 0) = false := ansB_ne ha (by decide)
  have t3 : (m.kind == 3) = false := ansB_ne ha (by decide)
  have t6 : (m.kind == 6) = false := ansB_ne ha (by decide)
  have t8 : (m.kind == 8) = false := ansB_ne ha (by decide)
  have t4 : (m.kind == 4) = false := ansB_ne ha (by decide)
  have t10 : (m.kind == 10) = false := ansB_ne ha (by decide)
  have t12 : (m.kind == 12) = false := ansB_ne ha (by decide)
  have t14 : (m.kind == 14) = false := ansB_ne ha (by decide)
  have t16 : (m.kind == 16) = false := ansB_ne ha (by decide)
  have t19 : (m.kind == 19) = false := ansB_ne ha (by decide)
  have ta : Hid (ansB m.kind = true) := by exact ha
  clear hm hz ha
  go_enter Try.func40, Try.ntmps40
  go_wp2_with (first
    | (refine box_arm rfl 42 (.tmp 0) rfl cs rfl ?_; intro w1 hx1 hz1 hg1; have Hg1 := hid hg1; have X1 := hid hx1; clear hz1 hg1 hx1)
    | (have X2' := X2; clear X2'; refine alloc_arm rfl 42 rfl _ HZ.out ?_; intro w3 hx3 hz3 hg3; have Hg3 := hid hg3; have X3 := hid hx3; clear hz3 hg3 hx3; clear y0 y1 y31)
    | (refine alloc_arm rfl 42 rfl _ HZ.out ?_; intro w2 hx2 hz2 hg2; have Hg2 := hid hg2; have X2 := hid hx2; have y0 := cell_later (boxCell Hg1.out 0 hcs rfl).out _ hx2; have y1 := cell_later (boxCell Hg1.out 1 hcs rfl).out _ hx2; have y31 := cell_later (boxCell Hg1.out 31 hcs rfl).out _ hx2; clear hz2 hg2 hx2)
    | (refine value_arm rfl 10 rfl (.agg (msgCells (bareM m) (bareD d)).toArray) (by kernel_rfl) ?_)
    | (refine store_arm rfl 42 (.tmp 3) (.tmp 10) rfl w2.heap.size 0 rfl (.agg (msgCells (bareM m) (bareD d)).toArray) rfl _ _ Hg3.out (by kernel_rfl) (by simp [Value.cells, zeroMsg]) (by simp [Value.cells, Value.oneCell']) ?_; intro w4 hg4 hz4 hr4; have HG : Hid (w4.heap[w2.heap.size]? = some (.cells (msgCells (bareM m) (bareD d)).toArray 42 (0, 0))) := hr4; have X4 := hid (ext_grown' X3.out hg4); have y1 := cell_later (boxCell Hg1.out 1 hcs rfl).out _ (X2.out.trans X4.out); clear hg4 hz4 hr4)
    | (go_at_call 56; (with_reducible refine (answer_any _ _).mono ?_); rintro e w5 ⟨he, rfl⟩; rw [ta.out] at he; subst he))
  refine wp_region_planB w2.heap.size (.read 0 (.read 1 (.read 2 (.read 3 (.read 4 (.read 5 (.read 6 (.read 7 (.read 8 (.main 9 (.read 10 (.main 11 (.read 12 (.main 13 (.read 14 (.main 15 .done)))))))))))))))) (by kernel_rfl) (by kernel_rfl) ?_
  intro wD hxD
  have XB : Hid (Below w2.heap.size wD wD) := Below.refl _ _
  have XF : Hid (Below w2.heap.size w2 wD) := X4.out.trans hxD
  have hBD := ext_sz XF.out
  have HG' := hid (row_later' HG.out hxD)
  clear HG
  have HG := HG'
  clear HG'
  have q27 : ∀ w', Below w2.heap.size wD w' → w'.cell? ⟨w.heap.size, 27, none⟩ = some (.int .i64 m.code) := cell_laterB (cell_later (boxCell Hg1.out 27 hcs rfl).out _ X2.out) (Nat.le_refl _) XF.out
  have q28 : ∀ w', Below w2.heap.size wD w' → w'.cell? ⟨w.heap.size, 28, none⟩ = some (.string m.matched) := cell_laterB (cell_later (boxCell Hg1.out 28 hcs rfl).out _ X2.out) (Nat.le_refl _) XF.out
  have q29 : ∀ w', Below w2.heap.size wD w' → w'.cell? ⟨w.heap.size, 29, none⟩ = some (.string m.text) := cell_laterB (cell_later (boxCell Hg1.out 29 hcs rfl).out _ X2.out) (Nat.le_refl _) XF.out
  have q30 : ∀ w', Below w2.heap.size wD w' → w'.cell? ⟨w.heap.size, 30, none⟩ = some (.slice d.refs.A d.refs.n d.refs.c) := cell_laterB (cell_later (boxCell Hg1.out 30 hcs rfl).out _ X2.out) (Nat.le_refl _) XF.out
  repeat' (first
    | (refine walksB_move rfl rfl ?_; simp only [Act.put, Act.eval, List.setIfInBounds_toArray, List.set_cons_zero, List.set_cons_succ, Array.getD_eq_getD_getElem?, List.getElem?_toArray, List.getElem?_cons_zero, List.getElem?_cons_succ, Option.getD_some])
    | (refine walksB_assign rfl rfl ?_; simp only [Act.put, Act.eval, List.setIfInBounds_toArray, List.set_cons_zero, List.set_cons_succ, Array.getD_eq_getD_getElem?, List.getElem?_toArray, List.getElem?_cons_zero, List.getElem?_cons_succ, Option.getD_some])
    | (refine walksB_skip rfl rfl ?_; simp only [Act.put, List.setIfInBounds_toArray, List.set_cons_zero, List.set_cons_succ])
    | (refine walksB_unwanted rfl rfl ?_; simp only [Act.put, List.setIfInBounds_toArray, List.set_cons_zero, List.set_cons_succ])
    | (refine walksB_read (v := ?_) rfl rfl (fun w' hE => ?_) ?_; rotate_left 1; (· ((try (have hEx := Below.trans (Hid.out XB) hE)); go_simp; (try go_bits); with_reducible rfl)); simp only [Act.put, List.setIfInBounds_toArray, List.set_cons_zero, List.set_cons_succ])
    | (refine walksB_main rfl rfl (fun K hK => ?_); (first | (refine wp_store' 2 (.tmp 121) (.tmp 114) rfl w2.heap.size 27 rfl (.int .i64 m.code) rfl _ _ HG.out (by kernel_rfl) (by simp [Value.cells]) (by simp [Value.cells, Value.oneCell']) ?_; intro we hge hre; have hBe := below_stored hge (Nat.le_trans hBD (Below.size XB.out)) (Nat.le_refl _); have HG' : Hid (we.heap[w2.heap.size]? = some (.cells (msgCells ({ bareM m with code := m.code } : Msg) (bareD d)).toArray 42 (0, 0))) := hre; clear HG; have HG := HG'; clear HG' hge hre; have XB' := hid (Below.trans (Hid.out XB) (hBe)); clear XB; have XB := XB'; clear XB') | (refine wp_store' 9 (.tmp 122) (.tmp 116) rfl w2.heap.size 28 rfl (.string m.matched) rfl _ _ HG.out (by kernel_rfl) (by simp [Value.cells]) (by simp [Value.cells, Value.oneCell']) ?_; intro we hge hre; have hBe := below_stored hge (Nat.le_trans hBD (Below.size XB.out)) (Nat.le_refl _); have HG' : Hid (we.heap[w2.heap.size]? = some (.cells (msgCells ({ bareM m with code := m.code, matched := m.matched } : Msg) (bareD d)).toArray 42 (0, 0))) := hre; clear HG; have HG := HG'; clear HG' hge hre; have XB' := hid (Below.trans (Hid.out XB) (hBe)); clear XB; have XB := XB'; clear XB') | (refine wp_store' 9 (.tmp 123) (.tmp 118) rfl w2.heap.size 29 rfl (.string m.text) rfl _ _ HG.out (by kernel_rfl) (by simp [Value.cells]) (by simp [Value.cells, Value.oneCell']) ?_; intro we hge hre; have hBe := below_stored hge (Nat.le_trans hBD (Below.size XB.out)) (Nat.le_refl _); have HG' : Hid (we.heap[w2.heap.size]? = some (.cells (msgCells ({ bareM m with code := m.code, matched := m.matched, text := m.text } : Msg) (bareD d)).toArray 42 (0, 0))) := hre; clear HG; have HG := HG'; clear HG' hge hre; have XB' := hid (Below.trans (Hid.out XB) (hBe)); clear XB; have XB := XB'; clear XB') | (refine wp_store' 22 (.tmp 124) (.tmp 120) rfl w2.heap.size 30 rfl (.slice d.refs.A d.refs.n d.refs.c) rfl _ _ HG.out (by kernel_rfl) (by simp [Value.cells]) (by simp [Value.cells, Value.oneCell']) ?_; intro we hge hre; have hBe := below_stored hge (Nat.le_trans hBD (Below.size XB.out)) (Nat.le_refl _); have HG' : Hid (we.heap[w2.heap.size]? = some (.cells (msgCells ({ bareM m with code := m.code, matched := m.matched, text := m.text, refs := m.refs } : Msg) ({ bareD d with refs := d.refs } : MsgD)).toArray 42 (0, 0))) := hre; clear HG; have HG := HG'; clear HG' hge hre; have XB' := hid (Below.trans (Hid.out XB) (hBe)); clear XB; have XB := XB'; clear XB')); refine hK _ _ (by first | assumption | exact Below.refl _ _) ?_; clear hK K; try simp only [Act.put, List.setIfInBounds_toArray, List.set_cons_zero, List.set_cons_succ])
    | (refine walksB_alt ?_ ?_)
    | (refine walksB_main rfl rfl (fun K hK => ?_); go_wp2_with (fail); refine hK _ _ (by first | assumption | exact Below.refl _ _) ?_; clear hK K; try simp only [Act.put, List.setIfInBounds_toArray, List.set_cons_zero, List.set_cons_succ]))
  refine walksB_done ?_
  have X4' : Hid (Ext w2 _) := Below.trans XF.out XB.out
  clear X4
  have X4 := X4'
  clear X4'
  clear q27 q28 q29 q30
  clear XB XF hBD hxD
  have y1 := cell_later (boxCell Hg1.out 1 hcs rfl).out _ (X2.out.trans X4.out)
  go_wp2_with (first
    | (refine wpList_load_row rfl 42 (.tmp 3) rfl w2.heap.size rfl _ _ _ _ HG.out Try.underlying42 rfl (by kernel_rfl) ?_)
    | (refine store_arm rfl 42 (.tmp 2) (.tmp 125) rfl w1.heap.size 0 rfl (.agg (msgCells ({ bareM m with code := m.code, matched := m.matched, text := m.text, refs := m.refs } : Msg) ({ bareD d with refs := d.refs } : MsgD)).toArray) rfl _ _ (row_later' Hg2.out X4.out) (by kernel_rfl) (by simp [Value.cells, zeroMsg]) (by simp [Value.cells, Value.oneCell']) ?_; intro wz hgz hzz hrz; have Hrz := hid hrz; have Hgz := hid hgz; clear hgz hzz hrz))
  refine bodyPost_ret (v := .agg (msgCells ({ bareM m with code := m.code, matched := m.matched, text := m.text, refs := m.refs } : Msg) ({ bareD d with refs := d.refs } : MsgD)).toArray) (results_cell_row (p := 2) (ty := 42) (by kernel_rfl) _ _ _ _ _ _ _ rfl Hrz.out Try.underlying42 rfl (by kernel_rfl)) rfl ⟨_, ({ bareD d with refs := d.refs } : MsgD), rfl, rfl, ?_, ?_⟩
  · have XZ : Ext w _ := X1.out.trans (ext_grown' (X2.out.trans X4.out) Hgz.out)
    exact MsgRows.mono (MsgRows.ext ⟨Row.nil _ _ _, Row.nil _ _ _, Row.nil _ _ _, Row.nil _ _ _, Row.nil _ _ _, Hm.out.refs, Hm.out.ctls⟩ XZ) fun _ _ _ => trivial
  · exact X1.out.trans (ext_grown' (X2.out.trans X4.out) Hgz.out)
/-- A message with what belongs to its kind alone. -/
def ownM (m : Msg) : Msg :=
  if m.kind = 0 then { bareM m with ver := m.ver, name := m.name, pw := m.pw }
  else if m.kind = 3 then { bareM m with name := m.name, scope := m.scope, deref := m.deref, size := m.size, time := m.time, tonly := m.tonly, fil := m.fil, attrs := m.attrs }
  else if m.kind = 6 then { bareM m with name := m.name, chgs := m.chgs }
  else if m.kind = 8 then { bareM m with name := m.name, list := m.list }
  else if m.kind = 4 then { bareM m with name := m.name, list := m.list }
  else if m.kind = 10 then { bareM m with name := m.name }
  else if m.kind = 12 then (if m.hsup = true then { bareM m with name := m.name, nrdn := m.nrdn, dold := m.dold, hsup := true, sup := m.sup } else { bareM m with name := m.name, nrdn := m.nrdn, dold := m.dold })
  else if m.kind = 14 then { bareM m with name := m.name, attr := m.attr, value := m.value }
  else if m.kind = 16 then { bareM m with target := m.target }
  else if m.kind = 19 then { bareM m with refs := m.refs }
  else if ansB m.kind = true then { bareM m with code := m.code, matched := m.matched, text := m.text, refs := m.refs }
  else bareM m
theorem own_any {m : Msg} {d : MsgD} {cs : Array Value} {S : Nat → Prop} (hcs : Hid (cs = (msgCells m d).toArray)) (w : World) (hm : MsgRows S w m d) (hk : knownB m.kind = true) :
    Calls Try.prog 40 #[.agg cs] w (MsgNew w (ownM m)) := by
  unfold ownM
  by_cases k0 : m.kind = 0
  · rw [if_pos k0]; exact own_0 hcs w hm k0
  rw [if_neg k0]
  by_cases k3 : m.kind = 3
  · rw [if_pos k3]; exact own_3 hcs w hm k3
  rw [if_neg k3]
  by_cases k6 : m.kind = 6
  · rw [if_pos k6]; exact own_6 hcs w hm k6
  rw [if_neg k6]
  by_cases k8 : m.kind = 8
  · rw [if_pos k8]; exact own_8 hcs w hm k8
  rw [if_neg k8]
  by_cases k4 : m.kind = 4
  · rw [if_pos k4]; exact own_4 hcs w hm k4
  rw [if_neg k4]
  by_cases k10 : m.kind = 10
  · rw [if_pos k10]; exact own_10 hcs w hm k10
  rw [if_neg k10]
  by_cases k12 : m.kind = 12
  · rw [if_pos k12]
    by_cases hh : m.hsup = true
    · rw [if_pos hh]; exact own_12t hcs w hm k12 hh
    · rw [if_neg hh]; exact own_12f hcs w hm k12 (by simpa using hh)
  rw [if_neg k12]
  by_cases k14 : m.kind = 14
  · rw [if_pos k14]; exact own_14 hcs w hm k14
  rw [if_neg k14]
  by_cases k16 : m.kind = 16
  · rw [if_pos k16]; exact own_16 hcs w hm k16
  rw [if_neg k16]
  by_cases k19 : m.kind = 19
  · rw [if_pos k19]; exact own_19 hcs w hm k19
  rw [if_neg k19]
  by_cases ka : ansB m.kind = true
  · rw [if_pos ka]; exact own_ans hcs w hm ka
  rw [if_neg ka]
  refine own_bare hcs w hm ?_
  simp only [knownB, ansB, Bool.or_eq_true, Bool.and_eq_true, decide_eq_true_eq, beq_iff_eq, bne_iff_ne] at hk ka
  omega
end Go.Proofs.Ytabaeiolpbdjnaa
