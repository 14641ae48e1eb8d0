/- The walk of msg's own: a message with what belongs to its kind alone. -/
import Derived.Test.YtabaeiolpbdjnaaTm
import Derived.Test.YtabaeiolpbdjnaaKn
namespace Go.Proofs.Ytabaeiolpbdjnaa
open Go.RowKit
set_option maxRecDepth 100000
set_option linter.unusedSimpArgs false

section
variable {P : Program} {w : World} {o : Oper} {a : Act} {Q : Exit → Act → World → Prop} {ops : Array Oper} {rest : List Oper}
theorem value_arm (hgd : o.guard = none) (n : Nat) (_hd : o.dst = some n) (v : Value) (hr : (execOp a.eval o).run P w = .ok (.value v) w) (h : wpList P ops Q rest (a.put o.dst v) w) : wpList P ops Q (o :: rest) a w :=
  wpList_plain hgd fun _ hK => by
    unfold Oper.wp
    rw [hr]
    exact hK _ _ h
end
def zeroFil : Fil := .mk 0 ByteArray.empty ByteArray.empty ByteArray.empty ByteArray.empty [] []
/-- The message of nothing but an ID, a kind and controls. -/
def bareM (m : Msg) : Msg := ⟨m.id, m.kind, ByteArray.empty, ByteArray.empty, 0, 0, 0, 0, 0, false, zeroFil, [], [], [], ByteArray.empty, false, false, ByteArray.empty, ByteArray.empty, ByteArray.empty, 0, 0, ByteArray.empty, ByteArray.empty, [], m.ctls⟩
def nilS : Sv := ⟨none, 0, 0⟩
/-- Where its lists lie. -/
def bareD (d : MsgD) : MsgD := ⟨nilS, nilS, nilS, nilS, nilS, nilS, d.ctls⟩
theorem bare_rows {S : Nat → Prop} {w : World} {m : Msg} {d : MsgD} (h : MsgRows S w m d) : MsgRows S w (bareM m) (bareD d) :=
  ⟨Row.nil _ _ _, Row.nil _ _ _, Row.nil _ _ _, Row.nil _ _ _, Row.nil _ _ _, Row.nil _ _ _, h.ctls⟩
theorem ansB_ne {k : Int} (h : ansB k = true) {n : Int} (hn : ansB n = false) : (k == n) = false := by
  rw [beq_eq_false_iff_ne]
  rintro rfl
  rw [h] at hn
  cases hn
set_option maxHeartbeats 400000 in
theorem own_bare {m : Msg} {d : MsgD} {cs : Array Value} {S : Nat → Prop} (hcs : Hid (cs = (msgCells m d).toArray)) (w : World) (hm : MsgRows S w m d) (hk : m.kind = 2) :
    Calls Try.prog 40 #[.agg cs] w (MsgNew w (bareM m)) := by
  have Hm := hid hm
  have hz := (zero_of_info (P := Try.prog) (t := 42) (v := .agg zeroMsg.toArray) (n := 32) (by kernel_rfl)).1
  have HZ := hid hz
  have t0 : (m.kind == 0) = false := by rw [hk]; rfl
  have t3 : (m.kind == 3) = false := by rw [hk]; rfl
  have t6 : (m.kind == 6) = false := by rw [hk]; rfl
  have t8 : (m.kind == 8) = false := by rw [hk]; rfl
  have t4 : (m.kind == 4) = false := by rw [hk]; rfl
  have t10 : (m.kind == 10) = false := by rw [hk]; rfl
  have t12 : (m.kind == 12) = false := by rw [hk]; rfl
  have t14 : (m.kind == 14) = false := by rw [hk]; rfl
  have t16 : (m.kind == 16) = false := by rw [hk]; rfl
  have t19 : (m.kind == 19) = false := by rw [hk]; rfl
  have ta : Hid (ansB m.kind = false) := by rw [hk]; rfl
  clear hm hz hk
  go_enter Try.func40, Try.ntmps40
  go_wp2_with (first
    | (refine box_arm rfl 42 (.tmp 0) rfl cs rfl ?_; intro w1 hx1 hz1 hg1; have Hg1 := hid hg1; have X1 := hid hx1; clear hz1 hg1 hx1)
    | (have X2' := X2; clear X2'; refine alloc_arm rfl 42 rfl _ HZ.out ?_; intro w3 hx3 hz3 hg3; have Hg3 := hid hg3; have X3 := hid hx3; clear hz3 hg3 hx3; clear y0 y1 y31)
    | (refine alloc_arm rfl 42 rfl _ HZ.out ?_; intro w2 hx2 hz2 hg2; have Hg2 := hid hg2; have X2 := hid hx2; have y0 := cell_later (boxCell Hg1.out 0 hcs rfl).out _ hx2; have y1 := cell_later (boxCell Hg1.out 1 hcs rfl).out _ hx2; have y31 := cell_later (boxCell Hg1.out 31 hcs rfl).out _ hx2; clear hz2 hg2 hx2)
    | (refine value_arm rfl 10 rfl (.agg (msgCells (bareM m) (bareD d)).toArray) (by kernel_rfl) ?_)
    | (refine store_arm rfl 42 (.tmp 3) (.tmp 10) rfl w2.heap.size 0 rfl (.agg (msgCells (bareM m) (bareD d)).toArray) rfl _ _ Hg3.out (by kernel_rfl) (by simp [Value.cells, zeroMsg]) (by simp [Value.cells, Value.oneCell']) ?_; intro w4 hg4 hz4 hr4; have HG : Hid (w4.heap[w2.heap.size]? = some (.cells (msgCells (bareM m) (bareD d)).toArray 42 (0, 0))) := hr4; have X4 := hid (ext_grown' X3.out hg4); have y1 := cell_later (boxCell Hg1.out 1 hcs rfl).out _ (X2.out.trans X4.out); clear hg4 hz4 hr4)
    | (go_at_call 56; (with_reducible refine (answer_any _ _).mono ?_); rintro e w5 ⟨he, rfl⟩; rw [ta.out] at he; subst he)
    | (refine wpList_load_row rfl 42 (.tmp 3) rfl w2.heap.size rfl _ _ _ _ HG.out Try.underlying42 rfl (by kernel_rfl) ?_)
    | (refine store_arm rfl 42 (.tmp 2) (.tmp 125) rfl w1.heap.size 0 rfl (.agg (msgCells (bareM m) (bareD d)).toArray) rfl _ _ (row_later' Hg2.out X4.out) (by kernel_rfl) (by simp [Value.cells, zeroMsg]) (by simp [Value.cells, Value.oneCell']) ?_; intro wz hgz hzz hrz; have Hrz := hid hrz; have Hgz := hid hgz; clear hgz hzz hrz))
  refine bodyPost_ret (v := .agg (msgCells (bareM m) (bareD d)).toArray) (results_cell_row (p := 2) (ty := 42) (by kernel_rfl) _ _ _ _ _ _ _ rfl Hrz.out Try.underlying42 rfl (by kernel_rfl)) rfl ⟨_, (bareD d), rfl, rfl, ?_, ?_⟩
  · have XZ : Ext w _ := X1.out.trans (ext_grown' (X2.out.trans X4.out) Hgz.out)
    exact MsgRows.mono (MsgRows.ext ⟨Row.nil _ _ _, Row.nil _ _ _, Row.nil _ _ _, Row.nil _ _ _, Row.nil _ _ _, Row.nil _ _ _, Hm.out.ctls⟩ XZ) fun _ _ _ => trivial
  · exact X1.out.trans (ext_grown' (X2.out.trans X4.out) Hgz.out)
set_option maxHeartbeats 400000 in
theorem own_0 {m : Msg} {d : MsgD} {cs : Array Value} {S : Nat → Prop} (hcs : Hid (cs = (msgCells m d).toArray)) (w : World) (hm : MsgRows S w m d) (hk : m.kind = 0) :
    Calls Try.prog 40 #[.agg cs] w (MsgNew w ({ bareM m with ver := m.ver, name := m.name, pw := m.pw } : Msg)) := by
  have Hm := hid hm
  have hz := (zero_of_info (P := Try.prog) (t := 42) (v := .agg zeroMsg.toArray) (n := 32) (by kernel_rfl)).1
  have HZ := hid hz
  have t0 : (m.kind == 0) = true := by rw [hk]; rfl
  have t3 : (m.kind == 3) = false := by rw [hk]; rfl
  have t6 : (m.kind == 6) = false := by rw [hk]; rfl
  have t8 : (m.kind == 8) = false := by rw [hk]; rfl
  have t4 : (m.kind == 4) = false := by rw [hk]; rfl
  have t10 : (m.kind == 10) = false := by rw [hk]; rfl
  have t12 : (m.kind == 12) = false := by rw [hk]; rfl
  have t14 : (m.kind == 14) = false := by rw [hk]; rfl
  have t16 : (m.kind == 16) = false := by rw [hk]; rfl
  have t19 : (m.kind == 19) = false := by rw [hk]; rfl
  have ta : Hid (ansB m.kind = false) := by rw [hk]; rfl
  clear hm hz hk
  go_enter Try.func40, Try.ntmps40
  go_wp2_with (first
    | (refine box_arm rfl 42 (.tmp 0) rfl cs rfl ?_; intro w1 hx1 hz1 hg1; have Hg1 := hid hg1; have X1 := hid hx1; clear hz1 hg1 hx1)
    | (have X2' := X2; clear X2'; refine alloc_arm rfl 42 rfl _ HZ.out ?_; intro w3 hx3 hz3 hg3; have Hg3 := hid hg3; have X3 := hid hx3; clear hz3 hg3 hx3; clear y0 y1 y31)
    | (refine alloc_arm rfl 42 rfl _ HZ.out ?_; intro w2 hx2 hz2 hg2; have Hg2 := hid hg2; have X2 := hid hx2; have y0 := cell_later (boxCell Hg1.out 0 hcs rfl).out _ hx2; have y1 := cell_later (boxCell Hg1.out 1 hcs rfl).out _ hx2; have y31 := cell_later (boxCell Hg1.out 31 hcs rfl).out _ hx2; clear hz2 hg2 hx2)
    | (refine value_arm rfl 10 rfl (.agg (msgCells (bareM m) (bareD d)).toArray) (by kernel_rfl) ?_)
    | (refine store_arm rfl 42 (.tmp 3) (.tmp 10) rfl w2.heap.size 0 rfl (.agg (msgCells (bareM m) (bareD d)).toArray) rfl _ _ Hg3.out (by kernel_rfl) (by simp [Value.cells, zeroMsg]) (by simp [Value.cells, Value.oneCell']) ?_; intro w4 hg4 hz4 hr4; have HG : Hid (w4.heap[w2.heap.size]? = some (.cells (msgCells (bareM m) (bareD d)).toArray 42 (0, 0))) := hr4; have X4 := hid (ext_grown' X3.out hg4); have y1 := cell_later (boxCell Hg1.out 1 hcs rfl).out _ (X2.out.trans X4.out); clear hg4 hz4 hr4))
  refine wp_region_planB w2.heap.size (.read 0 (.read 1 (.read 2 (.read 3 (.read 4 (.read 5 (.read 6 (.main 7 (.read 8 (.main 9 (.read 10 (.main 11 .done)))))))))))) (by kernel_rfl) (by kernel_rfl) ?_
  intro wD hxD
  have XB : Hid (Below w2.heap.size wD wD) := Below.refl _ _
  have XF : Hid (Below w2.heap.size w2 wD) := X4.out.trans hxD
  have hBD := ext_sz XF.out
  have HG' := hid (row_later' HG.out hxD)
  clear HG
  have HG := HG'
  clear HG'
  have q4 : ∀ w', Below w2.heap.size wD w' → w'.cell? ⟨w.heap.size, 4, none⟩ = some (.int .i64 m.ver) := cell_laterB (cell_later (boxCell Hg1.out 4 hcs rfl).out _ X2.out) (Nat.le_refl _) XF.out
  have q2 : ∀ w', Below w2.heap.size wD w' → w'.cell? ⟨w.heap.size, 2, none⟩ = some (.string m.name) := cell_laterB (cell_later (boxCell Hg1.out 2 hcs rfl).out _ X2.out) (Nat.le_refl _) XF.out
  have q3 : ∀ w', Below w2.heap.size wD w' → w'.cell? ⟨w.heap.size, 3, none⟩ = some (.string m.pw) := cell_laterB (cell_later (boxCell Hg1.out 3 hcs rfl).out _ X2.out) (Nat.le_refl _) XF.out
  repeat' (first
    | (refine walksB_move rfl rfl ?_; simp only [Act.put, Act.eval, List.setIfInBounds_toArray, List.set_cons_zero, List.set_cons_succ, Array.getD_eq_getD_getElem?, List.getElem?_toArray, List.getElem?_cons_zero, List.getElem?_cons_succ, Option.getD_some])
    | (refine walksB_assign rfl rfl ?_; simp only [Act.put, Act.eval, List.setIfInBounds_toArray, List.set_cons_zero, List.set_cons_succ, Array.getD_eq_getD_getElem?, List.getElem?_toArray, List.getElem?_cons_zero, List.getElem?_cons_succ, Option.getD_some])
    | (refine walksB_skip rfl rfl ?_; simp only [Act.put, List.setIfInBounds_toArray, List.set_cons_zero, List.set_cons_succ])
    | (refine walksB_unwanted rfl rfl ?_; simp only [Act.put, List.setIfInBounds_toArray, List.set_cons_zero, List.set_cons_succ])
    | (refine walksB_read (v := ?_) rfl rfl (fun w' hE => ?_) ?_; rotate_left 1; (· ((try (have hEx := Below.trans (Hid.out XB) hE)); go_simp; (try go_bits); with_reducible rfl)); simp only [Act.put, List.setIfInBounds_toArray, List.set_cons_zero, List.set_cons_succ])
    | (refine walksB_main rfl rfl (fun K hK => ?_); (first | (refine wp_store' 2 (.tmp 21) (.tmp 16) rfl w2.heap.size 4 rfl (.int .i64 m.ver) rfl _ _ HG.out (by kernel_rfl) (by simp [Value.cells]) (by simp [Value.cells, Value.oneCell']) ?_; intro we hge hre; have hBe := below_stored hge (Nat.le_trans hBD (Below.size XB.out)) (Nat.le_refl _); have HG' : Hid (we.heap[w2.heap.size]? = some (.cells (msgCells ({ bareM m with ver := m.ver } : Msg) (bareD d)).toArray 42 (0, 0))) := hre; clear HG; have HG := HG'; clear HG' hge hre; have XB' := hid (Below.trans (Hid.out XB) (hBe)); clear XB; have XB := XB'; clear XB') | (refine wp_store' 9 (.tmp 22) (.tmp 18) rfl w2.heap.size 2 rfl (.string m.name) rfl _ _ HG.out (by kernel_rfl) (by simp [Value.cells]) (by simp [Value.cells, Value.oneCell']) ?_; intro we hge hre; have hBe := below_stored hge (Nat.le_trans hBD (Below.size XB.out)) (Nat.le_refl _); have HG' : Hid (we.heap[w2.heap.size]? = some (.cells (msgCells ({ bareM m with ver := m.ver, name := m.name } : Msg) (bareD d)).toArray 42 (0, 0))) := hre; clear HG; have HG := HG'; clear HG' hge hre; have XB' := hid (Below.trans (Hid.out XB) (hBe)); clear XB; have XB := XB'; clear XB') | (refine wp_store' 9 (.tmp 23) (.tmp 20) rfl w2.heap.size 3 rfl (.string m.pw) rfl _ _ HG.out (by kernel_rfl) (by simp [Value.cells]) (by simp [Value.cells, Value.oneCell']) ?_; intro we hge hre; have hBe := below_stored hge (Nat.le_trans hBD (Below.size XB.out)) (Nat.le_refl _); have HG' : Hid (we.heap[w2.heap.size]? = some (.cells (msgCells ({ bareM m with ver := m.ver, name := m.name, pw := m.pw } : Msg) (bareD d)).toArray 42 (0, 0))) := hre; clear HG; have HG := HG'; clear HG' hge hre; have XB' := hid (Below.trans (Hid.out XB) (hBe)); clear XB; have XB := XB'; clear XB')); refine hK _ _ (by first | assumption | exact Below.refl _ _) ?_; clear hK K; try simp only [Act.put, List.setIfInBounds_toArray, List.set_cons_zero, List.set_cons_succ])
    | (refine walksB_alt ?_ ?_)
    | (refine walksB_main rfl rfl (fun K hK => ?_); go_wp2_with (fail); refine hK _ _ (by first | assumption | exact Below.refl _ _) ?_; clear hK K; try simp only [Act.put, List.setIfInBounds_toArray, List.set_cons_zero, List.set_cons_succ]))
  refine walksB_done ?_
  have X4' : Hid (Ext w2 _) := Below.trans XF.out XB.out
  clear X4
  have X4 := X4'
  clear X4'
  clear q4 q2 q3
  clear XB XF hBD hxD
  have y1 := cell_later (boxCell Hg1.out 1 hcs rfl).out _ (X2.out.trans X4.out)
  go_wp2_with (first
    | (go_at_call 56; (with_reducible refine (answer_any _ _).mono ?_); rintro e w5 ⟨he, rfl⟩; rw [ta.out] at he; subst he)
    | (refine wpList_load_row rfl 42 (.tmp 3) rfl w2.heap.size rfl _ _ _ _ HG.out Try.underlying42 rfl (by kernel_rfl) ?_)
    | (refine store_arm rfl 42 (.tmp 2) (.tmp 125) rfl w1.heap.size 0 rfl (.agg (msgCells ({ bareM m with ver := m.ver, name := m.name, pw := m.pw } : Msg) (bareD d)).toArray) rfl _ _ (row_later' Hg2.out X4.out) (by kernel_rfl) (by simp [Value.cells, zeroMsg]) (by simp [Value.cells, Value.oneCell']) ?_; intro wz hgz hzz hrz; have Hrz := hid hrz; have Hgz := hid hgz; clear hgz hzz hrz))
  refine bodyPost_ret (v := .agg (msgCells ({ bareM m with ver := m.ver, name := m.name, pw := m.pw } : Msg) (bareD d)).toArray) (results_cell_row (p := 2) (ty := 42) (by kernel_rfl) _ _ _ _ _ _ _ rfl Hrz.out Try.underlying42 rfl (by kernel_rfl)) rfl ⟨_, (bareD d), rfl, rfl, ?_, ?_⟩
  · have XZ : Ext w _ := X1.out.trans (ext_grown' (X2.out.trans X4.out) Hgz.out)
    exact MsgRows.mono (MsgRows.ext ⟨Row.nil _ _ _, Row.nil _ _ _, Row.nil _ _ _, Row.nil _ _ _, Row.nil _ _ _, Row.nil _ _ _, Hm.out.ctls⟩ XZ) fun _ _ _ => trivial
  · exact X1.out.trans (ext_grown' (X2.out.trans X4.out) Hgz.out)
set_option maxHeartbeats 400000 in
theorem own_3 {m : Msg} {d : MsgD} {cs : Array Value} {S : Nat → Prop} (hcs : Hid (cs = (msgCells m d).toArray)) (w : World) (hm : MsgRows S w m d) (hk : m.kind = 3) :
    Calls Try.prog 40 #[.agg cs] w (MsgNew w ({ bareM m with name := m.name, scope := m.scope, deref := m.deref, size := m.size, time := m.time, tonly := m.tonly, fil := m.fil, attrs := m.attrs } : Msg)) := by
  have Hm := hid hm
  have hz := (zero_of_info (P := Try.prog) (t := 42) (v := .agg zeroMsg.toArray) (n := 32) (by kernel_rfl)).1
  have HZ := hid hz
  have t0 : (m.kind == 0) = false := by rw [hk]; rfl
  have t3 : (m.kind == 3) = true := by rw [hk]; rfl
  have t6 : (m.kind == 6) = false := by rw [hk]; rfl
  have t8 : (m.kind == 8) = false := by rw [hk]; rfl
  have t4 : (m.kind == 4) = false := by rw [hk]; rfl
  have t10 : (m.kind == 10) = false := by rw [hk]; rfl
  have t12 : (m.kind == 12) = false := by rw [hk]; rfl
  have t14 : (m.kind == 14) = false := by rw [hk]; rfl
  have t16 : (m.kind == 16) = false := by rw [hk]; rfl
  have t19 : (m.kind == 19) = false := by rw [hk]; rfl
  have ta : Hid (ansB m.kind = false) := by rw [hk]; rfl
  clear hm hz hk
  go_enter Try.func40, Try.ntmps40
  go_wp2_with (first
    | (refine box_arm rfl 42 (.tmp 0) rfl cs rfl ?_; intro w1 hx1 hz1 hg1; have Hg1 := hid hg1; have X1 := hid hx1; clear hz1 hg1 hx1)
    | (have X2' := X2; clear X2'; refine alloc_arm rfl 42 rfl _ HZ.out ?_; intro w3 hx3 hz3 hg3; have Hg3 := hid hg3; have X3 := hid hx3; clear hz3 hg3 hx3; clear y0 y1 y31)
    | (refine alloc_arm rfl 42 rfl _ HZ.out ?_; intro w2 hx2 hz2 hg2; have Hg2 := hid hg2; have X2 := hid hx2; have y0 := cell_later (boxCell Hg1.out 0 hcs rfl).out _ hx2; have y1 := cell_later (boxCell Hg1.out 1 hcs rfl).out _ hx2; have y31 := cell_later (boxCell Hg1.out 31 hcs rfl).out _ hx2; clear hz2 hg2 hx2)
    | (refine value_arm rfl 10 rfl (.agg (msgCells (bareM m) (bareD d)).toArray) (by kernel_rfl) ?_)
    | (refine store_arm rfl 42 (.tmp 3) (.tmp 10) rfl w2.heap.size 0 rfl (.agg (msgCells (bareM m) (bareD d)).toArray) rfl _ _ Hg3.out (by kernel_rfl) (by simp [Value.cells, zeroMsg]) (by simp [Value.cells, Value.oneCell']) ?_; intro w4 hg4 hz4 hr4; have HG : Hid (w4.heap[w2.heap.size]? = some (.cells (msgCells (bareM m) (bareD d)).toArray 42 (0, 0))) := hr4; have X4 := hid (ext_grown' X3.out hg4); have y1 := cell_later (boxCell Hg1.out 1 hcs rfl).out _ (X2.out.trans X4.out); clear hg4 hz4 hr4))
  refine wp_region_planB w2.heap.size (.read 0 (.read 1 (.read 2 (.read 3 (.read 4 (.read 5 (.read 6 (.read 7 (.read 8 (.read 9 (.read 10 (.main 11 (.read 12 (.main 13 (.read 14 (.main 15 (.read 16 (.main 17 (.read 18 (.main 19 .done)))))))))))))))))))) (by kernel_rfl) (by kernel_rfl) ?_
  intro wD hxD
  have XB : Hid (Below w2.heap.size wD wD) := Below.refl _ _
  have XF : Hid (Below w2.heap.size w2 wD) := X4.out.trans hxD
  have hBD := ext_sz XF.out
  have HG' := hid (row_later' HG.out hxD)
  clear HG
  have HG := HG'
  clear HG'
  have q2 : ∀ w', Below w2.heap.size wD w' → w'.cell? ⟨w.heap.size, 2, none⟩ = some (.string m.name) := cell_laterB (cell_later (boxCell Hg1.out 2 hcs rfl).out _ X2.out) (Nat.le_refl _) XF.out
  have q5 : ∀ w', Below w2.heap.size wD w' → w'.cell? ⟨w.heap.size, 5, none⟩ = some (.int .i64 m.scope) := cell_laterB (cell_later (boxCell Hg1.out 5 hcs rfl).out _ X2.out) (Nat.le_refl _) XF.out
  have q6 : ∀ w', Below w2.heap.size wD w' → w'.cell? ⟨w.heap.size, 6, none⟩ = some (.int .i64 m.deref) := cell_laterB (cell_later (boxCell Hg1.out 6 hcs rfl).out _ X2.out) (Nat.le_refl _) XF.out
  have q7 : ∀ w', Below w2.heap.size wD w' → w'.cell? ⟨w.heap.size, 7, none⟩ = some (.int .i64 m.size) := cell_laterB (cell_later (boxCell Hg1.out 7 hcs rfl).out _ X2.out) (Nat.le_refl _) XF.out
  have q8 : ∀ w', Below w2.heap.size wD w' → w'.cell? ⟨w.heap.size, 8, none⟩ = some (.int .i64 m.time) := cell_laterB (cell_later (boxCell Hg1.out 8 hcs rfl).out _ X2.out) (Nat.le_refl _) XF.out
  repeat' (first
    | (refine walksB_move rfl rfl ?_; simp only [Act.put, Act.eval, List.setIfInBounds_toArray, List.set_cons_zero, List.set_cons_succ, Array.getD_eq_getD_getElem?, List.getElem?_toArray, List.getElem?_cons_zero, List.getElem?_cons_succ, Option.getD_some])
    | (refine walksB_assign rfl rfl ?_; simp only [Act.put, Act.eval, List.setIfInBounds_toArray, List.set_cons_zero, List.set_cons_succ, Array.getD_eq_getD_getElem?, List.getElem?_toArray, List.getElem?_cons_zero, List.getElem?_cons_succ, Option.getD_some])
    | (refine walksB_skip rfl rfl ?_; simp only [Act.put, List.setIfInBounds_toArray, List.set_cons_zero, List.set_cons_succ])
    | (refine walksB_unwanted rfl rfl ?_; simp only [Act.put, List.setIfInBounds_toArray, List.set_cons_zero, List.set_cons_succ])
    | (refine walksB_read (v := ?_) rfl rfl (fun w' hE => ?_) ?_; rotate_left 1; (· ((try (have hEx := Below.trans (Hid.out XB) hE)); go_simp; (try go_bits); with_reducible rfl)); simp only [Act.put, List.setIfInBounds_toArray, List.set_cons_zero, List.set_cons_succ])
    | (refine walksB_main rfl rfl (fun K hK => ?_); (first | (refine wp_store' 9 (.tmp 36) (.tmp 27) rfl w2.heap.size 2 rfl (.string m.name) rfl _ _ HG.out (by kernel_rfl) (by simp [Value.cells]) (by simp [Value.cells, Value.oneCell']) ?_; intro we hge hre; have hBe := below_stored hge (Nat.le_trans hBD (Below.size XB.out)) (Nat.le_refl _); have HG' : Hid (we.heap[w2.heap.size]? = some (.cells (msgCells ({ bareM m with name := m.name } : Msg) (bareD d)).toArray 42 (0, 0))) := hre; clear HG; have HG := HG'; clear HG' hge hre; have XB' := hid (Below.trans (Hid.out XB) (hBe)); clear XB; have XB := XB'; clear XB') | (refine wp_store' 2 (.tmp 37) (.tmp 29) rfl w2.heap.size 5 rfl (.int .i64 m.scope) rfl _ _ HG.out (by kernel_rfl) (by simp [Value.cells]) (by simp [Value.cells, Value.oneCell']) ?_; intro we hge hre; have hBe := below_stored hge (Nat.le_trans hBD (Below.size XB.out)) (Nat.le_refl _); have HG' : Hid (we.heap[w2.heap.size]? = some (.cells (msgCells ({ bareM m with name := m.name, scope := m.scope } : Msg) (bareD d)).toArray 42 (0, 0))) := hre; clear HG; have HG := HG'; clear HG' hge hre; have XB' := hid (Below.trans (Hid.out XB) (hBe)); clear XB; have XB := XB'; clear XB') | (refine wp_store' 2 (.tmp 38) (.tmp 31) rfl w2.heap.size 6 rfl (.int .i64 m.deref) rfl _ _ HG.out (by kernel_rfl) (by simp [Value.cells]) (by simp [Value.cells, Value.oneCell']) ?_; intro we hge hre; have hBe := below_stored hge (Nat.le_trans hBD (Below.size XB.out)) (Nat.le_refl _); have HG' : Hid (we.heap[w2.heap.size]? = some (.cells (msgCells ({ bareM m with name := m.name, scope := m.scope, deref := m.deref } : Msg) (bareD d)).toArray 42 (0, 0))) := hre; clear HG; have HG := HG'; clear HG' hge hre; have XB' := hid (Below.trans (Hid.out XB) (hBe)); clear XB; have XB := XB'; clear XB') | (refine wp_store' 2 (.tmp 39) (.tmp 33) rfl w2.heap.size 7 rfl (.int .i64 m.size) rfl _ _ HG.out (by kernel_rfl) (by simp [Value.cells]) (by simp [Value.cells, Value.oneCell']) ?_; intro we hge hre; have hBe := below_stored hge (Nat.le_trans hBD (Below.size XB.out)) (Nat.le_refl _); have HG' : Hid (we.heap[w2.heap.size]? = some (.cells (msgCells ({ bareM m with name := m.name, scope := m.scope, deref := m.deref, size := m.size } : Msg) (bareD d)).toArray 42 (0, 0))) := hre; clear HG; have HG := HG'; clear HG' hge hre; have XB' := hid (Below.trans (Hid.out XB) (hBe)); clear XB; have XB := XB'; clear XB') | (refine wp_store' 2 (.tmp 40) (.tmp 35) rfl w2.heap.size 8 rfl (.int .i64 m.time) rfl _ _ HG.out (by kernel_rfl) (by simp [Value.cells]) (by simp [Value.cells, Value.oneCell']) ?_; intro we hge hre; have hBe := below_stored hge (Nat.le_trans hBD (Below.size XB.out)) (Nat.le_refl _); have HG' : Hid (we.heap[w2.heap.size]? = some (.cells (msgCells ({ bareM m with name := m.name, scope := m.scope, deref := m.deref, size := m.size, time := m.time } : Msg) (bareD d)).toArray 42 (0, 0))) := hre; clear HG; have HG := HG'; clear HG' hge hre; have XB' := hid (Below.trans (Hid.out XB) (hBe)); clear XB; have XB := XB'; clear XB')); refine hK _ _ (by first | assumption | exact Below.refl _ _) ?_; clear hK K; try simp only [Act.put, List.setIfInBounds_toArray, List.set_cons_zero, List.set_cons_succ])
    | (refine walksB_alt ?_ ?_)
    | (refine walksB_main rfl rfl (fun K hK => ?_); go_wp2_with (fail); refine hK _ _ (by first | assumption | exact Below.refl _ _) ?_; clear hK K; try simp only [Act.put, List.setIfInBounds_toArray, List.set_cons_zero, List.set_cons_succ]))
  refine walksB_done ?_
  have X4' : Hid (Ext w2 _) := Below.trans XF.out XB.out
  clear X4
  have X4 := X4'
  clear X4'
  clear q2 q5 q6 q7 q8
  clear XB XF hBD hxD
  have y1 := cell_later (boxCell Hg1.out 1 hcs rfl).out _ (X2.out.trans X4.out)
  go_wp2
  refine wp_region_planB w2.heap.size (.read 0 (.read 1 (.read 2 (.read 3 (.read 4 (.read 5 (.read 6 (.main 7 (.read 8 (.main 9 (.read 10 (.main 11 .done)))))))))))) (by kernel_rfl) (by kernel_rfl) ?_
  intro wD hxD
  have XB : Hid (Below w2.heap.size wD wD) := Below.refl _ _
  have XF : Hid (Below w2.heap.size w2 wD) := X4.out.trans hxD
  have hBD := ext_sz XF.out
  have HG' := hid (row_later' HG.out hxD)
  clear HG
  have HG := HG'
  clear HG'
  have q9 : ∀ w', Below w2.heap.size wD w' → w'.cell? ⟨w.heap.size, 9, none⟩ = some (.bool m.tonly) := cell_laterB (cell_later (boxCell Hg1.out 9 hcs rfl).out _ X2.out) (Nat.le_refl _) XF.out
  have q10 : ∀ w', Below w2.heap.size wD w' → w'.cell? ⟨w.heap.size, 10, none⟩ = some (.int .i64 m.fil.kind) := cell_laterB (cell_later (boxCell Hg1.out 10 hcs rfl).out _ X2.out) (Nat.le_refl _) XF.out
  have q11 : ∀ w', Below w2.heap.size wD w' → w'.cell? ⟨w.heap.size, 11, none⟩ = some (.string m.fil.attr) := cell_laterB (cell_later (boxCell Hg1.out 11 hcs rfl).out _ X2.out) (Nat.le_refl _) XF.out
  have q12 : ∀ w', Below w2.heap.size wD w' → w'.cell? ⟨w.heap.size, 12, none⟩ = some (.string m.fil.value) := cell_laterB (cell_later (boxCell Hg1.out 12 hcs rfl).out _ X2.out) (Nat.le_refl _) XF.out
  have q13 : ∀ w', Below w2.heap.size wD w' → w'.cell? ⟨w.heap.size, 13, none⟩ = some (.string m.fil.first) := cell_laterB (cell_later (boxCell Hg1.out 13 hcs rfl).out _ X2.out) (Nat.le_refl _) XF.out
  have q14 : ∀ w', Below w2.heap.size wD w' → w'.cell? ⟨w.heap.size, 14, none⟩ = some (.string m.fil.last) := cell_laterB (cell_later (boxCell Hg1.out 14 hcs rfl).out _ X2.out) (Nat.le_refl _) XF.out
  have q15 : ∀ w', Below w2.heap.size wD w' → w'.cell? ⟨w.heap.size, 15, none⟩ = some (.slice d.any.A d.any.n d.any.c) := cell_laterB (cell_later (boxCell Hg1.out 15 hcs rfl).out _ X2.out) (Nat.le_refl _) XF.out
  have q16 : ∀ w', Below w2.heap.size wD w' → w'.cell? ⟨w.heap.size, 16, none⟩ = some (.slice d.parts.A d.parts.n d.parts.c) := cell_laterB (cell_later (boxCell Hg1.out 16 hcs rfl).out _ X2.out) (Nat.le_refl _) XF.out
  have q17 : ∀ w', Below w2.heap.size wD w' → w'.cell? ⟨w.heap.size, 17, none⟩ = some (.slice d.attrs.A d.attrs.n d.attrs.c) := cell_laterB (cell_later (boxCell Hg1.out 17 hcs rfl).out _ X2.out) (Nat.le_refl _) XF.out
  repeat' (first
    | (refine walksB_move rfl rfl ?_; simp only [Act.put, Act.eval, List.setIfInBounds_toArray, List.set_cons_zero, List.set_cons_succ, Array.getD_eq_getD_getElem?, List.getElem?_toArray, List.getElem?_cons_zero, List.getElem?_cons_succ, Option.getD_some])
    | (refine walksB_assign rfl rfl ?_; simp only [Act.put, Act.eval, List.setIfInBounds_toArray, List.set_cons_zero, List.set_cons_succ, Array.getD_eq_getD_getElem?, List.getElem?_toArray, List.getElem?_cons_zero, List.getElem?_cons_succ, Option.getD_some])
    | (refine walksB_skip rfl rfl ?_; simp only [Act.put, List.setIfInBounds_toArray, List.set_cons_zero, List.set_cons_succ])
    | (refine walksB_unwanted rfl rfl ?_; simp only [Act.put, List.setIfInBounds_toArray, List.set_cons_zero, List.set_cons_succ])
    | (refine walksB_read (v := ?_) rfl rfl (fun w' hE => ?_) ?_; rotate_left 1; (· ((try (have hEx := Below.trans (Hid.out XB) hE)); go_simp; (try go_bits); with_reducible rfl)); simp only [Act.put, List.setIfInBounds_toArray, List.set_cons_zero, List.set_cons_succ])
    | (refine walksB_main rfl rfl (fun K hK => ?_); (first | (refine wp_store' 4 (.tmp 47) (.tmp 42) rfl w2.heap.size 9 rfl (.bool m.tonly) rfl _ _ HG.out (by kernel_rfl) (by simp [Value.cells]) (by simp [Value.cells, Value.oneCell']) ?_; intro we hge hre; have hBe := below_stored hge (Nat.le_trans hBD (Below.size XB.out)) (Nat.le_refl _); have HG' : Hid (we.heap[w2.heap.size]? = some (.cells (msgCells ({ bareM m with name := m.name, scope := m.scope, deref := m.deref, size := m.size, time := m.time, tonly := m.tonly } : Msg) (bareD d)).toArray 42 (0, 0))) := hre; clear HG; have HG := HG'; clear HG' hge hre; have XB' := hid (Below.trans (Hid.out XB) (hBe)); clear XB; have XB := XB'; clear XB') | (refine wp_store' 39 (.tmp 48) (.tmp 44) rfl w2.heap.size 10 rfl (.agg #[.int .i64 m.fil.kind, .string m.fil.attr, .string m.fil.value, .string m.fil.first, .string m.fil.last, .slice d.any.A d.any.n d.any.c, .slice d.parts.A d.parts.n d.parts.c]) rfl _ _ HG.out (by kernel_rfl) (by simp [Value.cells]) (by simp [Value.cells, Value.oneCell']) ?_; intro we hge hre; have hBe := below_stored hge (Nat.le_trans hBD (Below.size XB.out)) (Nat.le_refl _); have HG' : Hid (we.heap[w2.heap.size]? = some (.cells (msgCells ({ bareM m with name := m.name, scope := m.scope, deref := m.deref, size := m.size, time := m.time, tonly := m.tonly, fil := m.fil } : Msg) ({ bareD d with any := d.any, parts := d.parts } : MsgD)).toArray 42 (0, 0))) := hre; clear HG; have HG := HG'; clear HG' hge hre; have XB' := hid (Below.trans (Hid.out XB) (hBe)); clear XB; have XB := XB'; clear XB') | (refine wp_store' 22 (.tmp 49) (.tmp 46) rfl w2.heap.size 17 rfl (.slice d.attrs.A d.attrs.n d.attrs.c) rfl _ _ HG.out (by kernel_rfl) (by simp [Value.cells]) (by simp [Value.cells, Value.oneCell']) ?_; intro we hge hre; have hBe := below_stored hge (Nat.le_trans hBD (Below.size XB.out)) (Nat.le_refl _); have HG' : Hid (we.heap[w2.heap.size]? = some (.cells (msgCells ({ bareM m with name := m.name, scope := m.scope, deref := m.deref, size := m.size, time := m.time, tonly := m.tonly, fil := m.fil, attrs := m.attrs } : Msg) ({ bareD d with any := d.any, parts := d.parts, attrs := d.attrs } : MsgD)).toArray 42 (0, 0))) := hre; clear HG; have HG := HG'; clear HG' hge hre; have XB' := hid (Below.trans (Hid.out XB) (hBe)); clear XB; have XB := XB'; clear XB')); refine hK _ _ (by first | assumption | exact Below.refl _ _) ?_; clear hK K; try simp only [Act.put, List.setIfInBounds_toArray, List.set_cons_zero, List.set_cons_succ])
    | (refine walksB_alt ?_ ?_)
    | (refine walksB_main rfl rfl (fun K hK => ?_); go_wp2_with (fail); refine hK _ _ (by first | assumption | exact Below.refl _ _) ?_; clear hK K; try simp only [Act.put, List.setIfInBounds_toArray, List.set_cons_zero, List.set_cons_succ]))
  refine walksB_done ?_
  have X4' : Hid (Ext w2 _) := Below.trans XF.out XB.out
  clear X4
  have X4 := X4'
  clear X4'
  clear q9 q10 q11 q12 q13 q14 q15 q16 q17
  clear XB XF hBD hxD
  have y1 := cell_later (boxCell Hg1.out 1 hcs rfl).out _ (X2.out.trans X4.out)
  go_wp2_with (first
    | (go_at_call 56; (with_reducible refine (answer_any _ _).mono ?_); rintro e w5 ⟨he, rfl⟩; rw [ta.out] at he; subst he)
    | (refine wpList_load_row rfl 42 (.tmp 3) rfl w2.heap.size rfl _ _ _ _ HG.out Try.underlying42 rfl (by kernel_rfl) ?_)
    | (refine store_arm rfl 42 (.tmp 2) (.tmp 125) rfl w1.heap.size 0 rfl (.agg (msgCells ({ bareM m with name := m.name, scope := m.scope, deref := m.deref, size := m.size, time := m.time, tonly := m.tonly, fil := m.fil, attrs := m.attrs } : Msg) ({ bareD d with any := d.any, parts := d.parts, attrs := d.attrs } : MsgD)).toArray) rfl _ _ (row_later' Hg2.out X4.out) (by kernel_rfl) (by simp [Value.cells, zeroMsg]) (by simp [Value.cells, Value.oneCell']) ?_; intro wz hgz hzz hrz; have Hrz := hid hrz; have Hgz := hid hgz; clear hgz hzz hrz))
  refine bodyPost_ret (v := .agg (msgCells ({ bareM m with name := m.name, scope := m.scope, deref := m.deref, size := m.size, time := m.time, tonly := m.tonly, fil := m.fil, attrs := m.attrs } : Msg) ({ bareD d with any := d.any, parts := d.parts, attrs := d.attrs } : MsgD)).toArray) (results_cell_row (p := 2) (ty := 42) (by kernel_rfl) _ _ _ _ _ _ _ rfl Hrz.out Try.underlying42 rfl (by kernel_rfl)) rfl ⟨_, ({ bareD d with any := d.any, parts := d.parts, attrs := d.attrs } : MsgD), rfl, rfl, ?_, ?_⟩
  · have XZ : Ext w _ := X1.out.trans (ext_grown' (X2.out.trans X4.out) Hgz.out)
    exact MsgRows.mono (MsgRows.ext ⟨Hm.out.any, Hm.out.parts, Hm.out.attrs, Row.nil _ _ _, Row.nil _ _ _, Row.nil _ _ _, Hm.out.ctls⟩ XZ) fun _ _ _ => trivial
  · exact X1.out.trans (ext_grown' (X2.out.trans X4.out) Hgz.out)
set_option maxHeartbeats 400000 in
theorem own_6 {m : Msg} {d : MsgD} {cs : Array Value} {S : Nat → Prop} (hcs : Hid (cs = (msgCells m d).toArray)) (w : World) (hm : MsgRows S w m d) (hk : m.kind = 6) :
    Calls Try.prog 40 #[.agg cs] w (MsgNew w ({ bareM m with name := m.name, chgs := m.chgs } : Msg)) := by
  have Hm := hid hm
  have hz := (zero_of_info (P := Try.prog) (t := 42) (v := .agg zeroMsg.toArray) (n := 32) (by kernel_rfl)).1
  have HZ := hid hz
  have t0 : (m.kind == 0) = false := by rw [hk]; rfl
  have t3 : (m.kind == 3) = false := by rw [hk]; rfl
  have t6 : (m.kind == 6) = true := by rw [hk]; rfl
  have t8 : (m.kind == 8) = false := by rw [hk]; rfl
  have t4 : (m.kind == 4) = false := by rw [hk]; rfl
  have t10 : (m.kind == 10) = false := by rw [hk]; rfl
  have t12 : (m.kind == 12) = false := by rw [hk]; rfl
  have t14 : (m.kind == 14) = false := by rw [hk]; rfl
  have t16 : (m.kind == 16) = false := by rw [hk]; rfl
  have t19 : (m.kind == 19) = false := by rw [hk]; rfl
  have ta : Hid (ansB m.kind = false) := by rw [hk]; rfl
  clear hm hz hk
  go_enter Try.func40, Try.ntmps40
  go_wp2_with (first
    | (refine box_arm rfl 42 (.tmp 0) rfl cs rfl ?_; intro w1 hx1 hz1 hg1; have Hg1 := hid hg1; have X1 := hid hx1; clear hz1 hg1 hx1)
    | (have X2' := X2; clear X2'; refine alloc_arm rfl 42 rfl _ HZ.out ?_; intro w3 hx3 hz3 hg3; have Hg3 := hid hg3; have X3 := hid hx3; clear hz3 hg3 hx3; clear y0 y1 y31)
    | (refine alloc_arm rfl 42 rfl _ HZ.out ?_; intro w2 hx2 hz2 hg2; have Hg2 := hid hg2; have X2 := hid hx2; have y0 := cell_later (boxCell Hg1.out 0 hcs rfl).out _ hx2; have y1 := cell_later (boxCell Hg1.out 1 hcs rfl).out _ hx2; have y31 := cell_later (boxCell Hg1.out 31 hcs rfl).out _ hx2; clear hz2 hg2 hx2)
    | (refine value_arm rfl 10 rfl (.agg (msgCells (bareM m) (bareD d)).toArray) (by kernel_rfl) ?_)
    | (refine store_arm rfl 42 (.tmp 3) (.tmp 10) rfl w2.heap.size 0 rfl (.agg (msgCells (bareM m) (bareD d)).toArray) rfl _ _ Hg3.out (by kernel_rfl) (by simp [Value.cells, zeroMsg]) (by simp [Value.cells, Value.oneCell']) ?_; intro w4 hg4 hz4 hr4; have HG : Hid (w4.heap[w2.heap.size]? = some (.cells (msgCells (bareM m) (bareD d)).toArray 42 (0, 0))) := hr4; have X4 := hid (ext_grown' X3.out hg4); have y1 := cell_later (boxCell Hg1.out 1 hcs rfl).out _ (X2.out.trans X4.out); clear hg4 hz4 hr4))
  refine wp_region_planB w2.heap.size (.read 0 (.read 1 (.read 2 (.read 3 (.read 4 (.main 5 (.read 6 (.main 7 .done)))))))) (by kernel_rfl) (by kernel_rfl) ?_
  intro wD hxD
  have XB : Hid (Below w2.heap.size wD wD) := Below.refl _ _
  have XF : Hid (Below w2.heap.size w2 wD) := X4.out.trans hxD
  have hBD := ext_sz XF.out
  have HG' := hid (row_later' HG.out hxD)
  clear HG
  have HG := HG'
  clear HG'
  have q2 : ∀ w', Below w2.heap.size wD w' → w'.cell? ⟨w.heap.size, 2, none⟩ = some (.string m.name) := cell_laterB (cell_later (boxCell Hg1.out 2 hcs rfl).out _ X2.out) (Nat.le_refl _) XF.out
  have q19 : ∀ w', Below w2.heap.size wD w' → w'.cell? ⟨w.heap.size, 19, none⟩ = some (.slice d.chgs.A d.chgs.n d.chgs.c) := cell_laterB (cell_later (boxCell Hg1.out 19 hcs rfl).out _ X2.out) (Nat.le_refl _) XF.out
  repeat' (first
    | (refine walksB_move rfl rfl ?_; simp only [Act.put, Act.eval, List.setIfInBounds_toArray, List.set_cons_zero, List.set_cons_succ, Array.getD_eq_getD_getElem?, List.getElem?_toArray, List.getElem?_cons_zero, List.getElem?_cons_succ, Option.getD_some])
    | (refine walksB_assign rfl rfl ?_; simp only [Act.put, Act.eval, List.setIfInBounds_toArray, List.set_cons_zero, List.set_cons_succ, Array.getD_eq_getD_getElem?, List.getElem?_toArray, List.getElem?_cons_zero, List.getElem?_cons_succ, Option.getD_some])
    | (refine walksB_skip rfl rfl ?_; simp only [Act.put, List.setIfInBounds_toArray, List.set_cons_zero, List.set_cons_succ])
    | (refine walksB_unwanted rfl rfl ?_; simp only [Act.put, List.setIfInBounds_toArray, List.set_cons_zero, List.set_cons_succ])
    | (refine walksB_read (v := ?_) rfl rfl (fun w' hE => ?_) ?_; rotate_left 1; (· ((try (have hEx := Below.trans (Hid.out XB) hE)); go_simp; (try go_bits); with_reducible rfl)); simp only [Act.put, List.setIfInBounds_toArray, List.set_cons_zero, List.set_cons_succ])
    | (refine walksB_main rfl rfl (fun K hK => ?_); (first | (refine wp_store' 9 (.tmp 56) (.tmp 53) rfl w2.heap.size 2 rfl (.string m.name) rfl _ _ HG.out (by kernel_rfl) (by simp [Value.cells]) (by simp [Value.cells, Value.oneCell']) ?_; intro we hge hre; have hBe := below_stored hge (Nat.le_trans hBD (Below.size XB.out)) (Nat.le_refl _); have HG' : Hid (we.heap[w2.heap.size]? = some (.cells (msgCells ({ bareM m with name := m.name } : Msg) (bareD d)).toArray 42 (0, 0))) := hre; clear HG; have HG := HG'; clear HG' hge hre; have XB' := hid (Below.trans (Hid.out XB) (hBe)); clear XB; have XB := XB'; clear XB') | (refine wp_store' 27 (.tmp 57) (.tmp 55) rfl w2.heap.size 19 rfl (.slice d.chgs.A d.chgs.n d.chgs.c) rfl _ _ HG.out (by kernel_rfl) (by simp [Value.cells]) (by simp [Value.cells, Value.oneCell']) ?_; intro we hge hre; have hBe := below_stored hge (Nat.le_trans hBD (Below.size XB.out)) (Nat.le_refl _); have HG' : Hid (we.heap[w2.heap.size]? = some (.cells (msgCells ({ bareM m with name := m.name, chgs := m.chgs } : Msg) ({ bareD d with chgs := d.chgs } : MsgD)).toArray 42 (0, 0))) := hre; clear HG; have HG := HG'; clear HG' hge hre; have XB' := hid (Below.trans (Hid.out XB) (hBe)); clear XB; have XB := XB'; clear XB')); refine hK _ _ (by first | assumption | exact Below.refl _ _) ?_; clear hK K; try simp only [Act.put, List.setIfInBounds_toArray, List.set_cons_zero, List.set_cons_succ])
    | (refine walksB_alt ?_ ?_)
    | (refine walksB_main rfl rfl (fun K hK => ?_); go_wp2_with (fail); refine hK _ _ (by first | assumption | exact Below.refl _ _) ?_; clear hK K; try simp only [Act.put, List.setIfInBounds_toArray, List.set_cons_zero, List.set_cons_succ]))
  refine walksB_done ?_
  have X4' : Hid (Ext w2 _) := Below.trans XF.out XB.out
  clear X4
  have X4 := X4'
  clear X4'
  clear q2 q19
  clear XB XF hBD hxD
  have y1 := cell_later (boxCell Hg1.out 1 hcs rfl).out _ (X2.out.trans X4.out)
  go_wp2_with (first
    | (go_at_call 56; (with_reducible refine (answer_any _ _).mono ?_); rintro e w5 ⟨he, rfl⟩; rw [ta.out] at he; subst he)
    | (refine wpList_load_row rfl 42 (.tmp 3) rfl w2.heap.size rfl _ _ _ _ HG.out Try.underlying42 rfl (by kernel_rfl) ?_)
    | (refine store_arm rfl 42 (.tmp 2) (.tmp 125) rfl w1.heap.size 0 rfl (.agg (msgCells ({ bareM m with name := m.name, chgs := m.chgs } : Msg) ({ bareD d with chgs := d.chgs } : MsgD)).toArray) rfl _ _ (row_later' Hg2.out X4.out) (by kernel_rfl) (by simp [Value.cells, zeroMsg]) (by simp [Value.cells, Value.oneCell']) ?_; intro wz hgz hzz hrz; have Hrz := hid hrz; have Hgz := hid hgz; clear hgz hzz hrz))
  refine bodyPost_ret (v := .agg (msgCells ({ bareM m with name := m.name, chgs := m.chgs } : Msg) ({ bareD d with chgs := d.chgs } : MsgD)).toArray) (results_cell_row (p := 2) (ty := 42) (by kernel_rfl) _ _ _ _ _ _ _ rfl Hrz.out Try.underlying42 rfl (by kernel_rfl)) rfl ⟨_, ({ bareD d with chgs := d.chgs } : MsgD), rfl, rfl, ?_, ?_⟩
  · have XZ : Ext w _ := X1.out.trans (ext_grown' (X2.out.trans X4.out) Hgz.out)
    exact MsgRows.mono (MsgRows.ext ⟨Row.nil _ _ _, Row.nil _ _ _, Row.nil _ _ _, Row.nil _ _ _, Hm.out.chgs, Row.nil _ _ _, Hm.out.ctls⟩ XZ) fun _ _ _ => trivial
  · exact X1.out.trans (ext_grown' (X2.out.trans X4.out) Hgz.out)
set_option maxHeartbeats 400000 in
theorem own_8 {m : Msg} {d : MsgD} {cs : Array Value} {S : Nat → Prop} (hcs : Hid (cs = (msgCells m d).toArray)) (w : World) (hm : MsgRows S w m d) (hk : m.kind = 8) :
    Calls Try.prog 40 #[.agg cs] w (MsgNew w ({ bareM m with name := m.name, list := m.list } : Msg)) := by
  have Hm := hid hm
  have hz := (zero_of_info (P := Try.prog) (t := 42) (v := .agg zeroMsg.toArray) (n := 32) (by kernel_rfl)).1
  have HZ := hid hz
  have t0 : (m.kind == 0) = false := by rw [hk]; rfl
  have t3 : (m.kind == 3) = false := by rw [hk]; rfl
  have t6 : (m.kind == 6) = false := by rw [hk]; rfl
  have t8 : (m.kind == 8) = true := by rw [hk]; rfl
  have t4 : (m.kind == 4) = false := by rw [hk]; rfl
  have t10 : (m.kind == 10) = false := by rw [hk]; rfl
  have t12 : (m.kind == 12) = false := by rw [hk]; rfl
  have t14 : (m.kind == 14) = false := by rw [hk]; rfl
  have t16 : (m.kind == 16) = false := by rw [hk]; rfl
  have t19 : (m.kind == 19) = false := by rw [hk]; rfl
  have ta : Hid (ansB m.kind = false) := by rw [hk]; rfl
  clear hm hz hk
  go_enter Try.func40, Try.ntmps40
  go_wp2_with (first
    | (refine box_arm rfl 42 (.tmp 0) rfl cs rfl ?_; intro w1 hx1 hz1 hg1; have Hg1 := hid hg1; have X1 := hid hx1; clear hz1 hg1 hx1)
    | (have X2' := X2; clear X2'; refine alloc_arm rfl 42 rfl _ HZ.out ?_; intro w3 hx3 hz3 hg3; have Hg3 := hid hg3; have X3 := hid hx3; clear hz3 hg3 hx3; clear y0 y1 y31)
    | (refine alloc_arm rfl 42 rfl _ HZ.out ?_; intro w2 hx2 hz2 hg2; have Hg2 := hid hg2; have X2 := hid hx2; have y0 := cell_later (boxCell Hg1.out 0 hcs rfl).out _ hx2; have y1 := cell_later (boxCell Hg1.out 1 hcs rfl).out _ hx2; have y31 := cell_later (boxCell Hg1.out 31 hcs rfl).out _ hx2; clear hz2 hg2 hx2)
    | (refine value_arm rfl 10 rfl (.agg (msgCells (bareM m) (bareD d)).toArray) (by kernel_rfl) ?_)
    | (refine store_arm rfl 42 (.tmp 3) (.tmp 10) rfl w2.heap.size 0 rfl (.agg (msgCells (bareM m) (bareD d)).toArray) rfl _ _ Hg3.out (by kernel_rfl) (by simp [Value.cells, zeroMsg]) (by simp [Value.cells, Value.oneCell']) ?_; intro w4 hg4 hz4 hr4; have HG : Hid (w4.heap[w2.heap.size]? = some (.cells (msgCells (bareM m) (bareD d)).toArray 42 (0, 0))) := hr4; have X4 := hid (ext_grown' X3.out hg4); have y1 := cell_later (boxCell Hg1.out 1 hcs rfl).out _ (X2.out.trans X4.out); clear hg4 hz4 hr4))
  refine wp_region_planB w2.heap.size (.read 0 (.read 1 (.read 2 (.read 3 (.read 4 (.main 5 (.read 6 (.main 7 .done)))))))) (by kernel_rfl) (by kernel_rfl) ?_
  intro wD hxD
  have XB : Hid (Below w2.heap.size wD wD) := Below.refl _ _
  have XF : Hid (Below w2.heap.size w2 wD) := X4.out.trans hxD
  have hBD := ext_sz XF.out
  have HG' := hid (row_later' HG.out hxD)
  clear HG
  have HG := HG'
  clear HG'
  have q2 : ∀ w', Below w2.heap.size wD w' → w'.cell? ⟨w.heap.size, 2, none⟩ = some (.string m.name) := cell_laterB (cell_later (boxCell Hg1.out 2 hcs rfl).out _ X2.out) (Nat.le_refl _) XF.out
  have q18 : ∀ w', Below w2.heap.size wD w' → w'.cell? ⟨w.heap.size, 18, none⟩ = some (.slice d.list.A d.list.n d.list.c) := cell_laterB (cell_later (boxCell Hg1.out 18 hcs rfl).out _ X2.out) (Nat.le_refl _) XF.out
  repeat' (first
    | (refine walksB_move rfl rfl ?_; simp only [Act.put, Act.eval, List.setIfInBounds_toArray, List.set_cons_zero, List.set_cons_succ, Array.getD_eq_getD_getElem?, List.getElem?_toArray, List.getElem?_cons_zero, List.getElem?_cons_succ, Option.getD_some])
    | (refine walksB_assign rfl rfl ?_; simp only [Act.put, Act.eval, List.setIfInBounds_toArray, List.set_cons_zero, List.set_cons_succ, Array.getD_eq_getD_getElem?, List.getElem?_toArray, List.getElem?_cons_zero, List.getElem?_cons_succ, Option.getD_some])
    | (refine walksB_skip rfl rfl ?_; simp only [Act.put, List.setIfInBounds_toArray, List.set_cons_zero, List.set_cons_succ])
    | (refine walksB_unwanted rfl rfl ?_; simp only [Act.put, List.setIfInBounds_toArray, List.set_cons_zero, List.set_cons_succ])
    | (refine walksB_read (v := ?_) rfl rfl (fun w' hE => ?_) ?_; rotate_left 1; (· ((try (have hEx := Below.trans (Hid.out XB) hE)); go_simp; (try go_bits); with_reducible rfl)); simp only [Act.put, List.setIfInBounds_toArray, List.set_cons_zero, List.set_cons_succ])
    | (refine walksB_main rfl rfl (fun K hK => ?_); (first | (refine wp_store' 9 (.tmp 65) (.tmp 62) rfl w2.heap.size 2 rfl (.string m.name) rfl _ _ HG.out (by kernel_rfl) (by simp [Value.cells]) (by simp [Value.cells, Value.oneCell']) ?_; intro we hge hre; have hBe := below_stored hge (Nat.le_trans hBD (Below.size XB.out)) (Nat.le_refl _); have HG' : Hid (we.heap[w2.heap.size]? = some (.cells (msgCells ({ bareM m with name := m.name } : Msg) (bareD d)).toArray 42 (0, 0))) := hre; clear HG; have HG := HG'; clear HG' hge hre; have XB' := hid (Below.trans (Hid.out XB) (hBe)); clear XB; have XB := XB'; clear XB') | (refine wp_store' 26 (.tmp 66) (.tmp 64) rfl w2.heap.size 18 rfl (.slice d.list.A d.list.n d.list.c) rfl _ _ HG.out (by kernel_rfl) (by simp [Value.cells]) (by simp [Value.cells, Value.oneCell']) ?_; intro we hge hre; have hBe := below_stored hge (Nat.le_trans hBD (Below.size XB.out)) (Nat.le_refl _); have HG' : Hid (we.heap[w2.heap.size]? = some (.cells (msgCells ({ bareM m with name := m.name, list := m.list } : Msg) ({ bareD d with list := d.list } : MsgD)).toArray 42 (0, 0))) := hre; clear HG; have HG := HG'; clear HG' hge hre; have XB' := hid (Below.trans (Hid.out XB) (hBe)); clear XB; have XB := XB'; clear XB')); refine hK _ _ (by first | assumption | exact Below.refl _ _) ?_; clear hK K; try simp only [Act.put, List.setIfInBounds_toArray, List.set_cons_zero, List.set_cons_succ])
    | (refine walksB_alt ?_ ?_)
    | (refine walksB_main rfl rfl (fun K hK => ?_); go_wp2_with (fail); refine hK _ _ (by first | assumption | exact Below.refl _ _) ?_; clear hK K; try simp only [Act.put, List.setIfInBounds_toArray, List.set_cons_zero, List.set_cons_succ]))
  refine walksB_done ?_
  have X4' : Hid (Ext w2 _) := Below.trans XF.out XB.out
  clear X4
  have X4 := X4'
  clear X4'
  clear q2 q18
  clear XB XF hBD hxD
  have y1 := cell_later (boxCell Hg1.out 1 hcs rfl).out _ (X2.out.trans X4.out)
  go_wp2_with (first
    | (go_at_call 56; (with_reducible refine (answer_any _ _).mono ?_); rintro e w5 ⟨he, rfl⟩; rw [ta.out] at he; subst he)
    | (refine wpList_load_row rfl 42 (.tmp 3) rfl w2.heap.size rfl _ _ _ _ HG.out Try.underlying42 rfl (by kernel_rfl) ?_)
    | (refine store_arm rfl 42 (.tmp 2) (.tmp 125) rfl w1.heap.size 0 rfl (.agg (msgCells ({ bareM m with name := m.name, list := m.list } : Msg) ({ bareD d with list := d.list } : MsgD)).toArray) rfl _ _ (row_later' Hg2.out X4.out) (by kernel_rfl) (by simp [Value.cells, zeroMsg]) (by simp [Value.cells, Value.oneCell']) ?_; intro wz hgz hzz hrz; have Hrz := hid hrz; have Hgz := hid hgz; clear hgz hzz hrz))
  refine bodyPost_ret (v := .agg (msgCells ({ bareM m with name := m.name, list := m.list } : Msg) ({ bareD d with list := d.list } : MsgD)).toArray) (results_cell_row (p := 2) (ty := 42) (by kernel_rfl) _ _ _ _ _ _ _ rfl Hrz.out Try.underlying42 rfl (by kernel_rfl)) rfl ⟨_, ({ bareD d with list := d.list } : MsgD), rfl, rfl, ?_, ?_⟩
  · have XZ : Ext w _ := X1.out.trans (ext_grown' (X2.out.trans X4.out) Hgz.out)
    exact MsgRows.mono (MsgRows.ext ⟨Row.nil _ _ _, Row.nil _ _ _, Row.nil _ _ _, Hm.out.list, Row.nil _ _ _, Row.nil _ _ _, Hm.out.ctls⟩ XZ) fun _ _ _ => trivial
  · exact X1.out.trans (ext_grown' (X2.out.trans X4.out) Hgz.out)
set_option maxHeartbeats 400000 in
theorem own_4 {m : Msg} {d : MsgD} {cs : Array Value} {S : Nat → Prop} (hcs : Hid (cs = (msgCells m d).toArray)) (w : World) (hm : MsgRows S w m d) (hk : m.kind = 4) :
    Calls Try.prog 40 #[.agg cs] w (MsgNew w ({ bareM m with name := m.name, list := m.list } : Msg)) := by
  have Hm := hid hm
  have hz := (zero_of_info (P := Try.prog) (t := 42) (v := .agg zeroMsg.toArray) (n := 32) (by kernel_rfl)).1
  have HZ := hid hz
  have t0 : (m.kind == 0) = false := by rw [hk]; rfl
  have t3 : (m.kind == 3) = false := by rw [hk]; rfl
  have t6 : (m.kind == 6) = false := by rw [hk]; rfl
  have t8 : (m.kind == 8) = false := by rw [hk]; rfl
  have t4 : (m.kind == 4) = true := by rw [hk]; rfl
  have t10 : (m.kind == 10) = false := by rw [hk]; rfl
  have t12 : (m.kind == 12) = false := by rw [hk]; rfl
  have t14 : (m.kind == 14) = false := by rw [hk]; rfl
  have t16 : (m.kind == 16) = false := by rw [hk]; rfl
  have t19 : (m.kind == 19) = false := by rw [hk]; rfl
  have ta : Hid (ansB m.kind = false) := by rw [hk]; rfl
  clear hm hz hk
  go_enter Try.func40, Try.ntmps40
  go_wp2_with (first
    | (refine box_arm rfl 42 (.tmp 0) rfl cs rfl ?_; intro w1 hx1 hz1 hg1; have Hg1 := hid hg1; have X1 := hid hx1; clear hz1 hg1 hx1)
    | (have X2' := X2; clear X2'; refine alloc_arm rfl 42 rfl _ HZ.out ?_; intro w3 hx3 hz3 hg3; have Hg3 := hid hg3; have X3 := hid hx3; clear hz3 hg3 hx3; clear y0 y1 y31)
    | (refine alloc_arm rfl 42 rfl _ HZ.out ?_; intro w2 hx2 hz2 hg2; have Hg2 := hid hg2; have X2 := hid hx2; have y0 := cell_later (boxCell Hg1.out 0 hcs rfl).out _ hx2; have y1 := cell_later (boxCell Hg1.out 1 hcs rfl).out _ hx2; have y31 := cell_later (boxCell Hg1.out 31 hcs rfl).out _ hx2; clear hz2 hg2 hx2)
    | (refine value_arm rfl 10 rfl (.agg (msgCells (bareM m) (bareD d)).toArray) (by kernel_rfl) ?_)
    | (refine store_arm rfl 42 (.tmp 3) (.tmp 10) rfl w2.heap.size 0 rfl (.agg (msgCells (bareM m) (bareD d)).toArray) rfl _ _ Hg3.out (by kernel_rfl) (by simp [Value.cells, zeroMsg]) (by simp [Value.cells, Value.oneCell']) ?_; intro w4 hg4 hz4 hr4; have HG : Hid (w4.heap[w2.heap.size]? = some (.cells (msgCells (bareM m) (bareD d)).toArray 42 (0, 0))) := hr4; have X4 := hid (ext_grown' X3.out hg4); have y1 := cell_later (boxCell Hg1.out 1 hcs rfl).out _ (X2.out.trans X4.out); clear hg4 hz4 hr4))
  refine wp_region_planB w2.heap.size (.read 0 (.read 1 (.read 2 (.read 3 (.read 4 (.main 5 (.read 6 (.main 7 .done)))))))) (by kernel_rfl) (by kernel_rfl) ?_
  intro wD hxD
  have XB : Hid (Below w2.heap.size wD wD) := Below.refl _ _
  have XF : Hid (Below w2.heap.size w2 wD) := X4.out.trans hxD
  have hBD := ext_sz XF.out
  have HG' := hid (row_later' HG.out hxD)
  clear HG
  have HG := HG'
  clear HG'
  have q2 : ∀ w', Below w2.heap.size wD w' → w'.cell? ⟨w.heap.size, 2, none⟩ = some (.string m.name) := cell_laterB (cell_later (boxCell Hg1.out 2 hcs rfl).out _ X2.out) (Nat.le_refl _) XF.out
  have q18 : ∀ w', Below w2.heap.size wD w' → w'.cell? ⟨w.heap.size, 18, none⟩ = some (.slice d.list.A d.list.n d.list.c) := cell_laterB (cell_later (boxCell Hg1.out 18 hcs rfl).out _ X2.out) (Nat.le_refl _) XF.out
  repeat' (first
    | (refine walksB_move rfl rfl ?_; simp only [Act.put, Act.eval, List.setIfInBounds_toArray, List.set_cons_zero, List.set_cons_succ, Array.getD_eq_getD_getElem?, List.getElem?_toArray, List.getElem?_cons_zero, List.getElem?_cons_succ, Option.getD_some])
    | (refine walksB_assign rfl rfl ?_; simp only [Act.put, Act.eval, List.setIfInBounds_toArray, List.set_cons_zero, List.set_cons_succ, Array.getD_eq_getD_getElem?, List.getElem?_toArray, List.getElem?_cons_zero, List.getElem?_cons_succ, Option.getD_some])
    | (refine walksB_skip rfl rfl ?_; simp only [Act.put, List.setIfInBounds_toArray, List.set_cons_zero, List.set_cons_succ])
    | (refine walksB_unwanted rfl rfl ?_; simp only [Act.put, List.setIfInBounds_toArray, List.set_cons_zero, List.set_cons_succ])
    | (refine walksB_read (v := ?_) rfl rfl (fun w' hE => ?_) ?_; rotate_left 1; (· ((try (have hEx := Below.trans (Hid.out XB) hE)); go_simp; (try go_bits); with_reducible rfl)); simp only [Act.put, List.setIfInBounds_toArray, List.set_cons_zero, List.set_cons_succ])
    | (refine walksB_main rfl rfl (fun K hK => ?_); (first | (refine wp_store' 9 (.tmp 65) (.tmp 62) rfl w2.heap.size 2 rfl (.string m.name) rfl _ _ HG.out (by kernel_rfl) (by simp [Value.cells]) (by simp [Value.cells, Value.oneCell']) ?_; intro we hge hre; have hBe := below_stored hge (Nat.le_trans hBD (Below.size XB.out)) (Nat.le_refl _); have HG' : Hid (we.heap[w2.heap.size]? = some (.cells (msgCells ({ bareM m with name := m.name } : Msg) (bareD d)).toArray 42 (0, 0))) := hre; clear HG; have HG := HG'; clear HG' hge hre; have XB' := hid (Below.trans (Hid.out XB) (hBe)); clear XB; have XB := XB'; clear XB') | (refine wp_store' 26 (.tmp 66) (.tmp 64) rfl w2.heap.size 18 rfl (.slice d.list.A d.list.n d.list.c) rfl _ _ HG.out (by kernel_rfl) (by simp [Value.cells]) (by simp [Value.cells, Value.oneCell']) ?_; intro we hge hre; have hBe := below_stored hge (Nat.le_trans hBD (Below.size XB.out)) (Nat.le_refl _); have HG' : Hid (we.heap[w2.heap.size]? = some (.cells (msgCells ({ bareM m with name := m.name, list := m.list } : Msg) ({ bareD d with list := d.list } : MsgD)).toArray 42 (0, 0))) := hre; clear HG; have HG := HG'; clear HG' hge hre; have XB' := hid (Below.trans (Hid.out XB) (hBe)); clear XB; have XB := XB'; clear XB')); refine hK _ _ (by first | assumption | exact Below.refl _ _) ?_; clear hK K; try simp only [Act.put, List.setIfInBounds_toArray, List.set_cons_zero, List.set_cons_succ])
    | (refine walksB_alt ?_ ?_)
    | (refine walksB_main rfl rfl (fun K hK => ?_); go_wp2_with (fail); refine hK _ _ (by first | assumption | exact Below.refl _ _) ?_; clear hK K; try simp only [Act.put, List.setIfInBounds_toArray, List.set_cons_zero, List.set_cons_succ]))
  refine walksB_done ?_
  have X4' : Hid (Ext w2 _) := Below.trans XF.out XB.out
  clear X4
  have X4 := X4'
  clear X4'
  clear q2 q18
  clear XB XF hBD hxD
  have y1 := cell_later (boxCell Hg1.out 1 hcs rfl).out _ (X2.out.trans X4.out)
  go_wp2_with (first
    | (go_at_call 56; (with_reducible refine (answer_any _ _).mono ?_); rintro e w5 ⟨he, rfl⟩; rw [ta.out] at he; subst he)
    | (refine wpList_load_row rfl 42 (.tmp 3) rfl w2.heap.size rfl _ _ _ _ HG.out Try.underlying42 rfl (by kernel_rfl) ?_)
    | (refine store_arm rfl 42 (.tmp 2) (.tmp 125) rfl w1.heap.size 0 rfl (.agg (msgCells ({ bareM m with name := m.name, list := m.list } : Msg) ({ bareD d with list := d.list } : MsgD)).toArray) rfl _ _ (row_later' Hg2.out X4.out) (by kernel_rfl) (by simp [Value.cells, zeroMsg]) (by simp [Value.cells, Value.oneCell']) ?_; intro wz hgz hzz hrz; have Hrz := hid hrz; have Hgz := hid hgz; clear hgz hzz hrz))
  refine bodyPost_ret (v := .agg (msgCells ({ bareM m with name := m.name, list := m.list } : Msg) ({ bareD d with list := d.list } : MsgD)).toArray) (results_cell_row (p := 2) (ty := 42) (by kernel_rfl) _ _ _ _ _ _ _ rfl Hrz.out Try.underlying42 rfl (by kernel_rfl)) rfl ⟨_, ({ bareD d with list := d.list } : MsgD), rfl, rfl, ?_, ?_⟩
  · have XZ : Ext w _ := X1.out.trans (ext_grown' (X2.out.trans X4.out) Hgz.out)
    exact MsgRows.mono (MsgRows.ext ⟨Row.nil _ _ _, Row.nil _ _ _, Row.nil _ _ _, Hm.out.list, Row.nil _ _ _, Row.nil _ _ _, Hm.out.ctls⟩ XZ) fun _ _ _ => trivial
  · exact X1.out.trans (ext_grown' (X2.out.trans X4.out) Hgz.out)
set_option maxHeartbeats 400000 in
theorem own_10 {m : Msg} {d : MsgD} {cs : Array Value} {S : Nat → Prop} (hcs : Hid (cs = (msgCells m d).toArray)) (w : World) (hm : MsgRows S w m d) (hk : m.kind = 10) :
    Calls Try.prog 40 #[.agg cs] w (MsgNew w ({ bareM m with name := m.name } : Msg)) := by
  have Hm := hid hm
  have hz := (zero_of_info (P := Try.prog) (t := 42) (v := .agg zeroMsg.toArray) (n := 32) (by kernel_rfl)).1
  have HZ := hid hz
  have t0 : (m.kind == 0) = false := by rw [hk]; rfl
  have t3 : (m.kind == 3) = false := by rw [hk]; rfl
  have t6 : (m.kind == 6) = false := by rw [hk]; rfl
  have t8 : (m.kind == 8) = false := by rw [hk]; rfl
  have t4 : (m.kind == 4) = false := by rw [hk]; rfl
  have t10 : (m.kind == 10) = true := by rw [hk]; rfl
  have t12 : (m.kind == 12) = false := by rw [hk]; rfl
  have t14 : (m.kind == 14) = false := by rw [hk]; rfl
  have t16 : (m.kind == 16) = false := by rw [hk]; rfl
  have t19 : (m.kind == 19) = false := by rw [hk]; rfl
  have ta : Hid (ansB m.kind = false) := by rw [hk]; rfl
  clear hm hz hk
  go_enter Try.func40, Try.ntmps40
  go_wp2_with (first
    | (refine box_arm rfl 42 (.tmp 0) rfl cs rfl ?_; intro w1 hx1 hz1 hg1; have Hg1 := hid hg1; have X1 := hid hx1; clear hz1 hg1 hx1)
    | (have X2' := X2; clear X2'; refine alloc_arm rfl 42 rfl _ HZ.out ?_; intro w3 hx3 hz3 hg3; have Hg3 := hid hg3; have X3 := hid hx3; clear hz3 hg3 hx3; clear y0 y1 y31)
    | (refine alloc_arm rfl 42 rfl _ HZ.out ?_; intro w2 hx2 hz2 hg2; have Hg2 := hid hg2; have X2 := hid hx2; have y0 := cell_later (boxCell Hg1.out 0 hcs rfl).out _ hx2; have y1 := cell_later (boxCell Hg1.out 1 hcs rfl).out _ hx2; have y31 := cell_later (boxCell Hg1.out 31 hcs rfl).out _ hx2; clear hz2 hg2 hx2)
    | (refine value_arm rfl 10 rfl (.agg (msgCells (bareM m) (bareD d)).toArray) (by kernel_rfl) ?_)
    | (refine store_arm rfl 42 (.tmp 3) (.tmp 10) rfl w2.heap.size 0 rfl (.agg (msgCells (bareM m) (bareD d)).toArray) rfl _ _ Hg3.out (by kernel_rfl) (by simp [Value.cells, zeroMsg]) (by simp [Value.cells, Value.oneCell']) ?_; intro w4 hg4 hz4 hr4; have HG : Hid (w4.heap[w2.heap.size]? = some (.cells (msgCells (bareM m) (bareD d)).toArray 42 (0, 0))) := hr4; have X4 := hid (ext_grown' X3.out hg4); have y1 := cell_later (boxCell Hg1.out 1 hcs rfl).out _ (X2.out.trans X4.out); have y2 := cell_later (boxCell Hg1.out 2 hcs rfl).out _ (X2.out.trans X4.out); clear hg4 hz4 hr4)
    | (refine store_arm rfl 9 (.tmp 71) (.tmp 70) rfl w2.heap.size 2 rfl (.string m.name) rfl _ _ HG.out (by kernel_rfl) (by simp [Value.cells]) (by simp [Value.cells, Value.oneCell']) ?_; intro w6 hg6 hz6 hr6; have HG' : Hid (w6.heap[w2.heap.size]? = some (.cells (msgCells ({ bareM m with name := m.name } : Msg) (bareD d)).toArray 42 (0, 0))) := hr6; clear HG; have HG := HG'; clear HG'; have X4' := hid (ext_grown' X4.out hg6); clear X4; have X4 := X4'; clear X4'; have y1 := cell_later (boxCell Hg1.out 1 hcs rfl).out _ (X2.out.trans X4.out); clear hg6 hz6 hr6)
    | (go_at_call 56; (with_reducible refine (answer_any _ _).mono ?_); rintro e w5 ⟨he, rfl⟩; rw [ta.out] at he; subst he)
    | (refine wpList_load_row rfl 42 (.tmp 3) rfl w2.heap.size rfl _ _ _ _ HG.out Try.underlying42 rfl (by kernel_rfl) ?_)
    | (refine store_arm rfl 42 (.tmp 2) (.tmp 125) rfl w1.heap.size 0 rfl (.agg (msgCells ({ bareM m with name := m.name } : Msg) (bareD d)).toArray) rfl _ _ (row_later' Hg2.out X4.out) (by kernel_rfl) (by simp [Value.cells, zeroMsg]) (by simp [Value.cells, Value.oneCell']) ?_; intro wz hgz hzz hrz; have Hrz := hid hrz; have Hgz := hid hgz; clear hgz hzz hrz))
  refine bodyPost_ret (v := .agg (msgCells ({ bareM m with name := m.name } : Msg) (bareD d)).toArray) (results_cell_row (p := 2) (ty := 42) (by kernel_rfl) _ _ _ _ _ _ _ rfl Hrz.out Try.underlying42 rfl (by kernel_rfl)) rfl ⟨_, (bareD d), rfl, rfl, ?_, ?_⟩
  · have XZ : Ext w _ := X1.out.trans (ext_grown' (X2.out.trans X4.out) Hgz.out)
    exact MsgRows.mono (MsgRows.ext ⟨Row.nil _ _ _, Row.nil _ _ _, Row.nil _ _ _, Row.nil _ _ _, Row.nil _ _ _, Row.nil _ _ _, Hm.out.ctls⟩ XZ) fun _ _ _ => trivial
  · exact X1.out.trans (ext_grown' (X2.out.trans X4.out) Hgz.out)
end Go.Proofs.Ytabaeiolpbdjnaa
