import Derived.Test.YtencmdpjiafnaaaGreatDoorZ34
import Derived.Test.YtencmdpjiafnaaaGreatDoorZ08
/- The walks of the reference's Copy and CopyAll (vergerref09). (Split off Cy.) -/
namespace Go.Proofs.YtencmdpjiafnaaaGreatDoor
open Go.RowKit
set_option maxRecDepth 100000
set_option linter.unusedSimpArgs false
set_option linter.unusedVariables false

/-- The call's end, the one result a struct in its block. -/
theorem ret_cell1 {P : Program} {fn : Func} {R : Ending → World → Prop} {a : Act} {w0 w : World} {p : Tmp} {ty : TypeId} {g : Nat} {T : TypeId} {cs : Array Value} (d : TypeDesc) (h : fn.results = #[.cell p ty])
    (hp : a.tmps.getD p undef = .pointer (some ⟨g, 0, none⟩)) (hb : Bx w0 w g T cs) (hu : P.underlying ty = some d) (hd : (match d with | .struct _ | .array _ _ => true | _ => false) = true) (hi : (P.info? ty).map (·.size) = some cs.size)
    (hdf : a.defers = []) (hR : R (.returned (.agg cs)) w) : bodyPost P fn R .ret a w := by
  refine bodyPost_ret (v := .agg cs) ?_ hdf hR
  exact results_cell_row h a.tmps w g T cs (0, 0) d hp hb.blk hu hd hi
section
variable {w w0 : World} {o : Oper} {a : Act} {K : Act → World → Prop} {Q : Exit → Act → World → Prop}
theorem append_strs_wp2 (s x : Operand) (ho : o.op = .call { callee := .builtin .append, args := #[s, x], argTypes := #[43, 43] })
    (v : Value) (l : List ByteArray) (hs : a.eval s = v) (hg : GrowS w0 w v l) (A : Option Addr) (m c : Nat) (ys : List ByteArray) (hx : a.eval x = .slice A m c) (hm : m = ys.length) (hy : Cells w A (ys.map .string))
    (hb : l.length + m ≤ 8796093022208) (h : ∀ v' w', GrowS w0 w' v' (l ++ ys) → Below w0.heap.size w w' → K (a.put o.dst v') w') : o.wp Tryz.prog a w K Q := by
  obtain ⟨i0, hi, hz0, hz1, hz2⟩ := info_parts infoStr
  refine wp_append_cells s x 43 ho w0.heap.size 9 i0 (.string ByteArray.empty) 16 Tryz.underlying43 hi hz0 hz1 hz2 rfl v l.length (l.map .string) hs hg.own A m c (ys.map .string) hx (by simpa using hm) hy ?_ (by simp [maxLen]; omega) (by omega) (ext_sz hg.ext) ?_
  · intro u hu
    obtain ⟨b, _, rfl⟩ := List.mem_map.1 hu
    rfl
  · intro v' w' h1 h2 _
    have hb := below_grown hg.own h2 (ext_sz hg.ext) (Nat.le_refl _)
    refine h v' w' ⟨?_, Below.trans hg.ext hb⟩ hb
    rw [List.length_append, ← hm, List.map_append]
    exact h1
/-- '[]string{}'. -/
theorem lits0_wp (ho : o.op = .buildSlice 43 0 #[]) (h : ∀ v w', GrowS w w' v [] → Below w.heap.size w w' → K (a.put o.dst v) w') : o.wp Tryz.prog a w K Q := by
  have hr : (execOp a.eval o).run Tryz.prog w = .ok (.value (.slice (some ⟨w.heap.size, 0, none⟩) 0 0)) (w.alloc (.cells #[] 9)) := by
    unfold execOp
    simp only [ho]
    kernel_rfl
  unfold Oper.wp
  rw [hr]
  exact h _ _ ⟨own_empty w _ (Nat.le_refl _) _ _, Ext.alloc _ _⟩ (Ext.alloc _ _)
end
theorem infoAtt : (Tryz.prog.info? 60).map (fun i => (i.zero, i.size, i.bytes)) = some (some (.agg #[.string ByteArray.empty, .slice none 0 0]), Elem.att.k, 40) := by kernel_rfl
theorem infoEnt : (Tryz.prog.info? 38).map (fun i => (i.zero, i.size, i.bytes)) = some (some (.agg #[.string ByteArray.empty, .slice none 0 0]), Elem.ent.k, 40) := by kernel_rfl
theorem cell_lb {w wr : World} {B : Nat} {p : Addr} {v : Value} (h : w.cell? p = some v) (hp : p.block < B) (hx : Below B w wr) : ∀ w', Below B wr w' → w'.cell? p = some v := fun w' h' => by
  rw [Below.cell (Below.trans hx h') hp]
  exact h
def CopySays (w : World) (e0 : Ent) (e : Ending) (w' : World) : Prop := ∃ A n c, e = .returned (.agg #[.string e0.name, .slice A n c]) ∧ Row Elem.att (fun b => w.heap.size ≤ b) w' A n c e0.atts ∧ Ext w w'
set_option maxHeartbeats 4000000 in
theorem rcopy_any {S : Nat → Prop} {A : Option Addr} {n c : Nat} {w : World} {nm : ByteArray} {l : List Att} (h : Row Elem.att S w A n c l) (hm : l.length ≤ 2000000) (hv : ∀ a ∈ l, a.vals.length ≤ 8796093022208) :
    Calls Tryz.prog 38 #[.agg #[.string nm, .slice A n c]] w (CopySays w ⟨nm, l⟩) := by
  have HR := hid h
  have HLN := hid h.len
  have HM := hid hm
  have HV := hid hv
  have hn : n ≤ 9223372036854775807 := by have := h.cap; have := h.most; simp only [maxLen] at this; omega
  unfold CopySays
  clear h hm hv
  have HB0 := hid (((Bx.make (Ext.refl w) #[.string nm, .slice A n c] 38).later (Ext.alloc _ (.cells #[.string ⟨#[]⟩, .slice none 0 0] 38))))
  have HB1 := hid (Bx.make (Ext.alloc w (.cells #[.string nm, .slice A n c] 38)) #[.string ⟨#[]⟩, .slice none 0 0] 38)
  go_enter Tryz.func38, Tryz.ntmps38
  go_wp2
  generalize hw1 : (w.alloc (.cells #[.string nm, .slice A n c] 38)).alloc (.cells #[.string ⟨#[]⟩, .slice none 0 0] 38) = w1 at *
  have hs1 : w1.heap.size = w.heap.size + 1 + 1 := by rw [← hw1]; simp
  have HS1 := hid hs1
  rw [show (w.alloc (.cells #[.string nm, .slice A n c] 38)).heap.size = w.heap.size + 1 by simp] at HB1
  clear hw1
  have HX1 : Hid (Ext w w1) := HB0.out.ext
  have hvt : ∀ (i : Nat) x, l[i]? = some x → l.take (i + 1) = l.take i ++ [x] := fun i x hx => by rw [List.take_add_one, hx]; rfl
  have HVT := hid hvt
  clear hvt
  go_loopw [11] (fun i wr => ∃ (j : Nat) (v : Value), j ≤ n ∧ i = .int .i64 j ∧ Hid (GrowR Elem.att 60 (some (w.heap.size + 1 + 1)) w1 wr v (l.take j)) ∧ Hid (Bx w1 wr (w.heap.size + 1 + 1) 38 #[.string nm, v])) (fun i _ => n - (intOf i).toNat)
  case atStart =>
    refine ⟨0, _, by omega, rfl, GrowR.nil (Ext.alloc _ _) (fun g hg => by injection hg with hg; subst hg; rw [HS1.out]; simp [HS1.out]), ?_⟩
    have := Bx.make (Ext.refl w1) #[.string nm, .slice none 0 0] 38
    rw [HS1.out] at this
    exact this
  case round =>
    obtain ⟨j, v, hj, rfl, HGR, HBN⟩ := hrel
    have HBR := hid (HB0.out.later HGR.out.ext)
    by_cases hlt : j < n
    · obtain ⟨b1, o1, v1, x1, rfl, g1, -, ⟨A1, n1, c1, rfl, r1⟩, q1⟩ := HR.out.at_ hlt
      have e10 := q1 0 _ rfl
      have e11 := q1 1 _ rfl
      simp only [Elem.att, Nat.add_zero] at e10 e11
      have R1 := hid r1
      have hbl := World.block_lt_of_cell? w _ e10
      have E10 := hid (cell_later e10 _ HX1.out)
      have E11 := hid (cell_later e11 _ HX1.out)
      have HBL : Hid (b1 < w.heap.size + 1 + 1) := by show _ < _; simp only at hbl; omega
      have HNB := hid (HGR.out.apart _ rfl).1
      clear e10 e11 hbl
      have HTK := hid (HVT.out _ _ g1)
      have HVX := hid (HV.out x1 (List.mem_of_getElem? g1))
      have HLT : Hid ((l.take j).length ≤ 4000000) := by show _ ≤ _; rw [List.length_take]; have := HLN.out; have := HM.out; omega
      have p1 := HBR.out.cell (i := 1) rfl
      have hz1 := HS1.out
      have hzr := ext_sz HGR.out.ext
      clear q1 r1 g1
      go_wp2
      refine wp_region_planB (w.heap.size+1+1) (.read 0 (.read 2 (.read 3 (.read 4 (.read 5 (.read 6 (.read 7 (.read 9 (.read 10 (.read 11 (.read 12 (.read 13 (.read 14 (.alt 1 (.main 8 (.main 15 (.read 16 (.main 17 (.main 18 (.read 19 (.main 20 .done))))))) (.main 8 (.alt 1 (.main 15 (.read 16 (.main 17 (.main 18 (.read 19 (.main 20 .done)))))) (.main 15 (.read 16 (.alt 1 (.main 17 (.main 18 (.read 19 (.main 20 .done)))) (.main 17 (.main 1 (.main 18 (.read 19 (.main 20 .done)))))))))))))))))))))))) (by kernel_rfl) (by kernel_rfl) ?_
      intro wD hxD
      have XB : Hid (Below (w.heap.size + 1 + 1) wD wD) := Below.refl _ _
      have HGR' := hid (HGR.out.later hxD)
      have HBN' := hid (HBN.out.later hxD)
      have HGX := hid (HGR'.out.ext)
      have hxf := HGR.out.ext.trans hxD
      unfold Ext at hxf
      rw [HS1.out] at hxf
      have c0 := cell_lb E10.out HBL.out hxf
      have c1' := cell_lb E11.out HBL.out hxf
      have p1' := cell_lb (HB0.out.cell (i := 1) rfl) (show w.heap.size < w.heap.size + 1 + 1 by omega) hxf
      have HSZ : Hid (w.heap.size + 1 + 1 ≤ wD.heap.size) := by show _ ≤ _; rw [← HS1.out]; exact ext_sz HGX.out
      clear hxf p1
      repeat' (first
        | (refine walksB_move rfl rfl ?_; simp only [Act.put, Act.eval, List.setIfInBounds_toArray, List.set_cons_zero, List.set_cons_succ, Array.getD_eq_getD_getElem?, List.getElem?_toArray, List.getElem?_cons_zero, List.getElem?_cons_succ, Option.getD_some])
        | (refine walksB_assign rfl rfl ?_; simp only [Act.put, Act.eval, List.setIfInBounds_toArray, List.set_cons_zero, List.set_cons_succ, Array.getD_eq_getD_getElem?, List.getElem?_toArray, List.getElem?_cons_zero, List.getElem?_cons_succ, Option.getD_some])
        | (refine walksB_skip rfl rfl ?_; simp only [Act.put, List.setIfInBounds_toArray, List.set_cons_zero, List.set_cons_succ])
        | (refine walksB_unwanted rfl rfl ?_; simp only [Act.put, List.setIfInBounds_toArray, List.set_cons_zero, List.set_cons_succ])
        | (refine walksB_read (v := ?_) rfl rfl (fun w' hE => ?_) ?_; rotate_left 1; (· ((try (have hEx := Below.trans (Hid.out XB) hE)); go_simp; (try go_bits); with_reducible rfl)); simp only [Act.put, List.setIfInBounds_toArray, List.set_cons_zero, List.set_cons_succ])
        | (refine walksB_main rfl rfl (fun K hK => ?_); (first | (refine wp_load_cell 36 (.tmp 14) rfl ⟨w.heap.size + 1 + 1, 1, none⟩ rfl v (by first | exact HBN'.out.cell (i := 1) rfl | exact cell_later (HBN'.out.cell (i := 1) rfl) _ (Ext.alloc _ _)) (fun _ => by kernel_rfl) ?_) | (refine lits0_wp rfl ?_; intro v7 w7 hg7 hb7; have HG7 := hid hg7; have HGR0 := HGR'; have HBN0 := HBN'; have HGR'' := hid (HGR'.out.later hg7.ext); have HBN'' := hid (HBN'.out.later hg7.ext); clear HGR' HBN' HGX; have HGR' := HGR''; have HBN' := HBN''; have HGX := hid HGR'.out.ext; clear HGR'' HBN''; have hb7' := Below.mono hb7 HSZ.out; clear hb7 hg7; have XB' := hid (Below.trans (Hid.out XB) (hb7')); clear XB; have XB := XB'; clear XB') | (refine append_strs_wp2 (.tmp 22) (.tmp 28) rfl v7 [] rfl HG7.out A1 n1 c1 x1.vals rfl R1.out.len ((R1.out.ext (HX1.out.trans HGX.out)).str_cells) (by have h1 := R1.out.len; have h2 := HVX.out; simp only [List.length_nil]; omega) ?_; intro v8 w8 hg8 hb8; clear HGR' HBN' HGX; have HGR' := hid (HGR0.out.later hg8.ext); have HBN' := hid (HBN0.out.later hg8.ext); have HGX := hid HGR'.out.ext; have HSW : Hid (w.heap.size + 1 + 1 ≤ w8.heap.size) := (by (show _ ≤ _); rw [← HS1.out]; exact ext_sz HGX.out); obtain ⟨A9, c9, rfl, hr9⟩ := hg8.row; simp only [List.length_map, List.nil_append] at hr9; have HE9 := hid (HGR0.out.fresh (Ext.refl _) (Nat.le_refl _) (u := [.string x1.type, .slice A9 x1.vals.length c9]) (x := x1) ⟨A9, _, c9, rfl, hr9⟩); have hb8' := Below.mono hb8 HSZ.out; clear hb8 hg8 hr9; have XB' := hid (Below.trans (Hid.out XB) (hb8')); clear XB; have XB := XB'; clear XB') | (refine append_el_wp Tryz.underlying36 infoAtt rfl (by decide) (.tmp 15) (.tmp 31) rfl v (l.take j) rfl HGR'.out (u := [.string x1.type, .slice A9 x1.vals.length c9]) x1 HE9.out (by intro c hc; simp at hc; rcases hc with rfl | rfl <;> rfl) rfl rfl HLT.out ?_; intro v' w9 k1 k2 k3; obtain ⟨A6, c6, rfl, -⟩ := k1.row; simp only [List.length_append, List.length_cons, List.length_nil, Nat.zero_add] at k1; have HG9 := hid k1; have HB9 := hid ((HBN'.out.later (Ext.alloc _ _)).grown k2 HNB.out k3); have n1 := HB9.out.cell (i := 1) rfl; have f1 := HB9.out.frozen 1; rw [HS1.out] at k3; clear k1 k2)); refine hK _ _ (by first | assumption | exact Below.refl _ _ | exact Below.mono (Ext.alloc _ _) (Hid.out HSW) | exact Below.setCell (p := ⟨_, _, _⟩) (Below.refl _ _) (Nat.le_refl _) _) ?_; clear hK K; try simp only [Act.put, List.setIfInBounds_toArray, List.set_cons_zero, List.set_cons_succ])
        | (refine walksB_alt ?_ ?_)
        | (refine walksB_main rfl rfl (fun K hK => ?_); go_wp2_with (fail); refine hK _ _ (by first | assumption | exact Below.refl _ _ | exact Below.mono (Ext.alloc _ _) (Hid.out HSW) | exact Below.setCell (p := ⟨_, _, _⟩) (Below.refl _ _) (Nat.le_refl _) _) ?_; clear hK K; try simp only [Act.put, List.setIfInBounds_toArray, List.set_cons_zero, List.set_cons_succ]))
      all_goals
        refine walksB_done ?_
        go_wp2
        refine ⟨⟨j + 1, _, by omega, by go_num, ?_, HB9.out.set1 _⟩, by simp [intOf]; omega⟩
        rw [HTK.out]
        have h9 := HG9.out.setL 1 (.slice A6 ((l.take j).length + 1) c6)
        simp only [List.length_take] at h9
        exact h9
    · obtain rfl : j = n := by omega
      have hgr := HGR.out
      rw [List.take_of_length_le (Nat.le_of_eq HLN.out.symm)] at hgr
      obtain ⟨A2, c2, rfl, hr2⟩ := hgr.row
      have HR2 := hid hr2
      have n0 := HBN.out.cell (i := 0) rfl
      have n1 := HBN.out.cell (i := 1) rfl
      have HB := HB1.out.later HGR.out.ext
      have r0 := HB.cell (i := 0) rfl
      have r1 := HB.cell (i := 1) rfl
      have f0 := HB.frozen 0
      have f1 := HB.frozen 1
      have HBY := hid HB
      clear HB hr2 hgr
      go_wp2
      (try simp only [Exit.inBlock, Exit.then])
      refine ret_cell1 _ rfl rfl ((HBY.out.set0 (.string nm)).set1 (.slice A2 l.length c2)) Tryz.underlying38 rfl (by kernel_rfl) rfl ?_
      refine ⟨A2, l.length, c2, rfl, ?_, ((HBY.out.set0 (.string nm)).set1 (.slice A2 l.length c2)).ext⟩
      have hz1 := HS1.out
      refine (HR2.out.same (w' := _) fun b hb => ?_).mono fun b _ hb => ?_
      · have hne : b ≠ w.heap.size + 1 := by have hb' : w1.heap.size ≤ b := hb; omega
        rw [heap_setCell_other _ _ _ _ hne, heap_setCell_other _ _ _ _ hne]
      · have hb' : w1.heap.size ≤ b := hb
        show w.heap.size ≤ b
        omega
set_option maxHeartbeats 2000000 in
theorem rcopyall_any {S : Nat → Prop} {A : Option Addr} {n c : Nat} {w : World} {l : List Ent} (h : Row Elem.ent S w A n c l) (hm : l.length ≤ 2000000) (hv : ∀ e ∈ l, e.atts.length ≤ 2000000 ∧ ∀ a ∈ e.atts, a.vals.length ≤ 8796093022208) :
    Calls Tryz.prog 33 #[.slice A n c] w fun e w' => ∃ A' n' c', e = .returned (.slice A' n' c') ∧ Row Elem.ent (fun b => w.heap.size ≤ b) w' A' n' c' l ∧ Ext w w' := by
  have HR := hid h
  have HLN := hid h.len
  have HM := hid hm
  have HV := hid hv
  have hn : n ≤ 9223372036854775807 := by have := h.cap; have := h.most; simp only [maxLen] at this; omega
  clear h hm hv
  go_enter Tryz.func33, Tryz.ntmps33
  go_wp2
  go_loopw [3, 7] (fun v i wr => ∃ j : Nat, j ≤ n ∧ i = .int .i64 j ∧ Hid (GrowR Elem.ent 38 none w wr v (l.take j))) (fun _ i _ => n - (intOf i).toNat)
  case atStart => exact ⟨0, by omega, rfl, GrowR.nil (Ext.refl _) (fun g hg => by cases hg)⟩
  case round =>
    obtain ⟨j, hj, rfl, HGR⟩ := hrel
    by_cases hlt : j < n
    · obtain ⟨b1, o1, v1, x1, rfl, g1, -, ⟨A1, n1, c1, rfl, r1⟩, q1⟩ := (HR.out.ext HGR.out.ext).at_ hlt
      have e10 := q1 0 _ rfl
      have e11 := q1 1 _ rfl
      simp only [Elem.ent, Nat.add_zero] at e10 e11
      have hvx := HV.out x1 (List.mem_of_getElem? g1)
      have HCP : Calls Tryz.prog 38 #[.agg #[.string x1.name, .slice A1 n1 c1]] wr (CopySays wr ⟨x1.name, x1.atts⟩) := rcopy_any r1 hvx.1 hvx.2
      unfold CopySays at HCP
      have HTK : Hid (l.take (j + 1) = l.take j ++ [x1]) := by show _ = _; rw [List.take_add_one, g1]; rfl
      have HLT : Hid ((l.take j).length ≤ 4000000) := by show _ ≤ _; rw [List.length_take]; have := HLN.out; have := HM.out; omega
      clear q1 r1 g1 hvx
      go_wp2_with (first
        | (go_at_call 38; (with_reducible refine HCP.mono ?_); rintro e w2 ⟨A2, n2, c2, rfl, hr2, hx2⟩; have HE2 := hid (HGR.out.fresh (Ext.refl _) (Nat.le_refl _) (u := [.string x1.name, .slice A2 n2 c2]) (x := x1) ⟨A2, n2, c2, rfl, hr2⟩); have HG2 := hid (HGR.out.later hx2); clear hr2 hx2)
        | (at_builtin; refine append_el Tryz.underlying22 infoEnt rfl (by decide) rfl _ _ rfl _ _ rfl HG2.out (u := [.string x1.name, .slice A2 n2 c2]) x1 HE2.out (by intro c hc; simp at hc; rcases hc with rfl | rfl <;> rfl) rfl rfl HLT.out ?_; intro v' w3 hg3 _ _; have HG3 := hid hg3; clear hg3))
      exact ⟨⟨j + 1, by omega, by go_num, by rw [HTK.out]; exact HG3⟩, by simp [intOf]; omega⟩
    · obtain rfl : j = n := by omega
      have hgr := HGR.out
      rw [List.take_of_length_le (Nat.le_of_eq HLN.out.symm)] at hgr
      obtain ⟨A2, c2, rfl, hr2⟩ := hgr.row
      have HR2 := hid hr2
      have HX := hid hgr.ext
      clear hgr hr2 HGR
      go_wp2
      go_ret
      exact ⟨A2, _, c2, rfl, HR2.out, HX.out⟩
end Go.Proofs.YtencmdpjiafnaaaGreatDoor
