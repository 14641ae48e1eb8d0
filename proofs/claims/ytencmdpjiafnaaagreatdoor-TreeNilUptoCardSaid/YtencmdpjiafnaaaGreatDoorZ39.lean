import Derived.Test.YtencmdpjiafnaaaGreatDoorZ38
import Derived.Test.YtencmdpjiafnaaaGreatDoorRows
/- The walk of vergerref09's set: it answers some list. -/
namespace Go.Proofs.YtencmdpjiafnaaaGreatDoor
open Go.RowKit
set_option maxRecDepth 100000
set_option linter.unusedSimpArgs false
set_option linter.unusedVariables false

/-- Some attributes, of so many, of bounded values. -/
def RSetSays (S : Nat → Prop) (w : World) (nm : ByteArray) (l : List Att) (vs : List ByteArray) (e : Ending) (w' : World) : Prop :=
  ∃ A n c l', e = .returned (.agg #[.string nm, .slice A n c]) ∧ Row Elem.att (fun b => S b ∨ w.heap.size ≤ b) w' A n c l' ∧ l'.length ≤ l.length + 1 ∧ (∀ a ∈ l', a ∈ l ∨ a.vals = vs) ∧ Ext w w'
/-- What is known of the list so far. -/
def SetSo (l : List Att) (vs : List ByteArray) (j : Nat) (laid : Bool) (l' : List Att) : Prop := l'.length ≤ j + (if laid then 1 else 0) ∧ ∀ a ∈ l', a ∈ l ∨ a.vals = vs
theorem SetSo.len {l : List Att} {vs : List ByteArray} {j : Nat} {b : Bool} {l' : List Att} (h : SetSo l vs j b l') : l'.length ≤ j + 1 := by have := h.1; cases b <;> simp at this <;> omega
theorem SetSo.put {l : List Att} {vs : List ByteArray} {j : Nat} {l' : List Att} (h : SetSo l vs j false l') (t : ByteArray) : SetSo l vs j true (l' ++ [⟨t, vs⟩]) :=
  ⟨by have := h.1; simp at this ⊢; omega, fun a ha => by rcases List.mem_append.1 ha with ha | ha; exact h.2 a ha; simp at ha; subst ha; exact .inr rfl⟩
theorem SetSo.keep {l : List Att} {vs : List ByteArray} {j : Nat} {b : Bool} {l' : List Att} (h : SetSo l vs j b l') {x : Att} (hx : l[j]? = some x) : SetSo l vs (j + 1) b (l' ++ [x]) :=
  ⟨by have := h.1; simp; omega, fun a ha => by rcases List.mem_append.1 ha with ha | ha; exact h.2 a ha; simp at ha; subst ha; exact .inl (List.mem_of_getElem? hx)⟩
theorem SetSo.skip {l : List Att} {vs : List ByteArray} {j : Nat} {b : Bool} {l' : List Att} (h : SetSo l vs j b l') : SetSo l vs (j + 1) b l' := ⟨by have := h.1; omega, h.2⟩
set_option maxHeartbeats 8000000 in
theorem rset_any {S T : Nat → Prop} {A B : Option Addr} {n c m d : Nat} {l : List Att} {vs : List ByteArray} {w : World} (h : Row Elem.att S w A n c l) (hvs : Row Elem.str T w B m d vs) (hT : ∀ b, b < w.heap.size → T b → S b) (nm t : ByteArray) (hl : l.length ≤ 2000000) :
    Calls Tryz.prog 130 #[.agg #[.string nm, .slice A n c], .string t, .slice B m d] w (RSetSays S w nm l vs) := by
  have HR := hid h.lt
  have HV := hid (hvs.lt.mono (T := fun b => S b ∧ b < w.heap.size) fun b _ hb => ⟨hT b hb.2 hb.1, hb.2⟩)
  have HLN := hid h.len
  have HL := hid hl
  have hn : n ≤ 9223372036854775807 := by have := h.cap; have := h.most; simp only [maxLen] at this; omega
  have hm : m ≤ 9223372036854775807 := by have := hvs.cap; have := hvs.most; simp only [maxLen] at this; omega
  have HB0 := hid (((Bx.make (Ext.refl w) #[.string nm, .slice A n c] 38).later (Ext.alloc _ (.cells #[.string ⟨#[]⟩, .slice none 0 0] 38))))
  have HB1 := hid (Bx.make (Ext.alloc w (.cells #[.string nm, .slice A n c] 38)) #[.string ⟨#[]⟩, .slice none 0 0] 38)
  rw [show (w.alloc (.cells #[.string nm, .slice A n c] 38)).heap.size = w.heap.size + 1 by simp] at HB1
  show Calls _ _ _ _ (fun e w' => RSetSays S w nm l vs e w')
  clear h hvs hT hl
  obtain ⟨b0, hb0⟩ : ∃ b, ((m : Int) == 0) = b := ⟨_, rfl⟩
  go_enter Tryz.func130, Tryz.ntmps130
  go_wp2
  obtain ⟨w1, hw1⟩ : ∃ x, x = (w.alloc (.cells #[.string nm, .slice A n c] 38)).alloc (.cells #[.string ⟨#[]⟩, .slice none 0 0] 38) := ⟨_, rfl⟩
  rw [← hw1] at HB0 HB1 ⊢
  have hs1 : w1.heap.size = w.heap.size + 1 + 1 := by rw [hw1]; simp
  have HS1 := hid hs1
  clear hw1 hs1
  have HX1 : Hid (Ext w w1) := HB0.out.ext
  go_loopw [8, 19] (fun z i wr => ∃ (j : Nat) (laid : Bool) (v : Value) (l' : List Att), j ≤ n ∧ z = .bool laid ∧ i = .int .i64 j ∧ Hid (GrowM Elem.att (fun b => S b ∧ b < w.heap.size) 60 (some (w.heap.size + 1 + 1)) w1 wr v l') ∧ Hid (Bx w1 wr (w.heap.size + 1 + 1) 38 #[.string nm, v]) ∧ Hid (SetSo l vs j laid l')) (fun _ i _ => n - (intOf i).toNat)
  case atStart =>
    refine ⟨0, b0, _, [], by omega, rfl, rfl, GrowM.nil (Ext.alloc _ _) (fun g hg => by injection hg with hg; subst hg; rw [HS1.out]; simp [HS1.out]), ?_, ⟨by simp, by simp⟩⟩
    have := Bx.make (Ext.refl w1) #[.string nm, .slice none 0 0] 38
    rw [HS1.out] at this
    exact this
  case round =>
    obtain ⟨j, laid, v, l', hj, rfl, rfl, HGR, HBN, HSO⟩ := hrel
    have HBR := hid (HB0.out.later HGR.out.ext)
    have p1 := HBR.out.cell (i := 1) rfl
    by_cases hlt : j < n
    · obtain ⟨b1, o1, v1, x1, rfl, g1, -, ⟨A1, n1, c1, rfl, r1⟩, q1⟩ := (HR.out.ext HX1.out).at_ hlt
      have e10' := q1 0 _ rfl
      have e11' := q1 1 _ rfl
      simp only [Elem.att, Nat.add_zero] at e10' e11'
      have R1 := hid r1
      have E10 := hid e10'
      have E11 := hid e11'
      have hbl := World.block_lt_of_cell? w1 _ e10'
      have HBL : Hid (b1 < w.heap.size + 1 + 1) := by show _ < _; rw [← HS1.out]; exact hbl
      have HGJ := hid g1
      have e10 := cell_later E10.out _ HGR.out.ext
      have e11 := cell_later E11.out _ HGR.out.ext
      have HEV := hid (HGR.out.old (S' := fun b => S b ∧ b < w.heap.size) (fun _ _ h => h) (u := [.string t, .slice B m d]) (x := (⟨t, vs⟩ : Att)) ⟨B, m, d, rfl, HV.out.ext HX1.out⟩)
      have k9 : (x1.type.toList == t.toList) = false ∨ (x1.type.toList == t.toList) = true := by cases x1.type.toList == t.toList <;> simp
      have k6 : Op.bytesLess x1.type.toList t.toList = true ∨ Op.bytesLess x1.type.toList t.toList = false := by cases Op.bytesLess x1.type.toList t.toList <;> simp
      clear q1 r1 g1 e10' e11' hbl
      cases laid with
      | true =>
        rcases k9 with k9 | k9
        · clear k6
          go_wp2
          refine wp_region_planB (w.heap.size+1+1) (.read 0 (.read 2 (.read 3 (.read 4 (.read 5 (.read 6 (.alt 1 (.main 7 (.main 8 (.read 9 (.main 10 .done)))) (.main 7 (.main 1 (.main 8 (.read 9 (.main 10 .done)))))))))))) (by kernel_rfl) (by kernel_rfl) ?_
          intro wD hxD
          have XB : Hid (Below (w.heap.size + 1 + 1) wD wD) := Below.refl _ _
          have HGR' := hid (HGR.out.later hxD)
          have HBN' := hid (HBN.out.later hxD)
          have HNB := hid (HGR'.out.apart _ rfl).1
          have HE1' := hid (HGR'.out.old (S' := fun b => S b ∧ b < w.heap.size) (fun _ _ h => h) (u := [.string x1.type, .slice A1 n1 c1]) (x := x1) ⟨A1, n1, c1, rfl, R1.out⟩)
          have hxf := HGR.out.ext.trans hxD
          unfold Ext at hxf
          rw [HS1.out] at hxf
          have c0 := cell_lb E10.out HBL.out hxf
          have c1' := cell_lb E11.out HBL.out hxf
          have p1' := cell_lb (HB0.out.cell (i := 1) rfl) (show w.heap.size < w.heap.size + 1 + 1 by omega) hxf
          have HSW : Hid (w.heap.size + 1 + 1 ≤ wD.heap.size) := by show _ ≤ _; rw [← HS1.out]; exact ext_sz HGR'.out.ext
          clear hxf p1 e10 e11
          repeat' (first
            | (refine walksB_move rfl rfl ?_; simp only [Act.put, Act.eval, List.setIfInBounds_toArray, List.set_cons_zero, List.set_cons_succ, Array.getD_eq_getD_getElem?, List.getElem?_toArray, List.getElem?_cons_zero, List.getElem?_cons_succ, Option.getD_some])
            | (refine walksB_assign rfl rfl ?_; simp only [Act.put, Act.eval, List.setIfInBounds_toArray, List.set_cons_zero, List.set_cons_succ, Array.getD_eq_getD_getElem?, List.getElem?_toArray, List.getElem?_cons_zero, List.getElem?_cons_succ, Option.getD_some])
            | (refine walksB_skip rfl rfl ?_; simp only [Act.put, List.setIfInBounds_toArray, List.set_cons_zero, List.set_cons_succ])
            | (refine walksB_unwanted rfl rfl ?_; simp only [Act.put, List.setIfInBounds_toArray, List.set_cons_zero, List.set_cons_succ])
            | (refine walksB_read (v := ?_) rfl rfl (fun w' hE => ?_) ?_; rotate_left 1; (· ((try (have hEx := Below.trans (Hid.out XB) hE)); go_simp; (try go_bits); with_reducible rfl)); simp only [Act.put, List.setIfInBounds_toArray, List.set_cons_zero, List.set_cons_succ])
            | (refine walksB_main rfl rfl (fun K hK => ?_); (first | (refine wp_load_cell 36 (.tmp 50) rfl ⟨w.heap.size + 1 + 1, 1, none⟩ rfl _ (by first | exact HBN'.out.cell (i := 1) rfl | exact cell_later (HBN'.out.cell (i := 1) rfl) _ (Ext.alloc _ _)) (fun _ => by kernel_rfl) ?_) | (refine append_m1_wp Tryz.underlying36 infoAtt rfl (by decide) (.tmp 51) (.tmp 57) rfl _ _ rfl HGR'.out (u := [.string x1.type, .slice A1 n1 c1]) x1 HE1'.out (by intro c hc; simp at hc; rcases hc with rfl | rfl <;> rfl) rfl rfl (by have h1 := HSO.out.len; have h2 := HL.out; have h3 := HLN.out; omega) ?_; intro v' w9 k1 k2 k3; obtain ⟨l2, hl2⟩ : ∃ x, x = (l' ++ [x1]).length := ⟨_, rfl⟩; obtain ⟨A6, c6, hv6, -⟩ := k1.row; rw [← hl2] at hv6; have HG9 := hid k1; have HB9 := hid ((HBN'.out.later (Ext.alloc _ _)).grown k2 HNB.out k3); subst hv6; clear hl2; have n1' := HB9.out.cell (i := 1) rfl; have f1' := HB9.out.frozen 1; rw [HS1.out] at k3; clear k1 k2)); refine hK _ _ (by first | assumption | exact Below.refl _ _ | exact Below.mono (Ext.alloc _ _) (Hid.out HSW) | exact Below.setCell (p := ⟨_, _, _⟩) (Below.refl _ _) (Nat.le_refl _) _) ?_; clear hK K; try simp only [Act.put, List.setIfInBounds_toArray, List.set_cons_zero, List.set_cons_succ])
            | (refine walksB_alt ?_ ?_)
            | (refine walksB_main rfl rfl (fun K hK => ?_); go_wp2_with (fail); refine hK _ _ (by first | assumption | exact Below.refl _ _ | exact Below.mono (Ext.alloc _ _) (Hid.out HSW) | exact Below.setCell (p := ⟨_, _, _⟩) (Below.refl _ _) (Nat.le_refl _) _) ?_; clear hK K; try simp only [Act.put, List.setIfInBounds_toArray, List.set_cons_zero, List.set_cons_succ]))
          all_goals
            refine walksB_done ?_
            go_wp2
            exact ⟨⟨j + 1, _, _, _, by omega, rfl, by go_num, HG9.out.setL 1 _, HB9.out.set1 _, HSO.out.keep HGJ.out⟩, by simp [intOf]; omega⟩
        · clear k6
          go_wp2
          exact ⟨⟨j + 1, _, _, _, by omega, rfl, by go_num, HGR, HBN, HSO.out.skip⟩, by simp [intOf]; omega⟩
      | false =>
        have m1 := HBN.out.cell (i := 1) rfl
        have fm := HBN.out.frozen 1
        rcases k6 with k6 | k6
        · rcases k9 with k9 | k9
          · go_wp2
            refine wp_region_planB (w.heap.size+1+1) (.read 0 (.read 2 (.read 3 (.read 4 (.read 5 (.read 6 (.alt 1 (.main 7 (.main 8 (.read 9 (.main 10 .done)))) (.main 7 (.main 1 (.main 8 (.read 9 (.main 10 .done)))))))))))) (by kernel_rfl) (by kernel_rfl) ?_
            intro wD hxD
            have XB : Hid (Below (w.heap.size + 1 + 1) wD wD) := Below.refl _ _
            have HGR' := hid (HGR.out.later hxD)
            have HBN' := hid (HBN.out.later hxD)
            have HNB := hid (HGR'.out.apart _ rfl).1
            have HE1' := hid (HGR'.out.old (S' := fun b => S b ∧ b < w.heap.size) (fun _ _ h => h) (u := [.string x1.type, .slice A1 n1 c1]) (x := x1) ⟨A1, n1, c1, rfl, R1.out⟩)
            have hxf := HGR.out.ext.trans hxD
            unfold Ext at hxf
            rw [HS1.out] at hxf
            have c0 := cell_lb E10.out HBL.out hxf
            have c1' := cell_lb E11.out HBL.out hxf
            have p1' := cell_lb (HB0.out.cell (i := 1) rfl) (show w.heap.size < w.heap.size + 1 + 1 by omega) hxf
            have HSW : Hid (w.heap.size + 1 + 1 ≤ wD.heap.size) := by show _ ≤ _; rw [← HS1.out]; exact ext_sz HGR'.out.ext
            clear hxf p1 e10 e11 m1 fm
            repeat' (first
              | (refine walksB_move rfl rfl ?_; simp only [Act.put, Act.eval, List.setIfInBounds_toArray, List.set_cons_zero, List.set_cons_succ, Array.getD_eq_getD_getElem?, List.getElem?_toArray, List.getElem?_cons_zero, List.getElem?_cons_succ, Option.getD_some])
              | (refine walksB_assign rfl rfl ?_; simp only [Act.put, Act.eval, List.setIfInBounds_toArray, List.set_cons_zero, List.set_cons_succ, Array.getD_eq_getD_getElem?, List.getElem?_toArray, List.getElem?_cons_zero, List.getElem?_cons_succ, Option.getD_some])
              | (refine walksB_skip rfl rfl ?_; simp only [Act.put, List.setIfInBounds_toArray, List.set_cons_zero, List.set_cons_succ])
              | (refine walksB_unwanted rfl rfl ?_; simp only [Act.put, List.setIfInBounds_toArray, List.set_cons_zero, List.set_cons_succ])
              | (refine walksB_read (v := ?_) rfl rfl (fun w' hE => ?_) ?_; rotate_left 1; (· ((try (have hEx := Below.trans (Hid.out XB) hE)); go_simp; (try go_bits); with_reducible rfl)); simp only [Act.put, List.setIfInBounds_toArray, List.set_cons_zero, List.set_cons_succ])
              | (refine walksB_main rfl rfl (fun K hK => ?_); (first | (refine wp_load_cell 36 (.tmp 50) rfl ⟨w.heap.size + 1 + 1, 1, none⟩ rfl _ (by first | exact HBN'.out.cell (i := 1) rfl | exact cell_later (HBN'.out.cell (i := 1) rfl) _ (Ext.alloc _ _)) (fun _ => by kernel_rfl) ?_) | (refine append_m1_wp Tryz.underlying36 infoAtt rfl (by decide) (.tmp 51) (.tmp 57) rfl _ _ rfl HGR'.out (u := [.string x1.type, .slice A1 n1 c1]) x1 HE1'.out (by intro c hc; simp at hc; rcases hc with rfl | rfl <;> rfl) rfl rfl (by have h1 := HSO.out.len; have h2 := HL.out; have h3 := HLN.out; omega) ?_; intro v' w9 k1 k2 k3; obtain ⟨l2, hl2⟩ : ∃ x, x = (l' ++ [x1]).length := ⟨_, rfl⟩; obtain ⟨A6, c6, hv6, -⟩ := k1.row; rw [← hl2] at hv6; have HG9 := hid k1; have HB9 := hid ((HBN'.out.later (Ext.alloc _ _)).grown k2 HNB.out k3); subst hv6; clear hl2; have n1' := HB9.out.cell (i := 1) rfl; have f1' := HB9.out.frozen 1; rw [HS1.out] at k3; clear k1 k2)); refine hK _ _ (by first | assumption | exact Below.refl _ _ | exact Below.mono (Ext.alloc _ _) (Hid.out HSW) | exact Below.setCell (p := ⟨_, _, _⟩) (Below.refl _ _) (Nat.le_refl _) _) ?_; clear hK K; try simp only [Act.put, List.setIfInBounds_toArray, List.set_cons_zero, List.set_cons_succ])
              | (refine walksB_alt ?_ ?_)
              | (refine walksB_main rfl rfl (fun K hK => ?_); go_wp2_with (fail); refine hK _ _ (by first | assumption | exact Below.refl _ _ | exact Below.mono (Ext.alloc _ _) (Hid.out HSW) | exact Below.setCell (p := ⟨_, _, _⟩) (Below.refl _ _) (Nat.le_refl _) _) ?_; clear hK K; try simp only [Act.put, List.setIfInBounds_toArray, List.set_cons_zero, List.set_cons_succ]))
            all_goals
              refine walksB_done ?_
              go_wp2
              exact ⟨⟨j + 1, _, _, _, by omega, rfl, by go_num, HG9.out.setL 1 _, HB9.out.set1 _, HSO.out.keep HGJ.out⟩, by simp [intOf]; omega⟩
          · go_wp2
            exact ⟨⟨j + 1, _, _, _, by omega, rfl, by go_num, HGR, HBN, HSO.out.skip⟩, by simp [intOf]; omega⟩
        · have HNB0 := hid (HGR.out.apart _ rfl).1
          rcases k9 with k9 | k9
          · go_wp2_with (at_builtin; refine append_m1 Tryz.underlying36 infoAtt rfl (by decide) rfl _ _ rfl _ _ rfl HGR.out (u := [.string t, .slice B m d]) ⟨t, vs⟩ HEV.out (by intro c hc; simp at hc; rcases hc with rfl | rfl <;> rfl) rfl rfl (by have h1 := HSO.out.1; have h2 := HL.out; have h3 := HLN.out; simp at h1; omega) ?_; intro v5 w5 hg5 k1 k2; obtain ⟨ln, hln⟩ : ∃ x, x = (l' ++ [(⟨t, vs⟩ : Att)]).length := ⟨_, rfl⟩; obtain ⟨A5, c5, hv5, -⟩ := hg5.row; rw [← hln] at hv5; subst hv5; have HB5 := hid ((HBN.out.later (Ext.alloc _ _)).grown k1 HNB0.out k2); have n5 := HB5.out.cell (i := 1) rfl; have f5 := HB5.out.frozen 1; have HGS := hid (hg5.setL 1 (.slice A5 ln c5)); have HBS := hid (HB5.out.set1 (.slice A5 ln c5)); have p6 := (HB0.out.later HGS.out.ext).cell (i := 1) rfl; have e10s := cell_later E10.out _ HGS.out.ext; have e11s := cell_later E11.out _ HGS.out.ext; have HSS := hid (HSO.out.put t); clear hg5 k1 k2 hln)
            refine wp_region_planB (w.heap.size+1+1) (.read 0 (.read 2 (.read 3 (.read 4 (.read 5 (.read 6 (.alt 1 (.main 7 (.main 8 (.read 9 (.main 10 .done)))) (.main 7 (.main 1 (.main 8 (.read 9 (.main 10 .done)))))))))))) (by kernel_rfl) (by kernel_rfl) ?_
            intro wD hxD
            have XB : Hid (Below (w.heap.size + 1 + 1) wD wD) := Below.refl _ _
            have HGR' := hid (HGS.out.later hxD)
            have HBN' := hid (HBS.out.later hxD)
            have HNB := hid (HGR'.out.apart _ rfl).1
            have HE1' := hid (HGR'.out.old (S' := fun b => S b ∧ b < w.heap.size) (fun _ _ h => h) (u := [.string x1.type, .slice A1 n1 c1]) (x := x1) ⟨A1, n1, c1, rfl, R1.out⟩)
            have hxf := HGS.out.ext.trans hxD
            unfold Ext at hxf
            rw [HS1.out] at hxf
            have c0 := cell_lb E10.out HBL.out hxf
            have c1' := cell_lb E11.out HBL.out hxf
            have p1' := cell_lb (HB0.out.cell (i := 1) rfl) (show w.heap.size < w.heap.size + 1 + 1 by omega) hxf
            have HSW : Hid (w.heap.size + 1 + 1 ≤ wD.heap.size) := by show _ ≤ _; rw [← HS1.out]; exact ext_sz HGR'.out.ext
            clear hxf p6 e10s e11s n5 f5
            repeat' (first
              | (refine walksB_move rfl rfl ?_; simp only [Act.put, Act.eval, List.setIfInBounds_toArray, List.set_cons_zero, List.set_cons_succ, Array.getD_eq_getD_getElem?, List.getElem?_toArray, List.getElem?_cons_zero, List.getElem?_cons_succ, Option.getD_some])
              | (refine walksB_assign rfl rfl ?_; simp only [Act.put, Act.eval, List.setIfInBounds_toArray, List.set_cons_zero, List.set_cons_succ, Array.getD_eq_getD_getElem?, List.getElem?_toArray, List.getElem?_cons_zero, List.getElem?_cons_succ, Option.getD_some])
              | (refine walksB_skip rfl rfl ?_; simp only [Act.put, List.setIfInBounds_toArray, List.set_cons_zero, List.set_cons_succ])
              | (refine walksB_unwanted rfl rfl ?_; simp only [Act.put, List.setIfInBounds_toArray, List.set_cons_zero, List.set_cons_succ])
              | (refine walksB_read (v := ?_) rfl rfl (fun w' hE => ?_) ?_; rotate_left 1; (· ((try (have hEx := Below.trans (Hid.out XB) hE)); go_simp; (try go_bits); with_reducible rfl)); simp only [Act.put, List.setIfInBounds_toArray, List.set_cons_zero, List.set_cons_succ])
              | (refine walksB_main rfl rfl (fun K hK => ?_); (first | (refine wp_load_cell 36 (.tmp 50) rfl ⟨w.heap.size + 1 + 1, 1, none⟩ rfl _ (by first | exact HBN'.out.cell (i := 1) rfl | exact cell_later (HBN'.out.cell (i := 1) rfl) _ (Ext.alloc _ _)) (fun _ => by kernel_rfl) ?_) | (refine append_m1_wp Tryz.underlying36 infoAtt rfl (by decide) (.tmp 51) (.tmp 57) rfl _ _ rfl HGR'.out (u := [.string x1.type, .slice A1 n1 c1]) x1 HE1'.out (by intro c hc; simp at hc; rcases hc with rfl | rfl <;> rfl) rfl rfl (by have h1 := HSS.out.len; have h2 := HL.out; have h3 := HLN.out; omega) ?_; intro v' w9 k1 k2 k3; obtain ⟨l2, hl2⟩ : ∃ x, x = ((l' ++ [(⟨t, vs⟩ : Att)]) ++ [x1]).length := ⟨_, rfl⟩; obtain ⟨A6, c6, hv6, -⟩ := k1.row; rw [← hl2] at hv6; have HG9 := hid k1; have HB9 := hid ((HBN'.out.later (Ext.alloc _ _)).grown k2 HNB.out k3); subst hv6; clear hl2; have n1' := HB9.out.cell (i := 1) rfl; have f1' := HB9.out.frozen 1; rw [HS1.out] at k3; clear k1 k2)); refine hK _ _ (by first | assumption | exact Below.refl _ _ | exact Below.mono (Ext.alloc _ _) (Hid.out HSW) | exact Below.setCell (p := ⟨_, _, _⟩) (Below.refl _ _) (Nat.le_refl _) _) ?_; clear hK K; try simp only [Act.put, List.setIfInBounds_toArray, List.set_cons_zero, List.set_cons_succ])
              | (refine walksB_alt ?_ ?_)
              | (refine walksB_main rfl rfl (fun K hK => ?_); go_wp2_with (fail); refine hK _ _ (by first | assumption | exact Below.refl _ _ | exact Below.mono (Ext.alloc _ _) (Hid.out HSW) | exact Below.setCell (p := ⟨_, _, _⟩) (Below.refl _ _) (Nat.le_refl _) _) ?_; clear hK K; try simp only [Act.put, List.setIfInBounds_toArray, List.set_cons_zero, List.set_cons_succ]))
            all_goals
              refine walksB_done ?_
              go_wp2
              exact ⟨⟨j + 1, _, _, _, by omega, rfl, by go_num, HG9.out.setL 1 _, HB9.out.set1 _, HSS.out.keep HGJ.out⟩, by simp [intOf]; omega⟩
          · go_wp2_with (at_builtin; refine append_m1 Tryz.underlying36 infoAtt rfl (by decide) rfl _ _ rfl _ _ rfl HGR.out (u := [.string t, .slice B m d]) ⟨t, vs⟩ HEV.out (by intro c hc; simp at hc; rcases hc with rfl | rfl <;> rfl) rfl rfl (by have h1 := HSO.out.1; have h2 := HL.out; have h3 := HLN.out; simp at h1; omega) ?_; intro v5 w5 hg5 k1 k2; obtain ⟨ln, hln⟩ : ∃ x, x = (l' ++ [(⟨t, vs⟩ : Att)]).length := ⟨_, rfl⟩; obtain ⟨A5, c5, hv5, -⟩ := hg5.row; rw [← hln] at hv5; subst hv5; have HB5 := hid ((HBN.out.later (Ext.alloc _ _)).grown k1 HNB0.out k2); have n5 := HB5.out.cell (i := 1) rfl; have f5 := HB5.out.frozen 1; have HGS := hid (hg5.setL 1 (.slice A5 ln c5)); have HBS := hid (HB5.out.set1 (.slice A5 ln c5)); have p6 := (HB0.out.later HGS.out.ext).cell (i := 1) rfl; have e10s := cell_later E10.out _ HGS.out.ext; have e11s := cell_later E11.out _ HGS.out.ext; have HSS := hid (HSO.out.put t); clear hg5 k1 k2 hln)
            exact ⟨⟨j + 1, _, _, _, by omega, rfl, by go_num, HGS, HBS, HSS.out.skip⟩, by simp [intOf]; omega⟩
    · obtain rfl : j = n := by omega
      have HR1 := hid (HB1.out.later HGR.out.ext)
      have r0 := HR1.out.cell (i := 0) rfl
      have r1 := HR1.out.cell (i := 1) rfl
      have g0 := HR1.out.frozen 0
      have g1 := HR1.out.frozen 1
      cases laid with
      | true =>
        obtain ⟨ln, hln⟩ : ∃ x, x = l'.length := ⟨_, rfl⟩
        obtain ⟨A5, c5, hv5, hr5⟩ := HGR.out.row
        rw [← hln] at hv5 hr5
        subst hv5
        have HLN2 := hid hln
        have HRR := hid hr5
        have n0 := HBN.out.cell (i := 0) rfl
        have n1 := HBN.out.cell (i := 1) rfl
        clear hln hr5
        go_wp2
        (try simp only [Exit.inBlock, Exit.then])
        have HBF := (HR1.out.set0 (.string nm)).set1 (.slice A5 ln c5)
        refine ret_cell1 _ rfl rfl HBF Tryz.underlying38 rfl (by kernel_rfl) rfl ?_
        refine ⟨A5, ln, c5, l', rfl, ?_, by have h1 := HSO.out.1; have h2 := HLN.out; simp at h1; omega, HSO.out.2, HBF.ext⟩
        refine (HRR.out.same (w' := _) fun b hb => ?_).mono fun b _ hb => ?_
        · have hne : b ≠ w.heap.size + 1 := by rcases hb with hb | hb; (omega); (have h3 : w1.heap.size ≤ b := hb; have h4 := HS1.out; omega)
          rw [heap_setCell_other _ _ _ _ hne, heap_setCell_other _ _ _ _ hne]
        · rcases hb with hb | hb
          · exact .inl hb.1
          · right; have h3 : w1.heap.size ≤ b := hb; have h4 := HS1.out; omega
      | false =>
        have m1 := HBN.out.cell (i := 1) rfl
        have fm := HBN.out.frozen 1
        have HNB0 := hid (HGR.out.apart _ rfl).1
        have HEV := hid (HGR.out.old (S' := fun b => S b ∧ b < w.heap.size) (fun _ _ h => h) (u := [.string t, .slice B m d]) (x := (⟨t, vs⟩ : Att)) ⟨B, m, d, rfl, HV.out.ext HX1.out⟩)
        go_wp2_with (at_builtin; refine append_m1 Tryz.underlying36 infoAtt rfl (by decide) rfl _ _ rfl _ _ rfl HGR.out (u := [.string t, .slice B m d]) ⟨t, vs⟩ HEV.out (by intro c hc; simp at hc; rcases hc with rfl | rfl <;> rfl) rfl rfl (by have h1 := HSO.out.len; have h2 := HL.out; have h3 := HLN.out; omega) ?_; intro v5 w5 hg5 k1 k2; obtain ⟨ln, hln⟩ : ∃ x, x = (l' ++ [(⟨t, vs⟩ : Att)]).length := ⟨_, rfl⟩; obtain ⟨A5, c5, hv5, -⟩ := hg5.row; rw [← hln] at hv5; subst hv5; have HB5 := hid ((HBN.out.later (Ext.alloc _ _)).grown k1 HNB0.out k2); have n0 := HB5.out.cell (i := 0) rfl; have n5 := HB5.out.cell (i := 1) rfl; have f5 := HB5.out.frozen 1; have HGS := hid (hg5.setL 1 (.slice A5 ln c5)); have HBS := hid (HB5.out.set1 (.slice A5 ln c5)); have HSS := hid (HSO.out.put t); have HLN2 := hid hln; have HR5 := hid (HB1.out.later HGS.out.ext); have r5 := HR5.out.cell (i := 0) rfl; have r6 := HR5.out.cell (i := 1) rfl; have g5 := HR5.out.frozen 0; have g6 := HR5.out.frozen 1; have s0 := HBS.out.cell (i := 0) rfl; have s1 := HBS.out.cell (i := 1) rfl; clear hg5 k1 k2 hln r0 r1 g0 g1)
        (try simp only [Exit.inBlock, Exit.then])
        have HBF := (HR5.out.set0 (.string nm)).set1 (.slice A5 ln c5)
        refine ret_cell1 _ rfl rfl HBF Tryz.underlying38 rfl (by kernel_rfl) rfl ?_
        obtain ⟨A9, c9, hv9, hr9⟩ := HGS.out.row
        rw [← HLN2.out] at hv9 hr9
        injection hv9 with h1 h2 h3
        subst h1 h3
        refine ⟨A5, ln, c5, _, rfl, ?_, by have h1 := HSS.out.1; have h2 := HLN.out; simp at h1 ⊢; omega, HSS.out.2, HBF.ext⟩
        refine (hr9.same (w' := _) fun b hb => ?_).mono fun b _ hb => ?_
        · have hne : b ≠ w.heap.size + 1 := by rcases hb with hb | hb; (omega); (have h3 : w1.heap.size ≤ b := hb; have h4 := HS1.out; omega)
          rw [heap_setCell_other _ _ _ _ hne, heap_setCell_other _ _ _ _ hne]
        · rcases hb with hb | hb
          · exact .inl hb.1
          · right; have h3 : w1.heap.size ≤ b := hb; have h4 := HS1.out; omega
end Go.Proofs.YtencmdpjiafnaaaGreatDoor
/- What the bound of an '..UptoSaid' gives: after the page's own lemmas. -/
namespace Go.Proofs.YtencmdpjiafnaaaGreatDoor.bulks

theorem one_le {H : Type} (d : DataW H) : 1 ≤ Rows.uptoBulk d := by
  cases d with
  | lit l => cases l <;> simp [Rows.uptoBulk]
  | nil => simp [Rows.uptoBulk]
  | ptr d => simp [Rows.uptoBulk]
  | slice elems spare => simp [Rows.uptoBulk]
  | agg parts => simp [Rows.uptoBulk]
  | iface t d => simp [Rows.uptoBulk]
  | map entries => simp [Rows.uptoBulk]
  | held h => simp [Rows.uptoBulk]
theorem part_le {H : Type} {d : DataW H} {l : List (DataW H)} (h : d ∈ l) : Rows.uptoBulk d ≤ Rows.uptoBulkAll l := by
  induction l with
  | nil => cases h
  | cons x r ih =>
    simp only [Rows.uptoBulkAll]
    cases List.mem_cons.1 h with
    | inl e => subst e; omega
    | inr e => have := ih e; omega
theorem length_le {H : Type} (l : List (DataW H)) : l.length ≤ Rows.uptoBulkAll l := by
  induction l with
  | nil => simp [Rows.uptoBulkAll]
  | cons x r ih => have := one_le x; simp only [Rows.uptoBulkAll, List.length_cons]; omega
theorem slice_le {H : Type} (elems spare : List (DataW H)) : elems.length + spare.length + 1 ≤ Rows.uptoBulk (.slice elems spare) := by
  have h1 := length_le elems
  have h2 := length_le spare
  simp only [Rows.uptoBulk]
  omega
theorem slice_elems {H : Type} (elems spare : List (DataW H)) : Rows.uptoBulkAll elems + 1 ≤ Rows.uptoBulk (.slice elems spare) := by
  simp only [Rows.uptoBulk]
  omega
theorem bound {H : Type} {l : List (DataW H)} (hk : Rows.uptoSmall H l = true) : Rows.uptoBulkAll l ≤ 1048576 := of_decide_eq_true hk
/-- A slice among the arguments, by its place. -/
theorem slice_at {H : Type} {l : List (DataW H)} (hk : Rows.uptoSmall H l = true) {elems spare : List (DataW H)} (h : DataW.slice elems spare ∈ l) : elems.length + spare.length ≤ 1048575 := by
  have h1 := part_le h
  have h2 := bound hk
  have h3 := slice_le elems spare
  omega
end Go.Proofs.YtencmdpjiafnaaaGreatDoor.bulks
