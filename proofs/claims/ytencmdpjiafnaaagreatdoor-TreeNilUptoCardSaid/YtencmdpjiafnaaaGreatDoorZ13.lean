import Derived.Test.YtencmdpjiafnaaaGreatDoorZ12
/- The walk of slices.insertionSortCmpFunc at pairs. -/
namespace Go.Proofs.YtencmdpjiafnaaaGreatDoor
open Go.RowKit
set_option maxRecDepth 100000
set_option linter.unusedSimpArgs false
set_option linter.unusedVariables false

abbrev cmpV : Value := .func (.func 138) #[] #[]
def ltO (l : List Ava) (i j : Nat) : Bool := match l[i]?, l[j]? with | some x, some y => ltB x.type y.type | _, _ => false
/-- A pair sinks to its place. -/
def sinkF (a : Nat) : Nat → List Ava → List Ava
  | 0, l => l
  | j + 1, l => if a < j + 1 ∧ ltO l (j + 1) j = true then sinkF a j (swapL l (j + 1) j) else l
/-- .. so many of them, one behind the other. -/
def insF (a : Nat) : Nat → List Ava → List Ava
  | 0, l => l
  | k + 1, l => sinkF a (a + k + 1) (insF a k l)
theorem sinkF_sub (a : Nat) : ∀ (j : Nat) (l : List Ava), Sub l (sinkF a j l)
  | 0, l => Sub.refl l
  | j + 1, l => by
    unfold sinkF
    split
    · exact (swapL_sub l _ _).trans (sinkF_sub a j _)
    · exact Sub.refl l
theorem insF_sub (a : Nat) : ∀ (k : Nat) (l : List Ava), Sub l (insF a k l)
  | 0, l => Sub.refl l
  | k + 1, l => (insF_sub a k l).trans (sinkF_sub a _ _)
set_option maxHeartbeats 4000000 in
theorem insort_any {w0 w : World} {g n cap a b : Nat} {l : List Ava} (h : GrowA 129 w0 w (.slice (some ⟨g, 0, none⟩) n cap) l) (hb : b ≤ n) (ha : a ≤ 4000000) (hn : n ≤ 4000000) :
    Calls Tryz.prog 207 #[.slice (some ⟨g, 0, none⟩) n cap, .int .i64 a, .int .i64 b, cmpV] w fun e w' =>
      e = .returned (.tuple #[]) ∧ GrowA 129 w0 w' (.slice (some ⟨g, 0, none⟩) n cap) (insF a (b - (a + 1)) l) ∧ Below w0.heap.size w w' := by
  have HG0 := hid h
  have HLN := hid h.n_eq
  clear h
  go_enter Tryz.func207, Tryz.ntmps207
  go_wp2
  go_loopw [8] (fun i wr => ∃ (k : Nat), a + 1 + k ≤ max b (a + 1) ∧ i = .int .i64 ((a + 1 + k : Nat) : Int) ∧ Hid (GrowA 129 w0 wr (.slice (some ⟨g, 0, none⟩) n cap) (insF a k l) ∧ Below w0.heap.size w wr)) (fun i _ => b - (intOf i).toNat)
  case atStart => exact ⟨0, by omega, by go_num, HG0, Below.refl _ _⟩
  case round =>
    obtain ⟨k, hk, rfl, HGR⟩ := hrel
    by_cases hlt : a + 1 + k < b
    · have hlt' : ((a + 1 + k : Nat) : Int) < (b : Int) := by omega
      have hkn : a + 1 + k < n := by omega
      clear hk
      generalize hik : a + 1 + k = i0 at *
      have HIK := hid hik
      clear hik
      go_wp2
      go_loopw [9] (fun i wr' => ∃ (j : Nat) (m : List Ava), j ≤ i0 ∧ a ≤ j ∧ i = .int .i64 j ∧ Hid (GrowA 129 w0 wr' (.slice (some ⟨g, 0, none⟩) n cap) m ∧ Below w0.heap.size w wr') ∧ Hid (sinkF a j m = insF a (k + 1) l) ∧ Hid (m.length = n)) (fun i _ => (intOf i).toNat)
      case atStart => exact ⟨i0, insF a k l, by omega, by have := HIK.out; omega, rfl, HGR, by show sinkF a i0 _ = sinkF a (a + k + 1) _; rw [← HIK.out]; congr 1; omega, by show _ = _; rw [(insF_sub a k l).1, HLN.out]⟩
      case round =>
        obtain ⟨j, m, hj, haj, rfl, HGM, HS, HML⟩ := hrel
        by_cases hja : a < j
        · obtain ⟨q, hq⟩ : ∃ q, j = q + 1 := ⟨j - 1, by omega⟩
          have hml := HML.out
          obtain ⟨x, hx⟩ : ∃ x, m[j]? = some x := ⟨_, List.getElem?_eq_getElem (show j < m.length by omega)⟩
          obtain ⟨y, hy⟩ : ∃ y, m[q]? = some y := ⟨_, List.getElem?_eq_getElem (show q < m.length by omega)⟩
          have z0 : (j : Int) - 1 = (q : Int) := by omega
          have z2 : (j : Int) < (n : Int) := by omega
          have z3 : (q : Int) < (n : Int) := by omega
          have hja' : (a : Int) < (j : Int) := by omega
          have hqn : q < n := by omega
          have HKA : Hid (j < m.length) := by show _ < _; omega
          have HKB : Hid (q < m.length) := by show _ < _; omega
          have HXA := hid hx
          have HYB := hid hy
          have x0 := HGM.out.1.at0 hx
          have x1 := HGM.out.1.at1 hx
          have y0 := HGM.out.1.at0 hy
          have y1 := HGM.out.1.at1 hy
          have HLT := hid (cmpA_lt x y)
          have HSW := hid (swapL_at hx hy)
          have HSN : Hid (sinkF a j m = if a < j ∧ ltB x.type y.type = true then sinkF a q (swapL m j q) else m) := by
            show _ = _
            rw [hq, sinkF]
            rw [hq] at hx
            unfold ltO
            rw [hx, hy]
          have hql : q < j := by omega
          have haq : a ≤ q := by omega
          clear hx hy hml hq
          go_wp2
          refine wp_region_plan (.read 0 (.read 1 (.read 2 (.read 3 (.read 4 (.read 5 (.read 6 (.read 7 (.read 8 (.read 9 (.read 10 (.read 11 (.read 12 (.read 13 (.main 14 (.read 15 (.read 16 .done))))))))))))))))) (by kernel_rfl) (by kernel_rfl) ?_
          intro wD hxD
          have XE : Hid (Ext wD wD) := Ext.refl _
          have HGE := hid (HGM.out.1.later hxD)
          have px0 := cell_later (cell_later x0 _ hxD)
          have px1 := cell_later (cell_later x1 _ hxD)
          have py0 := cell_later (cell_later y0 _ hxD)
          have py1 := cell_later (cell_later y1 _ hxD)
          cases hlb : ltB x.type y.type with
          | false =>
            have hc : decide (cmpA x y < 0) = false := by rw [decide_eq_false_iff_not, HLT.out, hlb]; decide
            have HFI : Hid (insF a (k + 1) l = m) := by show _ = _; rw [← HS.out, HSN.out, hlb, if_neg (by simp)]
            clear hlb
            repeat' (first
              | (refine walks_move rfl rfl ?_; simp only [Act.put, Act.eval, List.setIfInBounds_toArray, List.set_cons_zero, List.set_cons_succ, Array.getD_eq_getD_getElem?, List.getElem?_toArray, List.getElem?_cons_zero, List.getElem?_cons_succ, Option.getD_some])
              | (refine walks_assign rfl rfl ?_; simp only [Act.put, Act.eval, List.setIfInBounds_toArray, List.set_cons_zero, List.set_cons_succ, Array.getD_eq_getD_getElem?, List.getElem?_toArray, List.getElem?_cons_zero, List.getElem?_cons_succ, Option.getD_some])
              | (refine walks_skip rfl rfl ?_; simp only [Act.put, List.setIfInBounds_toArray, List.set_cons_zero, List.set_cons_succ])
              | (refine walks_unwanted rfl rfl ?_; simp only [Act.put, List.setIfInBounds_toArray, List.set_cons_zero, List.set_cons_succ])
              | (refine walks_read (v := ?_) rfl rfl (fun w' hE => ?_) ?_; rotate_left 1; (· ((try (have hEx := Ext.trans (Hid.out XE) hE)); go_simp; (try go_bits); with_reducible rfl)); simp only [Act.put, List.setIfInBounds_toArray, List.set_cons_zero, List.set_cons_succ])
              | (refine walks_alt ?_ ?_)
              | (refine walks_main rfl rfl (fun K hK => ?_); go_wp2_with ((go_at_call 138; (with_reducible refine (cmp_any x y _).mono ?_); rintro e w2 ⟨rfl, hx2⟩; have XE' := hid (Ext.trans (Hid.out XE) hx2); clear XE; have XE := XE'; clear XE')); refine hK _ _ (by first | assumption | exact Ext.alloc _ _ | exact Ext.refl _) ?_; clear hK K; try simp only [Act.put, List.setIfInBounds_toArray, List.set_cons_zero, List.set_cons_succ]))
            refine walks_done ?_
            clear px0 px1 py0 py1 x0 x1 y0 y1
            go_wp2
            refine ⟨⟨k + 1, by have := HIK.out; omega, by have := HIK.out; go_num, ?_⟩, by have := HIK.out; simp [intOf]; omega⟩
            rw [HFI.out]
            exact ⟨HGE.out.later XE.out, Below.trans HGM.out.2 (Below.mono (hxD.trans XE.out) (ext_sz HGM.out.1.ext))⟩
          | true =>
            have hc : cmpA x y < 0 := HLT.out.2 hlb
            have HFI : Hid (sinkF a q (swapL m j q) = insF a (k + 1) l) := by show _ = _; rw [← HS.out, HSN.out, hlb, if_pos ⟨hja, rfl⟩]
            clear hlb
            repeat' (first
              | (refine walks_move rfl rfl ?_; simp only [Act.put, Act.eval, List.setIfInBounds_toArray, List.set_cons_zero, List.set_cons_succ, Array.getD_eq_getD_getElem?, List.getElem?_toArray, List.getElem?_cons_zero, List.getElem?_cons_succ, Option.getD_some])
              | (refine walks_assign rfl rfl ?_; simp only [Act.put, Act.eval, List.setIfInBounds_toArray, List.set_cons_zero, List.set_cons_succ, Array.getD_eq_getD_getElem?, List.getElem?_toArray, List.getElem?_cons_zero, List.getElem?_cons_succ, Option.getD_some])
              | (refine walks_skip rfl rfl ?_; simp only [Act.put, List.setIfInBounds_toArray, List.set_cons_zero, List.set_cons_succ])
              | (refine walks_unwanted rfl rfl ?_; simp only [Act.put, List.setIfInBounds_toArray, List.set_cons_zero, List.set_cons_succ])
              | (refine walks_read (v := ?_) rfl rfl (fun w' hE => ?_) ?_; rotate_left 1; (· ((try (have hEx := Ext.trans (Hid.out XE) hE)); go_simp; (try go_bits); with_reducible rfl)); simp only [Act.put, List.setIfInBounds_toArray, List.set_cons_zero, List.set_cons_succ])
              | (refine walks_alt ?_ ?_)
              | (refine walks_main rfl rfl (fun K hK => ?_); go_wp2_with ((go_at_call 138; (with_reducible refine (cmp_any x y _).mono ?_); rintro e w2 ⟨rfl, hx2⟩; have XE' := hid (Ext.trans (Hid.out XE) hx2); clear XE; have XE := XE'; clear XE')); refine hK _ _ (by first | assumption | exact Ext.alloc _ _ | exact Ext.refl _) ?_; clear hK K; try simp only [Act.put, List.setIfInBounds_toArray, List.set_cons_zero, List.set_cons_succ]))
            refine walks_done ?_
            clear px0 px1 py0 py1 x0 x1 y0 y1
            have HGW := hid (HGE.out.later XE.out)
            have HBW : Hid (Below w0.heap.size w w2) := Below.trans HGM.out.2 (Below.mono (hxD.trans XE.out) (ext_sz HGM.out.1.ext))
            clear hxD XE
            go_wp2
            refine wp_region_planB w0.heap.size (.read 0 (.read 1 (.read 2 (.read 3 (.read 4 (.read 5 (.read 6 (.read 7 (.read 8 (.read 10 (.read 11 (.read 12 (.alt 9 (.main 13 (.read 14 (.main 15 (.read 16 (.main 17 .done))))) (.main 13 (.main 9 (.read 14 (.main 15 (.read 16 (.main 17 .done))))))))))))))))))) (by kernel_rfl) (by kernel_rfl) ?_
            intro wD hxD
            have XB : Hid (Below w0.heap.size wD wD) := Below.refl _ _
            have HGD := hid (HGW.out.later hxD)
            repeat' (first
              | (refine walksB_move rfl rfl ?_; simp only [Act.put, Act.eval, List.setIfInBounds_toArray, List.set_cons_zero, List.set_cons_succ, Array.getD_eq_getD_getElem?, List.getElem?_toArray, List.getElem?_cons_zero, List.getElem?_cons_succ, Option.getD_some])
              | (refine walksB_assign rfl rfl ?_; simp only [Act.put, Act.eval, List.setIfInBounds_toArray, List.set_cons_zero, List.set_cons_succ, Array.getD_eq_getD_getElem?, List.getElem?_toArray, List.getElem?_cons_zero, List.getElem?_cons_succ, Option.getD_some])
              | (refine walksB_skip rfl rfl ?_; simp only [Act.put, List.setIfInBounds_toArray, List.set_cons_zero, List.set_cons_succ])
              | (refine walksB_unwanted rfl rfl ?_; simp only [Act.put, List.setIfInBounds_toArray, List.set_cons_zero, List.set_cons_succ])
              | (refine walksB_read (v := ?_) rfl rfl (fun w' hE => ?_) ?_; rotate_left 1; (· ((try (have hEx := Below.trans (Hid.out XB) hE)); go_simp; (try go_bits); with_reducible rfl)); simp only [Act.put, List.setIfInBounds_toArray, List.set_cons_zero, List.set_cons_succ])
              | (refine walksB_main rfl rfl (fun K hK => ?_); (first | (refine load_ava_wp _ rfl (j) rfl HGD.out x HXA.out ?_) | (refine load_ava_wp _ rfl (q) rfl HGD.out y HYB.out ?_) | (refine store_ava_wp _ _ rfl (j) rfl y rfl HGD.out HKA.out ?_; intro w7 hg7 hb7; have HG7 := hid hg7; clear hg7; have XB' := hid (Below.trans (Hid.out XB) (hb7)); clear XB; have XB := XB'; clear XB') | (refine store_ava_wp _ _ rfl (q) rfl x rfl HG7.out (by rw [List.length_set]; exact HKB.out) ?_; intro w8 hg8 hb8; have HG8 := hid hg8; clear hg8; have XB' := hid (Below.trans (Hid.out XB) (hb8)); clear XB; have XB := XB'; clear XB')); refine hK _ _ (by first | assumption | exact Below.refl _ _ | exact Below.mono (Ext.alloc _ _) (Hid.out HSW) | exact Below.setCell (p := ⟨_, _, _⟩) (Below.refl _ _) (Nat.le_refl _) _) ?_; clear hK K; try simp only [Act.put, List.setIfInBounds_toArray, List.set_cons_zero, List.set_cons_succ])
              | (refine walksB_alt ?_ ?_)
              | (refine walksB_main rfl rfl (fun K hK => ?_); go_wp2_with (fail); refine hK _ _ (by first | assumption | exact Below.refl _ _ | exact Below.mono (Ext.alloc _ _) (Hid.out HSW) | exact Below.setCell (p := ⟨_, _, _⟩) (Below.refl _ _) (Nat.le_refl _) _) ?_; clear hK K; try simp only [Act.put, List.setIfInBounds_toArray, List.set_cons_zero, List.set_cons_succ]))
            all_goals
              refine walksB_done ?_
              rw [← HSW.out] at HG8
              have HBX := hid (Below.trans HBW.out (Below.trans (Below.mono hxD (ext_sz HGW.out.ext)) XB.out))
              go_wp2
              exact ⟨⟨q, _, by omega, haq, rfl, ⟨HG8.out, HBX.out⟩, HFI, by show _ = _; rw [(swapL_sub m j q).1]; exact HML.out⟩, by simp [intOf]; omega⟩
        · obtain rfl : j = a := by omega
          have hja' : decide (((j : Nat) : Int) < (j : Int)) = false := by rw [decide_eq_false_iff_not]; omega
          have HFI : Hid (insF j (k + 1) l = m) := by
            show _ = _
            rw [← HS.out]
            cases j with
            | zero => rfl
            | succ q => rw [sinkF, if_neg (by omega)]
          clear hja
          go_wp2
          refine wp_region_plan (.read 0 (.read 1 (.read 2 (.read 3 (.read 4 (.read 5 (.read 6 (.read 7 (.read 8 (.read 9 (.read 10 (.read 11 (.read 12 (.read 13 (.main 14 (.read 15 (.read 16 .done))))))))))))))))) (by kernel_rfl) (by kernel_rfl) ?_
          intro wD hxD
          have XE : Hid (Ext wD wD) := Ext.refl _
          repeat' (first
            | (refine walks_move rfl rfl ?_; simp only [Act.put, Act.eval, List.setIfInBounds_toArray, List.set_cons_zero, List.set_cons_succ, Array.getD_eq_getD_getElem?, List.getElem?_toArray, List.getElem?_cons_zero, List.getElem?_cons_succ, Option.getD_some])
            | (refine walks_assign rfl rfl ?_; simp only [Act.put, Act.eval, List.setIfInBounds_toArray, List.set_cons_zero, List.set_cons_succ, Array.getD_eq_getD_getElem?, List.getElem?_toArray, List.getElem?_cons_zero, List.getElem?_cons_succ, Option.getD_some])
            | (refine walks_skip rfl rfl ?_; simp only [Act.put, List.setIfInBounds_toArray, List.set_cons_zero, List.set_cons_succ])
            | (refine walks_unwanted rfl rfl ?_; simp only [Act.put, List.setIfInBounds_toArray, List.set_cons_zero, List.set_cons_succ])
            | (refine walks_read (v := ?_) rfl rfl (fun w' hE => ?_) ?_; rotate_left 1; (· ((try (have hEx := Ext.trans (Hid.out XE) hE)); go_simp; (try go_bits); with_reducible rfl)); simp only [Act.put, List.setIfInBounds_toArray, List.set_cons_zero, List.set_cons_succ])
            | (refine walks_alt ?_ ?_)
            | (refine walks_main rfl rfl (fun K hK => ?_); go_wp2_with (fail); refine hK _ _ (by first | assumption | exact Ext.alloc _ _ | exact Ext.refl _) ?_; clear hK K; try simp only [Act.put, List.setIfInBounds_toArray, List.set_cons_zero, List.set_cons_succ]))
          refine walks_done ?_
          have HBX := hid (Below.trans HGM.out.2 (Below.mono (hxD.trans XE.out) (ext_sz HGM.out.1.ext)))
          have HGE := hid (HGM.out.1.later (hxD.trans XE.out))
          go_wp2
          refine ⟨⟨k + 1, by have := HIK.out; omega, by have := HIK.out; go_num, ?_⟩, by have := HIK.out; simp [intOf]; omega⟩
          rw [HFI.out]
          exact ⟨HGE.out, HBX.out⟩
    · have hlt' : ¬ ((a + 1 + k : Nat) : Int) < (b : Int) := by omega
      have HFI : Hid (b - (a + 1) = k) := by show _ = _; omega
      go_wp2
      go_end0
      rw [HFI.out]
      exact ⟨rfl, HGR.out⟩
end Go.Proofs.YtencmdpjiafnaaaGreatDoor
/- The walks of slices.swapRangeCmpFunc, rotateCmpFunc at pairs: a row stays a row. -/
namespace Go.Proofs.YtencmdpjiafnaaaGreatDoor
open Go.RowKit
set_option maxRecDepth 100000
set_option linter.unusedSimpArgs false
set_option linter.unusedVariables false

/-- What the sort's steps leave: a row of as many, all of the first. -/
def SubSays (w0 w : World) (g n cap : Nat) (l : List Ava) (e : Ending) (w' : World) : Prop :=
  e = .returned (.tuple #[]) ∧ (∃ l', GrowA 129 w0 w' (.slice (some ⟨g, 0, none⟩) n cap) l' ∧ Sub l l') ∧ Below w0.heap.size w w'
set_option maxHeartbeats 4000000 in
theorem swaprange_any {w0 w : World} {g n cap a b c : Nat} {l : List Ava} (h : GrowA 129 w0 w (.slice (some ⟨g, 0, none⟩) n cap) l) (ha : a + c ≤ n) (hb : b + c ≤ n) (hn : n ≤ 4000000) :
    Calls Tryz.prog 255 #[.slice (some ⟨g, 0, none⟩) n cap, .int .i64 a, .int .i64 b, .int .i64 c, cmpV] w (SubSays w0 w g n cap l) := by
  have HG0 := hid h
  have HLN := hid h.n_eq
  clear h
  go_enter Tryz.func255, Tryz.ntmps255
  go_wp2
  go_loopw [10] (fun i wr => ∃ (j : Nat) (m : List Ava), j ≤ c ∧ i = .int .i64 j ∧ Hid (GrowA 129 w0 wr (.slice (some ⟨g, 0, none⟩) n cap) m ∧ Below w0.heap.size w wr) ∧ Hid (Sub l m)) (fun i _ => c - (intOf i).toNat)
  case atStart => exact ⟨0, l, by omega, rfl, ⟨HG0, Below.refl _ _⟩, Sub.refl l⟩
  case round =>
    obtain ⟨j, m, hj, rfl, HGM, HS⟩ := hrel
    by_cases hlt : j < c
    · have hlt' : (j : Int) < (c : Int) := by omega
      have hml : m.length = n := by rw [HS.out.1, HLN.out]
      obtain ⟨p, hp⟩ : ∃ p, p = a + j := ⟨_, rfl⟩
      obtain ⟨q, hq⟩ : ∃ q, q = b + j := ⟨_, rfl⟩
      have z0 : (a : Int) + (j : Int) = (p : Int) := by omega
      have z1 : (b : Int) + (j : Int) = (q : Int) := by omega
      have hpn : p < n := by omega
      have hqn : q < n := by omega
      have z2 : (p : Int) < (n : Int) := by omega
      have z3 : (q : Int) < (n : Int) := by omega
      obtain ⟨x, hx⟩ : ∃ x, m[p]? = some x := ⟨_, List.getElem?_eq_getElem (show p < m.length by omega)⟩
      obtain ⟨y, hy⟩ : ∃ y, m[q]? = some y := ⟨_, List.getElem?_eq_getElem (show q < m.length by omega)⟩
      have HKA : Hid (p < m.length) := by show _ < _; omega
      have HKB : Hid (q < m.length) := by show _ < _; omega
      have HXA := hid hx
      have HYB := hid hy
      have HSW := hid (swapL_at hx hy)
      have HS2 := hid (HS.out.trans (swapL_sub m p q))
      clear hx hy hml hp hq
      go_wp2
      refine wp_region_planB w0.heap.size (.read 0 (.read 1 (.read 2 (.read 3 (.read 4 (.read 5 (.read 6 (.read 7 (.read 8 (.read 9 (.read 10 (.read 11 (.read 12 (.read 14 (.read 15 (.read 16 (.read 17 (.read 18 (.alt 13 (.main 19 (.read 20 (.main 21 (.read 22 (.main 23 .done))))) (.main 19 (.main 13 (.read 20 (.main 21 (.read 22 (.main 23 .done))))))))))))))))))))))))) (by kernel_rfl) (by kernel_rfl) ?_
      intro wD hxD
      have XB : Hid (Below w0.heap.size wD wD) := Below.refl _ _
      have HGD := hid (HGM.out.1.later hxD)
      repeat' (first
        | (refine walksB_move rfl rfl ?_; simp only [Act.put, Act.eval, List.setIfInBounds_toArray, List.set_cons_zero, List.set_cons_succ, Array.getD_eq_getD_getElem?, List.getElem?_toArray, List.getElem?_cons_zero, List.getElem?_cons_succ, Option.getD_some])
        | (refine walksB_assign rfl rfl ?_; simp only [Act.put, Act.eval, List.setIfInBounds_toArray, List.set_cons_zero, List.set_cons_succ, Array.getD_eq_getD_getElem?, List.getElem?_toArray, List.getElem?_cons_zero, List.getElem?_cons_succ, Option.getD_some])
        | (refine walksB_skip rfl rfl ?_; simp only [Act.put, List.setIfInBounds_toArray, List.set_cons_zero, List.set_cons_succ])
        | (refine walksB_unwanted rfl rfl ?_; simp only [Act.put, List.setIfInBounds_toArray, List.set_cons_zero, List.set_cons_succ])
        | (refine walksB_read (v := ?_) rfl rfl (fun w' hE => ?_) ?_; rotate_left 1; (· ((try (have hEx := Below.trans (Hid.out XB) hE)); go_simp; (try go_bits); with_reducible rfl)); simp only [Act.put, List.setIfInBounds_toArray, List.set_cons_zero, List.set_cons_succ])
        | (refine walksB_main rfl rfl (fun K hK => ?_); (first | (refine load_ava_wp _ rfl (p) rfl HGD.out x HXA.out ?_) | (refine load_ava_wp _ rfl (q) rfl HGD.out y HYB.out ?_) | (refine store_ava_wp _ _ rfl (p) rfl y rfl HGD.out HKA.out ?_; intro w7 hg7 hb7; have HG7 := hid hg7; clear hg7; have XB' := hid (Below.trans (Hid.out XB) (hb7)); clear XB; have XB := XB'; clear XB') | (refine store_ava_wp _ _ rfl (q) rfl x rfl HG7.out (by rw [List.length_set]; exact HKB.out) ?_; intro w8 hg8 hb8; have HG8 := hid hg8; clear hg8; have XB' := hid (Below.trans (Hid.out XB) (hb8)); clear XB; have XB := XB'; clear XB')); refine hK _ _ (by first | assumption | exact Below.refl _ _ | exact Below.mono (Ext.alloc _ _) (Hid.out HSW) | exact Below.setCell (p := ⟨_, _, _⟩) (Below.refl _ _) (Nat.le_refl _) _) ?_; clear hK K; try simp only [Act.put, List.setIfInBounds_toArray, List.set_cons_zero, List.set_cons_succ])
        | (refine walksB_alt ?_ ?_)
        | (refine walksB_main rfl rfl (fun K hK => ?_); go_wp2_with (fail); refine hK _ _ (by first | assumption | exact Below.refl _ _ | exact Below.mono (Ext.alloc _ _) (Hid.out HSW) | exact Below.setCell (p := ⟨_, _, _⟩) (Below.refl _ _) (Nat.le_refl _) _) ?_; clear hK K; try simp only [Act.put, List.setIfInBounds_toArray, List.set_cons_zero, List.set_cons_succ]))
      all_goals
        refine walksB_done ?_
        rw [← HSW.out] at HG8
        have HBX := hid (Below.trans HGM.out.2 (Below.trans (Below.mono hxD (ext_sz HGM.out.1.ext)) XB.out))
        go_wp2
        exact ⟨⟨j + 1, _, by omega, by go_num, ⟨HG8.out, HBX.out⟩, HS2⟩, by simp [intOf]; omega⟩
    · obtain rfl : j = c := by omega
      go_wp2
      go_end0
      exact ⟨rfl, ⟨m, HGM.out.1, HS.out⟩, HGM.out.2⟩
set_option maxHeartbeats 4000000 in
theorem rotate_any {w0 w : World} {g n cap a m b : Nat} {l : List Ava} (h : GrowA 129 w0 w (.slice (some ⟨g, 0, none⟩) n cap) l) (h1 : a < m) (h2 : m < b) (h3 : b ≤ n) (hn : n ≤ 4000000) :
    Calls Tryz.prog 230 #[.slice (some ⟨g, 0, none⟩) n cap, .int .i64 a, .int .i64 m, .int .i64 b, cmpV] w (SubSays w0 w g n cap l) := by
  have HG0 := hid h
  clear h
  go_enter Tryz.func230, Tryz.ntmps230
  go_wp2
  go_loopw [10, 11] (fun u v wr => ∃ (i j : Nat) (k : List Ava), 1 ≤ i ∧ 1 ≤ j ∧ i ≤ m ∧ m + j ≤ n ∧ u = .int .i64 i ∧ v = .int .i64 j ∧ Hid (GrowA 129 w0 wr (.slice (some ⟨g, 0, none⟩) n cap) k ∧ Below w0.heap.size w wr) ∧ Hid (Sub l k)) (fun u v _ => (intOf u).toNat + (intOf v).toNat)
  case atStart => exact ⟨m - a, b - m, l, by omega, by omega, by omega, by omega, by go_num, by go_num, ⟨HG0, Below.refl _ _⟩, Sub.refl l⟩
  case round =>
    obtain ⟨i, j, k, hi, hj, him, hjn, rfl, rfl, HGK, HS⟩ := hrel
    obtain ⟨p, hp⟩ : ∃ p, p = m - i := ⟨_, rfl⟩
    have z0 : (m : Int) - (i : Int) = (p : Int) := by omega
    have hp1 : p + i ≤ m := by omega
    have hp2 : m ≤ p + i := by omega
    clear hp
    by_cases hij : i = j
    · subst hij
      have t0 : ((i : Int) != (i : Int)) = false := by simp
      go_wp2_with (go_at_call 255; (with_reducible refine (swaprange_any (a := p) (b := m) (c := i) HGK.out.1 (by omega) (by omega) hn).mono ?_); rintro e w3 ⟨rfl, ⟨l3, hg3, hs3⟩, hb3⟩; have HG3 := hid hg3; have HS3 := hid hs3; have HB3 := hid hb3; clear hg3 hs3 hb3)
      go_end0
      exact ⟨rfl, ⟨l3, HG3.out, HS.out.trans HS3.out⟩, Below.trans HGK.out.2 HB3.out⟩
    · have t0 : ((i : Int) != (j : Int)) = true := by rw [bne_iff_ne]; omega
      by_cases hgt : j < i
      · have t1 : (j : Int) < (i : Int) := by omega
        clear hij
        go_wp2_with (go_at_call 255; (with_reducible refine (swaprange_any (a := p) (b := m) (c := j) HGK.out.1 (by omega) (by omega) hn).mono ?_); rintro e w3 ⟨rfl, ⟨l3, hg3, hs3⟩, hb3⟩; have HG3 := hid hg3; have HS3 := hid hs3; have HB3 := hid hb3; clear hg3 hs3 hb3)
        exact ⟨⟨i - j, j, l3, by omega, by omega, by omega, by omega, by go_num, rfl, ⟨HG3.out, Below.trans HGK.out.2 HB3.out⟩, HS.out.trans HS3.out⟩, by simp [intOf]; omega⟩
      · have t1 : ¬ (j : Int) < (i : Int) := by omega
        obtain ⟨q, hq⟩ : ∃ q, q = m + j - i := ⟨_, rfl⟩
        have z1 : (m : Int) + (j : Int) - (i : Int) = (q : Int) := by omega
        have hq1 : q + i ≤ m + j := by omega
        have hq2 : m + j ≤ q + i := by omega
        clear hq
        go_wp2_with (go_at_call 255; (with_reducible refine (swaprange_any (a := p) (b := q) (c := i) HGK.out.1 (by omega) (by omega) hn).mono ?_); rintro e w3 ⟨rfl, ⟨l3, hg3, hs3⟩, hb3⟩; have HG3 := hid hg3; have HS3 := hid hs3; have HB3 := hid hb3; clear hg3 hs3 hb3)
        exact ⟨⟨i, j - i, l3, by omega, by omega, by omega, by omega, rfl, by go_num, ⟨HG3.out, Below.trans HGK.out.2 HB3.out⟩, HS.out.trans HS3.out⟩, by simp [intOf]; omega⟩
end Go.Proofs.YtencmdpjiafnaaaGreatDoor
