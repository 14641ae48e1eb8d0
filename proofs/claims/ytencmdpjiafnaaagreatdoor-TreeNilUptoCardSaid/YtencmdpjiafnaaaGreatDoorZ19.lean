import Derived.Test.YtencmdpjiafnaaaGreatDoorZ06
import Derived.Laws.ResultCell
import Derived.Test.YtencmdpjiafnaaaGreatDoorZ12
import Derived.Test.YtencmdpjiafnaaaGreatDoorZ09
/- A variable of a struct's cells, in a block of the call's own. Nothing of the program is named. -/
namespace Go.Proofs.YtencmdpjiafnaaaGreatDoor
open Go.RowKit

/-- Block g, made behind w, holds the cells cs, all of which may be written. -/
structure Bx (w wr : World) (g : Nat) (T : TypeId) (cs : Array Value) : Prop where
  new : w.heap.size ≤ g
  blk : wr.heap[g]? = some (.cells cs T (0, 0))
  ext : Ext w wr
section
variable {w wr w' : World} {g : Nat} {T : TypeId} {cs : Array Value}
theorem Bx.make (h : Ext w wr) (cs : Array Value) (T : TypeId) : Bx w (wr.alloc (.cells cs T)) wr.heap.size T cs := ⟨h.size, heap_alloc_new wr _, h.trans (Ext.alloc _ _)⟩
theorem Bx.lt (h : Bx w wr g T cs) : g < wr.heap.size := (Array.getElem?_eq_some_iff.1 h.blk).1
theorem Bx.later (h : Bx w wr g T cs) (hx : Ext wr w') : Bx w w' g T cs := ⟨h.new, (hx.block g h.lt).trans h.blk, h.ext.trans hx⟩
/-- .. in a world in which the blocks below B, and g among them, are as they were. -/
theorem Bx.below {B : Nat} (h : Bx w wr g T cs) (hx : Below B wr w') (hg : g < B) (hB : w.heap.size ≤ B) : Bx w w' g T cs :=
  ⟨h.new, (hx.block g hg).trans h.blk, Below.trans h.ext (Below.mono hx hB)⟩
theorem Bx.cell (h : Bx w wr g T cs) {i : Nat} {v : Value} (hi : cs[i]? = some v) : wr.cell? ⟨g, i, none⟩ = some v := by rw [cell_of_row wr g i cs T (0, 0) h.blk]; exact hi
theorem Bx.frozen (h : Bx w wr g T cs) (i : Nat) : wr.frozen? ⟨g, i, none⟩ = false := frozen_of_row wr g i cs T h.blk
theorem Bx.set (h : Bx w wr g T cs) (i : Nat) (v : Value) : Bx w (wr.setCell ⟨g, i, none⟩ v) g T (cs.setIfInBounds i v) :=
  ⟨h.new, heap_setCell_same wr g i cs T v h.blk, h.ext.setCell h.new v⟩
/-- A store into another block. -/
theorem Bx.aside (h : Bx w wr g T cs) {k : Nat} (hk : w.heap.size ≤ k) (hne : g ≠ k) (i : Nat) (v : Value) : Bx w (wr.setCell ⟨k, i, none⟩ v) g T cs :=
  ⟨h.new, by rw [heap_setCell_other _ _ _ _ hne]; exact h.blk, h.ext.setCell hk v⟩
theorem Bx.base {w0 : World} (h : Bx w wr g T cs) (hx : Ext w0 w) : Bx w0 wr g T cs := ⟨Nat.le_trans hx.size h.new, h.blk, hx.trans h.ext⟩
/-- The whole struct is read. -/
theorem Bx.load {P : Program} (h : Bx w wr g T cs) (U : TypeId) (d : TypeDesc) (hu : P.underlying U = some d) (hd : (match d with | .struct _ | .array _ _ => true | _ => false) = true) (hi : (P.info? U).map (·.size) = some cs.size) :
    ∀ w', Ext wr w' → (Instr.loadAt U (.pointer (some ⟨g, 0, none⟩))).run P w' = .ok (.agg cs) w' := fun w' hx => by
  have h' := (h.later hx).blk
  simp only [Instr.loadAt, Instr.sureAddr, Sem.run_bind, Sem.run_pure, Result.andThen_ok, run_loadVar_row w' g T U cs (0, 0) d h' hu hd hi]
theorem Bx.set0 {x y : Value} (h : Bx w wr g T #[x, y]) (v : Value) : Bx w (wr.setCell ⟨g, 0, none⟩ v) g T #[v, y] := h.set 0 v
theorem Bx.set1 {x y : Value} (h : Bx w wr g T #[x, y]) (v : Value) : Bx w (wr.setCell ⟨g, 1, none⟩ v) g T #[x, v] := h.set 1 v
end
/-- The call's end, the first result a struct in its block. -/
theorem ret_cell_tmp {P : Program} {fn : Func} {R : Ending → World → Prop} {a : Act} {w0 w : World} {p u : Tmp} {ty : TypeId} {g : Nat} {T : TypeId} {cs : Array Value} (d : TypeDesc) (h : fn.results = #[.cell p ty, .tmp u])
    (hp : a.tmps.getD p undef = .pointer (some ⟨g, 0, none⟩)) (hb : Bx w0 w g T cs) (hu : P.underlying ty = some d) (hd : (match d with | .struct _ | .array _ _ => true | _ => false) = true) (hi : (P.info? ty).map (·.size) = some cs.size)
    (hdf : a.defers = []) (hR : R (.returned (.tuple #[.agg cs, a.tmps.getD u undef])) w) : bodyPost P fn R .ret a w := by
  refine bodyPost_ret (v := .tuple #[.agg cs, a.tmps.getD u undef]) ?_ hdf hR
  rw [results_cell_tmp h, hp]
  simp only [asAddr, Sem.run_pure, Result.andThen_ok, run_loadVar_row w g T ty cs (0, 0) d hb.blk hu hd hi]
/-- Two variables, made one behind the other. -/
theorem two_boxes {w w' : World} {T U : TypeId} {xs ys : Array Value} (h : Ext ((w.alloc (.cells xs T)).alloc (.cells ys U)) w') : Bx w w' w.heap.size T xs ∧ Bx w w' (w.heap.size + 1) U ys := by
  have h1 := ((Bx.make (Ext.refl w) xs T).later (Ext.alloc _ (.cells ys U))).later h
  have h2 := (Bx.make (Ext.alloc w (.cells xs T)) ys U).later h
  rw [show (w.alloc (.cells xs T)).heap.size = w.heap.size + 1 by simp] at h2
  exact ⟨h1, h2⟩
end Go.Proofs.YtencmdpjiafnaaaGreatDoor
/- The walks of rdn's and of the reference's Split. -/
namespace Go.Proofs.YtencmdpjiafnaaaGreatDoor
open Go.RowKit
set_option maxRecDepth 100000
set_option linter.unusedSimpArgs false
set_option linter.unusedVariables false

theorem splitF_sep {sep c : UInt8} {cur t : List UInt8} (h : c = sep) : splitF sep cur (c :: t) = cur :: splitF sep [] t := by conv => lhs; unfold splitF; rw [if_pos h]
theorem splitF_esc1 {sep : UInt8} {cur : List UInt8} (h : sep ≠ 92) : splitF sep cur [92] = [cur ++ [92]] := by unfold splitF; rw [if_neg (fun e => h e.symm), if_pos rfl]
theorem splitF_esc {sep d : UInt8} {cur t : List UInt8} (h : sep ≠ 92) : splitF sep cur (92 :: d :: t) = splitF sep (cur ++ [92, d]) t := by rw [splitF, if_neg (fun e => h e.symm), if_pos rfl]
theorem splitF_any {sep c : UInt8} {cur t : List UInt8} (h : ¬ c = sep) (k : ¬ c = 92) : splitF sep cur (c :: t) = splitF sep (cur ++ [c]) t := by conv => lhs; unfold splitF; rw [if_neg h, if_neg k]
theorem set_last {l : List ByteArray} {x y : ByteArray} : (l ++ [x]).set l.length y = l ++ [y] := by rw [List.set_append_right _ _ (Nat.le_refl _)]; simp
theorem set_last' {l : List ByteArray} {n : Nat} {x y : ByteArray} (h : n = l.length) : (l ++ [x]).set n y = l ++ [y] := by rw [h]; exact set_last
theorem bys_ext (s : ByteArray) (a b : Nat) : bys (s.extract a b) = ((bys s).drop a).take (b - a) := Lib.extract_data s a b
theorem growS_lit1 (w : World) (y : ByteArray) : GrowS w (w.alloc (.cells #[.string y] 9)) (.slice (some ⟨w.heap.size, 0, none⟩) 1 1) [y] :=
  ⟨⟨rfl, .inr ⟨w.heap.size, 1, #[.string y], rfl, Nat.le_refl _, heap_alloc_new w _, Nat.le_refl _, by simp [maxLen], rfl, rfl⟩⟩, Ext.alloc _ _⟩
theorem ne_byte {a b : UInt8} (h : ¬ a = b) : ((a.toNat : Int) == (b.toNat : Int)) = false := by
  rw [beq_eq_false_iff_ne]
  intro e
  exact h (UInt8.toNat_inj.1 (by omega))
theorem eq_byte {a b : UInt8} (h : a = b) : ((a.toNat : Int) == (b.toNat : Int)) = true := by rw [h]; exact beq_self_eq_true _
theorem piece_ext {s : ByteArray} {j k : Nat} {p : List UInt8} {r : List UInt8} (h : (bys s).drop j = p ++ r) (hk : k = j + p.length) : s.extract j k = str p := by
  rw [← str_bys (s.extract j k), bys_ext, h]
  subst hk
  rw [Nat.add_sub_cancel_left, List.take_left]
set_option maxHeartbeats 2000000 in
theorem split_any (s : ByteArray) (sep : UInt8) (hsep : sep ≠ 92) (w : World) (hs : s.size ≤ 4000000) :
    Calls Tryz.prog 134 #[.string s, .int .u8 (sep.toNat : Int)] w fun e w' => ∃ v, e = .returned v ∧ GrowS w w' v (strs (splitF sep [] (bys s))) := by
  have Hs := hid hs
  have HSP := hid hsep
  have tsep : ((sep.toNat : Int) != 92) = true := by
    have h : ((sep.toNat : Int) == 92) = false := byte_isnt (k := 92) hsep
    rw [bne, h]; rfl
  clear hsep
  go_enter Tryz.func134, Tryz.ntmps134
  go_wp2
  go_loopw [5, 6] (fun v i wr => ∃ (j : Nat) (dn : List (List UInt8)) (cur : List UInt8), j ≤ s.size ∧ i = .int .i64 j ∧ dn.length ≤ j ∧ cur.length ≤ j ∧ Hid (GrowS w wr v (strs dn ++ [str cur])) ∧ Hid (dn ++ splitF sep cur ((bys s).drop j) = splitF sep [] (bys s))) (fun _ i _ => s.size - (intOf i).toNat)
  case atStart => exact ⟨0, [], [], by omega, rfl, by simp, by simp, growS_lit1 w _, by simp [Hid]⟩
  case round =>
    obtain ⟨j, dn, cur, hj, rfl, hdn, hcur, HG, HR⟩ := hrel
    have hn : Hid ((strs dn ++ [str cur]).length = dn.length + 1) := by show _ = _; simp
    obtain ⟨g, cap, rfl, hg1, hg2, hg3, hg4⟩ := HG.out.form (by rw [hn.out]; omega)
    have hc := hg4 dn.length (by rw [hn.out]; omega)
    have hcv : (strs dn ++ [str cur])[dn.length]?.getD ByteArray.empty = str cur := by
      have : dn.length = (strs dn).length := by simp
      rw [this, List.getElem?_append_right (Nat.le_refl _)]
      simp
    rw [hcv] at hc
    have hcap : Hid (dn.length + 1 ≤ cap ∧ cap ≤ maxLen) := by show _ ∧ _; rw [hn.out] at hg2; exact ⟨hg2, hg3⟩
    rw [hn.out] at HG
    rw [hn.out]
    clear hg2 hg3 hg4 hcv
    by_cases hlt : j < s.size
    · obtain ⟨x, hx⟩ : ∃ x, (bys s)[j]? = some x := ⟨_, List.getElem?_eq_getElem (by rw [bys_len]; exact hlt)⟩
      have gx := bys_get hx hlt
      have hd : Hid ((bys s).drop j = x :: (bys s).drop (j + 1)) := by
        show _ = _
        obtain ⟨h1, h2⟩ := List.getElem?_eq_some_iff.1 hx
        rw [List.drop_eq_getElem_cons h1, h2]
      clear hx
      by_cases hxs : x = sep
      · have t1 := eq_byte hxs
        have HH : Hid ((dn ++ [cur]) ++ splitF sep [] ((bys s).drop (j + 1)) = splitF sep [] (bys s)) := by show _ = _; rw [← HR.out, hd.out, splitF_sep hxs]; simp
        clear hxs
        go_wp2_with (at_builtin; refine append_str1 rfl _ _ rfl _ _ rfl HG.out rfl (by rw [hn.out]; omega) ?_; intro v' w3 hg3; have HG3 := hid hg3; clear hg3)
        exact ⟨⟨j + 1, dn ++ [cur], [], by omega, by go_num, by simp; omega, by simp, by rw [show strs (dn ++ [cur]) = strs dn ++ [str cur] by simp]; exact HG3, HH⟩, by simp [intOf]; omega⟩
      · have t1 := ne_byte hxs
        by_cases h92 : x = 92
        · have t2 : ((x.toNat : Int) == 92) = true := byte_is (k := 92) (by decide) h92
          by_cases hl : j + 1 < s.size
          · obtain ⟨y, hy⟩ : ∃ y, (bys s)[j + 1]? = some y := ⟨_, List.getElem?_eq_getElem (by rw [bys_len]; exact hl)⟩
            have hd2 : (bys s).drop (j + 1) = y :: (bys s).drop (j + 1 + 1) := by
              obtain ⟨h1, h2⟩ := List.getElem?_eq_some_iff.1 hy
              rw [List.drop_eq_getElem_cons h1, h2]
            have hp : s.extract j (j + 2) = str [x, y] := piece_ext (r := (bys s).drop (j + 2)) (by rw [hd.out, hd2]; rfl) rfl
            have HH : Hid (dn ++ splitF sep (cur ++ [x, y]) ((bys s).drop (j + 2)) = splitF sep [] (bys s)) := by show _ = _; rw [← HR.out, hd.out, hd2, h92, splitF_esc HSP.out]
            have z1 : ¬ 9223372036854775807 < cur.length + 2 := by omega
            have z2 : min ((j : Int) + 2) (s.size : Int) = (j : Int) + 2 := by omega
            have z3 : (j : Int) + 2 ≤ (s.size : Int) := by omega
            have z4 : (j : Int) ≤ (j : Int) + 2 := by omega
            have z5 : ((j : Int) + 2).toNat = j + 2 := by omega
            clear hxs h92 hd2 hy
            have zl : (dn.length : Int) < (dn.length : Int) + 1 := by omega
            go_wp2
            refine wp_region_planB w.heap.size (.read 0 (.read 1 (.read 2 (.read 3 (.read 4 (.read 6 (.read 7 (.read 8 (.read 9 (.main 5 (.read 10 (.read 11 (.main 12 .done))))))))))))) (by kernel_rfl) (by kernel_rfl) ?_
            intro wD hxD
            have XB : Hid (Below w.heap.size wD wD) := Below.refl _ _
            have HC := hid (cell_later hc _ hxD)
            have HGD := hid (HG.out.later hxD)
            repeat' (first
              | (refine walksB_move rfl rfl ?_; simp only [Act.put, Act.eval, List.setIfInBounds_toArray, List.set_cons_zero, List.set_cons_succ, Array.getD_eq_getD_getElem?, List.getElem?_toArray, List.getElem?_cons_zero, List.getElem?_cons_succ, Option.getD_some])
              | (refine walksB_assign rfl rfl ?_; simp only [Act.put, Act.eval, List.setIfInBounds_toArray, List.set_cons_zero, List.set_cons_succ, Array.getD_eq_getD_getElem?, List.getElem?_toArray, List.getElem?_cons_zero, List.getElem?_cons_succ, Option.getD_some])
              | (refine walksB_skip rfl rfl ?_; simp only [Act.put, List.setIfInBounds_toArray, List.set_cons_zero, List.set_cons_succ])
              | (refine walksB_unwanted rfl rfl ?_; simp only [Act.put, List.setIfInBounds_toArray, List.set_cons_zero, List.set_cons_succ])
              | (refine walksB_read (v := ?_) rfl rfl (fun w' hE => ?_) ?_; rotate_left 1; (· ((try (have hEx := Below.trans (Hid.out XB) hE)); go_simp; (try go_bits); with_reducible rfl)); simp only [Act.put, List.setIfInBounds_toArray, List.set_cons_zero, List.set_cons_succ])
              | (refine walksB_main rfl rfl (fun K hK => ?_); (first | (refine wp_load_cell 9 (.tmp 42) rfl ⟨g, dn.length, none⟩ rfl (.string (str cur)) HC.out Tryz.isAgg9 ?_) | (refine store_str_wp (.tmp 49) (.tmp 48) rfl g dn.length _ cap rfl (str cur ++ str [x, y]) rfl _ HGD.out hn.out.symm (by rw [hn.out]; omega) ?_; intro w6 hg6 hb6; have HG6 := hid hg6; clear hg6; have XB' := hid (Below.trans (Hid.out XB) (hb6)); clear XB; have XB := XB'; clear XB')); refine hK _ _ (by first | assumption | exact Below.refl _ _ | exact Below.mono (Ext.alloc _ _) (Hid.out HSW) | exact Below.setCell (p := ⟨_, _, _⟩) (Below.refl _ _) (Nat.le_refl _) _) ?_; clear hK K; try simp only [Act.put, List.setIfInBounds_toArray, List.set_cons_zero, List.set_cons_succ])
              | (refine walksB_alt ?_ ?_)
              | (refine walksB_main rfl rfl (fun K hK => ?_); go_wp2_with (fail); refine hK _ _ (by first | assumption | exact Below.refl _ _ | exact Below.mono (Ext.alloc _ _) (Hid.out HSW) | exact Below.setCell (p := ⟨_, _, _⟩) (Below.refl _ _) (Nat.le_refl _) _) ?_; clear hK K; try simp only [Act.put, List.setIfInBounds_toArray, List.set_cons_zero, List.set_cons_succ]))
            refine walksB_done ?_
            have HG7 : Hid (GrowS w w6 (.slice (some ⟨g, 0, none⟩) (dn.length + 1) cap) (strs dn ++ [str (cur ++ [x, y])])) := by
              have h := HG6.out
              rw [str_app, set_last' (by simp)] at h
              exact h
            clear HG6 HC HGD
            go_wp2
            exact ⟨⟨j + 2, dn, cur ++ [x, y], by omega, by go_num, by omega, by simp; omega, HG7, HH⟩, by simp [intOf]; omega⟩
          · have hnil : (bys s).drop (j + 1) = [] := List.drop_eq_nil_of_le (by rw [bys_len]; omega)
            have hp : s.extract j s.size = str [x] := piece_ext (r := (bys s).drop (j + 1)) hd.out (by simp; omega)
            have HH : Hid (dn ++ splitF sep (cur ++ [x]) ((bys s).drop (j + 1)) = splitF sep [] (bys s)) := by show _ = _; rw [← HR.out, hd.out, hnil, h92, splitF_esc1 HSP.out]; rfl
            have z1 : ¬ 9223372036854775807 < cur.length + 1 := by omega
            have z2 : min ((j : Int) + 2) (s.size : Int) = (s.size : Int) := by omega
            clear hxs h92 hnil
            have zl : (dn.length : Int) < (dn.length : Int) + 1 := by omega
            go_wp2
            refine wp_region_planB w.heap.size (.read 0 (.read 1 (.read 2 (.read 3 (.read 4 (.read 6 (.read 7 (.read 8 (.read 9 (.main 5 (.read 10 (.read 11 (.main 12 .done))))))))))))) (by kernel_rfl) (by kernel_rfl) ?_
            intro wD hxD
            have XB : Hid (Below w.heap.size wD wD) := Below.refl _ _
            have HC := hid (cell_later hc _ hxD)
            have HGD := hid (HG.out.later hxD)
            repeat' (first
              | (refine walksB_move rfl rfl ?_; simp only [Act.put, Act.eval, List.setIfInBounds_toArray, List.set_cons_zero, List.set_cons_succ, Array.getD_eq_getD_getElem?, List.getElem?_toArray, List.getElem?_cons_zero, List.getElem?_cons_succ, Option.getD_some])
              | (refine walksB_assign rfl rfl ?_; simp only [Act.put, Act.eval, List.setIfInBounds_toArray, List.set_cons_zero, List.set_cons_succ, Array.getD_eq_getD_getElem?, List.getElem?_toArray, List.getElem?_cons_zero, List.getElem?_cons_succ, Option.getD_some])
              | (refine walksB_skip rfl rfl ?_; simp only [Act.put, List.setIfInBounds_toArray, List.set_cons_zero, List.set_cons_succ])
              | (refine walksB_unwanted rfl rfl ?_; simp only [Act.put, List.setIfInBounds_toArray, List.set_cons_zero, List.set_cons_succ])
              | (refine walksB_read (v := ?_) rfl rfl (fun w' hE => ?_) ?_; rotate_left 1; (· ((try (have hEx := Below.trans (Hid.out XB) hE)); go_simp; (try go_bits); with_reducible rfl)); simp only [Act.put, List.setIfInBounds_toArray, List.set_cons_zero, List.set_cons_succ])
              | (refine walksB_main rfl rfl (fun K hK => ?_); (first | (refine wp_load_cell 9 (.tmp 42) rfl ⟨g, dn.length, none⟩ rfl (.string (str cur)) HC.out Tryz.isAgg9 ?_) | (refine store_str_wp (.tmp 49) (.tmp 48) rfl g dn.length _ cap rfl (str cur ++ str [x]) rfl _ HGD.out hn.out.symm (by rw [hn.out]; omega) ?_; intro w6 hg6 hb6; have HG6 := hid hg6; clear hg6; have XB' := hid (Below.trans (Hid.out XB) (hb6)); clear XB; have XB := XB'; clear XB')); refine hK _ _ (by first | assumption | exact Below.refl _ _ | exact Below.mono (Ext.alloc _ _) (Hid.out HSW) | exact Below.setCell (p := ⟨_, _, _⟩) (Below.refl _ _) (Nat.le_refl _) _) ?_; clear hK K; try simp only [Act.put, List.setIfInBounds_toArray, List.set_cons_zero, List.set_cons_succ])
              | (refine walksB_alt ?_ ?_)
              | (refine walksB_main rfl rfl (fun K hK => ?_); go_wp2_with (fail); refine hK _ _ (by first | assumption | exact Below.refl _ _ | exact Below.mono (Ext.alloc _ _) (Hid.out HSW) | exact Below.setCell (p := ⟨_, _, _⟩) (Below.refl _ _) (Nat.le_refl _) _) ?_; clear hK K; try simp only [Act.put, List.setIfInBounds_toArray, List.set_cons_zero, List.set_cons_succ]))
            refine walksB_done ?_
            have HG7 : Hid (GrowS w w6 (.slice (some ⟨g, 0, none⟩) (dn.length + 1) cap) (strs dn ++ [str (cur ++ [x])])) := by
              have h := HG6.out
              rw [str_app, set_last' (by simp)] at h
              exact h
            clear HG6 HC HGD
            go_wp2
            exact ⟨⟨j + 1, dn, cur ++ [x], by omega, by go_num, by omega, by simp; omega, HG7, HH⟩, by simp [intOf]; omega⟩
        · have t2 : ((x.toNat : Int) == 92) = false := byte_isnt (k := 92) h92
          have hp : s.extract j (j + 1) = str [x] := piece_ext (r := (bys s).drop (j + 1)) hd.out rfl
          have HH : Hid (dn ++ splitF sep (cur ++ [x]) ((bys s).drop (j + 1)) = splitF sep [] (bys s)) := by show _ = _; rw [← HR.out, hd.out, splitF_any hxs h92]
          have z1 : ¬ 9223372036854775807 < cur.length + 1 := by omega
          have z3 : (j : Int) + 1 ≤ (s.size : Int) := by omega
          have z4 : (j : Int) ≤ (j : Int) + 1 := by omega
          have z5 : ((j : Int) + 1).toNat = j + 1 := by omega
          clear hxs h92
          have zl : (dn.length : Int) < (dn.length : Int) + 1 := by omega
          go_wp2
          refine wp_region_planB w.heap.size (.read 0 (.read 1 (.read 2 (.read 3 (.read 4 (.read 6 (.read 7 (.read 8 (.read 9 (.main 5 (.read 10 (.read 11 (.main 12 .done))))))))))))) (by kernel_rfl) (by kernel_rfl) ?_
          intro wD hxD
          have XB : Hid (Below w.heap.size wD wD) := Below.refl _ _
          have HC := hid (cell_later hc _ hxD)
          have HGD := hid (HG.out.later hxD)
          repeat' (first
            | (refine walksB_move rfl rfl ?_; simp only [Act.put, Act.eval, List.setIfInBounds_toArray, List.set_cons_zero, List.set_cons_succ, Array.getD_eq_getD_getElem?, List.getElem?_toArray, List.getElem?_cons_zero, List.getElem?_cons_succ, Option.getD_some])
            | (refine walksB_assign rfl rfl ?_; simp only [Act.put, Act.eval, List.setIfInBounds_toArray, List.set_cons_zero, List.set_cons_succ, Array.getD_eq_getD_getElem?, List.getElem?_toArray, List.getElem?_cons_zero, List.getElem?_cons_succ, Option.getD_some])
            | (refine walksB_skip rfl rfl ?_; simp only [Act.put, List.setIfInBounds_toArray, List.set_cons_zero, List.set_cons_succ])
            | (refine walksB_unwanted rfl rfl ?_; simp only [Act.put, List.setIfInBounds_toArray, List.set_cons_zero, List.set_cons_succ])
            | (refine walksB_read (v := ?_) rfl rfl (fun w' hE => ?_) ?_; rotate_left 1; (· ((try (have hEx := Below.trans (Hid.out XB) hE)); go_simp; (try go_bits); with_reducible rfl)); simp only [Act.put, List.setIfInBounds_toArray, List.set_cons_zero, List.set_cons_succ])
            | (refine walksB_main rfl rfl (fun K hK => ?_); (first | (refine wp_load_cell 9 (.tmp 42) rfl ⟨g, dn.length, none⟩ rfl (.string (str cur)) HC.out Tryz.isAgg9 ?_) | (refine store_str_wp (.tmp 49) (.tmp 48) rfl g dn.length _ cap rfl (str cur ++ str [x]) rfl _ HGD.out hn.out.symm (by rw [hn.out]; omega) ?_; intro w6 hg6 hb6; have HG6 := hid hg6; clear hg6; have XB' := hid (Below.trans (Hid.out XB) (hb6)); clear XB; have XB := XB'; clear XB')); refine hK _ _ (by first | assumption | exact Below.refl _ _ | exact Below.mono (Ext.alloc _ _) (Hid.out HSW) | exact Below.setCell (p := ⟨_, _, _⟩) (Below.refl _ _) (Nat.le_refl _) _) ?_; clear hK K; try simp only [Act.put, List.setIfInBounds_toArray, List.set_cons_zero, List.set_cons_succ])
            | (refine walksB_alt ?_ ?_)
            | (refine walksB_main rfl rfl (fun K hK => ?_); go_wp2_with (fail); refine hK _ _ (by first | assumption | exact Below.refl _ _ | exact Below.mono (Ext.alloc _ _) (Hid.out HSW) | exact Below.setCell (p := ⟨_, _, _⟩) (Below.refl _ _) (Nat.le_refl _) _) ?_; clear hK K; try simp only [Act.put, List.setIfInBounds_toArray, List.set_cons_zero, List.set_cons_succ]))
          refine walksB_done ?_
          have HG7 : Hid (GrowS w w6 (.slice (some ⟨g, 0, none⟩) (dn.length + 1) cap) (strs dn ++ [str (cur ++ [x])])) := by
            have h := HG6.out
            rw [str_app, set_last' (by simp)] at h
            exact h
          clear HG6 HC HGD
          go_wp2
          exact ⟨⟨j + 1, dn, cur ++ [x], by omega, by go_num, by omega, by simp; omega, HG7, HH⟩, by simp [intOf]; omega⟩
    · obtain rfl : j = s.size := by omega
      have HH : Hid (strs (splitF sep [] (bys s)) = strs dn ++ [str cur]) := by
        show _ = _
        rw [← HR.out, show (bys s).drop s.size = [] from List.drop_eq_nil_of_le (by rw [bys_len]; omega)]
        simp [splitF]
      go_wp2
      go_ret
      refine ⟨_, rfl, ?_⟩
      rw [HH.out]
      exact HG.out
end Go.Proofs.YtencmdpjiafnaaaGreatDoor
