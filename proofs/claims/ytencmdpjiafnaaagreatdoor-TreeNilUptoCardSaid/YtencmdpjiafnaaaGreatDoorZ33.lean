import Derived.Test.YtencmdpjiafnaaaGreatDoorZ05
import Derived.BigQuiet
import Derived.Deep.QuietTactic
import Derived.Test.YtencmdpjiafnaaaGreatDoorZ32
/- The walk of slices.Equal at texts. -/
namespace Go.Proofs.YtencmdpjiafnaaaGreatDoor
open Go.RowKit
set_option maxRecDepth 100000

theorem take_eq_all {α : Type} {l l' : List α} {n : Nat} (h1 : n = l.length) (h2 : n = l'.length) (h : l.take n = l'.take n) : l = l' := by
  rwa [List.take_of_length_le (by omega), List.take_of_length_le (by omega)] at h
set_option maxHeartbeats 1000000 in
theorem equaltexts_any {S T : Nat → Prop} {A B : Option Addr} {n c m d : Nat} {l r : List ByteArray} {w : World} (h : Row Elem.str S w A n c l) (k : Row Elem.str T w B m d r) :
    Calls Tryz.prog 183 #[.slice A n c, .slice B m d] w fun e w' => e = .returned (.bool (decide (l = r))) ∧ Ext w w' := by
  have hl := hid h.len
  have kl := hid k.len
  have hnl : n ≤ 9223372036854775807 := by have := h.cap; have := h.most; simp only [maxLen] at this; omega
  have hml : m ≤ 9223372036854775807 := by have := k.cap; have := k.most; simp only [maxLen] at this; omega
  by_cases hnm : n = m
  · subst hnm
    have kl2 := kl
    clear kl
    go_enter Tryz.func183, Tryz.ntmps183
    go_wp2
    go_loopw [13] (fun i wr => ∃ j : Nat, j ≤ n ∧ i = .int .i64 j ∧ Hid (l.take j = r.take j) ∧ Hid (Ext w wr)) (fun i _ => n - (intOf i).toNat)
    case atStart => exact ⟨0, by omega, rfl, by simp [Hid], Ext.refl w⟩
    case round =>
      obtain ⟨j, hj, rfl, Htk, hx⟩ := hrel
      by_cases hlt : j < n
      · obtain ⟨b1, o1, rfl, c1⟩ := (h.ext hx.out).str_cell (by omega)
        obtain ⟨b2, o2, rfl, c2⟩ := (k.ext hx.out).str_cell (by omega)
        have e1 := c1 j hlt
        have e2 := c2 j hlt
        clear c1 c2
        have g1 : l[j]? = some (l[j]?.getD ByteArray.empty) := by have := hl.out; rw [List.getElem?_eq_getElem (by omega)]; simp
        have g2 : r[j]? = some (r[j]?.getD ByteArray.empty) := by have := kl2.out; rw [List.getElem?_eq_getElem (by omega)]; simp
        have Hg := hid (And.intro g1 g2)
        clear g1 g2
        generalize l[j]?.getD ByteArray.empty = x1 at *
        generalize r[j]?.getD ByteArray.empty = x2 at *
        by_cases he : x1 = x2
        · have He := hid he
          have Hne := str_eq he
          clear he
          go_wp2
          refine wp_region_plan (.read 0 (.read 1 (.read 2 (.read 3 (.read 4 (.read 5 (.read 6 (.read 7 (.read 8 .done))))))))) (by kernel_rfl) (by kernel_rfl) ?_
          intro wD hxD
          have c1 := cell_later (cell_later e1 _ hxD)
          have c2 := cell_later (cell_later e2 _ hxD)
          repeat' (first
            | (refine walks_move rfl rfl ?_; simp only [Act.put, Act.eval, List.setIfInBounds_toArray, List.set_cons_zero, List.set_cons_succ, Array.getD_eq_getD_getElem?, List.getElem?_toArray, List.getElem?_cons_zero, List.getElem?_cons_succ, Option.getD_some])
            | (refine walks_assign rfl rfl ?_; simp only [Act.put, Act.eval, List.setIfInBounds_toArray, List.set_cons_zero, List.set_cons_succ, Array.getD_eq_getD_getElem?, List.getElem?_toArray, List.getElem?_cons_zero, List.getElem?_cons_succ, Option.getD_some])
            | (refine walks_skip rfl rfl ?_; simp only [Act.put, List.setIfInBounds_toArray, List.set_cons_zero, List.set_cons_succ])
            | (refine walks_unwanted rfl rfl ?_; simp only [Act.put, List.setIfInBounds_toArray, List.set_cons_zero, List.set_cons_succ])
            | (refine walks_read (v := ?_) rfl rfl (fun w' hE => ?_) ?_; rotate_left 1; (· ((try (have hEx := Ext.trans (Hid.out XE) hE)); go_simp; (try go_bits); with_reducible rfl)); simp only [Act.put, List.setIfInBounds_toArray, List.set_cons_zero, List.set_cons_succ])
            | (refine walks_alt ?_ ?_)
            | (refine walks_main rfl rfl (fun K hK => ?_); go_wp2_with (fail); refine hK _ _ (by first | assumption | exact Ext.alloc _ _ | exact Ext.refl _) ?_; clear hK K; try simp only [Act.put, List.setIfInBounds_toArray, List.set_cons_zero, List.set_cons_succ]))
          refine walks_done ?_
          go_wp2
          refine ⟨⟨j + 1, by omega, by go_num, ?_, hx.out.trans hxD⟩, by simp [intOf]; omega⟩
          show _ = _
          rw [List.take_add_one, List.take_add_one, Htk.out, Hg.out.1, Hg.out.2, He.out]
        · have He := hid he
          have Hne := str_ne he
          clear he
          go_wp2
          refine wp_region_plan (.read 0 (.read 1 (.read 2 (.read 3 (.read 4 (.read 5 (.read 6 (.read 7 (.read 8 .done))))))))) (by kernel_rfl) (by kernel_rfl) ?_
          intro wD hxD
          have c1 := cell_later (cell_later e1 _ hxD)
          have c2 := cell_later (cell_later e2 _ hxD)
          repeat' (first
            | (refine walks_move rfl rfl ?_; simp only [Act.put, Act.eval, List.setIfInBounds_toArray, List.set_cons_zero, List.set_cons_succ, Array.getD_eq_getD_getElem?, List.getElem?_toArray, List.getElem?_cons_zero, List.getElem?_cons_succ, Option.getD_some])
            | (refine walks_assign rfl rfl ?_; simp only [Act.put, Act.eval, List.setIfInBounds_toArray, List.set_cons_zero, List.set_cons_succ, Array.getD_eq_getD_getElem?, List.getElem?_toArray, List.getElem?_cons_zero, List.getElem?_cons_succ, Option.getD_some])
            | (refine walks_skip rfl rfl ?_; simp only [Act.put, List.setIfInBounds_toArray, List.set_cons_zero, List.set_cons_succ])
            | (refine walks_unwanted rfl rfl ?_; simp only [Act.put, List.setIfInBounds_toArray, List.set_cons_zero, List.set_cons_succ])
            | (refine walks_read (v := ?_) rfl rfl (fun w' hE => ?_) ?_; rotate_left 1; (· ((try (have hEx := Ext.trans (Hid.out XE) hE)); go_simp; (try go_bits); with_reducible rfl)); simp only [Act.put, List.setIfInBounds_toArray, List.set_cons_zero, List.set_cons_succ])
            | (refine walks_alt ?_ ?_)
            | (refine walks_main rfl rfl (fun K hK => ?_); go_wp2_with (fail); refine hK _ _ (by first | assumption | exact Ext.alloc _ _ | exact Ext.refl _) ?_; clear hK K; try simp only [Act.put, List.setIfInBounds_toArray, List.set_cons_zero, List.set_cons_succ]))
          refine walks_done ?_
          go_wp2
          go_ret
          refine ⟨?_, hx.out.trans hxD⟩
          rw [decide_eq_false (fun e => by subst e; exact He.out (Option.some.inj (Hg.out.1.symm.trans Hg.out.2)))]
          rfl
      · obtain rfl : j = n := by omega
        go_wp2
        go_ret
        refine ⟨?_, hx.out⟩
        rw [decide_eq_true (take_eq_all hl.out kl2.out Htk.out)]
        rfl
  · have hne : ((n : Int) != (m : Int)) = true := by rw [bne_iff_ne]; omega
    have hfin : Hid (decide (l = r) = false) := by
      show _ = _
      rw [decide_eq_false]
      intro e
      subst e
      have := hl.out
      have := kl.out
      omega
    clear hnm
    go_enter Tryz.func183, Tryz.ntmps183
    go_wp2
    go_ret
    exact ⟨by rw [hfin.out]; rfl, Ext.refl w⟩
end Go.Proofs.YtencmdpjiafnaaaGreatDoor
/- The walks of dn's rest, Under and of the reference's below, Under. -/
namespace Go.Proofs.YtencmdpjiafnaaaGreatDoor
open Go.RowKit
set_option maxRecDepth 100000
set_option linter.unusedSimpArgs false
set_option linter.unusedVariables false

theorem CellsIn.drop {S : Nat → Prop} {w : World} {A : Option Addr} {vs : List Value} (h : CellsIn S w A vs) (k : Nat) : CellsIn S w (A.map (·.add k)) (vs.drop k) := by
  rcases h with h | ⟨b, off, hA, hS, hc⟩
  · exact .inl (by simp [h])
  · refine .inr ⟨b, off + k, by simp [hA, addr_add], hS, fun j u hj => ?_⟩
    rw [List.getElem?_drop] at hj
    rw [Nat.add_assoc]
    exact hc _ u hj
theorem CellsIn.take {S : Nat → Prop} {w : World} {A : Option Addr} {vs : List Value} (h : CellsIn S w A vs) (k : Nat) : CellsIn S w A (vs.take k) := by
  rcases h with h | ⟨b, off, hA, hS, hc⟩
  · exact .inl (by simp [h])
  · refine .inr ⟨b, off, hA, hS, fun j u hj => hc j u ?_⟩
    rw [List.getElem?_take] at hj
    split at hj
    · exact hj
    · cases hj
theorem flatten_drop {K : Nat} : ∀ {vss : List (List Value)} (k : Nat), (∀ v ∈ vss, v.length = K) → (vss.drop k).flatten = vss.flatten.drop (k * K)
  | [], k, _ => by simp
  | v :: vss, 0, _ => by simp
  | v :: vss, k + 1, h => by
    have h0 := h v (by simp)
    have hd : v.drop ((k + 1) * K) = [] := List.drop_eq_nil_of_le (by rw [h0, Nat.succ_mul]; omega)
    rw [List.drop_succ_cons, flatten_drop k (fun u hu => h u (by simp [hu])), List.flatten_cons, List.drop_append, hd, h0, List.nil_append]
    congr 1
    rw [Nat.succ_mul]; omega
theorem flatten_take {K : Nat} : ∀ {vss : List (List Value)} (k : Nat), (∀ v ∈ vss, v.length = K) → (vss.take k).flatten = vss.flatten.take (k * K)
  | [], k, _ => by simp
  | v :: vss, 0, _ => by simp
  | v :: vss, k + 1, h => by
    have h0 := h v (by simp)
    have hd : v.take ((k + 1) * K) = v := List.take_of_length_le (by rw [h0, Nat.succ_mul]; omega)
    rw [List.take_succ_cons, List.flatten_cons, flatten_take k (fun u hu => h u (by simp [hu])), List.flatten_cons, List.take_append, hd, h0]
    congr 2
    rw [Nat.succ_mul]; omega
section
variable {α : Type} {E : Elem α} {S : Nat → Prop} {w : World} {A : Option Addr} {n c : Nat} {l : List α}
theorem Row.lens {vss : List (List Value)} (h1 : n = l.length) (h4 : vss.length = n) (h6 : ∀ (i : Nat) v x, vss[i]? = some v → l[i]? = some x → E.R S w v x) : ∀ v ∈ vss, v.length = E.k := by
  intro v hv
  obtain ⟨j, hj, rfl⟩ := List.mem_iff_getElem.1 hv
  exact E.len (h6 j vss[j] (l[j]'(by omega)) (List.getElem?_eq_getElem hj) (List.getElem?_eq_getElem (by omega)))
theorem Row.tail (h : Row E S w A n c l) {k : Nat} (hk : k ≤ n) : Row E S w (cutA A k c E.k) (n - k) (c - k) (l.drop k) := by
  obtain ⟨h1, h2, h3, vss, h4, h5, h6⟩ := h
  refine ⟨by rw [List.length_drop, h1], by omega, by omega, vss.drop k, by rw [List.length_drop, h4], ?_, fun i v x hi hx => h6 (k + i) v x (by rwa [List.getElem?_drop] at hi) (by rwa [List.getElem?_drop] at hx)⟩
  rw [flatten_drop k (Row.lens h1 h4 h6)]
  unfold cutA
  split
  · rename_i hc
    refine .inl (List.drop_eq_nil_of_le ?_)
    have : vss.flatten.length = n * E.k := by
      have e : ∀ (u : List (List Value)), (∀ v ∈ u, v.length = E.k) → u.flatten.length = u.length * E.k := by
        intro u
        induction u with
        | nil => intro _; simp
        | cons v t ih => intro hh; rw [List.flatten_cons, List.length_append, ih (fun x hx => hh x (by simp [hx])), hh v (by simp), List.length_cons, Nat.succ_mul]; omega
      rw [e vss (Row.lens h1 h4 h6), h4]
    rw [this]
    exact Nat.mul_le_mul_right _ (by omega)
  · exact h5.drop (k * E.k)
theorem Row.head (h : Row E S w A n c l) {k : Nat} (hk : k ≤ n) : Row E S w (cutA A 0 c E.k) k c (l.take k) := by
  obtain ⟨h1, h2, h3, vss, h4, h5, h6⟩ := h
  refine ⟨by rw [List.length_take]; omega, by omega, h3, vss.take k, by rw [List.length_take]; omega, ?_, fun i v x hi hx => ?_⟩
  · rw [flatten_take k (Row.lens h1 h4 h6)]
    unfold cutA
    split
    · rename_i hc
      refine .inl ?_
      have : k = 0 := by omega
      subst this
      simp
    · have := (h5.drop 0).take (k * E.k)
      simpa using this
  · rw [List.getElem?_take] at hi hx
    split at hi
    · rename_i hlt
      rw [if_pos hlt] at hx
      exact h6 i v x hi hx
    · cases hi
end
theorem elem_strs : Tryz.prog.underlying 43 = some (.slice (Tryz.prog.elem 43)) := by kernel_rfl
theorem size_str1 (w : World) : (sizeOf (Tryz.prog.elem 43)).run Tryz.prog w = .ok 1 w := by kernel_rfl
theorem sslice_l (A : Option Addr) (n c l : Nat) (hlk : l ≤ n) :
    ∀ w, (Instr.sliceAt 43 (.slice A n c) (some (.int .i64 (l : Int))) none none).run Tryz.prog w = .ok (.slice (cutA A l c 1) (n - l) (c - l)) w := fun w => by
  have h1 : (l : Int) ≤ (n : Int) := by omega
  have := run_slice_l (P := Tryz.prog) w 43 A n c elem_strs .i64 (l : Int) (by omega) h1
  rw [run_sliceAt_slice w 43 _ _ _ _ elem_strs, this, size_str1]
  simp only [sliced, cutA, Result.andThen, Int.toNat_natCast]
theorem sslice_h (A : Option Addr) (n c k : Nat) (hlk : k ≤ c) :
    ∀ w, (Instr.sliceAt 43 (.slice A n c) none (some (.int .i64 (k : Int))) none).run Tryz.prog w = .ok (.slice (cutA A 0 c 1) k c) w := fun w => by
  have h2 : (k : Int) ≤ (c : Int) := by omega
  have := run_slice_h (P := Tryz.prog) w 43 A n c elem_strs .i64 (k : Int) (by omega) h2
  rw [run_sliceAt_slice w 43 _ _ _ _ elem_strs, this, size_str1]
  simp only [sliced, cutA, Result.andThen, Int.toNat_natCast, Nat.sub_zero]
/-- The parts that a name has ahead of another one's. -/
def restB (x y : List (List UInt8)) : Option (List (List UInt8)) := if y.length ≤ x.length ∧ x.drop (x.length - y.length) = y then some (x.take (x.length - y.length)) else none
def RestSays (S : Nat → Prop) (w : World) (x y : List (List UInt8)) (e : Ending) (w' : World) : Prop :=
  ∃ A n c, e = .returned (.tuple #[.slice A n c, .bool (restB x y).isSome]) ∧ Row Elem.str S w' A n c (strs ((restB x y).getD [])) ∧ Ext w w'
theorem strs_inj {a b : List (List UInt8)} : strs a = strs b ↔ a = b := ⟨fun h => by rw [← strs_bys a, h, strs_bys], fun h => by rw [h]⟩
set_option maxHeartbeats 1000000 in
theorem rest_any {S T : Nat → Prop} {A B : Option Addr} {n c m d : Nat} {x y : List (List UInt8)} {w : World} (h : Row Elem.str S w A n c (strs x)) (k : Row Elem.str T w B m d (strs y)) :
    Calls Tryz.prog 141 #[.slice A n c, .slice B m d] w (RestSays S w x y) := by
  have hx : n = x.length := by rw [h.len, List.length_map]
  have hy : m = y.length := by rw [k.len, List.length_map]
  have hn : n ≤ 9223372036854775807 := by have := h.cap; have := h.most; simp only [maxLen] at this; omega
  have hm : m ≤ 9223372036854775807 := by have := k.cap; have := k.most; simp only [maxLen] at this; omega
  have HR := hid h
  have HK := hid k
  have HD : Hid (restB x y = if y.length ≤ x.length ∧ x.drop (x.length - y.length) = y then some (x.take (x.length - y.length)) else none) := rfl
  rw [← hx, ← hy] at HD
  by_cases hlt : n < m
  · have t1 : (n : Int) - (m : Int) < 0 := by omega
    have HF : Hid (restB x y = none) := by show _ = _; rw [HD.out, if_neg (fun h => by omega)]
    clear hx hy h k HD
    go_enter Tryz.func141, Tryz.ntmps141
    go_wp2
    go_ret2
    exact ⟨none, 0, 0, by rw [HF.out]; rfl, by rw [HF.out]; exact Row.nil _ _ _, Ext.refl _⟩
  · obtain ⟨q, hq⟩ : ∃ q, q = n - m := ⟨_, rfl⟩
    have t0 : (n : Int) - (m : Int) = (q : Int) := by omega
    have t1 : ¬ (q : Int) < 0 := by omega
    have hs1 := sslice_l A n c q (by omega)
    have hs2 := sslice_h A n c q (by have := h.cap; omega)
    have HT := hid (h.tail (k := q) (by omega))
    have HH := hid (h.head (k := q) (by omega))
    have HQ : ∀ w', Ext w w' → Calls Tryz.prog 183 #[.slice (cutA A q c 1) (n - q) (c - q), .slice B m d] w' fun e w'' => e = .returned (.bool (decide (x.drop q = y))) ∧ Ext w' w'' := fun w' hx => by
      have := equaltexts_any (HT.out.ext hx) (HK.out.ext hx)
      have e : decide ((strs x).drop q = strs y) = decide (x.drop q = y) := by
        have e2 : (strs x).drop q = strs (x.drop q) := by rw [← List.map_drop]
        rw [e2, Bool.eq_iff_iff, decide_eq_true_eq, decide_eq_true_eq, strs_inj]
      rw [e] at this
      exact this
    rw [← hq] at HD
    by_cases he : x.drop q = y
    · have HF : Hid (restB x y = some (x.take q)) := by show _ = _; rw [HD.out, if_pos ⟨by omega, he⟩]
      rw [decide_eq_true he] at HQ
      have hql : q ≤ c := by have := h.cap; omega
      clear hx hy h k HD he hq
      go_enter Tryz.func141, Tryz.ntmps141
      go_wp2_with (go_at_call 183; (with_reducible refine (HQ _ (Ext.refl _)).mono ?_); rintro e w1 ⟨rfl, hx1⟩; have HX1 := hid hx1; clear hx1)
      go_ret2
      refine ⟨_, _, _, by rw [HF.out]; rfl, ?_, HX1.out⟩
      rw [HF.out]
      have := HH.out.ext HX1.out
      rw [← List.map_take] at this
      exact this
    · have HF : Hid (restB x y = none) := by show _ = _; rw [HD.out, if_neg (fun h => he h.2)]
      rw [decide_eq_false he] at HQ
      clear hx hy h k HD he hq
      go_enter Tryz.func141, Tryz.ntmps141
      go_wp2_with (go_at_call 183; (with_reducible refine (HQ _ (Ext.refl _)).mono ?_); rintro e w1 ⟨rfl, hx1⟩; have HX1 := hid hx1; clear hx1)
      go_ret2
      exact ⟨none, 0, 0, by rw [HF.out]; rfl, by rw [HF.out]; exact Row.nil _ _ _, HX1.out⟩
set_option maxHeartbeats 2000000 in
/-- The reference's below. -/
theorem below_any {S T : Nat → Prop} {A B : Option Addr} {n c m d : Nat} {x y : List (List UInt8)} {w : World} (h : Row Elem.str S w A n c (strs x)) (k : Row Elem.str T w B m d (strs y)) :
    Calls Tryz.prog 148 #[.slice A n c, .slice B m d] w (RestSays S w x y) := by
  have hx0 : n = x.length := by rw [h.len, List.length_map]
  have hy0 : m = y.length := by rw [k.len, List.length_map]
  have hl := hid h.len
  have kl := hid k.len
  have hn : n ≤ 9223372036854775807 := by have := h.cap; have := h.most; simp only [maxLen] at this; omega
  have hm : m ≤ 9223372036854775807 := by have := k.cap; have := k.most; simp only [maxLen] at this; omega
  have HK := hid k
  have H0 := hid h
  have HD : Hid (restB x y = if y.length ≤ x.length ∧ x.drop (x.length - y.length) = y then some (x.take (x.length - y.length)) else none) := rfl
  rw [← hx0, ← hy0] at HD
  by_cases hlt : n < m
  · have t1 : (n : Int) < (m : Int) := by omega
    have HF : Hid (restB x y = none) := by show _ = _; rw [HD.out, if_neg (fun h => by omega)]
    clear hx0 hy0 h k HD hl kl
    go_enter Tryz.func148, Tryz.ntmps148
    go_wp2
    go_ret2
    exact ⟨none, 0, 0, by rw [HF.out]; rfl, by rw [HF.out]; exact Row.nil _ _ _, Ext.refl _⟩
  · obtain ⟨q, hq⟩ : ∃ q, q = n - m := ⟨_, rfl⟩
    have t0 : (n : Int) - (m : Int) = (q : Int) := by omega
    have t1 : ¬ (n : Int) < (m : Int) := by omega
    have hqm : q + m ≤ n := by omega
    have hs2 := sslice_h A n c q (by have := h.cap; omega)
    have HH := hid (h.head (k := q) (by omega))
    have HDQ : Hid (decide (x.drop q = y) = decide ((strs x).drop q = strs y)) := by
      show _ = _
      have e2 : (strs x).drop q = strs (x.drop q) := by rw [← List.map_drop]
      rw [e2, Bool.eq_iff_iff, decide_eq_true_eq, decide_eq_true_eq, strs_inj]
    have HLX : Hid ((strs x).length = n ∧ (strs y).length = m) := ⟨hl.out.symm, kl.out.symm⟩
    have HQN : Hid (q + m = n) := by show _ = _; omega
    have hql : q ≤ c := by have := h.cap; omega
    rw [← hq] at HD
    generalize hX : strs x = X at *
    generalize hY : strs y = Y at *
    have HX := hid hX
    clear hX hY hx0 hy0 h k hq hl kl
    go_enter Tryz.func148, Tryz.ntmps148
    go_wp2
    go_loopw [20] (fun i wr => ∃ j : Nat, j ≤ m ∧ i = .int .i64 j ∧ Hid ((X.drop q).take j = Y.take j) ∧ Hid (Ext w wr)) (fun i _ => m - (intOf i).toNat)
    case atStart => exact ⟨0, by omega, rfl, by simp [Hid], Ext.refl w⟩
    case round =>
      obtain ⟨j, hj, rfl, Htk, hx⟩ := hrel
      by_cases hlt : j < m
      · obtain ⟨b1, o1, rfl, c1⟩ := (H0.out.ext hx.out).str_cell (by omega)
        obtain ⟨b2, o2, rfl, c2⟩ := (HK.out.ext hx.out).str_cell (by omega)
        have e1 := c1 (q + j) (by omega)
        have e2 := c2 j hlt
        clear c1 c2
        have g1 : X[q + j]? = some (X[q + j]?.getD ByteArray.empty) := by have := HLX.out; rw [List.getElem?_eq_getElem (by omega)]; simp
        have g2 : Y[j]? = some (Y[j]?.getD ByteArray.empty) := by have := HLX.out; rw [List.getElem?_eq_getElem (by omega)]; simp
        have Hg := hid (And.intro g1 g2)
        clear g1 g2
        have hqj : q + j < n := by omega
        have tp : (q : Int) + (j : Int) = ((q + j : Nat) : Int) := by omega
        obtain ⟨p, Hpq⟩ : ∃ p, Hid (q + j = p) := ⟨_, rfl⟩
        rw [Hpq.out] at tp hqj e1 Hg
        generalize X[p]?.getD ByteArray.empty = x1 at *
        generalize Y[j]?.getD ByteArray.empty = x2 at *
        by_cases he : x1 = x2
        · have He := hid he
          have Hne := str_eq he
          clear he
          go_wp2
          refine wp_region_plan (.read 0 (.read 1 (.read 2 (.read 3 (.read 4 (.read 5 (.read 6 (.read 7 (.read 8 (.read 9 (.read 10 .done))))))))))) (by kernel_rfl) (by kernel_rfl) ?_
          intro wD hxD
          have c1 := cell_later (cell_later e1 _ hxD)
          have c2 := cell_later (cell_later e2 _ hxD)
          repeat' (first
            | (refine walks_move rfl rfl ?_; simp only [Act.put, Act.eval, List.setIfInBounds_toArray, List.set_cons_zero, List.set_cons_succ, Array.getD_eq_getD_getElem?, List.getElem?_toArray, List.getElem?_cons_zero, List.getElem?_cons_succ, Option.getD_some])
            | (refine walks_assign rfl rfl ?_; simp only [Act.put, Act.eval, List.setIfInBounds_toArray, List.set_cons_zero, List.set_cons_succ, Array.getD_eq_getD_getElem?, List.getElem?_toArray, List.getElem?_cons_zero, List.getElem?_cons_succ, Option.getD_some])
            | (refine walks_skip rfl rfl ?_; simp only [Act.put, List.setIfInBounds_toArray, List.set_cons_zero, List.set_cons_succ])
            | (refine walks_unwanted rfl rfl ?_; simp only [Act.put, List.setIfInBounds_toArray, List.set_cons_zero, List.set_cons_succ])
            | (refine walks_read (v := ?_) rfl rfl (fun w' hE => ?_) ?_; rotate_left 1; (· ((try (have hEx := Ext.trans (Hid.out XE) hE)); go_simp; (try go_bits); with_reducible rfl)); simp only [Act.put, List.setIfInBounds_toArray, List.set_cons_zero, List.set_cons_succ])
            | (refine walks_alt ?_ ?_)
            | (refine walks_main rfl rfl (fun K hK => ?_); go_wp2_with (fail); refine hK _ _ (by first | assumption | exact Ext.alloc _ _ | exact Ext.refl _) ?_; clear hK K; try simp only [Act.put, List.setIfInBounds_toArray, List.set_cons_zero, List.set_cons_succ]))
          refine walks_done ?_
          go_wp2
          refine ⟨⟨j + 1, by omega, by go_num, ?_, hx.out.trans hxD⟩, by simp [intOf]; omega⟩
          show _ = _
          rw [List.take_add_one, List.take_add_one, Htk.out, List.getElem?_drop, Hpq.out, Hg.out.1, Hg.out.2, He.out]
        · have He := hid he
          have Hne := str_ne he
          clear he
          go_wp2
          refine wp_region_plan (.read 0 (.read 1 (.read 2 (.read 3 (.read 4 (.read 5 (.read 6 (.read 7 (.read 8 (.read 9 (.read 10 .done))))))))))) (by kernel_rfl) (by kernel_rfl) ?_
          intro wD hxD
          have c1 := cell_later (cell_later e1 _ hxD)
          have c2 := cell_later (cell_later e2 _ hxD)
          repeat' (first
            | (refine walks_move rfl rfl ?_; simp only [Act.put, Act.eval, List.setIfInBounds_toArray, List.set_cons_zero, List.set_cons_succ, Array.getD_eq_getD_getElem?, List.getElem?_toArray, List.getElem?_cons_zero, List.getElem?_cons_succ, Option.getD_some])
            | (refine walks_assign rfl rfl ?_; simp only [Act.put, Act.eval, List.setIfInBounds_toArray, List.set_cons_zero, List.set_cons_succ, Array.getD_eq_getD_getElem?, List.getElem?_toArray, List.getElem?_cons_zero, List.getElem?_cons_succ, Option.getD_some])
            | (refine walks_skip rfl rfl ?_; simp only [Act.put, List.setIfInBounds_toArray, List.set_cons_zero, List.set_cons_succ])
            | (refine walks_unwanted rfl rfl ?_; simp only [Act.put, List.setIfInBounds_toArray, List.set_cons_zero, List.set_cons_succ])
            | (refine walks_read (v := ?_) rfl rfl (fun w' hE => ?_) ?_; rotate_left 1; (· ((try (have hEx := Ext.trans (Hid.out XE) hE)); go_simp; (try go_bits); with_reducible rfl)); simp only [Act.put, List.setIfInBounds_toArray, List.set_cons_zero, List.set_cons_succ])
            | (refine walks_alt ?_ ?_)
            | (refine walks_main rfl rfl (fun K hK => ?_); go_wp2_with (fail); refine hK _ _ (by first | assumption | exact Ext.alloc _ _ | exact Ext.refl _) ?_; clear hK K; try simp only [Act.put, List.setIfInBounds_toArray, List.set_cons_zero, List.set_cons_succ]))
          refine walks_done ?_
          go_wp2
          go_ret2
          have HF : restB x y = none := by
            rw [HD.out, if_neg]
            intro hh
            have e := decide_eq_true hh.2
            rw [HDQ.out, decide_eq_true_eq] at e
            have e3 : (X.drop q)[j]? = Y[j]? := by rw [e]
            rw [List.getElem?_drop, Hpq.out, Hg.out.1, Hg.out.2] at e3
            exact He.out (Option.some.inj e3)
          exact ⟨none, 0, 0, by rw [HF]; rfl, by rw [HF]; exact Row.nil _ _ _, hx.out.trans hxD⟩
      · obtain rfl : j = m := by omega
        go_wp2
        go_ret2
        have HF : restB x y = some (x.take q) := by
          rw [HD.out, if_pos]
          refine ⟨by omega, ?_⟩
          have e := take_eq_all (by rw [List.length_drop, HLX.out.1]; have := HQN.out; omega) HLX.out.2.symm Htk.out
          have e2 := decide_eq_true e
          rw [← HDQ.out, decide_eq_true_eq] at e2
          exact e2
        refine ⟨_, _, _, by rw [HF]; rfl, ?_, hx.out⟩
        rw [HF]
        have := HH.out.ext hx.out
        rw [← HX.out, ← List.map_take] at this
        exact this
/-- Both sides' Under. -/
def underS (a b : List UInt8) : Bool := decide (codeR (partsB a) = 0) && decide (codeR (partsB b) = 0) && (restB (okL (partsB a)) (okL (partsB b))).isSome
set_option maxHeartbeats 2000000 in
theorem under_any (a b : ByteArray) (w : World) (hG : Gl w) : Calls Tryz.prog 82 #[.string a, .string b] w fun e w' => e = .returned (.bool (underS (bys a) (bys b))) ∧ Ext w w' := by
  have HG := hid hG
  have HPA : ∀ w, Gl w → Calls Tryz.prog 60 #[.string a] w (TextsSays w (bys a)) := fun w hG => parts_any a w hG
  have HPB : ∀ w, Gl w → Calls Tryz.prog 60 #[.string b] w (TextsSays w (bys b)) := fun w hG => parts_any b w hG
  unfold TextsSays at HPA HPB
  have HRS : ∀ (S T : Nat → Prop) A B n c m d w, Row Elem.str S w A n c (strs (okL (partsB (bys a)))) → Row Elem.str T w B m d (strs (okL (partsB (bys b)))) →
      Calls Tryz.prog 141 #[.slice A n c, .slice B m d] w (RestSays S w (okL (partsB (bys a))) (okL (partsB (bys b)))) := fun S T A B n c m d w h k => rest_any h k
  unfold RestSays at HRS
  have HUD : Hid (underS (bys a) (bys b) = (decide (codeR (partsB (bys a)) = 0) && decide (codeR (partsB (bys b)) = 0) && (restB (okL (partsB (bys a))) (okL (partsB (bys b)))).isSome)) := rfl
  clear hG
  generalize partsB (bys a) = pa at *
  generalize partsB (bys b) = pb at *
  generalize underS (bys a) (bys b) = u at *
  have HRD := hid (Eq.refl ((restB (okL pa) (okL pb)).isSome))
  have c1 : (codeR pa == 0) = true ∨ (codeR pa == 0) = false := by cases codeR pa == 0 <;> simp
  have c2 : (codeR pb == 0) = true ∨ (codeR pb == 0) = false := by cases codeR pb == 0 <;> simp
  have c3 : Hid ((restB (okL pa) (okL pb)).isSome = true) ∨ Hid ((restB (okL pa) (okL pb)).isSome = false) := by cases (restB (okL pa) (okL pb)).isSome <;> simp [Hid]
  have e1 : decide (codeR pa = 0) = (codeR pa == 0) := rfl
  have e2 : decide (codeR pb = 0) = (codeR pb == 0) := rfl
  rw [e1, e2] at HUD
  clear e1 e2
  generalize codeR pa = ca at *
  generalize codeR pb = cb at *
  generalize okL pa = la at *
  generalize okL pb = lb at *
  rcases c1 with c1 | c1 <;> rcases c2 with c2 | c2 <;> rcases c3 with c3 | c3
  all_goals
    rw [c1, c2, c3.out] at HUD
    go_enter Tryz.func82, Tryz.ntmps82
    go_wp2_with (
      first
      | (go_at_call 60; first
          | ((with_reducible refine (HPA _ HG.out).mono ?_); rintro e w1 ⟨A1, n1, k1, rfl, hr1, hx1⟩; have HR1 := hid hr1; have HX1 := hid hx1; clear hr1 hx1)
          | ((with_reducible refine (HPB _ (HG.out.ext HX1.out)).mono ?_); rintro e w2 ⟨A2, n2, k2, rfl, hr2, hx2⟩; have HR2 := hid hr2; have HX2 := hid hx2; clear hr2 hx2))
      | (go_at_call 141; (with_reducible refine (HRS _ _ _ _ _ _ _ _ _ (HR1.out.ext HX2.out) HR2.out).mono ?_); rintro e w3 ⟨A3, n3, k3, rfl, hr3, hx3⟩; have HX3 := hid hx3; rw [c3.out]; clear hr3 hx3))
    all_goals go_ret
    all_goals exact ⟨by rw [HUD.out]; rfl, (HX1.out.trans HX2.out).trans HX3.out⟩
set_option maxHeartbeats 2000000 in
theorem runder_any (a b : ByteArray) (w : World) (hG : Gl w) : Calls Tryz.prog 87 #[.string a, .string b] w fun e w' => e = .returned (.bool (underS (bys a) (bys b))) ∧ Ext w w' := by
  have HG := hid hG
  have HPA : ∀ w, Gl w → Calls Tryz.prog 66 #[.string a] w (TextsSays w (bys a)) := fun w hG => rparts_any a w hG
  have HPB : ∀ w, Gl w → Calls Tryz.prog 66 #[.string b] w (TextsSays w (bys b)) := fun w hG => rparts_any b w hG
  unfold TextsSays at HPA HPB
  have HRS : ∀ (S T : Nat → Prop) A B n c m d w, Row Elem.str S w A n c (strs (okL (partsB (bys a)))) → Row Elem.str T w B m d (strs (okL (partsB (bys b)))) →
      Calls Tryz.prog 148 #[.slice A n c, .slice B m d] w (RestSays S w (okL (partsB (bys a))) (okL (partsB (bys b)))) := fun S T A B n c m d w h k => below_any h k
  unfold RestSays at HRS
  have HUD : Hid (underS (bys a) (bys b) = (decide (codeR (partsB (bys a)) = 0) && decide (codeR (partsB (bys b)) = 0) && (restB (okL (partsB (bys a))) (okL (partsB (bys b)))).isSome)) := rfl
  clear hG
  generalize partsB (bys a) = pa at *
  generalize partsB (bys b) = pb at *
  generalize underS (bys a) (bys b) = u at *
  have HRD := hid (Eq.refl ((restB (okL pa) (okL pb)).isSome))
  have c1 : (codeR pa == 0) = true ∨ (codeR pa == 0) = false := by cases codeR pa == 0 <;> simp
  have c2 : (codeR pb == 0) = true ∨ (codeR pb == 0) = false := by cases codeR pb == 0 <;> simp
  have c3 : Hid ((restB (okL pa) (okL pb)).isSome = true) ∨ Hid ((restB (okL pa) (okL pb)).isSome = false) := by cases (restB (okL pa) (okL pb)).isSome <;> simp [Hid]
  have e1 : decide (codeR pa = 0) = (codeR pa == 0) := rfl
  have e2 : decide (codeR pb = 0) = (codeR pb == 0) := rfl
  rw [e1, e2] at HUD
  clear e1 e2
  generalize codeR pa = ca at *
  generalize codeR pb = cb at *
  generalize okL pa = la at *
  generalize okL pb = lb at *
  rcases c1 with c1 | c1 <;> rcases c2 with c2 | c2 <;> rcases c3 with c3 | c3
  all_goals
    rw [c1, c2, c3.out] at HUD
    go_enter Tryz.func87, Tryz.ntmps87
    go_wp2_with (
      first
      | (go_at_call 66; first
          | ((with_reducible refine (HPA _ HG.out).mono ?_); rintro e w1 ⟨A1, n1, k1, rfl, hr1, hx1⟩; have HR1 := hid hr1; have HX1 := hid hx1; clear hr1 hx1)
          | ((with_reducible refine (HPB _ (HG.out.ext HX1.out)).mono ?_); rintro e w2 ⟨A2, n2, k2, rfl, hr2, hx2⟩; have HR2 := hid hr2; have HX2 := hid hx2; clear hr2 hx2))
      | (go_at_call 148; (with_reducible refine (HRS _ _ _ _ _ _ _ _ _ (HR1.out.ext HX2.out) HR2.out).mono ?_); rintro e w3 ⟨A3, n3, k3, rfl, hr3, hx3⟩; have HX3 := hid hx3; rw [c3.out]; clear hr3 hx3))
    all_goals go_ret
    all_goals exact ⟨by rw [HUD.out]; rfl, (HX1.out.trans HX2.out).trans HX3.out⟩
end Go.Proofs.YtencmdpjiafnaaaGreatDoor
