import Derived.Test.YtlckfnchabfcaaaGreatDoorZ40
import Derived.Test.YtlckfnchabfcaaaGreatDoorZ21
import Derived.Test.YtlckfnchabfcaaaGreatDoorZ43
import Derived.Test.YtlckfnchabfcaaaGreatDoorZ46
/- The walks of the reference's Small, of entries and of configs, and of vergerlaw16's few: they answer. -/
namespace Go.Proofs.YtlckfnchabfcaaaGreatDoor
open Go.RowKit
set_option maxRecDepth 100000
set_option linter.unusedSimpArgs false
set_option linter.unusedVariables false

def BoolSays (w : World) (e : Ending) (w' : World) : Prop := ∃ b : Bool, e = .returned (.bool b) ∧ Ext w w'
theorem BoolSays.of {w w' : World} {e : Ending} {b : Bool} (h : e = .returned (.bool b)) (hx : Ext w w') : BoolSays w e w' := ⟨b, h, hx⟩
set_option maxHeartbeats 2000000 in
theorem rsmall09_any {S : Nat → Prop} {A : Option Addr} {n c : Nat} {w : World} {l : List Ent} (h : Row Elem.ent S w A n c l) : Calls Tryz.prog 29 #[.slice A n c] w (BoolSays w) := by
  have HR := hid h
  have hn : n ≤ 9223372036854775807 := by have := h.cap; have := h.most; simp only [maxLen] at this; omega
  clear h
  go_enter Tryz.func29, Tryz.ntmps29
  go_wp2
  go_loopw [3, 9] (fun z i wr => ∃ (j : Nat) (y : Int), j ≤ n ∧ i = .int .i64 j ∧ z = .int .i64 y ∧ Hid (Ext w wr)) (fun _ i _ => n - (intOf i).toNat)
  case atStart => exact ⟨0, 0, by omega, rfl, rfl, Ext.refl _⟩
  case round =>
    obtain ⟨j, y, hj, rfl, rfl, hx⟩ := hrel
    by_cases hlt : j < n
    · obtain ⟨b1, o1, v1, x1, rfl, g1, -, ⟨A1, n1, c1, rfl, r1⟩, q1⟩ := (HR.out.ext hx.out).at_ hlt
      have e10 := q1 0 _ rfl
      have e11 := q1 1 _ rfl
      simp only [Elem.ent, Nat.add_zero] at e10 e11
      have R1 := hid r1
      have hn1 : n1 ≤ 9223372036854775807 := by have := r1.cap; have := r1.most; simp only [maxLen] at this; omega
      clear q1 g1 r1
      go_wp2
      obtain ⟨wo, hwo⟩ : ∃ x, x = wr := ⟨_, rfl⟩
      subst hwo
      go_loopw [3, 28] (fun z i wr => ∃ (k : Nat) (y : Int), k ≤ n1 ∧ i = .int .i64 k ∧ z = .int .i64 y ∧ wr = wo) (fun _ i _ => n1 - (intOf i).toNat)
      case atStart => exact ⟨0, _, by omega, rfl, rfl, rfl⟩
      case round =>
        obtain ⟨k, y2, hk, rfl, rfl, rfl⟩ := hrel
        by_cases hlt2 : k < n1
        · obtain ⟨b2, o2, v2, x2, rfl, g2, -, ⟨A2, n2, c2, rfl, r2⟩, q2⟩ := R1.out.at_ hlt2
          have e20 := q2 0 _ rfl
          have e21 := q2 1 _ rfl
          simp only [Elem.att, Nat.add_zero] at e20 e21
          have R2 := hid r2
          have hn2 : n2 ≤ 9223372036854775807 := by have := r2.cap; have := r2.most; simp only [maxLen] at this; omega
          clear q2 g2 r2
          go_wp2
          obtain ⟨wp, hwp⟩ : ∃ x, x = wr := ⟨_, rfl⟩
          subst hwp
          go_loopw [3, 54] (fun z i wr => ∃ (p : Nat) (y : Int), p ≤ n2 ∧ i = .int .i64 p ∧ z = .int .i64 y ∧ wr = wp) (fun _ i _ => n2 - (intOf i).toNat)
          case atStart => exact ⟨0, _, by omega, rfl, rfl, rfl⟩
          case round =>
            obtain ⟨p, y3, hp, rfl, rfl, rfl⟩ := hrel
            by_cases hlt3 : p < n2
            · obtain ⟨b3, o3, rfl, c3⟩ := R2.out.str_cell (by omega)
              have e30 := c3 p hlt3
              clear c3
              generalize x2.vals[p]?.getD ByteArray.empty = s3 at *
              go_wp2
              exact ⟨⟨p + 1, _, by omega, by go_num, rfl, by first | rfl | trivial⟩, by simp [intOf]; omega⟩
            · obtain rfl : p = n2 := by omega
              go_wp2
              exact ⟨⟨k + 1, _, by omega, by go_num, rfl, by first | rfl | trivial⟩, by simp [intOf]; omega⟩
        · obtain rfl : k = n1 := by omega
          go_wp2
          all_goals first
            | (go_ret; exact BoolSays.of rfl (hx.out))
            | exact ⟨⟨j + 1, _, by omega, by go_num, rfl, hx⟩, by simp [intOf]; omega⟩
    · obtain rfl : j = n := by omega
      go_wp2
      go_ret
      exact BoolSays.of rfl (hx.out)
set_option maxHeartbeats 4000000 in
theorem rsmall15_any {S : Nat → Prop} {w : World} {A : Option Addr} {n c : Nat} {B : Option Addr} {m d : Nat} {s : List (List Cxt)} {t : List CutR} (h : Row Elem.srw S w A n c s) (ht : Row Elem.cut S w B m d t) :
    Calls Tryz.prog 19 #[.agg #[.slice A n c, .slice B m d]] w (BoolSays w) := by
  have HR := hid h
  have hn : n ≤ 9223372036854775807 := by have := h.cap; have := h.most; simp only [maxLen] at this; omega
  have HB0 := hid (Bx.make (Ext.refl w) #[.slice A n c, .slice B m d] 25)
  clear h ht
  go_enter Tryz.func19, Tryz.ntmps19
  go_wp2
  go_loopw [3, 13] (fun z i wr => ∃ (j : Nat) (y : Int), j ≤ n ∧ i = .int .i64 j ∧ z = .int .i64 y ∧ Hid (Bx w wr w.heap.size 25 #[.slice A n c, .slice B m d])) (fun _ i _ => n - (intOf i).toNat)
  case atStart => exact ⟨0, _, by omega, rfl, rfl, HB0⟩
  case round =>
    obtain ⟨j, y, hj, rfl, rfl, HB⟩ := hrel
    have p0 := HB.out.cell (i := 0) rfl
    by_cases hlt : j < n
    · obtain ⟨b1, o1, v1, x1, rfl, g1, -, ⟨A1, n1, c1, rfl, r1⟩, q1⟩ := HR.out.at_ hlt
      have E1 := hid (q1 0 _ rfl)
      have e1 := cell_later E1.out _ HB.out.ext
      simp only [Elem.srw, Elem.slc, Nat.add_zero, Nat.mul_one] at e1
      have R1 := hid r1
      have hn1 : n1 ≤ 9223372036854775807 := by have := r1.cap; have := r1.most; simp only [maxLen] at this; omega
      clear q1 g1 r1
      go_wp2
      clear e1 p0
      go_loopw [3, 25] (fun z i wr => ∃ (k : Nat) (y : Int), k ≤ n1 ∧ i = .int .i64 k ∧ z = .int .i64 y ∧ Hid (Bx w wr w.heap.size 25 #[.slice (some ⟨b1, o1, none⟩) n c, .slice B m d])) (fun _ i _ => n1 - (intOf i).toNat)
      case atStart => exact ⟨0, _, by omega, rfl, rfl, HB⟩
      case round =>
        obtain ⟨k, y2, hk, rfl, rfl, HB2⟩ := hrel
        have p0 := HB2.out.cell (i := 0) rfl
        have e1 := cell_later E1.out _ HB2.out.ext
        simp only [Elem.srw, Elem.slc, Nat.add_zero, Nat.mul_one] at e1
        by_cases hlt2 : k < n1
        · obtain ⟨b2, o2, v2, x2, rfl, g2, -, ⟨A2, n2, c2, B2, m2, d2, rfl, r2, s2⟩, q2⟩ := (R1.out.ext HB2.out.ext).at_ hlt2
          have e20 := q2 0 _ rfl
          have e21 := q2 1 _ rfl
          have e22 := q2 2 _ rfl
          simp only [Elem.cxt, Nat.add_zero] at e20 e21 e22
          have HSM : ∀ w', Ext wr w' → Calls Tryz.prog 29 #[.slice A2 n2 c2] w' (BoolSays w') := fun w' hx => rsmall09_any (r2.ext hx)
          unfold BoolSays at HSM
          clear q2 g2 r2 s2
          go_wp2_with (go_at_call 29; (with_reducible refine (HSM _ (Ext.alloc _ _)).mono ?_); rintro e w7 ⟨b7, rfl, hx7⟩; have HB7 := hid (HB2.out.later ((Ext.alloc _ _).trans hx7)); clear hx7; cases b7)
          all_goals first
            | (go_ret; exact BoolSays.of rfl (HB7.out.ext))
            | (go_ret; exact BoolSays.of rfl (HB2.out.ext.trans (Ext.alloc _ _)))
            | exact ⟨⟨k + 1, _, by omega, by go_num, rfl, HB7⟩, by simp [intOf]; omega⟩
        · obtain rfl : k = n1 := by omega
          go_wp2
          all_goals first
            | (go_ret; exact BoolSays.of rfl (HB2.out.ext))
            | exact ⟨⟨j + 1, _, by omega, by go_num, rfl, HB2⟩, by simp [intOf]; omega⟩
    · obtain rfl : j = n := by omega
      go_wp2
      go_ret
      exact BoolSays.of rfl (HB.out.ext)
set_option maxHeartbeats 1000000 in
theorem few16_any {S : Nat → Prop} {w : World} {A : Option Addr} {n c : Nat} {B : Option Addr} {m d : Nat} {s : List (List Cxt)} {t : List CutR} (h : Row Elem.srw S w A n c s) (ht : Row Elem.cut S w B m d t) (name : ByteArray) :
    Calls Tryz.prog 6 #[.agg #[.slice A n c, .slice B m d], .string name] w (BoolSays w) := by
  have HSM : ∀ w', Ext w w' → Calls Tryz.prog 19 #[.agg #[.slice A n c, .slice B m d]] w' (BoolSays w') := fun w' hx => rsmall15_any (h.ext hx) (ht.ext hx)
  unfold BoolSays at HSM
  clear h ht
  go_enter Tryz.func6, Tryz.ntmps6
  go_wp2_with (go_at_call 19; (with_reducible refine (HSM _ (Ext.alloc _ _)).mono ?_); rintro e w7 ⟨b7, rfl, hx7⟩; have HX7 := hid ((Ext.alloc _ _).trans hx7); clear hx7; cases b7)
  all_goals
    go_ret
    exact BoolSays.of rfl (HX7.out)
end Go.Proofs.YtlckfnchabfcaaaGreatDoor
/- The walks of vergerlaw16's sameInts and awake; that a way goes step by step. -/
namespace Go.Proofs.YtlckfnchabfcaaaGreatDoor
open Go.RowKit
set_option maxRecDepth 100000
set_option linter.unusedSimpArgs false
set_option linter.unusedVariables false

theorem walk_range {held : Int → Bool} {near : Int → Int × Bool} {n : Int} : ∀ (f : Nat) (path : List Int) (s : Int), ∀ x ∈ (walkF held near n f path s).1, x ∈ path ∨ (0 ≤ x ∧ x < n)
  | 0, path, s, x, hx => .inl hx
  | f + 1, path, s, x, hx => by
    cases hst : stepF held near n path s with
    | inl c => rw [walkF_inl hst] at hx; exact .inl hx
    | inr t =>
      rw [walkF_inr hst] at hx
      rcases walk_range f (path ++ [t]) t x hx with h | h
      · rcases List.mem_append.1 h with h | h
        · exact .inl h
        · simp at h
          subst h
          right
          unfold stepF at hst
          split at hst
          · cases hst
          · split at hst
            · cases hst
            · split at hst
              · cases hst
              · rename_i hr
                split at hst
                · cases hst
                · injection hst with hst
                  rw [hst] at hr
                  omega
      · exact .inr h
/-- Each step of a way is the nearer one's; from there it goes on as it went. -/
theorem path_steps (c : RtC) (s : Int) (nm : List UInt8) (k : Nat) (hk : k + 1 < (pathF c s nm).1.length) :
    ∃ a b, (pathF c s nm).1[k]? = some a ∧ (pathF c s nm).1[k + 1]? = some b ∧ nearF c a nm = (b, true) ∧ ((pathF c s nm).2 ≠ 54 → pathF c b nm = ((pathF c s nm).1.drop (k + 1), (pathF c s nm).2)) := by
  by_cases h1 : codeR (partsB nm) ≠ 0
  · have e : pathF c s nm = ([], 34) := by unfold pathF; rw [if_pos h1]
    rw [e] at hk
    simp at hk
  by_cases h2 : s < 0 ∨ (c.servers.length : Int) ≤ s
  · have e : pathF c s nm = ([], 1) := by unfold pathF; rw [if_neg h1, if_pos h2]
    rw [e] at hk
    simp at hk
  have hP : ∀ b, ¬ (b < 0 ∨ (c.servers.length : Int) ≤ b) → pathF c b nm = walkF (fun s => (heldF c s nm).2) (fun s => nearF c s nm) c.servers.length (c.servers.length + 1) [b] b := fun b hb => by unfold pathF; rw [if_neg h1, if_neg hb]
  have e := hP s h2
  rw [e] at hk ⊢
  obtain ⟨q, q1, q2, -⟩ := walk_chain (held := fun s => (heldF c s nm).2) (near := fun s => nearF c s nm) (n := c.servers.length) (c.servers.length + 1) [] s
  rw [List.nil_append, List.nil_append] at q1
  have hr := walk_range (held := fun s => (heldF c s nm).2) (near := fun s => nearF c s nm) (n := c.servers.length) (c.servers.length + 1) [s] s
  have hw := walk_from (held := fun s => (heldF c s nm).2) (near := fun s => nearF c s nm) (n := c.servers.length) (c.servers.length + 1) [] s q (walkF (fun s => (heldF c s nm).2) (fun s => nearF c s nm) c.servers.length (c.servers.length + 1) [s] s).2
    (by rw [List.nil_append, List.nil_append]; exact Prod.ext q1 rfl)
  rw [q1] at hk hr ⊢
  refine ⟨(s :: q)[k]'(by omega), (s :: q)[k + 1], List.getElem?_eq_getElem _, List.getElem?_eq_getElem hk, q2 k _ _ (List.getElem?_eq_getElem _) (List.getElem?_eq_getElem hk), fun h54 => ?_⟩
  have hb : ¬ ((s :: q)[k + 1] < 0 ∨ (c.servers.length : Int) ≤ (s :: q)[k + 1]) := by
    rcases hr _ (List.getElem_mem hk) with h | h
    · simp only [List.mem_singleton] at h
      rw [h]; exact h2
    · omega
  rw [hP _ hb]
  exact hw h54 (k + 1) _ (List.getElem?_eq_getElem hk) _ (Nat.le_refl _)
set_option maxHeartbeats 1000000 in
theorem sameints_any {S T : Nat → Prop} {A B : Option Addr} {n c m d : Nat} {a b : List Int} {w : World} (h : Row Elem.i64 S w A n c a) (k : Row Elem.i64 T w B m d b) :
    Calls Tryz.prog 10 #[.slice A n c, .slice B m d] w fun e w' => e = .returned (.bool (decide (a = b))) ∧ Ext w w' := by
  have HA := hid h
  have HB := hid k
  have hla := h.len
  have hlb := k.len
  have hn : n ≤ 9223372036854775807 := by have := h.cap; have := h.most; simp only [maxLen] at this; omega
  have hm : m ≤ 9223372036854775807 := by have := k.cap; have := k.most; simp only [maxLen] at this; omega
  clear h k
  by_cases hnm : n = m
  case neg =>
    have t0 : ((n : Int) != (m : Int)) = true := by rw [bne_iff_ne]; omega
    have t1 : (n != m) = true := by rw [bne_iff_ne]; omega
    have HF : Hid (decide (a = b) = false) := decide_eq_false (fun e => hnm (by rw [hla, hlb, e]))
    clear hla hlb hnm
    go_enter Tryz.func10, Tryz.ntmps10
    go_wp2
    go_ret
    exact ⟨by rw [HF.out]; (try rfl), Ext.refl _⟩
  subst hnm
  have HLA := hid hla
  have HLB := hid hlb
  clear hla hlb
  go_enter Tryz.func10, Tryz.ntmps10
  go_wp2
  go_loopw [13] (fun i wr => ∃ j : Nat, j ≤ n ∧ i = .int .i64 j ∧ Hid (a.take j = b.take j) ∧ Hid (Ext w wr)) (fun i _ => n - (intOf i).toNat)
  case atStart => exact ⟨0, by omega, rfl, by simp [Hid], Ext.refl _⟩
  case round =>
    obtain ⟨j, hj, rfl, Htk, hx⟩ := hrel
    by_cases hlt : j < n
    · obtain ⟨b1, o1, x1, rfl, g1, e1⟩ := HA.out.int_cell hlt
      obtain ⟨b2, o2, x2, rfl, g2, e2⟩ := HB.out.int_cell hlt
      have Hg := hid (And.intro g1 g2)
      have E1 := hid (cell_later e1 _ hx.out)
      have E2 := hid (cell_later e2 _ hx.out)
      clear g1 g2 e1 e2
      by_cases he : x1 = x2
      · have He := hid he
        have hb : (x1 != x2) = false := by rw [he]; simp
        clear he
        go_wp2
        refine wp_region_plan (.read 0 (.read 1 (.read 2 (.read 3 (.read 4 (.read 5 (.read 6 (.read 7 (.read 8 .done))))))))) (by kernel_rfl) (by kernel_rfl) ?_
        intro wD hxD
        have XE : Hid (Ext wD wD) := Ext.refl _
        have c1 := cell_later (cell_later E1.out _ hxD)
        have c2 := cell_later (cell_later E2.out _ hxD)
        repeat' (first
          | (refine walks_move rfl rfl ?_; simp only [Act.put, Act.eval, List.setIfInBounds_toArray, List.set_cons_zero, List.set_cons_succ, Array.getD_eq_getD_getElem?, List.getElem?_toArray, List.getElem?_cons_zero, List.getElem?_cons_succ, Option.getD_some])
          | (refine walks_assign rfl rfl ?_; simp only [Act.put, Act.eval, List.setIfInBounds_toArray, List.set_cons_zero, List.set_cons_succ, Array.getD_eq_getD_getElem?, List.getElem?_toArray, List.getElem?_cons_zero, List.getElem?_cons_succ, Option.getD_some])
          | (refine walks_skip rfl rfl ?_; simp only [Act.put, List.setIfInBounds_toArray, List.set_cons_zero, List.set_cons_succ])
          | (refine walks_unwanted rfl rfl ?_; simp only [Act.put, List.setIfInBounds_toArray, List.set_cons_zero, List.set_cons_succ])
          | (refine walks_read (v := ?_) rfl rfl (fun w' hE => ?_) ?_; rotate_left 1; (· ((try (have hEx := Ext.trans (Hid.out XE) hE)); go_simp; (try go_bits); with_reducible rfl)); simp only [Act.put, List.setIfInBounds_toArray, List.set_cons_zero, List.set_cons_succ])
          | (refine walks_alt ?_ ?_)
          | (refine walks_main rfl rfl (fun K hK => ?_); go_wp2_with (fail); refine hK _ _ (by first | assumption | exact Ext.alloc _ _ | exact Ext.refl _) ?_; clear hK K; try simp only [Act.put, List.setIfInBounds_toArray, List.set_cons_zero, List.set_cons_succ]))
        refine walks_done ?_
        go_wp2
        refine ⟨⟨j + 1, by omega, by go_num, ?_, hx.out.trans hxD⟩, by simp [intOf]; omega⟩
        show _ = _
        rw [List.take_add_one, List.take_add_one, Htk.out, Hg.out.1, Hg.out.2, He.out]
      · have He := hid he
        have hb : (x1 != x2) = true := by rw [bne_iff_ne]; exact he
        clear he
        go_wp2
        refine wp_region_plan (.read 0 (.read 1 (.read 2 (.read 3 (.read 4 (.read 5 (.read 6 (.read 7 (.read 8 .done))))))))) (by kernel_rfl) (by kernel_rfl) ?_
        intro wD hxD
        have XE : Hid (Ext wD wD) := Ext.refl _
        have c1 := cell_later (cell_later E1.out _ hxD)
        have c2 := cell_later (cell_later E2.out _ hxD)
        repeat' (first
          | (refine walks_move rfl rfl ?_; simp only [Act.put, Act.eval, List.setIfInBounds_toArray, List.set_cons_zero, List.set_cons_succ, Array.getD_eq_getD_getElem?, List.getElem?_toArray, List.getElem?_cons_zero, List.getElem?_cons_succ, Option.getD_some])
          | (refine walks_assign rfl rfl ?_; simp only [Act.put, Act.eval, List.setIfInBounds_toArray, List.set_cons_zero, List.set_cons_succ, Array.getD_eq_getD_getElem?, List.getElem?_toArray, List.getElem?_cons_zero, List.getElem?_cons_succ, Option.getD_some])
          | (refine walks_skip rfl rfl ?_; simp only [Act.put, List.setIfInBounds_toArray, List.set_cons_zero, List.set_cons_succ])
          | (refine walks_unwanted rfl rfl ?_; simp only [Act.put, List.setIfInBounds_toArray, List.set_cons_zero, List.set_cons_succ])
          | (refine walks_read (v := ?_) rfl rfl (fun w' hE => ?_) ?_; rotate_left 1; (· ((try (have hEx := Ext.trans (Hid.out XE) hE)); go_simp; (try go_bits); with_reducible rfl)); simp only [Act.put, List.setIfInBounds_toArray, List.set_cons_zero, List.set_cons_succ])
          | (refine walks_alt ?_ ?_)
          | (refine walks_main rfl rfl (fun K hK => ?_); go_wp2_with (fail); refine hK _ _ (by first | assumption | exact Ext.alloc _ _ | exact Ext.refl _) ?_; clear hK K; try simp only [Act.put, List.setIfInBounds_toArray, List.set_cons_zero, List.set_cons_succ]))
        refine walks_done ?_
        go_wp2
        go_ret
        refine ⟨?_, hx.out.trans hxD⟩
        rw [decide_eq_false (show ¬ a = b from fun e => He.out (by have h1 := Hg.out.1; rw [e, Hg.out.2] at h1; injection h1 with h1; exact h1.symm))]
        rfl
    · obtain rfl : j = n := by omega
      have h9 := Htk.out
      rw [List.take_of_length_le (Nat.le_of_eq HLA.out.symm), List.take_of_length_le (Nat.le_of_eq HLB.out.symm)] at h9
      have HF : Hid (decide (a = b) = true) := decide_eq_true h9
      clear h9
      go_wp2
      go_ret
      exact ⟨by rw [HF.out]; (try rfl), hx.out⟩
/-! ## awake -/
def wakeX : Cxt := ⟨⟨#[100, 99, 61, 120]⟩, [], []⟩
def wakeT : List (List Cxt) := [[], [wakeX]]
def wakeU : List CutR := [⟨⟨#[100, 99, 61, 120]⟩, 1⟩]
theorem wake_path : pathF (rtOf wakeT wakeU) 0 [99, 110, 61, 97, 44, 100, 99, 61, 120] = ([0, 1], 0) := by decide +kernel
theorem Row.lit {α : Type} {E : Elem α} {w : World} {vss : List (List Value)} {l : List α} (h : ∀ (i : Nat) v x, vss[i]? = some v → l[i]? = some x → E.R (fun _ => True) w v x) (hl : vss.length = l.length) (hm : l.length ≤ maxLen) (t : TypeId) :
    Row E (fun _ => True) (w.alloc (.cells vss.flatten.toArray t)) (some ⟨w.heap.size, 0, none⟩) l.length l.length l := by
  have hx : Ext w (w.alloc (.cells vss.flatten.toArray t)) := Ext.alloc _ _
  refine ⟨rfl, Nat.le_refl _, hm, vss, hl, .inr ⟨w.heap.size, 0, rfl, trivial, fun j u hj => ?_⟩, fun i v x hi hxx => ?_⟩
  · rw [Nat.zero_add, cell_of_row _ _ j vss.flatten.toArray t (0, 0) (heap_alloc_new w _)]
    simpa using hj
  · exact (E.same (E.mono (h i v x hi hxx) (T := fun b => True ∧ b < w.heap.size) (fun b hb _ => ⟨trivial, hb⟩)) fun b hb => hx.block b hb.2) |> fun q => E.mono q fun _ _ _ => trivial
theorem wake_cfg {w w1 w2 w3 : World} (e1 : w1 = w.alloc (.cells #[.string ⟨#[100, 99, 61, 120]⟩, .slice none 0 0, .slice none 0 0] 67))
    (e2 : w2 = w1.alloc (.cells #[.slice none 0 0, .slice (some ⟨w.heap.size, 0, none⟩) 1 1] 65)) (e3 : w3 = w2.alloc (.cells #[.string ⟨#[100, 99, 61, 120]⟩, .int .i64 1] 69)) :
    Ext w w3 ∧ CfgAt (fun _ => True) w3 (some ⟨w.heap.size + 1, 0, none⟩) 2 2 (some ⟨w.heap.size + 1 + 1, 0, none⟩) 1 1 wakeT wakeU := by
  have s1 : w1.heap.size = w.heap.size + 1 := by rw [e1]; simp
  have x1 : Ext w w1 := by rw [e1]; exact Ext.alloc _ _
  have s2 : w2.heap.size = w.heap.size + 1 + 1 := by rw [e2]; simp [s1]
  have x2 : Ext w1 w2 := by rw [e2]; exact Ext.alloc _ _
  have x3 : Ext w2 w3 := by rw [e3]; exact Ext.alloc _ _
  have r1 : Row Elem.cxt (fun _ => True) w1 (some ⟨w.heap.size, 0, none⟩) 1 1 [wakeX] := by
    rw [e1]
    exact Row.one (E := Elem.cxt) (S := fun _ => True) (v := [.string ⟨#[100, 99, 61, 120]⟩, .slice none 0 0, .slice none 0 0]) ⟨_, _, _, _, _, _, rfl, Row.nil _ _ _, Row.nil _ _ _⟩ _
  have r2 : Row Elem.srw (fun _ => True) w2 (some ⟨w.heap.size + 1, 0, none⟩) 2 2 wakeT := by
    rw [e2, ← s1]
    refine Row.lit (E := Elem.srw) (vss := [[.slice none 0 0], [.slice (some ⟨w.heap.size, 0, none⟩) 1 1]]) (l := wakeT) (fun i v x hv hx => ?_) rfl (by decide) _
    rcases i with _ | _ | i
    · simp [wakeT] at hv hx; subst hv hx; exact ⟨_, _, _, rfl, Row.nil _ _ _⟩
    · simp [wakeT] at hv hx; subst hv hx; exact ⟨_, _, _, rfl, r1⟩
    · simp at hv
  have r3 : Row Elem.cut (fun _ => True) w3 (some ⟨w.heap.size + 1 + 1, 0, none⟩) 1 1 wakeU := by
    rw [e3, ← s2]
    exact Row.one (E := Elem.cut) (S := fun _ => True) (x := (⟨⟨#[100, 99, 61, 120]⟩, 1⟩ : CutR)) (v := [.string ⟨#[100, 99, 61, 120]⟩, .int .i64 1]) rfl _
  exact ⟨x1.trans (x2.trans x3), r2.ext x3, r3⟩
set_option maxHeartbeats 1000000 in
theorem awake16_any (w : World) (hG : Gl w) : Calls Tryz.prog 5 #[] w fun e w' => e = .returned (.bool true) ∧ Ext w w' := by
  have HP : ∀ (A B : Option Addr) w3, Ext w w3 ∧ CfgAt (fun _ => True) w3 A 2 2 B 1 1 wakeT wakeU → ∀ w4, Ext w3 w4 → Calls Tryz.prog 7 #[.agg #[.slice A 2 2, .slice B 1 1], .int .i64 0, .string ⟨#[99, 110, 61, 97, 44, 100, 99, 61, 120]⟩] w4 fun e w' =>
      ∃ g o c, e = .returned (.tuple #[.slice (some ⟨g, o, none⟩) 2 c, .int .i64 0]) ∧ w'.cell? ⟨g, o + 1, none⟩ = some (.int .i64 1) ∧ Ext w4 w' := fun A B w3 h w4 hx => by
    refine (path_any (h.2.ext hx) (hG.ext (h.1.trans hx)) 0 ⟨#[99, 110, 61, 97, 44, 100, 99, 61, 120]⟩ (by decide) (by decide)).mono ?_
    unfold PathSays
    rw [show pathF (rtOf wakeT wakeU) 0 (bys ⟨#[99, 110, 61, 97, 44, 100, 99, 61, 120]⟩) = ([0, 1], 0) from wake_path]
    rintro e w' ⟨A', n', c', rfl, hr, hx'⟩
    obtain rfl : n' = 2 := hr.len
    obtain ⟨b, o, x, rfl, g, hc⟩ := hr.int_cell (i := 1) (by decide)
    simp at g
    subst g
    exact ⟨b, o, c', rfl, hc, hx'⟩
  clear hG
  go_enter Tryz.func5, Tryz.ntmps5
  go_wp2_with (go_at_call 7; (with_reducible refine (HP _ _ _ (wake_cfg rfl rfl rfl) _ (Ext.alloc _ _)).mono ?_); rintro e w9 ⟨g9, o9, c9, rfl, hc9, hx9⟩; have HX9 := hid ((wake_cfg rfl rfl rfl).1.trans ((Ext.alloc _ _).trans hx9)); clear hx9)
  go_ret
  exact ⟨rfl, HX9.out⟩
end Go.Proofs.YtlckfnchabfcaaaGreatDoor
