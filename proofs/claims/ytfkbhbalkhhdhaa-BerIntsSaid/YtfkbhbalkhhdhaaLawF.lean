/- BerInts, BerReads: the walks of the laws. -/
import Derived.Test.YtfkbhbalkhhdhaaBerW
namespace Go.Proofs.Ytfkbhbalkhhdhaa
open Go.RowKit
set_option maxRecDepth 100000

theorem lit_i64 {t : Int} (h : (Lit.int .i64 t).wf = true) : -9223372036854775808 ≤ t ∧ t ≤ 9223372036854775807 := by
  simp [Lit.wf, IntKind.min, IntKind.max, IntKind.signed, IntKind.bits] at h
  omega
theorem berInts_walk (t : Int) (w : World) (ht : (Lit.int .i64 t).wf = true) :
    Calls Try.prog 7 #[.int .i64 t] w fun e w' => e = .returned (.bool true) ∧ Below w.heap.size w w' := by
  have hr := lit_i64 ht
  have HP := hid (toIntP_intB t hr.1 hr.2)
  go_enter Try.func7, Try.ntmps7
  go_wp2_with (go_at_call 24; (with_reducible refine (int_any _ _ hr.1 hr.2).mono ?_); rintro e w1 ⟨A1, n1, c1, rfl, h1, hx1⟩)
  go_wp2_with fail
  refine (toInt_any h1).mono ?_
  rintro e w2 ⟨rfl, hx2⟩
  rw [HP.out, intV_def]
  go_wp2_with fail
  refine wp_region_plan (.read 0 (.read 1 (.read 2 (.main 3 (.read 4 (.read 5 (.read 6 (.read 7 (.read 8 (.read 9 (.read 10 (.read 11 (.read 12 (.read 13 (.read 14 (.read 15 .done)))))))))))))))) (by kernel_rfl) (by kernel_rfl) ?_
  intro wD hxD
  have hc1 := (h1.ext (hx2.trans hxD)).conv
  repeat' (first
    | (refine walks_move rfl rfl ?_; simp only [Act.put, Act.eval, List.setIfInBounds_toArray, List.set_cons_zero, List.set_cons_succ, Array.getD_eq_getD_getElem?, List.getElem?_toArray, List.getElem?_cons_zero, List.getElem?_cons_succ, Option.getD_some])
    | (refine walks_assign rfl rfl ?_; simp only [Act.put, Act.eval, List.setIfInBounds_toArray, List.set_cons_zero, List.set_cons_succ, Array.getD_eq_getD_getElem?, List.getElem?_toArray, List.getElem?_cons_zero, List.getElem?_cons_succ, Option.getD_some])
    | (refine walks_skip rfl rfl ?_; simp only [Act.put, List.setIfInBounds_toArray, List.set_cons_zero, List.set_cons_succ])
    | (refine walks_unwanted rfl rfl ?_; simp only [Act.put, List.setIfInBounds_toArray, List.set_cons_zero, List.set_cons_succ])
    | (refine walks_read (v := ?_) rfl rfl (fun w' hE => ?_) ?_; rotate_left 1; (· (go_simp; (try go_bits); with_reducible rfl)); simp only [Act.put, List.setIfInBounds_toArray, List.set_cons_zero, List.set_cons_succ])
    | (refine walks_alt ?_ ?_)
    | (refine walks_main rfl rfl (fun K hK => ?_); go_wp2_with ((go_at_call 26; (with_reducible refine (rint_any _ _ hr.1 hr.2).mono ?_); rintro e w3 ⟨A2, n2, c2, rfl, h2, hx3⟩; have hc2 := h2.conv)); refine hK _ _ (by first | assumption | exact Ext.alloc _ _ | exact Ext.refl _) ?_; clear hK K; try simp only [Act.put, List.setIfInBounds_toArray, List.set_cons_zero, List.set_cons_succ]))
  refine walks_done ?_
  go_wp2
  go_ret
  exact ⟨rfl, hx1.trans (hx2.trans (hxD.trans hx3))⟩

theorem berReads_walk (A : Option Addr) (n c : Nat) (xs : List UInt8) (w : World) (h : Sl w A n c xs) (_hm : c ≤ 140737488351232) :
    Calls Try.prog 8 #[.slice A n c] w fun e w' => e = .returned (.bool true) ∧ Below w.heap.size w w' := by
  have hp : (toIntP xs = (0, 2)) ∨ (toIntP xs = (sv xs, 0) ∧ intB (sv xs) = xs ∧ (-9223372036854775808 ≤ sv xs ∧ sv xs ≤ 9223372036854775807)) := by
    unfold toIntP
    split
    · exact .inl rfl
    · rename_i hn
      refine .inr ⟨rfl, Classical.byContradiction fun h => hn (.inr (.inr h)), sv_range xs (by omega) (by omega)⟩
  have r1 := toInt_any h
  rcases hp with hp | ⟨hp, he, hr⟩
  · have HP := hid hp
    clear hp
    go_enter Try.func8, Try.ntmps8
    go_wp2_with fail
    refine r1.mono ?_
    rintro e w2 ⟨rfl, hx2⟩
    rw [HP.out, intV_def]
    go_wp2_with fail
    refine (rtoInt_any (h.ext hx2)).mono ?_
    rintro e w3 ⟨rfl, hx3⟩
    rw [HP.out, intV_def]
    go_wp2_with (go_at_call 24; (with_reducible refine (int_any _ _ (by omega) (by omega)).mono ?_); rintro e w1 ⟨A1, n1, c1, rfl, h1, hx1⟩)
    go_ret
    exact ⟨rfl, hx2.trans (hx3.trans hx1)⟩
  · have HP := hid hp
    have He := hid he
    clear hp he
    go_enter Try.func8, Try.ntmps8
    go_wp2_with fail
    refine r1.mono ?_
    rintro e w2 ⟨rfl, hx2⟩
    rw [HP.out, intV_def]
    go_wp2_with fail
    refine (rtoInt_any (h.ext hx2)).mono ?_
    rintro e w3 ⟨rfl, hx3⟩
    rw [HP.out, intV_def]
    go_wp2_with (go_at_call 24; (with_reducible refine (int_any _ _ hr.1 hr.2).mono ?_); rintro e w1 ⟨A1, n1, c1, rfl, h1, hx1⟩; rw [He.out] at h1; have hc1 := h1.conv _ (Ext.refl _); have hc2 := (h.ext (hx2.trans (hx3.trans hx1))).conv _ (Ext.refl _))
    go_ret
    exact ⟨rfl, hx2.trans (hx3.trans hx1)⟩
end Go.Proofs.Ytfkbhbalkhhdhaa
