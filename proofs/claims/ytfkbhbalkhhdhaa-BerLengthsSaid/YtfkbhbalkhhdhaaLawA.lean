/- BerLengths: the walk of the law. -/
import Derived.Test.YtfkbhbalkhhdhaaBerM
import Derived.Test.YtfkbhbalkhhdhaaSeq
namespace Go.Proofs.Ytfkbhbalkhhdhaa
open Go.RowKit

theorem berLengths_walk (n : Int) (w : World) (_hn : (Lit.int .i64 n).wf = true) :
    Calls Try.prog 4 #[.int .i64 n] w fun e w' => e = .returned (.bool true) ∧ Below w.heap.size w w' := by
  by_cases h : n < 0 ∨ 2147483647 < n
  · have hl : lenB n = [] := lenB_none h
    rcases h with h | h
    · go_enter Try.func4, Try.ntmps4
      go_wp2_with (go_at_call 17; (with_reducible refine (length_none _ _ (.inl h)).mono ?_); rintro e w' ⟨rfl, rfl⟩)
      go_ret
      exact ⟨rfl, Below.refl _ _⟩
    · have h' : ¬ n < 0 := by omega
      go_enter Try.func4, Try.ntmps4
      go_wp2_with (go_at_call 17; (with_reducible refine (length_none _ _ (.inr h)).mono ?_); rintro e w' ⟨rfl, rfl⟩)
      go_ret
      exact ⟨rfl, Below.refl _ _⟩
  · have h1 : ¬ n < 0 := by omega
    have h2 : ¬ 2147483647 < n := by omega
    have hp := lenB_pos (n := n) (by omega) (by omega)
    clear h
    go_enter Try.func4, Try.ntmps4
    go_wp2_with (go_at_call 17; (with_reducible refine (length_any _ _).mono ?_); rintro e w1 ⟨A, m, c, rfl, hs, hb⟩)
    have hm : 0 < m := by have := hs.len; omega
    refine wp_region_plan (.read 0 (.read 1 (.read 2 (.main 3 (.read 4 (.read 5 (.read 6 (.read 7 (.read 8 (.read 9 (.read 10 (.read 11 .done)))))))))))) (by kernel_rfl) (by kernel_rfl) ?_
    intro wD hxD
    have hc := (hs.ext hxD).conv
    repeat' (first
      | (refine walks_move rfl rfl ?_; simp only [Act.put, Act.eval, List.setIfInBounds_toArray, List.set_cons_zero, List.set_cons_succ, Array.getD_eq_getD_getElem?, List.getElem?_toArray, List.getElem?_cons_zero, List.getElem?_cons_succ, Option.getD_some])
      | (refine walks_assign rfl rfl ?_; simp only [Act.put, Act.eval, List.setIfInBounds_toArray, List.set_cons_zero, List.set_cons_succ, Array.getD_eq_getD_getElem?, List.getElem?_toArray, List.getElem?_cons_zero, List.getElem?_cons_succ, Option.getD_some])
      | (refine walks_skip rfl rfl ?_; simp only [Act.put, List.setIfInBounds_toArray, List.set_cons_zero, List.set_cons_succ])
      | (refine walks_unwanted rfl rfl ?_; simp only [Act.put, List.setIfInBounds_toArray, List.set_cons_zero, List.set_cons_succ])
      | (refine walks_read (v := ?_) rfl rfl (fun w' hE => ?_) ?_; rotate_left 1; (· (go_simp; (try go_bits); with_reducible rfl)); simp only [Act.put, List.setIfInBounds_toArray, List.set_cons_zero, List.set_cons_succ])
      | (refine walks_alt ?_ ?_)
      | (refine walks_main rfl rfl (fun K hK => ?_); go_wp2_with ((go_at_call 18; (with_reducible refine (rlength_any _ _).mono ?_); rintro e w2 ⟨A2, m2, c2, rfl, hs2, hb2⟩; have hc2 := hs2.conv)); refine hK _ _ (by first | assumption | exact Ext.alloc _ _ | exact Ext.refl _) ?_; clear hK K; try simp only [Act.put, List.setIfInBounds_toArray, List.set_cons_zero, List.set_cons_succ]))
    refine walks_done ?_
    go_wp2
    go_ret
    exact ⟨rfl, Ext.trans hb (Ext.trans hxD hb2)⟩
end Go.Proofs.Ytfkbhbalkhhdhaa
