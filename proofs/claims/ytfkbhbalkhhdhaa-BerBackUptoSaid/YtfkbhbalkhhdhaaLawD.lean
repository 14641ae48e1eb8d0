/- BerFields: the walk of the law. -/
import Derived.Test.YtfkbhbalkhhdhaaBerF
namespace Go.Proofs.Ytfkbhbalkhhdhaa
open Go.RowKit
set_option maxRecDepth 100000

theorem tag_of_wf {t : Int} (h : (Lit.int .u8 t).wf = true) : ∃ b : UInt8, t = (b.toNat : Int) := by
  simp [Lit.wf, IntKind.min, IntKind.max, IntKind.signed, IntKind.bits] at h
  refine ⟨UInt8.ofNat t.toNat, ?_⟩
  rw [UInt8.toNat_ofNat']
  omega
theorem berFields_walk (t : Int) (A : Option Addr) (n c : Nat) (xs : List UInt8) (w : World) (ht : (Lit.int .u8 t).wf = true) (h : Sl w A n c xs) (hm : c ≤ 140737488351232) :
    Calls Try.prog 9 #[.int .u8 t, .slice A n c] w fun e w' => e = .returned (.bool true) ∧ Below w.heap.size w w' := by
  obtain ⟨tag, rfl⟩ := tag_of_wf ht
  clear ht
  have hn : n ≤ 140737488351232 := by have := h.cap; omega
  go_enter Try.func9, Try.ntmps9
  go_wp2_with fail
  refine wp_region_plan (.read 0 (.read 1 (.read 4 (.read 5 (.main 2 (.read 3 (.main 6 (.read 7 (.read 8 (.read 9 .done)))))))))) (by kernel_rfl) (by kernel_rfl) ?_
  intro wD hxD
  have h := h.ext hxD
  repeat' (first
    | (refine walks_move rfl rfl ?_; simp only [Act.put, Act.eval, List.setIfInBounds_toArray, List.set_cons_zero, List.set_cons_succ, Array.getD_eq_getD_getElem?, List.getElem?_toArray, List.getElem?_cons_zero, List.getElem?_cons_succ, Option.getD_some])
    | (refine walks_assign rfl rfl ?_; simp only [Act.put, Act.eval, List.setIfInBounds_toArray, List.set_cons_zero, List.set_cons_succ, Array.getD_eq_getD_getElem?, List.getElem?_toArray, List.getElem?_cons_zero, List.getElem?_cons_succ, Option.getD_some])
    | (refine walks_skip rfl rfl ?_; simp only [Act.put, List.setIfInBounds_toArray, List.set_cons_zero, List.set_cons_succ])
    | (refine walks_unwanted rfl rfl ?_; simp only [Act.put, List.setIfInBounds_toArray, List.set_cons_zero, List.set_cons_succ])
    | (refine walks_read (v := ?_) rfl rfl (fun w' hE => ?_) ?_; rotate_left 1; (· (go_simp; (try go_bits); with_reducible rfl)); simp only [Act.put, List.setIfInBounds_toArray, List.set_cons_zero, List.set_cons_succ])
    | (refine walks_alt ?_ ?_)
    | (refine walks_main rfl rfl (fun K hK => ?_); go_wp2_with (first | (go_at_call 28; (with_reducible refine (field_any _ _ _ _ _ _ h hn).mono ?_); rintro e w2 ⟨A2, n2, c2, rfl, h2, hx2⟩; have hc2 := h2.conv; have h := h.ext hx2) | (go_at_call 29; (with_reducible refine (rfield_any _ _ _ _ _ _ h hn).mono ?_); rintro e w3 ⟨A3, n3, c3, rfl, h3, hx3⟩; have hc3 := h3.conv)); refine hK _ _ (by first | assumption | exact Ext.alloc _ _ | exact Ext.refl _) ?_; clear hK K; try simp only [Act.put, List.setIfInBounds_toArray, List.set_cons_zero, List.set_cons_succ]))
  refine walks_done ?_
  go_wp2
  go_ret
  exact ⟨rfl, (by repeat (first | exact Ext.refl _ | assumption | (refine Ext.trans ?_ (by assumption))))⟩
end Go.Proofs.Ytfkbhbalkhhdhaa
