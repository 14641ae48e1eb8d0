/- The walk of the reference's Take, and where what it answers lies. -/
import Derived.Test.YtfkbhbalkhhdhaaBerT
import Derived.Test.YtfkbhbalkhhdhaaNew
namespace Go.Proofs.Ytfkbhbalkhhdhaa
open Go.RowKit
set_option maxRecDepth 100000

theorem ext_size {w w' : World} (h : Ext w w') : w.heap.size ≤ w'.heap.size := h.size
/-- What Take leaves, in new memory. -/
def TakeN (p : UInt8 × List UInt8 × List UInt8 × Nat) (w : World) (e : Ending) (w' : World) : Prop :=
  ∃ A1 n1 c1 A2 n2 c2, e = .returned (.tuple #[.int .u8 (p.1.toNat : Int), .slice A1 n1 c1, .slice A2 n2 c2, .int .i64 (p.2.2.2 : Int)]) ∧ (Sl w' A1 n1 c1 p.2.1 ∧ New w.heap.size A1 p.2.1) ∧ (Sl w' A2 n2 c2 p.2.2.1 ∧ New w.heap.size A2 p.2.2.1) ∧ Ext w w'

set_option maxHeartbeats 1000000 in
theorem rtake_new (A : Option Addr) (n c : Nat) (xs : List UInt8) (w : World) (h : Sl w A n c xs) (hn : n ≤ 140737488355328) :
    Calls Try.prog 20 #[.slice A n c] w (TakeN (takeP xs) w) := by
  have hl := hid h.len
  have hcap := h.cap
  have hok := headP_ok xs
  have her := headP_err xs
  have hh := rhead_any h
  rcases hq : headP xs with ⟨H, N, E⟩
  have hP : takeP xs = if E ≠ 0 then (0, [], [], E) else if xs.length - H < N then (0, [], [], 5) else (xs[0]?.getD 0, (xs.drop H).take N, xs.drop (H + N), 0) := by unfold takeP; rw [hq]
  rw [hq] at hok her hh
  clear hq
  simp only [] at hok her
  rw [headV_def] at hh
  have hE := her.1
  by_cases h0 : E = 0
  · subst h0
    obtain ⟨k1, k2, k3, k4⟩ := hok rfl
    rw [if_neg (by simp)] at hP
    have k3' : H ≤ n := by rw [hl.out]; exact k3
    clear hok her k3
    by_cases hf : n - H < N
    · rw [if_pos (by rw [← hl.out]; exact hf)] at hP
      have HP := hid hP
      clear hP
      have t1 : (n : Int) - H < N := by omega
      go_enter Try.func20, Try.ntmps20
      go_wp2_with (go_at_call 33; (with_reducible refine hh.mono ?_); rintro e w1 ⟨rfl, hx1⟩)
      refine bodyPost_ret (results_tmp4 rfl _ _ _) rfl ?_
      rw [HP.out]
      exact ⟨_, _, _, _, _, _, rfl, ⟨Sl.nil _, .inl rfl⟩, ⟨Sl.nil _, .inl rfl⟩, hx1⟩
    · rw [if_neg (by rw [← hl.out]; exact hf)] at hP
      have HP := hid hP
      clear hP
      have t1 : ¬ (n : Int) - H < N := by omega
      have hp : 0 < n := by omega
      obtain ⟨b, off, rfl, hc⟩ := h.at_ hp
      have c0 := hc 0 hp
      rw [Nat.add_zero] at c0
      clear hc
      go_enter Try.func20, Try.ntmps20
      go_wp2_with (go_at_call 33; (with_reducible refine hh.mono ?_); rintro e w1 ⟨rfl, hx1⟩)
      have s1 := slice_lh (some ⟨b, off, none⟩) n c H N (by omega) (H : Int) ((H : Int) + N) rfl (by omega)
      have s2 := slice_l (some ⟨b, off, none⟩) n c (H + N) (by omega) ((H : Int) + N) (by omega)
      refine wp_region_plan (.read 0 (.read 1 (.read 2 (.read 4 (.read 5 (.read 6 (.read 7 (.read 8 (.read 9 (.read 12 (.read 13 (.read 14 (.read 15 (.read 16 (.alt 3 (.alt 10 (.main 11 (.main 17 (.read 18 (.read 19 (.read 20 (.read 21 .done)))))) (.main 11 (.main 10 (.main 17 (.read 18 (.read 19 (.read 20 (.read 21 .done)))))))) (.main 11 (.main 3 (.main 10 (.main 17 (.read 18 (.read 19 (.read 20 (.read 21 .done))))))))))))))))))))))) (by kernel_rfl) (by kernel_rfl) ?_
      intro wD hxD
      have c1 := cell_later (cell_later c0 _ (hx1.trans hxD))
      have hw := h.ext (hx1.trans hxD)
      have ha := hw.mid (l := H) (k := N) (by omega)
      have hb := hw.tail (l := H + N) (by omega)
      repeat' (first
        | (refine walks_move rfl rfl ?_; simp only [Act.put, Act.eval, List.setIfInBounds_toArray, List.set_cons_zero, List.set_cons_succ, Array.getD_eq_getD_getElem?, List.getElem?_toArray, List.getElem?_cons_zero, List.getElem?_cons_succ, Option.getD_some])
        | (refine walks_assign rfl rfl ?_; simp only [Act.put, Act.eval, List.setIfInBounds_toArray, List.set_cons_zero, List.set_cons_succ, Array.getD_eq_getD_getElem?, List.getElem?_toArray, List.getElem?_cons_zero, List.getElem?_cons_succ, Option.getD_some])
        | (refine walks_skip rfl rfl ?_; simp only [Act.put, List.setIfInBounds_toArray, List.set_cons_zero, List.set_cons_succ])
        | (refine walks_unwanted rfl rfl ?_; simp only [Act.put, List.setIfInBounds_toArray, List.set_cons_zero, List.set_cons_succ])
        | (refine walks_read (v := ?_) rfl rfl (fun w' hE => ?_) ?_; rotate_left 1; (· (go_simp; (try go_bits); with_reducible rfl)); simp only [Act.put, List.setIfInBounds_toArray, List.set_cons_zero, List.set_cons_succ])
        | (refine walks_main rfl rfl (fun K hK => ?_); (first | (refine lit0_wp rfl ?_; intro b1 w1 hx1; (try have ha := ha.ext hx1); (try have hb := hb.ext hx1)) | (refine new_wp _ _ rfl _ rfl _ _ _ _ rfl ha (by omega) ?_; intro A2 c2 w2 h2 hx2; (try have ha := ha.ext hx2); have hb := hb.ext hx2) | (refine new_wp _ _ rfl _ rfl _ _ _ _ rfl hb (by omega) ?_; intro A3 c3 w3 h3 hx3; (try have ha := ha.ext hx3))); refine hK _ _ (by first | assumption | exact Ext.alloc _ _ | exact Ext.refl _) ?_; clear hK K; try simp only [Act.put, List.setIfInBounds_toArray, List.set_cons_zero, List.set_cons_succ])
        | (refine walks_alt ?_ ?_)
        | (refine walks_main rfl rfl (fun K hK => ?_); go_wp2_with (fail); refine hK _ _ (by first | assumption | exact Ext.alloc _ _ | exact Ext.refl _) ?_; clear hK K; try simp only [Act.put, List.setIfInBounds_toArray, List.set_cons_zero, List.set_cons_succ]))
      all_goals
        refine walks_done ?_
        go_wp2
        refine bodyPost_ret (results_tmp4 rfl _ _ _) rfl ?_
        rw [HP.out]
        exact ⟨_, _, _, _, _, _, rfl, ⟨h2.1.ext (by repeat (first | exact Ext.refl _ | assumption | (refine Ext.trans ?_ (by assumption)))), h2.2.mono (ext_size (by repeat (first | exact Ext.refl _ | assumption | (refine Ext.trans ?_ (by assumption)))))⟩, ⟨h3.1.ext (by repeat (first | exact Ext.refl _ | assumption | (refine Ext.trans ?_ (by assumption)))), h3.2.mono (ext_size (by repeat (first | exact Ext.refl _ | assumption | (refine Ext.trans ?_ (by assumption)))))⟩, (by repeat (first | exact Ext.refl _ | assumption | (refine Ext.trans ?_ (by assumption))))⟩
  · rw [if_pos h0] at hP
    have HP := hid hP
    clear hP
    have t0 : ((E : Int) != 0) = true := by rw [bne_iff_ne]; omega
    clear hok her
    go_enter Try.func20, Try.ntmps20
    go_wp2_with (go_at_call 33; (with_reducible refine hh.mono ?_); rintro e w1 ⟨rfl, hx1⟩)
    refine bodyPost_ret (results_tmp4 rfl _ _ _) rfl ?_
    rw [HP.out]
    exact ⟨_, _, _, _, _, _, rfl, ⟨Sl.nil _, .inl rfl⟩, ⟨Sl.nil _, .inl rfl⟩, hx1⟩
end Go.Proofs.Ytfkbhbalkhhdhaa
