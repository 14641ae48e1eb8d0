/- The walk of ber.Take. -/
import Derived.Test.YtfkbhbalkhhdhaaBerI
import Derived.Test.YtfkbhbalkhhdhaaBerC
namespace Go.Proofs.Ytfkbhbalkhhdhaa
open Go.RowKit
set_option maxRecDepth 100000

/-- What Take leaves: the values, and what they read as. -/
def TakeR (p : UInt8 × List UInt8 × List UInt8 × Nat) (w : World) (e : Ending) (w' : World) : Prop :=
  ∃ A1 n1 c1 A2 n2 c2, e = .returned (.tuple #[.int .u8 (p.1.toNat : Int), .slice A1 n1 c1, .slice A2 n2 c2, .int .i64 (p.2.2.2 : Int)]) ∧ Sl w' A1 n1 c1 p.2.1 ∧ Sl w' A2 n2 c2 p.2.2.1 ∧ Ext w w'

theorem headV_def (h n e : Nat) : headV (h, n, e) = .returned (.tuple #[.int .i64 (h : Int), .int .i64 (n : Int), .int .i64 (e : Int)]) := rfl

set_option maxHeartbeats 1000000 in
theorem take_any (A : Option Addr) (n c : Nat) (xs : List UInt8) (w : World) (h : Sl w A n c xs) (hn : n ≤ 140737488355328) :
    Calls Try.prog 19 #[.slice A n c] w (TakeR (takeP xs) w) := by
  have hl := hid h.len
  have hcap := h.cap
  have hok := headP_ok xs
  have her := headP_err xs
  have hh := head_any h
  rcases hq : headP xs with ⟨H, N, E⟩
  have hP : takeP xs = if E ≠ 0 then (0, [], [], E) else if xs.length - H < N then (0, [], [], 5) else (xs[0]?.getD 0, (xs.drop H).take N, xs.drop (H + N), 0) := by unfold takeP; rw [hq]
  rw [hq] at hok her hh
  clear hq
  simp only [] at hok her
  rw [headV_def] at hh
  have hE := her.1
  by_cases h0 : E = 0
  · subst h0
    obtain ⟨k1, k2, k3, k4⟩ := hok rfl
    rw [if_neg (by simp)] at hP
    have k3' : H ≤ n := by rw [hl.out]; exact k3
    clear hok her k3
    by_cases hf : n - H < N
    · rw [if_pos (by rw [← hl.out]; exact hf)] at hP
      have HP := hid hP
      clear hP
      have t1 : (n : Int) - H < N := by omega
      go_enter Try.func19, Try.ntmps19
      go_wp2_with (go_at_call 31; (with_reducible refine hh.mono ?_); rintro e w1 ⟨rfl, hx1⟩)
      refine bodyPost_ret (results_tmp4 rfl _ _ _) rfl ?_
      rw [HP.out]
      exact ⟨_, _, _, _, _, _, rfl, Sl.nil _, Sl.nil _, hx1⟩
    · rw [if_neg (by rw [← hl.out]; exact hf)] at hP
      have HP := hid hP
      clear hP
      have t1 : ¬ (n : Int) - H < N := by omega
      have hp : 0 < n := by omega
      obtain ⟨b, off, rfl, hc⟩ := h.at_ hp
      have c0 := hc 0 hp
      rw [Nat.add_zero] at c0
      clear hc
      go_enter Try.func19, Try.ntmps19
      go_wp2_with (go_at_call 31; (with_reducible refine hh.mono ?_); rintro e w1 ⟨rfl, hx1⟩)
      have s1 := slice_lh (some ⟨b, off, none⟩) n c H N (by omega) (H : Int) ((H : Int) + N) rfl (by omega)
      have s2 := slice_l (some ⟨b, off, none⟩) n c (H + N) (by omega) ((H : Int) + N) (by omega)
      refine wp_region_plan (.read 0 (.read 1 (.read 2 (.read 3 (.read 4 (.read 5 (.read 6 (.read 7 (.read 8 (.read 10 (.read 11 (.read 12 (.read 13 (.read 14 (.main 9 (.main 15 (.read 16 (.read 17 (.read 18 (.read 19 .done)))))))))))))))))))) (by kernel_rfl) (by kernel_rfl) ?_
      intro wD hxD
      have c1 := cell_later (cell_later c0 _ (hx1.trans hxD))
      have hw := h.ext (hx1.trans hxD)
      have ha := hw.mid (l := H) (k := N) (by omega)
      have hb := hw.tail (l := H + N) (by omega)
      repeat' (first
        | (refine walks_move rfl rfl ?_; simp only [Act.put, Act.eval, List.setIfInBounds_toArray, List.set_cons_zero, List.set_cons_succ, Array.getD_eq_getD_getElem?, List.getElem?_toArray, List.getElem?_cons_zero, List.getElem?_cons_succ, Option.getD_some])
        | (refine walks_assign rfl rfl ?_; simp only [Act.put, Act.eval, List.setIfInBounds_toArray, List.set_cons_zero, List.set_cons_succ, Array.getD_eq_getD_getElem?, List.getElem?_toArray, List.getElem?_cons_zero, List.getElem?_cons_succ, Option.getD_some])
        | (refine walks_skip rfl rfl ?_; simp only [Act.put, List.setIfInBounds_toArray, List.set_cons_zero, List.set_cons_succ])
        | (refine walks_unwanted rfl rfl ?_; simp only [Act.put, List.setIfInBounds_toArray, List.set_cons_zero, List.set_cons_succ])
        | (refine walks_read (v := ?_) rfl rfl (fun w' hE => ?_) ?_; rotate_left 1; (· (go_simp; (try go_bits); with_reducible rfl)); simp only [Act.put, List.setIfInBounds_toArray, List.set_cons_zero, List.set_cons_succ])
        | (refine walks_alt ?_ ?_)
        | (refine walks_main rfl rfl (fun K hK => ?_); go_wp2_with (first | (go_at_call 32; (with_reducible refine (clone_any _ _ _ _ _ ha (by omega)).mono ?_); rintro e w2 ⟨A2, n2, c2, rfl, h2, hx2⟩; have hb := hb.ext hx2) | (go_at_call 32; (with_reducible refine (clone_any _ _ _ _ _ hb (by omega)).mono ?_); rintro e w3 ⟨A3, n3, c3, rfl, h3, hx3⟩)); refine hK _ _ (by first | assumption | exact Ext.alloc _ _ | exact Ext.refl _) ?_; clear hK K; try simp only [Act.put, List.setIfInBounds_toArray, List.set_cons_zero, List.set_cons_succ]))
      refine walks_done ?_
      go_wp2
      refine bodyPost_ret (results_tmp4 rfl _ _ _) rfl ?_
      rw [HP.out]
      exact ⟨_, _, _, _, _, _, rfl, h2.ext hx3, h3, hx1.trans (hxD.trans (hx2.trans hx3))⟩
  · rw [if_pos h0] at hP
    have HP := hid hP
    clear hP
    have t0 : ((E : Int) == 0) = false := by rw [beq_eq_false_iff_ne]; omega
    have t1 : ((E : Int) != 0) = true := by rw [bne_iff_ne]; omega
    clear hok her
    go_enter Try.func19, Try.ntmps19
    go_wp2_with (go_at_call 31; (with_reducible refine hh.mono ?_); rintro e w1 ⟨rfl, hx1⟩)
    refine bodyPost_ret (results_tmp4 rfl _ _ _) rfl ?_
    rw [HP.out]
    exact ⟨_, _, _, _, _, _, rfl, Sl.nil _, Sl.nil _, hx1⟩
end Go.Proofs.Ytfkbhbalkhhdhaa
