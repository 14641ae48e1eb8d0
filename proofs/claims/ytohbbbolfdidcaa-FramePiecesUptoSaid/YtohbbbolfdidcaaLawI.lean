/- FrameLong: the walk of the law. -/
import Derived.Test.YtohbbbolfdidcaaFrG
import Derived.Test.YtohbbbolfdidcaaFrQ
import Derived.Test.YtohbbbolfdidcaaBerRF
import Derived.Laws.MakeOwn
namespace Go.Proofs.Ytohbbbolfdidcaa
open Go.RowKit
set_option maxRecDepth 100000

theorem make_bytes (k : Nat) (hk : k ≤ 65536) : ∀ w : World, (Instr.makeSlice 24 (.int .i64 (k : Int)) (.int .i64 (k : Int))).run Try.prog w = .ok (.slice (some ⟨w.heap.size, 0, none⟩) k k) (w.alloc (.cells (Array.replicate k (bv 0)) 5)) := fun w => by
  obtain ⟨i0, hi, hz0, hz1, hz2⟩ := info_parts Try.infoByte
  have hr := run_make (P := Try.prog) w 24 5 i0 (.int .u8 0) Try.underlying24 hi hz0 .i64 .i64 k k (by omega) (by omega) (by rw [hz2]; omega) (by omega)
  simp only [Int.toNat_natCast] at hr
  rw [hr]
  have e : madeCells (Value.int .u8 0).cells (k * i0.size) = Array.replicate k (bv 0) := by
    apply Array.toList_inj.1
    rw [hz1, Nat.mul_one, show (Value.int .u8 0).cells = #[Value.int .u8 0] from rfl, toList_madeCells_one]
    simp [bv]
  rw [e]
theorem sl_zeros (k : Nat) (hk : k ≤ 65536) (w : World) : Sl (w.alloc (.cells (Array.replicate k (bv 0)) 5)) (some ⟨w.heap.size, 0, none⟩) k k (List.replicate k 0) := by
  have := Sl.of_own (own_new w (List.replicate k 0) k (by simp) (by simp only [maxLen]; omega) 0 (Nat.zero_le _))
  simpa using this
theorem lit_u16 {t : Int} (h : (Lit.int .u16 t).wf = true) : 0 ≤ t ∧ t ≤ 65535 := by
  simp [Lit.wf, IntKind.min, IntKind.max, IntKind.signed, IntKind.bits] at h
  omega
theorem frameLong_walk (t : Int) (w : World) (ht : (Lit.int .u16 t).wf = true) :
    Calls Try.prog 3 #[.int .u16 t] w fun e w' => e = .returned (.bool true) ∧ Below w.heap.size w w' := by
  have hr := lit_u16 ht
  clear ht
  obtain ⟨k, hk⟩ := Int.eq_ofNat_of_zero_le (show 0 ≤ t % 2000 by omega)
  have hk2 : k < 2000 := by omega
  have mk := make_bytes k (by omega)
  have hfd : ∀ w1 : World, Calls Try.prog 9 #[.int .u8 48, .slice (some ⟨w1.heap.size, 0, none⟩) k k] (w1.alloc (.cells (Array.replicate k (bv 0)) 5))
      fun e w' => ∃ A' n' c', e = .returned (.slice A' n' c') ∧ Sl w' A' n' c' (fieldB 48 (List.replicate k 0)) ∧ Ext (w1.alloc (.cells (Array.replicate k (bv 0)) 5)) w' := fun w1 => rfield_any 48 _ _ _ _ _ (sl_zeros k (by omega) w1) (by omega)
  have Hfd := hid hfd
  clear hfd
  have hlen := fieldB_length 48 (List.replicate k 0)
  have hl2 := fieldB_len 48 (List.replicate k 0)
  rw [List.length_replicate] at hlen hl2
  have hS1 : ∀ M, (fieldB 48 (List.replicate k 0)).length ≤ M → streamP M ([] ++ fieldB 48 (List.replicate k 0)) = ([fieldB 48 (List.replicate k 0)], [], 0) := fun M h => by
    have := streamP_field (M := M) (xs := List.replicate k 0) [] (by simp; omega) h
    rw [List.append_nil, streamP_nil] at this
    exact this
  have hS2 : ∀ M, M < (fieldB 48 (List.replicate k 0)).length → streamP M ([] ++ fieldB 48 (List.replicate k 0)) = ([], [], 4) := fun M h => by
    have := streamP_over (M := M) (xs := List.replicate k 0) [] (by simp; omega) h
    rw [List.append_nil] at this
    exact this
  have HS1 := hid hS1
  have HS2 := hid hS2
  have Hl2 := hid hl2
  clear hS1 hS2 hl2
  by_cases h0 : k = 0
  · have h2l : (fieldB 48 (List.replicate k 0)).length = 2 := by rw [h0]; decide
    have H2l := hid h2l
    clear h2l h0 hlen
    go_enter Try.func3, Try.ntmps3
    go_wp2_with (first | (go_at_call 8; (with_reducible refine (awake_any _).mono ?_); rintro e w1 ⟨rfl, hx1⟩) | (go_at_call 9; (with_reducible refine (Hfd.out _).mono ?_); rintro e w2 ⟨A2, n2, c2, rfl, h2, hx2⟩; have hn2 : n2 = 2 := (by rw [h2.len]; exact H2l.out); subst hn2))
    go_ret
    exact ⟨rfl, hx1.trans ((Ext.alloc _ _).trans hx2)⟩
  · have hlp := lenB_pos (n := (k : Int)) (by omega) (by omega)
    have h3 : 3 ≤ (fieldB 48 (List.replicate k 0)).length := by rw [Hl2.out]; omega
    generalize fieldB 48 (List.replicate k 0) = F at *
    go_enter Try.func3, Try.ntmps3
    go_wp2_with (go_at_call 8; (with_reducible refine (awake_any _).mono ?_); rintro e w1 ⟨rfl, hx1⟩)
    refine (Hfd.out _).mono ?_
    rintro e w2 ⟨A2, n2, c2, rfl, h2, hx2⟩
    have hn2 : n2 = F.length := h2.len
    have hn3 : ¬ (n2 : Int) < 3 := by omega
    have hm1 : mostP (n2 : Int) = n2 := by unfold mostP; rw [if_neg (by omega), if_neg (by omega)]; omega
    have hm2 : mostP ((n2 : Int) - 1) = n2 - 1 := by unfold mostP; rw [if_neg (by omega), if_neg (by omega)]; omega
    have q1 := hid (HS1.out n2 (by omega))
    have q2 := hid (HS2.out (n2 - 1) (by omega))
    have Hn2 := hid hn2
    have hn4 : n2 ≤ 16384 := by omega
    have hlF : F.length ≤ 16384 := by omega
    have Hm1 := hid hm1
    have Hm2 := hid hm2
    clear hn2 hm1 hm2 hlen h3
    simp only []
    go_wp2_with (go_at_call 10; (with_reducible refine (new_any _ _).mono ?_); rintro e w3 ⟨rfl, hC, hx3⟩; rw [Hm1.out] at hC; have HC := hid hC; clear hC)
    have hF1 := feed_any HC.out hn4 (M' := n2) (by rw [if_neg (by omega)]) (h2.ext hx3) (by simp; omega)
    rw [q1.out] at hF1
    refine hF1.mono ?_
    rintro e w4 ⟨v4, q, vs, A4, n4, c4, rfl, hI4⟩
    obtain ⟨B4, d4, rfl, hs4⟩ := hI4.list
    have hx4 := ext_grown (Ext.refl w2 |>.trans hx3) hI4.gr (Nat.le_refl _)
    simp only []
    go_wp2_with (go_at_call 10; (with_reducible refine (new_any _ _).mono ?_); rintro e w5 ⟨rfl, hC, hx5⟩; rw [Hm2.out] at hC; have HC := hid hC; clear hC)
    have hF2 := feed_any HC.out (by omega) (M' := n2 - 1) (by rw [if_neg (by omega)]) (h2.ext (hx4.trans hx5)) (by simp; omega)
    rw [q2.out] at hF2
    refine hF2.mono ?_
    rintro e w6 ⟨v6, q', vs', A6, n6, c6, rfl, hI6⟩
    obtain ⟨B6, d6, rfl, hs6⟩ := hI6.list
    have hx6 := ext_grown (hx4.trans hx5) hI6.gr (by have := ext_size hx4; omega)
    simp only []
    go_wp2
    go_ret
    exact ⟨rfl, hx1.trans ((Ext.alloc _ _).trans (hx2.trans hx6))⟩
end Go.Proofs.Ytohbbbolfdidcaa
