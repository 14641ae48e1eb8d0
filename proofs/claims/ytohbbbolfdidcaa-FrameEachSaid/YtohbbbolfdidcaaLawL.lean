/- FrameEach: the walk of the law. -/
import Derived.Test.YtohbbbolfdidcaaLawJ
import Derived.Test.YtohbbbolfdidcaaFrR
namespace Go.Proofs.Ytohbbbolfdidcaa
open Go.RowKit
set_option maxRecDepth 100000

/-- What waits behind k bytes of a field. -/
def waitP (F : List UInt8) (k : Nat) : List UInt8 := if k = F.length then [] else F.take k
theorem waitP_lt {F : List UInt8} {k : Nat} (h : k < F.length) : waitP F k = F.take k := by unfold waitP; rw [if_neg (by omega)]
theorem waitP_all (F : List UInt8) : waitP F F.length = [] := by unfold waitP; rw [if_pos rfl]
theorem take_step (F : List UInt8) (k : Nat) : F.take k ++ (F.drop k).take 1 = F.take (k + 1) := by rw [List.take_add]

set_option maxHeartbeats 4000000 in
theorem frameEach_walk (A : Option Addr) (n c : Nat) (xss : List (List UInt8)) (w : World) (h : Sls w A n c xss) :
    Calls Try.prog 4 #[.slice A n c] w fun e w' => e = .returned (.bool true) ∧ Below w.heap.size w w' := by
  by_cases hg : 20 < n
  · have hg' : 20 < (n : Int) := by omega
    go_enter Try.func4, Try.ntmps4
    go_wp2_with (go_at_call 8; (with_reducible refine (awake_any _).mono ?_); rintro e w1 ⟨rfl, hx1⟩)
    go_ret
    exact ⟨rfl, (by repeat (first | exact Ext.refl _ | assumption | (refine Ext.trans ?_ (by assumption))))⟩
  · have g1 : ¬ 20 < (n : Int) := by omega
    have hn : n ≤ 20 := by omega
    clear hg
    go_enter Try.func4, Try.ntmps4
    go_wp2_with (first
      | (go_at_call 8; (with_reducible refine (awake_any _).mono ?_); rintro e w1 ⟨rfl, hx1⟩)
      | (go_at_call 10; (with_reducible refine (new_any _ _).mono ?_); rintro e w2 ⟨rfl, hC, hx2⟩; have HC := hid hC; clear hC))
    have C2 : Hid (Cut w2 w1.heap.size 16384 none 0 0 [] false) := HC.out
    have X2 : Hid (Ext w w2) := hx1.trans hx2
    have hg : w.heap.size ≤ w1.heap.size := ext_size hx1
    clear HC hx2 hx1
    generalize w1.heap.size = g at *
    go_loopw [21] (fun i wr => ∃ (q : Nat) (A1 : Option Addr) (n1 c1 : Nat), q ≤ n ∧ i = .int .i64 q ∧ Hid (Cut wr g 16384 A1 n1 c1 [] false) ∧ Hid (Ext w wr)) (fun i _ => n - (intOf i).toNat)
    case atStart => exact ⟨0, _, _, _, by omega, rfl, C2, X2⟩
    case round =>
      clear C2 X2
      obtain ⟨q, A1, n1, c1, hq, rfl, C3, X3⟩ := hrel
      obtain ⟨wo, rfl⟩ : ∃ wo : World, wo = wr := ⟨_, rfl⟩
      by_cases hlt : q < n
      · obtain ⟨b1, o1, rfl, hc⟩ := (h.ext X3.out).at_ (by omega)
        obtain ⟨Aq, nq, cq, e1, s1⟩ := hc q hlt
        clear hc
        by_cases hb : 1000 < nq
        · have hb' : 1000 < (nq : Int) := by omega
          go_wp2
          go_ret
          exact ⟨rfl, X3.out⟩
        · have hb' : ¬ 1000 < (nq : Int) := by omega
          have hxl := s1.len
          have hlen := fieldB_length 48 (xss[q]?.getD [])
          have S1 : Hid (∀ k, k < (fieldB 48 (xss[q]?.getD [])).length → streamP 16384 ((fieldB 48 (xss[q]?.getD [])).take k) = ([], (fieldB 48 (xss[q]?.getD [])).take k, 0)) := fun k hk => streamP_cut (by omega) (by omega) hk
          have S2 : Hid (streamP 16384 (fieldB 48 (xss[q]?.getD [])) = ([fieldB 48 (xss[q]?.getD [])], [], 0)) := by
            show _ = _
            have := streamP_field (M := 16384) (xs := xss[q]?.getD []) [] (by omega) (by omega)
            rw [List.append_nil, streamP_nil] at this
            exact this
          have hfd : Hid (Calls Try.prog 9 #[.int .u8 48, .slice Aq nq cq] wo fun e w' => ∃ A' n' c', e = .returned (.slice A' n' c') ∧ Sl w' A' n' c' (fieldB 48 (xss[q]?.getD [])) ∧ Ext wo w') := rfield_any 48 _ _ _ _ _ s1 (by omega)
          have hl1 : 1 ≤ (fieldB 48 (xss[q]?.getD [])).length := by simp [fieldB]
          have hl2 : (fieldB 48 (xss[q]?.getD [])).length ≤ 2000 := by omega
          clear hlen hxl s1 hb
          generalize fieldB 48 (xss[q]?.getD []) = F at *
          go_wp2_with (go_at_call 9; (with_reducible refine hfd.out.mono ?_); rintro e w3 ⟨A3, n3, c3, rfl, h3, hx3⟩; have H3 := hid h3; have X4 := hid (X3.out.trans hx3); have C4 := hid (C3.out.ext hx3); clear h3)
          have hn3 := hid H3.out.len
          have hn4 : 1 ≤ n3 := by have := hn3.out; omega
          have hn5 : n3 ≤ c3 := H3.out.cap
          have hn6 : n3 ≤ 2000 := by have := hn3.out; omega
          clear hx3 hfd
          go_loopw [37] (fun i wi => ∃ (k : Nat) (A1 : Option Addr) (n1 c1 : Nat), k ≤ n3 ∧ i = .int .i64 k ∧ Hid (Cut wi g 16384 A1 n1 c1 (waitP F k) false) ∧ Hid (Sl wi A3 n3 c3 F) ∧ Hid (Ext w wi)) (fun i _ => n3 - (intOf i).toNat)
          case atStart => exact ⟨0, _, _, _, by omega, rfl, by rw [waitP_lt (by omega)]; exact C4, H3, X4⟩
          case round =>
            clear C4 H3 X4 C3 X3
            obtain ⟨k, A1, n1, c1, hk, rfl, C5, H5, X5⟩ := hrel
            by_cases hlt2 : k < n3
            · have sl := slice_lh A3 n3 c3 k 1 (by omega) (k : Int) ((k : Int) + 1) rfl (by omega)
              have hF := feed_any C5.out (by omega) (M' := 16384) rfl (H5.out.mid (l := k) (k := 1) (by omega)) (by rw [waitP_lt (by have := hn3.out; omega)]; simp; omega)
              rw [waitP_lt (by have := hn3.out; omega), take_step] at hF
              by_cases hlast : k + 1 = n3
              · have hl' : ((k : Int) == (n3 : Int) - 1) = true := by rw [beq_iff_eq]; omega
                rw [List.take_of_length_le (by have := hn3.out; omega), S2.out] at hF
                have HF := hid hF
                clear hF
                have hl3 : ((k : Int) + 1).tmod (n3 : Int) = 0 := by rw [show (k : Int) + 1 = n3 by omega]; exact Int.tmod_self
                have Hlast := hid hlast
                clear hlast
                go_wp2_with fail
                refine HF.out.mono ?_
                rintro e w8 ⟨v8, q8, vs8, A8, n8, c8, rfl, hI8⟩
                obtain ⟨B8, d8, rfl, hs8⟩ := hI8.list
                obtain ⟨b9, o9, rfl, hc9⟩ := hs8.at_ (by simp)
                obtain ⟨Aj, nj, cj, z1, z2⟩ := hc9 0 (by simp)
                rw [Nat.add_zero] at z1
                have C8 : Hid (Cut w8 g 16384 A8 n8 c8 [] false) := hI8.cut
                have H8 : Hid (Sl w8 A3 n3 c3 F) := H5.out.grown (C5.out.off H5.out) hI8.gr
                have X8 : Hid (Ext w w8) := ext_grown X5.out hI8.gr hg
                clear hI8 hs8 hc9
                simp only []
                go_wp2_with fail
                refine wp_region_plan (.read 0 (.read 1 (.read 2 (.read 3 (.read 4 (.read 5 (.read 6 (.read 7 (.read 8 (.read 9 (.read 10 (.read 11 (.read 12 (.read 13 (.read 14 (.read 15 (.read 16 (.read 17 (.read 18 (.read 19 (.read 20 (.read 21 (.read 22 (.read 23 (.read 24 (.read 25 (.read 26 (.read 27 (.read 29 (.read 30 (.read 31 (.read 32 (.read 33 (.main 28 (.read 34 (.read 35 .done)))))))))))))))))))))))))))))))))))) (by kernel_rfl) (by kernel_rfl) ?_
                intro wD hxD
                have k1 := cell_later (cell_later z1 _ hxD)
                have k2 := (z2.ext hxD).conv
                have k3 := (H8.out.ext hxD).conv
                simp only [List.getElem?_cons_zero, Option.getD_some] at k2
                have n0 : ¬ n3 = 0 := by omega
                repeat' (first
                  | (refine walks_move rfl rfl ?_; simp only [Act.put, Act.eval, List.setIfInBounds_toArray, List.set_cons_zero, List.set_cons_succ, Array.getD_eq_getD_getElem?, List.getElem?_toArray, List.getElem?_cons_zero, List.getElem?_cons_succ, Option.getD_some])
                  | (refine walks_assign rfl rfl ?_; simp only [Act.put, Act.eval, List.setIfInBounds_toArray, List.set_cons_zero, List.set_cons_succ, Array.getD_eq_getD_getElem?, List.getElem?_toArray, List.getElem?_cons_zero, List.getElem?_cons_succ, Option.getD_some])
                  | (refine walks_skip rfl rfl ?_; simp only [Act.put, List.setIfInBounds_toArray, List.set_cons_zero, List.set_cons_succ])
                  | (refine walks_unwanted rfl rfl ?_; simp only [Act.put, List.setIfInBounds_toArray, List.set_cons_zero, List.set_cons_succ])
                  | (refine walks_read (v := ?_) rfl rfl (fun w' hE => ?_) ?_; rotate_left 1; (· (go_simp; (try go_bits); with_reducible rfl)); simp only [Act.put, List.setIfInBounds_toArray, List.set_cons_zero, List.set_cons_succ])
                  | (refine walks_alt ?_ ?_)
                  | (refine walks_main rfl rfl (fun K hK => ?_); go_wp2_with (first | (go_at_call 12; (with_reducible refine (waiting_any (C8.out.ext hxD)).mono ?_); rintro e w10 ⟨rfl, rfl⟩)); refine hK _ _ (by first | assumption | exact Ext.alloc _ _ | exact Ext.refl _) ?_; clear hK K; try simp only [Act.put, List.setIfInBounds_toArray, List.set_cons_zero, List.set_cons_succ]))
                refine walks_done ?_
                go_wp2
                refine ⟨⟨k + 1, A8, n8, c8, by omega, by go_num, ?_, hid (H8.out.ext hxD), hid (X8.out.trans hxD)⟩, by simp [intOf]; omega⟩
                rw [show k + 1 = F.length by rw [← hn3.out]; exact Hlast.out, waitP_all]
                exact C8.out.ext hxD
              · have hl' : ((k : Int) == (n3 : Int) - 1) = false := by rw [beq_eq_false_iff_ne]; omega
                rw [S1.out (k + 1) (by have := hn3.out; omega), ← waitP_lt (show k + 1 < F.length by have := hn3.out; omega)] at hF
                have HF := hid hF
                have hl3 : ((k : Int) + 1).tmod (n3 : Int) = (k : Int) + 1 := by rw [Int.tmod_eq_emod_of_nonneg (by omega)]; exact Int.emod_eq_of_lt (by omega) (by omega)
                have hwl : (waitP F (k + 1)).length = k + 1 := by rw [waitP_lt (by have := hn3.out; omega), List.length_take]; have := hn3.out; omega
                have Hwl := hid hwl
                clear hF hlast hwl
                go_wp2_with fail
                refine HF.out.mono ?_
                rintro e w8 ⟨v8, q8, vs8, A8, n8, c8, rfl, hI8⟩
                obtain ⟨B8, d8, rfl, hs8⟩ := hI8.list
                have C8 : Hid (Cut w8 g 16384 A8 n8 c8 (waitP F (k + 1)) false) := hI8.cut
                have H8 : Hid (Sl w8 A3 n3 c3 F) := H5.out.grown (C5.out.off H5.out) hI8.gr
                have X8 : Hid (Ext w w8) := ext_grown X5.out hI8.gr hg
                clear hI8 hs8
                simp only []
                go_wp2_with fail
                refine wp_region_plan (.read 0 (.read 1 (.read 2 (.read 3 (.read 4 (.read 5 (.read 6 (.read 7 (.read 8 (.read 9 (.read 10 (.read 11 (.read 12 (.read 13 (.read 14 (.read 15 (.read 16 (.read 17 (.read 18 (.read 19 (.read 20 (.read 21 (.read 22 (.read 23 (.read 24 (.read 25 (.read 26 (.read 27 (.read 29 (.read 30 (.read 31 (.read 32 (.read 33 (.main 28 (.read 34 (.read 35 .done)))))))))))))))))))))))))))))))))))) (by kernel_rfl) (by kernel_rfl) ?_
                intro wD hxD
                have n0 : ¬ n3 = 0 := by omega
                repeat' (first
                  | (refine walks_move rfl rfl ?_; simp only [Act.put, Act.eval, List.setIfInBounds_toArray, List.set_cons_zero, List.set_cons_succ, Array.getD_eq_getD_getElem?, List.getElem?_toArray, List.getElem?_cons_zero, List.getElem?_cons_succ, Option.getD_some])
                  | (refine walks_assign rfl rfl ?_; simp only [Act.put, Act.eval, List.setIfInBounds_toArray, List.set_cons_zero, List.set_cons_succ, Array.getD_eq_getD_getElem?, List.getElem?_toArray, List.getElem?_cons_zero, List.getElem?_cons_succ, Option.getD_some])
                  | (refine walks_skip rfl rfl ?_; simp only [Act.put, List.setIfInBounds_toArray, List.set_cons_zero, List.set_cons_succ])
                  | (refine walks_unwanted rfl rfl ?_; simp only [Act.put, List.setIfInBounds_toArray, List.set_cons_zero, List.set_cons_succ])
                  | (refine walks_read (v := ?_) rfl rfl (fun w' hE => ?_) ?_; rotate_left 1; (· (go_simp; (try go_bits); with_reducible rfl)); simp only [Act.put, List.setIfInBounds_toArray, List.set_cons_zero, List.set_cons_succ])
                  | (refine walks_alt ?_ ?_)
                  | (refine walks_main rfl rfl (fun K hK => ?_); go_wp2_with (first | (go_at_call 12; (with_reducible refine (waiting_any (C8.out.ext hxD)).mono ?_); rintro e w10 ⟨rfl, rfl⟩; rw [Hwl.out])); refine hK _ _ (by first | assumption | exact Ext.alloc _ _ | exact Ext.refl _) ?_; clear hK K; try simp only [Act.put, List.setIfInBounds_toArray, List.set_cons_zero, List.set_cons_succ]))
                refine walks_done ?_
                go_wp2
                exact ⟨⟨k + 1, A8, n8, c8, by omega, by go_num, hid (C8.out.ext hxD), hid (H8.out.ext hxD), hid (X8.out.trans hxD)⟩, by simp [intOf]; omega⟩
            · obtain rfl : k = n3 := by omega
              go_wp2
              refine ⟨⟨q + 1, A1, n1, c1, by omega, by go_num, ?_, X5⟩, by simp [intOf]; omega⟩
              have := C5.out
              rw [hn3.out, waitP_all] at this
              exact this
      · obtain rfl : q = n := by omega
        go_wp2
        go_ret
        exact ⟨rfl, X3.out⟩
end Go.Proofs.Ytohbbbolfdidcaa
