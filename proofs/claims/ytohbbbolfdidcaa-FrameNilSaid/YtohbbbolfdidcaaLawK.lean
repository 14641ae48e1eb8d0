/- FrameNil: the walk of the law. -/
import Derived.Test.YtohbbbolfdidcaaLawJ
namespace Go.Proofs.Ytohbbbolfdidcaa
open Go.RowKit
set_option maxRecDepth 100000

theorem frameNil_walk (A : Option Addr) (n c : Nat) (xs : List UInt8) (w : World) (h : Sl w A n c xs) (_hm : c ≤ 140737488351232) :
    Calls Try.prog 7 #[.slice A n c] w fun e w' => e = .returned (.bool true) ∧ Below w.heap.size w w' := by
  by_cases hg : 1000 < n
  · have hg' : 1000 < (n : Int) := by omega
    go_enter Try.func7, Try.ntmps7
    go_wp2_with (go_at_call 8; (with_reducible refine (awake_any _).mono ?_); rintro e w1 ⟨rfl, hx1⟩)
    go_ret
    exact ⟨rfl, (by repeat (first | exact Ext.refl _ | assumption | (refine Ext.trans ?_ (by assumption))))⟩
  · have g1 : ¬ 1000 < (n : Int) := by omega
    have hxl := h.len
    have hlen := fieldB_length 48 xs
    have hS : Hid (streamP 16384 ([48] ++ (fieldB 48 xs).drop 1) = ([fieldB 48 xs], [], 0)) := by
      show _ = _
      have e : [48] ++ (fieldB 48 xs).drop 1 = fieldB 48 xs ++ [] := by simp [fieldB]
      rw [e, streamP_field _ (by omega) (by omega), streamP_nil]
      rfl
    have hS1 : Hid (streamP 16384 ([] ++ [48]) = ([], [48], 0)) := by
      show _ = _
      decide
    have hhd : (fieldB 48 xs).take 1 = [48] := by simp [fieldB]
    have hl16 : (fieldB 48 xs).length ≤ 2000 := by omega
    have hl1 : 1 ≤ (fieldB 48 xs).length := by simp [fieldB]
    have hfd : ∀ w1 : World, Ext w w1 → Calls Try.prog 9 #[.int .u8 48, .slice A n c] w1 fun e w' => ∃ A' n' c', e = .returned (.slice A' n' c') ∧ Sl w' A' n' c' (fieldB 48 xs) ∧ Ext w1 w' :=
      fun w1 hx => rfield_any 48 _ _ _ _ _ (h.ext hx) (by omega)
    have Hfd := hid hfd
    have Hhd := hid hhd
    clear hfd hlen hxl hhd hg
    generalize fieldB 48 xs = F at *
    go_enter Try.func7, Try.ntmps7
    go_wp2_with (first
      | (go_at_call 8; (with_reducible refine (awake_any _).mono ?_); rintro e w1 ⟨rfl, hx1⟩)
      | (go_at_call 11; (with_reducible refine (feed_nil _ _).mono ?_); rintro e w2 ⟨rfl, rfl⟩)
      | (go_at_call 9; (with_reducible refine (Hfd.out _ hx1).mono ?_); rintro e w3 ⟨A3, n3, c3, rfl, h3, hx3⟩; have hn3 := hid h3.len; have sl1 := slice_h A3 n3 c3 1 (by have := h3.cap; have := hn3.out; omega) 1 rfl; have sl2 := slice_l A3 n3 c3 1 (by have := hn3.out; omega) 1 rfl)
      | (go_at_call 10; (with_reducible refine (new_any _ _).mono ?_); rintro e w4 ⟨rfl, hC, hx4⟩; have HC := hid hC; clear hC)
      | (at_builtin; refine append_bytes rfl _ _ rfl w4.heap.size _ 0 [] rfl (own_none w4 w4.heap.size (Nat.le_refl _)) _ _ _ _ rfl (((h3.head (k := 1) (by have := hn3.out; omega)).ext hx4).ext (Ext.alloc _ _)) (by omega) (by simp) ?_; intro v' w5 ho5 hb5 hg5 hv5; rw [List.nil_append, Hhd.out] at ho5; obtain ⟨A5, c5, rfl⟩ := own_form ho5))
    have hM : mostP 16384 = 16384 := by decide
    have C5 : Cut w5 w3.heap.size 16384 none 0 0 [] false := by
      have C4 := HC.out
      rw [hM] at C4
      exact ⟨(hb5.block _ C4.lt).trans ((C4.ext (Ext.alloc _ _)).blk), Sl.nil _⟩
    have hF := feed_new C5 (by omega) (M' := 16384) rfl (Sl.of_own ho5) (by simp)
    rw [hS1.out] at hF
    refine hF.mono ?_
    rintro e w6 ⟨v4, q, vs, A6, n6, c6, rfl, hI, hnw⟩
    simp only []
    rcases ho5.2 with ⟨hv5', h05⟩ | ⟨g5, cap5, cur5, hv5', hb5', hg5', _⟩
    · simp at h05
    injection hv5' with hA5 hl5 hc5
    subst hA5
    have hne : (Value.slice (some ⟨g5, 0, none⟩) (0 + 1) c5).ownBlock ≠ some w3.heap.size := by
      intro e
      have e : g5 = w3.heap.size := by simpa [Value.ownBlock] using e
      have := HC.out.lt
      omega
    have ho6 := ho5.kept hI.gr (.inr hne)
    have y1 := ho6.cellAt 0 (by omega)
    have y2 := ho6.frozenAt 0
    have y3 := ho5.lt g5 rfl
    have C7 : Cut (w6.setCell ⟨g5, 0, none⟩ (.int .u8 9)) w3.heap.size 16384 A6 n6 c6 [48] false :=
      Cut.grown (show Cut w6 w3.heap.size 16384 A6 n6 c6 [48] false from hI.cut) (grown_setCell w6 g5 0 _) (fun e => hne (by simpa [Value.ownBlock] using e.symm)) (hnw.off (fun k hk => by injection hk with hk; subst hk; exact y3.2) (fun k hk => by cases hk))
    have hE3 : Ext w3 w5 := Below.trans (hx4.trans (Ext.alloc _ _)) (Below.mono hb5 (ext_size hx4))
    have hE6 : Ext w3 w6 := ext_grown hE3 hI.gr (Nat.le_refl _)
    have hE7 : Ext w3 (w6.setCell ⟨g5, 0, none⟩ (.int .u8 9)) := hE6.setCell (Nat.le_trans (ext_size hx4) y3.1) _
    have hF2 := feed_any C7 (by omega) (M' := 16384) rfl ((h3.ext hE7).tail (l := 1) (by have := hn3.out; omega)) (by simp; omega)
    rw [hS.out] at hF2
    have HF2 := hid hF2
    have HF7 := hid (h3.ext hE7)
    simp only [List.map_cons, List.map_nil, List.getElem?_cons_zero] at y1
    clear hF hF2
    go_wp2_with fail
    refine HF2.out.mono ?_
    rintro e w8 ⟨v8, q8, vs8, A8, n8, c8, rfl, hI8⟩
    obtain ⟨B8, d8, rfl, hs8⟩ := hI8.list
    obtain ⟨b9, o9, rfl, hc9⟩ := hs8.at_ (by simp)
    obtain ⟨Aj, nj, cj, z1, z2⟩ := hc9 0 (by simp)
    rw [Nat.add_zero] at z1
    have hE8 : Ext w3 w8 := ext_grown hE7 hI8.gr (Nat.le_refl _)
    simp only []
    go_wp2_with fail
    refine wp_region_plan (.read 0 (.read 1 (.read 2 (.read 3 (.main 4 (.read 5 (.read 6 (.read 7 (.read 8 (.main 9 (.read 10 (.read 11 (.read 12 (.read 13 (.read 14 (.read 15 (.read 16 (.read 17 (.read 18 (.read 19 (.read 20 (.read 21 (.read 22 (.read 23 (.read 24 (.read 25 (.read 26 (.read 27 (.read 28 (.read 29 (.read 30 .done))))))))))))))))))))))))))))))) (by kernel_rfl) (by kernel_rfl) ?_
    intro wD hxD
    have k1 := cell_later (cell_later z1 _ hxD)
    have k2 := (z2.ext hxD).conv
    have k3 := ((h3.ext hE8).ext hxD).conv
    simp only [List.getElem?_cons_zero, Option.getD_some] at k2
    repeat' (first
      | (refine walks_move rfl rfl ?_; simp only [Act.put, Act.eval, List.setIfInBounds_toArray, List.set_cons_zero, List.set_cons_succ, Array.getD_eq_getD_getElem?, List.getElem?_toArray, List.getElem?_cons_zero, List.getElem?_cons_succ, Option.getD_some])
      | (refine walks_assign rfl rfl ?_; simp only [Act.put, Act.eval, List.setIfInBounds_toArray, List.set_cons_zero, List.set_cons_succ, Array.getD_eq_getD_getElem?, List.getElem?_toArray, List.getElem?_cons_zero, List.getElem?_cons_succ, Option.getD_some])
      | (refine walks_skip rfl rfl ?_; simp only [Act.put, List.setIfInBounds_toArray, List.set_cons_zero, List.set_cons_succ])
      | (refine walks_unwanted rfl rfl ?_; simp only [Act.put, List.setIfInBounds_toArray, List.set_cons_zero, List.set_cons_succ])
      | (refine walks_read (v := ?_) rfl rfl (fun w' hE => ?_) ?_; rotate_left 1; (· (go_simp; (try go_bits); with_reducible rfl)); simp only [Act.put, List.setIfInBounds_toArray, List.set_cons_zero, List.set_cons_succ])
      | (refine walks_alt ?_ ?_)
      | (refine walks_main rfl rfl (fun K hK => ?_); go_wp2_with (first | (go_at_call 12; (with_reducible refine (waiting_nil _).mono ?_); rintro e w10 ⟨rfl, rfl⟩) | (go_at_call 18; (with_reducible refine (over_nil _).mono ?_); rintro e w11 ⟨rfl, rfl⟩)); refine hK _ _ (by first | assumption | exact Ext.alloc _ _ | exact Ext.refl _) ?_; clear hK K; try simp only [Act.put, List.setIfInBounds_toArray, List.set_cons_zero, List.set_cons_succ]))
    refine walks_done ?_
    go_wp2
    go_ret
    exact ⟨rfl, hx1.trans (hx3.trans (hE8.trans hxD))⟩
end Go.Proofs.Ytohbbbolfdidcaa
