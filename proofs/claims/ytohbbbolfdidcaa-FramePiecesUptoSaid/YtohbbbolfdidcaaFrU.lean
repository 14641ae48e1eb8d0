/- The walk of the reference's Stream. -/
import Derived.Test.YtohbbbolfdidcaaFrS
import Derived.Test.YtohbbbolfdidcaaBerI
namespace Go.Proofs.Ytohbbbolfdidcaa
open Go.RowKit
set_option maxRecDepth 100000

theorem headP_err3 (xs : List UInt8) : (headP xs).2.2 = 0 ∨ (headP xs).2.2 = 2 ∨ (headP xs).2.2 = 5 := by
  unfold headP
  repeat' split
  all_goals simp

/-- What the reference's Stream answers. -/
def StreamR (w : World) (p : List (List UInt8) × List UInt8 × Nat) (e : Ending) (w' : World) : Prop :=
  ∃ B d, e = .returned (.tuple #[.slice B p.1.length d, .int .i64 (p.2.1.length : Int), .int .i64 (p.2.2 : Int)]) ∧ Sls w' B p.1.length d p.1 ∧ Ext w w'

set_option maxHeartbeats 4000000 in
theorem rstream_any {A : Option Addr} {n c : Nat} {xs : List UInt8} {w : World} (h : Sl w A n c xs) (hn : n ≤ 1048576) (M : Nat) (hM : M ≤ 16384) :
    Calls Try.prog 15 #[.slice A n c, .int .i64 (M : Int)] w (StreamR w (streamP M xs)) := by
  go_enter Try.func15, Try.ntmps15
  go_wp2
  go_loopw [0, 7] (fun u v wr => ∃ (q n1 c1 : Nat) (A1 : Option Addr) (ys : List UInt8) (vs : List Value) (L : List (List UInt8)), u = .slice A1 n1 c1 ∧ n1 ≤ 1048576 ∧ q ≤ 1048576 ∧ 2 * q + n1 ≤ n ∧ Hid (Sl w A1 n1 c1 ys) ∧ Hid (wr.ownsRow w.heap.size 24 1 v q vs) ∧ Hid (Vs wr none v.ownBlock vs L) ∧ Hid (streamP M xs = glueS L (streamP M ys)) ∧ Hid (Ext w wr)) (fun u _ _ => match u with | .slice _ n _ => n | _ => 0)
  case atStart => exact ⟨0, n, c, A, xs, [], [], rfl, hn, by omega, by omega, h, World.ownsRow_nil _ _ _ _, Vs.nil _ _ _, (glueS_nil _).symm, Ext.refl w⟩
  case round =>
    obtain ⟨q, n1, c1, A1, ys, vs, L, rfl, hn1, hq, hqn, HS, HO, HV, HP, HX⟩ := hrel
    have hnl := hid HS.out.len
    have hcap := HS.out.cap
    have hsz := ext_size HX.out
    have hh := rhead_any (HS.out.ext HX.out)
    have fin : Hid (∀ (w' : World) (p : List (List UInt8) × List UInt8 × Nat), Ext wr w' → streamP M xs = glueS L p → p.1 = [] → ∀ e, e = .returned (.tuple #[u7, .int .i64 (p.2.1.length : Int), .int .i64 (p.2.2 : Int)]) → StreamR w (streamP M xs) e w') := by
      intro w' p hx hp hp1 e he
      obtain ⟨B, d, hv, hs⟩ := HV.out.sls HO.out
      rw [hp]
      have hl := hs.len
      refine ⟨B, d, ?_, ?_, HX.out.trans hx⟩
      · rw [he, hv, hl]; simp [glueS, hp1]
      · simp only [glueS, hp1, List.append_nil]
        rw [← hl]
        exact hs.ext hx
    by_cases h1 : n1 = 0
    · have hy : ys = [] := List.eq_nil_of_length_eq_zero (by rw [← hnl.out]; exact h1)
      have hw := hid (show streamP M xs = glueS L ([], ys, 0) by rw [HP.out, streamP_wait (by unfold verd; rw [if_pos (by rw [← hnl.out]; exact h1)])])
      have HY := hid hy
      rw [hy, show headP [] = (0, 0, 5) by rfl, headV_def'] at hh
      have HH := hid hh
      have h1' : ¬ 0 < (n1 : Int) := by omega
      have H1 := hid h1
      clear hy hh h1
      go_wp2_with (go_at_call 23; (with_reducible refine HH.out.mono ?_); rintro e w1 ⟨rfl, hx1⟩)
      go_ret3
      exact fin.out _ _ hx1 hw.out rfl _ (by rw [HY.out, H1.out]; rfl)
    · have hp : 0 < n1 := by omega
      have hp' : 0 < (n1 : Int) := by omega
      have hv1 : ¬ ys.length = 0 := by rw [← hnl.out]; exact h1
      obtain ⟨b, off, rfl, hc⟩ := (HS.out.ext HX.out).at_ hp
      have x0 := hc 0 hp
      rw [Nat.add_zero] at x0
      clear hc
      have hBl := (ys[0]?.getD 0).toNat_lt
      by_cases h2 : (ys[0]?.getD 0).toNat ≠ 48
      · have hv : verd M ys = (1, 2) := by unfold verd; rw [if_neg hv1, if_pos h2]
        have hw := hid (show streamP M xs = glueS L ([], [], 2) by rw [HP.out, streamP_err (by rw [hv]), hv])
        have t2 : (((ys[0]?.getD 0).toNat : Int) != 48) = true := by rw [bne_iff_ne]; omega
        clear hv hv1 hh
        go_wp2
        go_ret3
        exact fin.out _ _ (Ext.refl _) hw.out rfl _ rfl
      have t2 : (((ys[0]?.getD 0).toNat : Int) != 48) = false := by rw [bne_eq_false_iff_eq]; omega
      have hok := headP_ok ys
      have her := headP_err3 ys
      rcases hqq : headP ys with ⟨H, N, E⟩
      have hV : verd M ys = if E = 5 then (0, 0) else if E ≠ 0 then (1, E) else if M < H + N then (1, 4) else if ys.length < H + N then (0, 0) else (2, H + N) := by
        unfold verd; rw [if_neg hv1, if_neg h2, hqq]
      rw [hqq] at hok her hh
      clear hqq
      simp only [] at hok her
      rw [headV_def'] at hh
      have HH := hid hh
      clear hv1 hh
      rcases her with her | her | her
      case inr.inr =>
        subst her
        rw [if_pos rfl] at hV
        have hw := hid (show streamP M xs = glueS L ([], ys, 0) by rw [HP.out, streamP_wait (by rw [hV])])
        clear hV hok
        go_wp2_with (go_at_call 23; (with_reducible refine HH.out.mono ?_); rintro e w1 ⟨rfl, hx1⟩)
        go_ret3
        exact fin.out _ _ hx1 hw.out rfl _ (by rw [← hnl.out]; rfl)
      case inr.inl =>
        subst her
        rw [if_neg (by omega), if_pos (by omega)] at hV
        have hw := hid (show streamP M xs = glueS L ([], [], 2) by rw [HP.out, streamP_err (by rw [hV]), hV])
        clear hV hok
        go_wp2_with (go_at_call 23; (with_reducible refine HH.out.mono ?_); rintro e w1 ⟨rfl, hx1⟩)
        go_ret3
        exact fin.out _ _ hx1 hw.out rfl _ rfl
      subst her
      rw [if_neg (by omega), if_neg (by omega)] at hV
      obtain ⟨k1, k2, k3, k4⟩ := hok rfl
      have k3' : H ≤ n1 := by rw [hnl.out]; exact k3
      clear hok k3
      by_cases hm : M < H + N
      · rw [if_pos hm] at hV
        have hw := hid (show streamP M xs = glueS L ([], [], 4) by rw [HP.out, streamP_err (by rw [hV]), hV])
        have tm : (M : Int) < (H : Int) + N := by omega
        clear hV
        go_wp2_with (go_at_call 23; (with_reducible refine HH.out.mono ?_); rintro e w1 ⟨rfl, hx1⟩)
        go_ret3
        exact fin.out _ _ hx1 hw.out rfl _ rfl
      rw [if_neg hm] at hV
      have tm : ¬ (M : Int) < (H : Int) + N := by omega
      by_cases hw : n1 < H + N
      · rw [if_pos (by rw [← hnl.out]; exact hw)] at hV
        have hw2 := hid (show streamP M xs = glueS L ([], ys, 0) by rw [HP.out, streamP_wait (by rw [hV])])
        have tw : (n1 : Int) < (H : Int) + N := by omega
        clear hV
        go_wp2_with (go_at_call 23; (with_reducible refine HH.out.mono ?_); rintro e w1 ⟨rfl, hx1⟩)
        go_ret3
        exact fin.out _ _ hx1 hw2.out rfl _ (by rw [← hnl.out]; rfl)
      rw [if_neg (by rw [← hnl.out]; exact hw)] at hV
      have tw : ¬ (n1 : Int) < (H : Int) + N := by omega
      have HP2 := hid (show streamP M xs = glueS (L ++ [ys.take (H + N)]) (streamP M (ys.drop (H + N))) by rw [HP.out, streamP_msg hV, glueS_glueS])
      clear hV
      have s1 := slice_h (some ⟨b, off, none⟩) n1 c1 (H + N) (by omega) ((H : Int) + N) (by omega)
      have s2 := slice_l (some ⟨b, off, none⟩) n1 c1 (H + N) (by omega) ((H : Int) + N) (by omega)
      go_wp2_with (first
        | (go_at_call 23; (with_reducible refine HH.out.mono ?_); rintro e w1 ⟨rfl, hx1⟩)
        | (at_builtin; refine append_bytes rfl (.tmp 55) (.tmp 60) rfl w1.heap.size _ 0 [] rfl (own_none w1 w1.heap.size (Nat.le_refl _)) _ _ _ _ rfl (((HS.out.ext (HX.out.trans hx1)).head (k := H + N) (by omega)).ext (Ext.alloc _ _)) (by omega) (by simp) ?_; intro v2 w2 ho2 hb2 hg2 hv2; obtain ⟨A2, c2, rfl, hs2⟩ := Sl.of_row ho2; have hx2 := Below.trans (Ext.alloc w1 _) hb2; have HO2 := hid (own_ext HO.out (hx1.trans hx2)); have hsz2 : w.heap.size ≤ w2.heap.size := Nat.le_trans hsz (ext_size (hx1.trans hx2)))
        | (at_builtin; refine append_row rfl (.tmp 54) (.tmp 62) rfl w.heap.size u7 q vs rfl (own_ext HO2.out (Ext.alloc _ _)) w2.heap.size _ rfl (cell_new _ _ _) rfl (by omega) (by simp; omega) ?_; intro v3 w3 ho3 hb3 hg3 hv3))
      have hN2 := New.of_own ho2
      rw [List.nil_append] at hN2 hs2
      rw [Nat.zero_add] at hs2
      have hoff : Off none u7.ownBlock A2 (ys.take (H + N)) := hN2.off (fun k hk => by cases hk) (fun k hk => Nat.lt_of_lt_of_le (HO.out.lt k hk).2 (ext_size hx1))
      have V3 := (((HV.out.ext (hx1.trans hx2)).ext (Ext.alloc _ _)).snoc (hs2.ext (Ext.alloc _ _)) hoff).grownR hg3 hv3
      refine ⟨⟨q + 1, n1 - (H + N), _, _, ys.drop (H + N), _, L ++ [ys.take (H + N)], rfl, by omega, by omega, by omega, HS.out.tail (l := H + N) (by omega), ho3, V3, HP2, ?_⟩, ?_⟩
      · exact Below.trans (HX.out.trans (hx1.trans (Ext.trans hx2 (Ext.alloc _ _)))) hb3
      · simp only []
        omega
end Go.Proofs.Ytohbbbolfdidcaa
