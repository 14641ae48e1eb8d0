/- FrameOver: the walk of the law. -/
import Derived.Test.YtohbbbolfdidcaaLawI
import Derived.Test.YtohbbbolfdidcaaBerRO
namespace Go.Proofs.Ytohbbbolfdidcaa
open Go.RowKit
set_option maxRecDepth 100000

theorem streamP_bad (M : Nat) (b : UInt8) (h : b.toNat ≠ 48) : streamP M [b] = ([], [], 2) := by
  have hv : verd M [b] = (1, 2) := by unfold verd; rw [if_neg (by simp), if_pos (by simpa using h)]
  rw [streamP_err (by rw [hv]), hv]
theorem lit_u8 {t : Int} (h : (Lit.int .u8 t).wf = true) : ∃ b : UInt8, t = (b.toNat : Int) := by
  simp [Lit.wf, IntKind.min, IntKind.max, IntKind.signed, IntKind.bits] at h
  exact ⟨UInt8.ofNat t.toNat, by rw [UInt8.toNat_ofNat']; omega⟩
theorem frameOver_walk (A : Option Addr) (n c : Nat) (xs : List UInt8) (t : Int) (B : Option Addr) (m d : Nat) (ys : List UInt8) (w : World) (h : Sl w A n c xs) (_hm : c ≤ 140737488351232)
    (ht : (Lit.int .u8 t).wf = true) (_k : Sl w B m d ys) (_hd : d ≤ 140737488351232) :
    Calls Try.prog 6 #[.slice A n c, .int .u8 t, .slice B m d] w fun e w' => e = .returned (.bool true) ∧ Below w.heap.size w w' := by
  obtain ⟨b, rfl⟩ := lit_u8 ht
  clear ht
  by_cases hg : 1000 < n ∨ (b.toNat : Int) = 48
  · rcases hg with hg | hg
    · have hg' : 1000 < (n : Int) := by omega
      go_enter Try.func6, Try.ntmps6
      go_wp2_with (go_at_call 8; (with_reducible refine (awake_any _).mono ?_); rintro e w1 ⟨rfl, hx1⟩)
      go_ret
      exact ⟨rfl, (by repeat (first | exact Ext.refl _ | assumption | (refine Ext.trans ?_ (by assumption))))⟩
    · have hg' : ((b.toNat : Int) == 48) = true := by rw [beq_iff_eq]; exact hg
      clear hg
      go_enter Try.func6, Try.ntmps6
      go_wp2_with (go_at_call 8; (with_reducible refine (awake_any _).mono ?_); rintro e w1 ⟨rfl, hx1⟩)
      all_goals
        go_ret
        exact ⟨rfl, (by repeat (first | exact Ext.refl _ | assumption | (refine Ext.trans ?_ (by assumption))))⟩
  · have g1 : ¬ 1000 < (n : Int) := by omega
    have g2 : ((b.toNat : Int) == 48) = false := by rw [beq_eq_false_iff_ne]; omega
    have g3 : b.toNat ≠ 48 := by omega
    have hBl := b.toNat_lt
    have hxl := h.len
    have hlen := fieldB_length 48 xs
    have hS : Hid (streamP 16384 ([] ++ (fieldB 48 xs ++ [UInt8.ofNat (b.toNat : Int).toNat])) = ([fieldB 48 xs], [], 2)) := by
      show _ = _
      rw [List.nil_append, streamP_field _ (by omega) (by omega), show UInt8.ofNat (b.toNat : Int).toNat = b by simp, streamP_bad _ _ g3]
      rfl
    have hfd : ∀ w1 : World, Ext w w1 → Calls Try.prog 9 #[.int .u8 48, .slice A n c] w1 fun e w' => ∃ A' c', e = .returned (.slice A' (fieldB 48 xs).length c') ∧ w'.ownsRow w1.heap.size 5 1 (.slice A' (fieldB 48 xs).length c') (fieldB 48 xs).length ((fieldB 48 xs).map bv) ∧ Ext w1 w' :=
      fun w1 hx => rfield_own 48 _ _ _ _ _ (h.ext hx) (by omega)
    have Hfd := hid hfd
    have hl16 : (fieldB 48 xs).length ≤ 2000 := by omega
    have Hg := hid hg
    clear hfd hlen hxl g3 hg
    generalize fieldB 48 xs = F at *
    go_enter Try.func6, Try.ntmps6
    go_wp2_with (first
      | (go_at_call 8; (with_reducible refine (awake_any _).mono ?_); rintro e w1 ⟨rfl, hx1⟩)
      | (go_at_call 10; (with_reducible refine (new_any _ _).mono ?_); rintro e w2 ⟨rfl, hC, hx2⟩; have HC := hid hC; clear hC)
      | (go_at_call 9; (with_reducible refine (Hfd.out _ (hx1.trans hx2)).mono ?_); rintro e w3 ⟨A3, c3, rfl, ho3, hx3⟩; have H3 := hid ho3; clear ho3)
      | (at_builtin; refine append_bytes rfl _ _ rfl w2.heap.size _ F.length F rfl (H3.out.alloc _) _ 1 1 _ rfl (sl_one _ _ (by omega)) (by omega) (by have := ext_size hx3; simp; omega) ?_; intro v' w4 ho4 hb4 hg4 hv4; obtain ⟨A5, c5, rfl, hs5⟩ := Sl.of_row ho4))
    clear hg4 hv4
    have hg1 : w1.heap.size < w2.heap.size := HC.out.lt
    have hM : mostP 16384 = 16384 := by decide
    have C3 := (HC.out.ext hx3).ext (Ext.alloc w3 (.cells #[.int .u8 (b.toNat : Int)] 5))
    rw [hM] at C3
    have C4 : Cut w4 w1.heap.size 16384 none 0 0 [] false := ⟨(hb4.block _ hg1).trans C3.blk, Sl.nil _⟩
    have hE4 : Ext w w4 := Below.trans ((hx1.trans hx2).trans (hx3.trans (Ext.alloc _ _))) (Below.mono hb4 (ext_size (hx1.trans hx2)))
    have hF := feed_any C4 (by omega) (M' := 16384) rfl hs5 (by simp; omega)
    rw [hS.out] at hF
    clear C3 hM
    refine hF.mono ?_
    rintro e w5 ⟨v4, q, vs, A6, n6, c6, rfl, hI⟩
    obtain ⟨B4, d4, rfl, hs4⟩ := hI.list
    have hE5 := ext_grown hE4 hI.gr (ext_size hx1)
    have C5 : Cut w5 w1.heap.size 16384 A6 n6 c6 [] true := hI.cut
    clear hF hI
    simp only []
    go_wp2_with fail
    refine (feed_over C5 _).mono ?_
    rintro e w6 ⟨rfl, rfl⟩
    simp only []
    go_wp2_with (first | (go_at_call 18; (with_reducible refine (over_any C5).mono ?_); rintro e w7 ⟨rfl, rfl⟩) | (go_at_call 12; (with_reducible refine (waiting_any C5).mono ?_); rintro e w8 ⟨rfl, rfl⟩))
    go_ret
    exact ⟨rfl, hE5⟩
end Go.Proofs.Ytohbbbolfdidcaa
