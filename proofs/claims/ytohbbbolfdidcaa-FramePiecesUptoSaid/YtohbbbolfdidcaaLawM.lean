/- FramePieces: the walk of the law. -/
import Derived.Test.YtohbbbolfdidcaaFrT
import Derived.Test.YtohbbbolfdidcaaFrU
import Derived.Test.YtohbbbolfdidcaaBerS
namespace Go.Proofs.Ytohbbbolfdidcaa
open Go.RowKit
set_option maxRecDepth 100000

set_option maxHeartbeats 2000000 in
theorem framePieces_walk (A : Option Addr) (n c : Nat) (xs : List UInt8) (B : Option Addr) (m d : Nat) (ts : List UInt8) (t : Int) (zero : Bool) (w : World) (h : Sl w A n c xs) (hm : c ≤ 1048576)
    (k : Sl w B m d ts) (_hd : d ≤ 1048576) (_ht : (Lit.int .i64 t).wf = true) :
    Calls Try.prog 5 #[.slice A n c, .slice B m d, .int .i64 t, .bool zero] w fun e w' => e = .returned (.bool true) ∧ Below w.heap.size w w' := by
  by_cases hg : 300 < m
  · have hg' : 300 < (m : Int) := by omega
    go_enter Try.func5, Try.ntmps5
    go_wp2_with (go_at_call 8; (with_reducible refine (awake_any _).mono ?_); rintro e w1 ⟨rfl, hx1⟩)
    go_ret
    exact ⟨rfl, (by repeat (first | exact Ext.refl _ | assumption | (refine Ext.trans ?_ (by assumption))))⟩
  have g1 : ¬ 300 < (m : Int) := by omega
  have hm300 : m ≤ 300 := by omega
  have hn : n ≤ 1048576 := by have := h.cap; omega
  have hxl := hid h.len
  clear hg
  have hfeed : ∀ (M : Nat) (M0 : Nat) (w3 : World) (g n1 c1 : Nat) (A1 B3 : Option Addr) (m3 d3 : Nat) (L : List (List UInt8)), Cut w3 g M0 A1 n1 c1 [] false → M0 ≤ 16384 → M = (if M0 = 0 then 16384 else M0) → Sls w3 B3 m3 d3 L → (∀ a, B3 = some a → a.block ≠ g) → L.flatten = xs →
      Calls Try.prog 13 #[.pointer (some ⟨g, 0, none⟩), .slice B3 m3 d3] w3 (FeedAll w3 g (streamP M xs)) := by
    intro M M0 w3 g n1 c1 A1 B3 m3 d3 L hC h0 hM hs hb hL
    subst hL
    exact feedall_any hC h0 hM hs hb (by have := hxl.out; omega)
  have Hfeed := hid hfeed
  clear hfeed
  have hml := mostP_le t
  cases zero
  · generalize hp : streamP (mostP t) xs = p
    have Hp := hid hp
    clear hp
    obtain ⟨PL, PR, PE⟩ := p
    obtain ⟨b, hb1, hb2⟩ : ∃ b, (PE != 0) = b ∧ ((PE : Int) != 0) = b := by
      by_cases h0 : PE = 0
      · exact ⟨false, by subst h0; rfl, by subst h0; rfl⟩
      · exact ⟨true, by rw [bne_iff_ne]; omega, by rw [bne_iff_ne]; omega⟩
    go_enter Try.func5, Try.ntmps5
    go_wp2_with (first
      | (go_at_call 8; (with_reducible refine (awake_any _).mono ?_); rintro e w1 ⟨rfl, hx1⟩)
      | (go_at_call 10; (with_reducible refine (new_any _ _).mono ?_); rintro e w2 ⟨rfl, hC, hx2⟩; have HC := hid hC; clear hC)
      | (go_at_call 14; (with_reducible refine (cut_any _ _ _ _ _ _ _ _ _ (h.ext (hx1.trans hx2)) (k.ext (hx1.trans hx2)) hm300).mono ?_); rintro e w3 ⟨B3, m3, d3, L, rfl, hs3, hL, hb3, hx3⟩; have HS3 := hid hs3; have HL := hid hL; have HB3 := hid hb3; clear hs3 hL hb3))
    have C3 := HC.out.ext hx3
    have hF := Hfeed.out (mostP t) (mostP t) _ _ _ _ _ _ _ _ _ C3 hml.2 (by rw [if_neg (by omega)]) HS3.out (fun a ha => by have h1 := HB3.out a ha; have h2 := HC.out.lt; omega) HL.out
    rw [Hp.out] at hF
    have HF := hid hF
    clear hF
    refine HF.out.mono ?_
    rintro e w4 ⟨B4, d4, A4, n4, c4, M4, rfl, hs4, hC4, hg4⟩
    have hx4 := ext_grown (hx1.trans (hx2.trans hx3)) hg4 (ext_size hx1)
    simp only [hb1] at hC4
    have HC4 := hid hC4
    have HS4 := hid hs4
    have hSt := rstream_any (h.ext hx4) hn (mostP t) hml.2
    rw [Hp.out] at hSt
    have HSt := hid hSt
    have hLL : (PL == PL) = true := beq_self_eq_true PL
    clear hC4 hs4 hSt hg4
    simp only []
    go_wp2_with (first
      | (go_at_call 16; (with_reducible refine (most_any _ _).mono ?_); rintro e w5 ⟨rfl, rfl⟩; skip)
      | (go_at_call 15; (with_reducible refine HSt.out.mono ?_); rintro e w6 ⟨B6, d6, rfl, hs6, hx6⟩; have HS6 := hid hs6; clear hs6)
      | (go_at_call 17; (with_reducible refine (same_any (HS4.out.ext hx6) HS6.out).mono ?_); rintro e w7 ⟨rfl, hx7⟩)
      | (go_at_call 12; (with_reducible refine (waiting_any (HC4.out.ext (hx6.trans hx7))).mono ?_); rintro e w8 ⟨rfl, rfl⟩)
      | (go_at_call 18; (with_reducible refine (over_any (HC4.out.ext (hx6.trans hx7))).mono ?_); rintro e w9 ⟨rfl, rfl⟩))
    go_ret
    exact ⟨rfl, hx4.trans (hx6.trans hx7)⟩
  · generalize hp : streamP 16384 xs = p
    have Hp := hid hp
    clear hp
    have hM : mostP 16384 = 16384 := by decide
    have HM := hid hM
    clear hM
    obtain ⟨PL, PR, PE⟩ := p
    obtain ⟨b, hb1, hb2⟩ : ∃ b, (PE != 0) = b ∧ ((PE : Int) != 0) = b := by
      by_cases h0 : PE = 0
      · exact ⟨false, by subst h0; rfl, by subst h0; rfl⟩
      · exact ⟨true, by rw [bne_iff_ne]; omega, by rw [bne_iff_ne]; omega⟩
    go_enter Try.func5, Try.ntmps5
    go_wp2_with (first
      | (go_at_call 8; (with_reducible refine (awake_any _).mono ?_); rintro e w1 ⟨rfl, hx1⟩)
      | (go_at_call 10; (with_reducible refine (new_any _ _).mono ?_); rintro e w2 ⟨rfl, hC, hx2⟩; clear hC)
      | (go_at_call 14; (with_reducible refine (cut_any _ _ _ _ _ _ _ _ _ (h.ext (hx1.trans (hx2.trans (Ext.alloc _ _)))) (k.ext (hx1.trans (hx2.trans (Ext.alloc _ _)))) hm300).mono ?_); rintro e w3 ⟨B3, m3, d3, L, rfl, hs3, hL, hb3, hx3⟩; have HS3 := hid hs3; have HL := hid hL; have HB3 := hid hb3; clear hs3 hL hb3))
    have C2 : Cut (w2.alloc (.cells #[.int .i64 ((0 : Nat) : Int), .slice none 0 0, .bool false] 36)) w2.heap.size 0 none 0 0 [] false := ⟨heap_alloc_new _ _, Sl.nil _⟩
    have C3 := C2.ext hx3
    have hF := Hfeed.out 16384 0 _ _ _ _ _ _ _ _ _ C3 (by omega) (by rw [if_pos rfl]) HS3.out (fun a ha => by have h1 := HB3.out a ha; simp at h1; omega) HL.out
    rw [Hp.out] at hF
    have HF := hid hF
    clear hF C2 C3
    refine HF.out.mono ?_
    rintro e w4 ⟨B4, d4, A4, n4, c4, M4, rfl, hs4, hC4, hg4⟩
    have hx4 := ext_grown (hx1.trans (hx2.trans ((Ext.alloc _ _).trans hx3))) hg4 (ext_size (hx1.trans hx2))
    simp only [hb1] at hC4
    have HC4 := hid hC4
    have HS4 := hid hs4
    have hSt : Calls Try.prog 15 #[.slice A n c, .int .i64 16384] w4 (StreamR w4 (streamP 16384 xs)) := rstream_any (h.ext hx4) hn 16384 (Nat.le_refl _)
    rw [Hp.out] at hSt
    have HSt := hid hSt
    have hLL : (PL == PL) = true := beq_self_eq_true PL
    clear hC4 hs4 hSt hg4
    simp only []
    go_wp2_with (first
      | (go_at_call 16; (with_reducible refine (most_any _ _).mono ?_); rintro e w5 ⟨rfl, rfl⟩; rw [HM.out])
      | (go_at_call 15; (with_reducible refine HSt.out.mono ?_); rintro e w6 ⟨B6, d6, rfl, hs6, hx6⟩; have HS6 := hid hs6; clear hs6)
      | (go_at_call 17; (with_reducible refine (same_any (HS4.out.ext hx6) HS6.out).mono ?_); rintro e w7 ⟨rfl, hx7⟩)
      | (go_at_call 12; (with_reducible refine (waiting_any (HC4.out.ext (hx6.trans hx7))).mono ?_); rintro e w8 ⟨rfl, rfl⟩)
      | (go_at_call 18; (with_reducible refine (over_any (HC4.out.ext (hx6.trans hx7))).mono ?_); rintro e w9 ⟨rfl, rfl⟩))
    go_ret
    exact ⟨rfl, hx4.trans (hx6.trans hx7)⟩
end Go.Proofs.Ytohbbbolfdidcaa
