/- The cutter's Feed where it is over, or nil; awake. -/
import Derived.Test.YtohbbbolfdidcaaFrF
namespace Go.Proofs.Ytohbbbolfdidcaa
open Go.RowKit
set_option maxRecDepth 100000

theorem feed_over {g M n c : Nat} {A : Option Addr} {ws : List UInt8} {w : World} (h : Cut w g M A n c ws true) (x : Value) :
    Calls Try.prog 11 #[.pointer (some ⟨g, 0, none⟩), x] w fun e w' => e = .returned (.tuple #[.slice none 0 0, .int .i64 6]) ∧ w = w' := by
  have d2 := h.cell2
  go_enter Try.func11, Try.ntmps11
  go_wp2
  refine wp_scope_labels (fun _ _ _ => False) (fun _ _ _ => 0) (fun l a w h => False.elim h) ?_
  go_wp2
  simp only [jumps]
  go_ret2
  exact ⟨rfl, rfl⟩
theorem feed_nil (x : Value) (w : World) :
    Calls Try.prog 11 #[.pointer none, x] w fun e w' => e = .returned (.tuple #[.slice none 0 0, .int .i64 1]) ∧ w = w' := by
  go_enter Try.func11, Try.ntmps11
  go_wp2
  refine wp_scope_labels (fun _ _ _ => False) (fun _ _ _ => 0) (fun l a w h => False.elim h) ?_
  go_wp2
  simp only [jumps]
  go_ret2
  exact ⟨rfl, rfl⟩

/-- What Feed leaves, as a reader sees it. -/
theorem FI.list {w wr : World} {g M n c q : Nat} {A : Option Addr} {ys : List UInt8} {ov : Bool} {v4 : Value} {vs : List Value} {L : List (List UInt8)} (h : FI w wr g M A n c ys ov v4 q vs L) :
    ∃ B d, v4 = .slice B L.length d ∧ Sls wr B L.length d L := by
  obtain ⟨B, d, rfl, hs⟩ := h.read.sls h.own
  have := hs.len
  subst this
  exact ⟨B, d, rfl, hs⟩
/-- A cutter of the call's own: for what was there before it, Feed only adds. -/
theorem ext_grown {w0 w w' : World} {g : Nat} (h : Ext w0 w) (k : w.grownBy w' (some g)) (hg : w0.heap.size ≤ g) : Ext w0 w' :=
  Below.grown h k h.size (fun j hj => by injection hj with hj; omega)

theorem awake_any (w : World) : Calls Try.prog 8 #[] w fun e w' => e = .returned (.bool true) ∧ Ext w w' := by
  have hS : streamP 100 ([] ++ [48, 1, 7, 48]) = ([[48, 1, 7]], [48], 0) := by decide
  have hm : mostP 100 = 100 := by decide
  have HS := hid hS
  clear hS
  go_enter Try.func8, Try.ntmps8
  go_wp2_with (go_at_call 10; (with_reducible refine (new_any _ _).mono ?_); rintro e w1 ⟨rfl, hC, hx1⟩; rw [hm] at hC; have HC := hid hC; clear hC)
  have s4 : Sl (w1.alloc (.cells #[.int .u8 48, .int .u8 1, .int .u8 7, .int .u8 48] 5)) (some ⟨w1.heap.size, 0, none⟩) 4 4 [48, 1, 7, 48] := Sl.of_own (own_new w1 [48, 1, 7, 48] 4 rfl (by simp [maxLen]) 0 (Nat.zero_le _))
  have hF := feed_any (HC.out.ext (Ext.alloc _ _)) (by omega) (M' := 100) rfl s4 (by simp)
  rw [HS.out] at hF
  refine hF.mono ?_
  rintro e w2 ⟨v4, q, vs, A, n, c, rfl, hI⟩
  obtain ⟨B, d, rfl, hs⟩ := hI.list
  obtain ⟨b, off, rfl, hc⟩ := hs.at_ (by simp)
  obtain ⟨Aj, nj, cj, h1, h2⟩ := hc 0 (by simp)
  have hcv := h2.conv _ (Ext.refl _)
  have hx2 := ext_grown (hx1.trans (Ext.alloc _ _)) hI.gr (Nat.le_refl _)
  rw [Nat.add_zero] at h1
  simp only [List.getElem?_cons_zero, Option.getD_some] at hcv
  clear hc
  simp only []
  go_wp2
  go_ret
  exact ⟨rfl, hx2⟩
end Go.Proofs.Ytohbbbolfdidcaa
