/- BerBools: the walk of the law. -/
import Derived.Test.YtfkbhbalkhhdhaaMem
namespace Go.Proofs.Ytfkbhbalkhhdhaa
open Go.RowKit

def boolB (b : Bool) : List UInt8 := [if b then 255 else 0]
theorem bool_any (b : Bool) (w : World) :
    Calls Try.prog 13 #[.bool b] w fun e w' => ∃ A n c, e = .returned (.slice A n c) ∧ Sl w' A n c (boolB b) ∧ Ext w w' := by
  cases b
  · go_enter Try.func13, Try.ntmps13
    go_wp2
    go_ret
    exact ⟨_, _, _, rfl, sl_one w 0 (by omega), Ext.alloc _ _⟩
  · go_enter Try.func13, Try.ntmps13
    go_wp2
    go_ret
    exact ⟨_, _, _, rfl, sl_one w 255 (by omega), Ext.alloc _ _⟩
theorem rbool_any (b : Bool) (w : World) :
    Calls Try.prog 16 #[.bool b] w fun e w' => ∃ A n c, e = .returned (.slice A n c) ∧ Sl w' A n c (boolB b) ∧ Ext w w' := by
  cases b
  · go_enter Try.func16, Try.ntmps16
    go_wp2
    go_ret
    exact ⟨_, _, _, rfl, sl_one w 0 (by omega), Ext.alloc _ _⟩
  · go_enter Try.func16, Try.ntmps16
    go_wp2
    go_ret
    exact ⟨_, _, _, rfl, sl_one w 255 (by omega), Ext.alloc _ _⟩

/-- A boolean's content, read: the value, the error's number. -/
def toBoolP (xs : List UInt8) : Bool × Int := match xs with | [x] => (x != 0, 0) | _ => (false, 2)
theorem toBoolP_other {xs : List UInt8} (h : xs.length ≠ 1) : toBoolP xs = (false, 2) := by
  unfold toBoolP
  split
  · simp at h
  · rfl
theorem toBoolP_one {xs : List UInt8} (h : xs.length = 1) : toBoolP xs = (((xs[0]?.getD 0).toNat : Int) != 0, 0) := by
  match xs, h with
  | [x], _ =>
    simp only [toBoolP, List.getElem?_cons_zero, Option.getD_some, Prod.mk.injEq, and_true]
    rw [Bool.eq_iff_iff, bne_iff_ne, bne_iff_ne]
    refine not_congr ⟨?_, ?_⟩
    · rintro rfl; rfl
    · intro h
      have : x.toNat = 0 := by omega
      exact UInt8.toNat_inj.1 (by simpa using this)
theorem toBool_any (A : Option Addr) (n c : Nat) (xs : List UInt8) (w : World) (h : Sl w A n c xs) :
    Calls Try.prog 14 #[.slice A n c] w fun e w' => e = .returned (.tuple #[.bool (toBoolP xs).1, .int .i64 (toBoolP xs).2]) ∧ w = w' := by
  have hl := hid h.len
  by_cases hn : n = 1
  · have hP := hid (toBoolP_one (xs := xs) (by have := hl.out; omega))
    obtain ⟨b, off, rfl, hc⟩ := h.at_ (by omega)
    have hc0 := hc 0 (by omega)
    simp only [Nat.add_zero] at hc0
    clear hc
    subst hn
    go_enter Try.func14, Try.ntmps14
    go_wp2
    go_ret2
    rw [hP.out]
    exact ⟨rfl, rfl⟩
  · have hP := hid (toBoolP_other (xs := xs) (by have := hl.out; omega))
    have hn' : ((n : Int) != 1) = true := by rw [bne_iff_ne]; omega
    clear hn
    go_enter Try.func14, Try.ntmps14
    go_wp2
    go_ret2
    rw [hP.out]
    exact ⟨rfl, rfl⟩
theorem rtoBool_any (A : Option Addr) (n c : Nat) (xs : List UInt8) (w : World) (h : Sl w A n c xs) :
    Calls Try.prog 15 #[.slice A n c] w fun e w' => e = .returned (.tuple #[.bool (toBoolP xs).1, .int .i64 (toBoolP xs).2]) ∧ w = w' := by
  have hl := hid h.len
  by_cases hn : n = 1
  · have hP := hid (toBoolP_one (xs := xs) (by have := hl.out; omega))
    obtain ⟨b, off, rfl, hc⟩ := h.at_ (by omega)
    have hc0 := hc 0 (by omega)
    simp only [Nat.add_zero] at hc0
    clear hc
    subst hn
    go_enter Try.func15, Try.ntmps15
    go_wp2
    go_ret2
    rw [hP.out]
    exact ⟨rfl, rfl⟩
  · have hP := hid (toBoolP_other (xs := xs) (by have := hl.out; omega))
    have hn' : ((n : Int) != 1) = true := by rw [bne_iff_ne]; omega
    clear hn
    go_enter Try.func15, Try.ntmps15
    go_wp2
    go_ret2
    rw [hP.out]
    exact ⟨rfl, rfl⟩

theorem berBools_walk (b : Bool) (A : Option Addr) (n c : Nat) (xs : List UInt8) (w : World) (h : Sl w A n c xs) (_hm : c ≤ 140737488351232) :
    Calls Try.prog 3 #[.bool b, .slice A n c] w fun e w' => e = .returned (.bool true) ∧ Below w.heap.size w w' := by
  have hPb : toBoolP (boolB b) = (b, 0) := by cases b <;> rfl
  go_enter Try.func3, Try.ntmps3
  go_wp2_with (go_at_call 13; (with_reducible refine (bool_any _ _).mono ?_); rintro e w1 ⟨A1, n1, c1, rfl, h1, hx1⟩)
  go_wp2_with fail
  refine (toBool_any _ _ _ _ _ h1).mono ?_
  rintro e w' ⟨rfl, rfl⟩
  go_wp2_with fail
  refine (toBool_any _ _ _ _ _ (h.ext hx1)).mono ?_
  rintro e w' ⟨rfl, rfl⟩
  go_wp2_with fail
  refine (rtoBool_any _ _ _ _ _ (h.ext hx1)).mono ?_
  rintro e w' ⟨rfl, rfl⟩
  generalize toBoolP xs = p
  obtain ⟨p1, p2⟩ := p
  go_wp2_with fail
  refine wp_region_plan (.read 0 (.read 1 (.read 2 (.main 3 (.read 4 (.read 5 (.read 6 (.read 7 (.read 8 (.read 9 (.read 10 (.read 11 (.read 12 (.read 13 (.read 14 (.read 15 (.read 16 (.read 17 (.read 18 (.read 19 (.read 20 (.read 21 (.read 22 (.read 23 (.read 24 (.read 25 .done)))))))))))))))))))))))))) (by kernel_rfl) (by kernel_rfl) ?_
  intro wD hxD
  have hc1 := (h1.ext hxD).conv
  repeat' (first
    | (refine walks_move rfl rfl ?_; simp only [Act.put, Act.eval, List.setIfInBounds_toArray, List.set_cons_zero, List.set_cons_succ, Array.getD_eq_getD_getElem?, List.getElem?_toArray, List.getElem?_cons_zero, List.getElem?_cons_succ, Option.getD_some])
    | (refine walks_assign rfl rfl ?_; simp only [Act.put, Act.eval, List.setIfInBounds_toArray, List.set_cons_zero, List.set_cons_succ, Array.getD_eq_getD_getElem?, List.getElem?_toArray, List.getElem?_cons_zero, List.getElem?_cons_succ, Option.getD_some])
    | (refine walks_skip rfl rfl ?_; simp only [Act.put, List.setIfInBounds_toArray, List.set_cons_zero, List.set_cons_succ])
    | (refine walks_unwanted rfl rfl ?_; simp only [Act.put, List.setIfInBounds_toArray, List.set_cons_zero, List.set_cons_succ])
    | (refine walks_read (v := ?_) rfl rfl (fun w' hE => ?_) ?_; rotate_left 1; (· (go_simp; (try go_bits); with_reducible rfl)); simp only [Act.put, List.setIfInBounds_toArray, List.set_cons_zero, List.set_cons_succ])
    | (refine walks_alt ?_ ?_)
    | (refine walks_main rfl rfl (fun K hK => ?_); go_wp2_with ((go_at_call 16; (with_reducible refine (rbool_any _ _).mono ?_); rintro e w2 ⟨A2, n2, c2, rfl, h2, hx2⟩; have hc2 := h2.conv)); refine hK _ _ (by first | assumption | exact Ext.alloc _ _ | exact Ext.refl _) ?_; clear hK K; try simp only [Act.put, List.setIfInBounds_toArray, List.set_cons_zero, List.set_cons_succ]))
  refine walks_done ?_
  go_wp2
  go_ret
  exact ⟨rfl, hx1.trans (hxD.trans hx2)⟩
end Go.Proofs.Ytfkbhbalkhhdhaa
