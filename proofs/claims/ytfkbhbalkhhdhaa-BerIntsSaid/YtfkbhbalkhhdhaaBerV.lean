/- The walk of ber.ToInt. -/
import Derived.Test.YtfkbhbalkhhdhaaBerK
import Derived.Test.YtfkbhbalkhhdhaaBerNQ
namespace Go.Proofs.Ytfkbhbalkhhdhaa
open Go.RowKit
set_option maxRecDepth 100000

def intV (p : Int × Int) : Ending := .returned (.tuple #[.int .i64 p.1, .int .i64 p.2])
theorem intV_def (a b : Int) : intV (a, b) = .returned (.tuple #[.int .i64 a, .int .i64 b]) := rfl
set_option maxHeartbeats 1000000 in
theorem toInt_any {A : Option Addr} {n c : Nat} {xs : List UInt8} {w : World} (h : Sl w A n c xs) :
    Calls Try.prog 25 #[.slice A n c] w fun e w' => e = intV (toIntP xs) ∧ Ext w w' := by
  have hl := hid h.len
  have hcap : n ≤ 9223372036854775807 := by have := h.cap; have := h.most; simp only [maxLen] at this; omega
  by_cases hb : n = 0 ∨ 8 < n
  · have HP := hid (toIntP_bad (xs := xs) (by rw [← hl.out]; exact hb))
    rcases hb with rfl | hb
    · go_enter Try.func25, Try.ntmps25
      go_wp2
      go_ret2
      rw [HP.out]
      exact ⟨rfl, Ext.refl w⟩
    · go_enter Try.func25, Try.ntmps25
      go_wp2
      go_ret2
      rw [HP.out]
      exact ⟨rfl, Ext.refl w⟩
  · have hp : 0 < n := by omega
    have h8 : n ≤ 8 := by omega
    have Hr := hid (sv_range xs (by rw [← hl.out]; exact hp) (by rw [← hl.out]; exact h8))
    have Hsm := fun j (hj : j < n) => acc_small xs j (by rw [← hl.out]; exact hj) (by rw [← hl.out]; exact h8)
    have Hsu := fun j (hj : j < n) => acc_succ xs j (by rw [← hl.out]; exact hj)
    have Hall := hid (acc_all xs n (by rw [← hl.out]; exact Nat.le_refl _))
    obtain ⟨b, off, rfl, hc⟩ := h.at_ hp
    have c0 := hc 0 hp
    rw [Nat.add_zero] at c0
    have hsg := hid (rfl : sg xs = if 128 ≤ ((xs[0]?.getD 0).toNat : Int) then -1 else 0)
    have hlt := (xs[0]?.getD 0).toNat_lt
    have arms : (128 ≤ ((xs[0]?.getD 0).toNat : Int) ∧ Hid (acc xs 0 = -1)) ∨ (¬ 128 ≤ ((xs[0]?.getD 0).toNat : Int) ∧ Hid (acc xs 0 = 0)) := by
      rcases Decidable.em (128 ≤ ((xs[0]?.getD 0).toNat : Int)) with h | h
      · exact .inl ⟨h, by show acc xs 0 = -1; rw [acc_zero, hsg.out, if_pos h]⟩
      · exact .inr ⟨h, by show acc xs 0 = 0; rw [acc_zero, hsg.out, if_neg h]⟩
    have hz : ((n : Int) == 0) = false := by rw [beq_eq_false_iff_ne]; omega
    have hz8 : ¬ 8 < (n : Int) := by omega
    have Hc := hid hc
    have Hb := hid hb
    clear hc hb hsg
    generalize (xs[0]?.getD 0).toNat = B0 at *
    rcases arms with ⟨t0, hs⟩ | ⟨t0, hs⟩
    all_goals
      go_enter Try.func25, Try.ntmps25
      go_wp2
      go_loop [4, 21] (fun m i => ∃ j : Nat, j ≤ n ∧ i = .int .i64 j ∧ m = .int .i64 (acc xs j)) (fun _ i => n - (intOf i).toNat)
      case atStart => exact ⟨0, by omega, rfl, by rw [hs.out]⟩
      case round =>
        obtain ⟨j, hj, rfl, rfl⟩ := hrel
        by_cases hlt : j < n
        · have cj := Hc.out j hlt
          have hsm := Hsm j hlt
          have Hsu' := hid (Hsu j hlt)
          have hBl := (xs[j]?.getD 0).toNat_lt
          generalize (xs[j]?.getD 0).toNat = B at *
          generalize acc xs j = m at *
          have hor := i64_sjoin m B hsm.1 hsm.2 (by omega)
          go_wp2
          go_round
          case rel => exact ⟨j + 1, by omega, by go_num, by rw [Hsu'.out]⟩
          case measure => simp [intOf]; omega
        · obtain rfl : j = n := by omega
          rw [Hall.out]
          have hr := Hr.out
          by_cases he : intB (sv xs) = xs
          · have HP := hid (toIntP_ok (by rw [← hl.out]; exact hp) (by rw [← hl.out]; exact h8) he)
            have He : (intB (sv xs) == xs) = true := by rw [beq_iff_eq]; exact he
            have He' := hid he
            clear he
            go_wp2_with (first | (go_at_call 24; (with_reducible refine (int_any _ _ hr.1 hr.2).mono ?_); rintro e w1 ⟨A1, n1, c1, rfl, h1, hx1⟩) | (go_at_call 34; (with_reducible refine (equal_any _ _ _ _ _ _ _ _ _ h1 (h.ext hx1)).mono ?_); rintro e w2 ⟨rfl, hx2⟩))
            go_ret2
            rw [HP.out]
            exact ⟨rfl, hx1.trans hx2⟩
          · have HP := hid (toIntP_off he)
            have He : (intB (sv xs) == xs) = false := by rw [beq_eq_false_iff_ne]; exact he
            have He' := hid he
            clear he
            go_wp2_with (first | (go_at_call 24; (with_reducible refine (int_any _ _ hr.1 hr.2).mono ?_); rintro e w1 ⟨A1, n1, c1, rfl, h1, hx1⟩) | (go_at_call 34; (with_reducible refine (equal_any _ _ _ _ _ _ _ _ _ h1 (h.ext hx1)).mono ?_); rintro e w2 ⟨rfl, hx2⟩))
            go_ret2
            rw [HP.out]
            exact ⟨rfl, hx1.trans hx2⟩
end Go.Proofs.Ytfkbhbalkhhdhaa
