/- The walk of ber.Head: it only reads. -/
import Derived.Test.YtohbbbolfdidcaaMem
import Derived.Test.YtohbbbolfdidcaaBerHP
import Derived.BigQuiet
import Derived.Deep.QuietTactic
namespace Go.Proofs.Ytohbbbolfdidcaa
open Go.RowKit
set_option maxRecDepth 100000

/-- How Head's answer stands. -/
def headV (p : Nat × Nat × Nat) : Ending := .returned (.tuple #[.int .i64 (p.1 : Int), .int .i64 (p.2.1 : Int), .int .i64 (p.2.2 : Int)])

section
variable {A : Option Addr} {n c : Nat} {xs : List UInt8} {w : World}
theorem head_empty : Calls Try.prog 21 #[.slice A 0 c] w fun e w' => e = headV (0, 0, 5) ∧ Ext w w' := by
  go_enter Try.func21, Try.ntmps21
  go_wp2
  go_ret3
  exact ⟨rfl, Ext.refl w⟩
theorem head_tag (b off : Nat) (x0 : Nat) (hp : 0 < n) (hb : x0 < 256) (c0 : w.cell? ⟨b, off, none⟩ = some (.int .u8 (x0 : Int))) (ht : x0 % 32 = 31) :
    Calls Try.prog 21 #[.slice (some ⟨b, off, none⟩) n c] w fun e w' => e = headV (0, 0, 2) ∧ Ext w w' := by
  have t0 : ((x0 : Int) % 32 == 31) = true := by rw [beq_iff_eq]; omega
  clear ht
  go_enter Try.func21, Try.ntmps21
  go_wp2
  go_ret3
  exact ⟨rfl, Ext.refl w⟩
theorem head_one (b off : Nat) (x0 : Nat) (hb : x0 < 256) (c0 : w.cell? ⟨b, off, none⟩ = some (.int .u8 (x0 : Int))) (ht : ¬ x0 % 32 = 31) :
    Calls Try.prog 21 #[.slice (some ⟨b, off, none⟩) 1 c] w fun e w' => e = headV (0, 0, 5) ∧ Ext w w' := by
  have t0 : ((x0 : Int) % 32 == 31) = false := by rw [beq_eq_false_iff_ne]; omega
  clear ht
  go_enter Try.func21, Try.ntmps21
  go_wp2
  go_ret3
  exact ⟨rfl, Ext.refl w⟩
theorem head_short (b off : Nat) (x0 x1 : Nat) (hp : 1 < n) (hb : x0 < 256) (hb1 : x1 < 256) (c0 : w.cell? ⟨b, off, none⟩ = some (.int .u8 (x0 : Int))) (c1 : w.cell? ⟨b, off + 1, none⟩ = some (.int .u8 (x1 : Int))) (ht : ¬ x0 % 32 = 31) (hs : x1 < 128) :
    Calls Try.prog 21 #[.slice (some ⟨b, off, none⟩) n c] w fun e w' => e = headV (2, x1, 0) ∧ Ext w w' := by
  have t0 : ((x0 : Int) % 32 == 31) = false := by rw [beq_eq_false_iff_ne]; omega
  have t1 : ¬ (n : Int) < 2 := by omega
  clear ht
  go_enter Try.func21, Try.ntmps21
  go_wp2
  go_quiet (fail)
  go_wp2
  go_ret3
  exact ⟨rfl, below_drewN (Ext.refl w) _⟩
theorem head_form (b off : Nat) (x0 x1 : Nat) (hp : 1 < n) (hb : x0 < 256) (hb1 : x1 < 256) (c0 : w.cell? ⟨b, off, none⟩ = some (.int .u8 (x0 : Int))) (c1 : w.cell? ⟨b, off + 1, none⟩ = some (.int .u8 (x1 : Int))) (ht : ¬ x0 % 32 = 31) (hs : ¬ x1 < 128) (hk : x1 = 128 ∨ 132 < x1) :
    Calls Try.prog 21 #[.slice (some ⟨b, off, none⟩) n c] w fun e w' => e = headV (0, 0, 2) ∧ Ext w w' := by
  have t0 : ((x0 : Int) % 32 == 31) = false := by rw [beq_eq_false_iff_ne]; omega
  have t1 : ¬ (n : Int) < 2 := by omega
  have t2 := u8_and127 (x1 : Int) (by omega) (by omega)
  clear ht
  rcases hk with hk | hk
  · have t3 : ((x1 : Int) % 128 == 0) = true := by rw [beq_iff_eq]; omega
    have t6 : ¬ (x1 : Int) < 128 := by omega
    clear hk
    go_enter Try.func21, Try.ntmps21
    go_wp2
    go_ret3
    exact ⟨rfl, Ext.refl w⟩
  · have t3 : ((x1 : Int) % 128 == 0) = false := by rw [beq_eq_false_iff_ne]; omega
    have t4 : ((4 : Int) < (x1 : Int) % 128) := by omega
    go_enter Try.func21, Try.ntmps21
    go_wp2
    go_ret3
    exact ⟨rfl, Ext.refl w⟩
theorem head_lacks (b off : Nat) (x0 x1 : Nat) (hp : 1 < n) (hb : x0 < 256) (hb1 : x1 ≤ 132) (c0 : w.cell? ⟨b, off, none⟩ = some (.int .u8 (x0 : Int))) (c1 : w.cell? ⟨b, off + 1, none⟩ = some (.int .u8 (x1 : Int))) (ht : ¬ x0 % 32 = 31) (hs : 128 < x1) (hl : n < x1 - 126) :
    Calls Try.prog 21 #[.slice (some ⟨b, off, none⟩) n c] w fun e w' => e = headV (0, 0, 5) ∧ Ext w w' := by
  have t0 : ((x0 : Int) % 32 == 31) = false := by rw [beq_eq_false_iff_ne]; omega
  have t1 : ¬ (n : Int) < 2 := by omega
  have t2 := u8_and127 (x1 : Int) (by omega) (by omega)
  have t3 : ((x1 : Int) % 128 == 0) = false := by rw [beq_eq_false_iff_ne]; omega
  have t4 : ¬ ((4 : Int) < (x1 : Int) % 128) := by omega
  have t5 : (n : Int) < 2 + (x1 : Int) % 128 := by omega
  have t6 : ¬ (x1 : Int) < 128 := by omega
  clear ht
  go_enter Try.func21, Try.ntmps21
  go_wp2
  go_ret3
  exact ⟨rfl, Ext.refl w⟩
theorem num_take_succ (xs : List UInt8) (j k : Nat) (hj : j < k) (hx : 2 + k ≤ xs.length) : num ((xs.drop 2).take (j + 1)) = num ((xs.drop 2).take j) * 256 + (xs[2 + j]?.getD 0).toNat := by
  rw [List.take_succ_eq_append_getElem (by simp; omega), num_snoc]
  congr 2
  rw [List.getElem_drop, List.getElem?_eq_getElem (by omega)]
  rfl
theorem num_small (xs : List UInt8) (j : Nat) (hj : j < 4) : num ((xs.drop 2).take j) < 16777216 := by
  have h1 := num_lt ((xs.drop 2).take j)
  have h2 : 256 ^ ((xs.drop 2).take j).length ≤ 256 ^ 3 := Nat.pow_le_pow_right (by decide) (by rw [List.length_take]; omega)
  omega
set_option maxHeartbeats 1000000 in
theorem head_long (h : Sl w A n c xs) (b off : Nat) (x0 x1 : Nat) (hA : A = some ⟨b, off, none⟩) (hp : 1 < n) (hb : x0 < 256) (hb1 : x1 ≤ 132) (c0 : w.cell? ⟨b, off, none⟩ = some (.int .u8 (x0 : Int))) (c1 : w.cell? ⟨b, off + 1, none⟩ = some (.int .u8 (x1 : Int))) (ht : ¬ x0 % 32 = 31) (hs : 128 < x1) (hl : ¬ n < x1 - 126) :
    Calls Try.prog 21 #[.slice (some ⟨b, off, none⟩) n c] w fun e w' => e = headV (x1 - 126, num ((xs.drop 2).take (x1 - 128)), 0) ∧ Ext w w' := by
  obtain ⟨k, rfl⟩ : ∃ k, x1 = 128 + k := ⟨x1 - 128, by omega⟩
  have hnl : n ≤ 9223372036854775807 := by have := h.cap; have := h.most; simp only [maxLen] at this; omega
  have hcap := h.cap
  have t0 : ((x0 : Int) % 32 == 31) = false := by rw [beq_eq_false_iff_ne]; omega
  have t1 : ¬ (n : Int) < 2 := by omega
  have t2 : bits .and .u8 (((128 + k : Nat)) : Int) 127 = (k : Int) := by rw [u8_and127 _ (by omega) (by omega)]; omega
  have t3 : ((k : Int) == 0) = false := by rw [beq_eq_false_iff_ne]; omega
  have t4 : ¬ ((4 : Int) < (k : Int)) := by omega
  have t5 : ¬ (n : Int) < 2 + (k : Int) := by omega
  have t6 : ¬ (((128 + k : Nat)) : Int) < 128 := by omega
  have hk4 : k ≤ 4 := by omega
  have hk1 : 1 ≤ k := by omega
  generalize hX : (((128 + k : Nat)) : Int) = X at *
  have Hl := hid h.len
  have h' := hid (hA ▸ h)
  clear ht hX h hs hb1 hl
  go_enter Try.func21, Try.ntmps21
  go_wp2
  go_loop [3, 55] (fun v i => ∃ j : Nat, j ≤ k ∧ i = .int .i64 j ∧ v = .int .i64 (num ((xs.drop 2).take j) : Nat)) (fun _ i => k - (intOf i).toNat)
  case atStart => exact ⟨0, by omega, rfl, rfl⟩
  case round =>
    obtain ⟨j, hj, rfl, rfl⟩ := hrel
    by_cases hlt : j < k
    · have Hs := hid (num_take_succ xs j k hlt (by have := Hl.out; omega))
      have hsm := num_small xs j (by omega)
      obtain ⟨b', off', hA', hc⟩ := h'.out.at_ (by omega)
      injection hA' with hA'
      injection hA' with hb' ho' _
      subst hb' ho'
      have cj := hc (2 + j) (by omega)
      rw [← Nat.add_assoc] at cj
      clear hc
      generalize hN : num ((xs.drop 2).take j) = N at *
      generalize hB : (xs[2 + j]?.getD 0).toNat = B at *
      have hB' : B < 256 := by rw [← hB]; exact UInt8.toNat_lt _
      have hor := i64_join N B (by omega) hB'
      have HN := hid hN
      have HB := hid hB
      clear hN hB
      go_wp2
      go_round
      case rel => exact ⟨j + 1, by omega, by go_num, by rw [Hs.out]; go_num⟩
      case measure => simp [intOf]; omega
    · obtain rfl : j = k := by omega
      go_wp2
      go_ret3
      refine ⟨?_, Ext.refl w⟩
      have e1 : ((128 + j - 126 : Nat) : Int) = 2 + (j : Int) := by omega
      unfold headV
      try rw [show 128 + j - 128 = j by omega]
      simp only [e1]
      rfl
theorem head_any (h : Sl w A n c xs) : Calls Try.prog 21 #[.slice A n c] w fun e w' => e = headV (headP xs) ∧ Ext w w' := by
  have hl := h.len
  rcases Nat.eq_zero_or_pos n with h0 | h0
  · subst h0
    have : headP xs = (0, 0, 5) := by unfold headP; rw [if_neg (by omega), if_pos (by omega)]
    rw [this]
    exact head_empty
  · obtain ⟨b, off, rfl, hc⟩ := h.at_ h0
    have c0 := hc 0 h0
    rw [Nat.add_zero] at c0
    have b0 : (xs[0]?.getD 0).toNat < 256 := UInt8.toNat_lt _
    by_cases ht : (xs[0]?.getD 0).toNat % 32 = 31
    · have : headP xs = (0, 0, 2) := by unfold headP; rw [if_pos ⟨by omega, ht⟩]
      rw [this]
      exact head_tag b off _ h0 b0 c0 ht
    · by_cases h1 : n = 1
      · subst h1
        have : headP xs = (0, 0, 5) := by unfold headP; rw [if_neg (by omega), if_pos (by omega)]
        rw [this]
        exact head_one b off _ b0 c0 ht
      · have c1 := hc 1 (by omega)
        have b1 : (xs[1]?.getD 0).toNat < 256 := UInt8.toNat_lt _
        by_cases hs : (xs[1]?.getD 0).toNat < 128
        · have : headP xs = (2, (xs[1]?.getD 0).toNat, 0) := by unfold headP; rw [if_neg (by omega), if_neg (by omega), if_pos hs]
          rw [this]
          exact head_short b off _ _ (by omega) b0 b1 c0 c1 ht hs
        · by_cases hk : (xs[1]?.getD 0).toNat = 128 ∨ 132 < (xs[1]?.getD 0).toNat
          · have : headP xs = (0, 0, 2) := by unfold headP; rw [if_neg (by omega), if_neg (by omega), if_neg hs, if_pos hk]
            rw [this]
            exact head_form b off _ _ (by omega) b0 b1 c0 c1 ht hs hk
          · by_cases hL : n < (xs[1]?.getD 0).toNat - 126
            · have : headP xs = (0, 0, 5) := by unfold headP; rw [if_neg (by omega), if_neg (by omega), if_neg hs, if_neg hk, if_pos (by omega)]
              rw [this]
              exact head_lacks b off _ _ (by omega) b0 (by omega) c0 c1 ht (by omega) hL
            · have : headP xs = ((xs[1]?.getD 0).toNat - 126, num ((xs.drop 2).take ((xs[1]?.getD 0).toNat - 128)), 0) := by
                unfold headP; rw [if_neg (by omega), if_neg (by omega), if_neg hs, if_neg hk, if_neg (by omega)]
              rw [this]
              exact head_long h b off _ _ rfl (by omega) b0 (by omega) c0 c1 ht (by omega) hL
end
end Go.Proofs.Ytohbbbolfdidcaa
