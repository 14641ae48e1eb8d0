/- The walk of ber.Int. -/
import Derived.Test.YtabaeiolpbdjnaaBerJ
import Derived.Test.YtabaeiolpbdjnaaBerC
namespace Go.Proofs.Ytabaeiolpbdjnaa
open Go.RowKit
set_option maxRecDepth 100000

/-- What the eight bytes are once j of them are written. -/
def fl (n : Int) (j : Nat) : List UInt8 := (ibe n 8).take j ++ List.replicate (8 - j) 0
theorem fl_length (n : Int) (j : Nat) (h : j ≤ 8) : (fl n j).length = 8 := by simp [fl, ibe_length]; omega
theorem fl_step (n : Int) (j : Nat) (h : j < 8) (z : Int) (hz : z = n / 2 ^ (8 * (8 - 1 - j))) : (fl n j).set j (UInt8.ofNat (z % 256).toNat) = fl n (j + 1) := by
  have hl : ((ibe n 8).take j).length = j := by simp [ibe_length]; omega
  unfold fl
  rw [ibe_take_succ n 8 j z h hz, List.set_append, if_neg (by omega), hl, Nat.sub_self, show 8 - j = (8 - (j + 1)) + 1 by omega, List.replicate_succ, List.set_cons_zero, List.append_assoc]
  rfl
theorem fl_all (n : Int) : fl n 8 = ibe n 8 := by simp [fl, List.take_of_length_le, ibe_length]
theorem make8 : ∀ w : World, (Instr.makeSlice 33 (.int .i64 8) (.int .i64 8)).run Try.prog w = .ok (.slice (some ⟨w.heap.size, 0, none⟩) 8 8) (w.alloc (.cells #[.int .u8 0, .int .u8 0, .int .u8 0, .int .u8 0, .int .u8 0, .int .u8 0, .int .u8 0, .int .u8 0] 5)) := fun _ => by kernel_rfl
theorem ibe_cell (n : Int) (k : Nat) (hk : 1 ≤ k) : (((ibe n k)[0]?.getD 0).toNat : Int) = (n / 2 ^ (8 * (k - 1))) % 256 := by
  rw [ibe_get n k 0 hk, Option.getD_some, byte_nat, Nat.sub_zero]
theorem ibe_cell1 (n : Int) (k : Nat) (hk : 2 ≤ k) : (((ibe n k)[1]?.getD 0).toNat : Int) = (n / 2 ^ (8 * (k - 1 - 1))) % 256 := by
  rw [ibe_get n k 1 hk, Option.getD_some, byte_nat]

theorem ibe_at {w : World} {g : Nat} {n : Int} (h : Sl w (some ⟨g, 0, none⟩) 8 8 (ibe n 8)) {j : Nat} (hj : j < 8) :
    w.cell? ⟨g, j, none⟩ = some (.int .u8 ((n / 2 ^ (8 * (8 - 1 - j))) % 256)) := by
  obtain ⟨b, off, hA, hc⟩ := h.at_ (by omega)
  injection hA with hA
  injection hA with h1 h2
  subst h1 h2
  have := hc j hj
  rw [Nat.zero_add, ibe_get n 8 j hj, Option.getD_some, byte_nat] at this
  exact this
theorem ibe_tail {w : World} {g : Nat} {n : Int} (h : Sl w (some ⟨g, 0, none⟩) 8 8 (ibe n 8)) (k : Nat) (hk : k ≤ 8) (h1 : 1 ≤ k) :
    Sl w (some ⟨g, 8 - k, none⟩) k k (ibe n k) :=
  ⟨(ibe_length n k).symm, Nat.le_refl _, by simp only [maxLen]; omega, .inr ⟨g, 8 - k, rfl, fun j u hj => by
    have hjk : j < k := by
      have := (List.getElem?_eq_some_iff.1 hj).1
      simpa [ibe_length] using this
    rw [ibe_at h (by omega), show 8 - 1 - (8 - k + j) = k - 1 - j by omega]
    rw [List.getElem?_map, ibe_get n k j hjk, Option.map_some] at hj
    injection hj with hj
    rw [← hj, bv, byte_nat]⟩⟩

set_option maxHeartbeats 400000 in
theorem int_any (n : Int) (w : World) (h0 : -9223372036854775808 ≤ n) (h1 : n ≤ 9223372036854775807) :
    Calls Try.prog 44 #[.int .i64 n] w fun e w' => ∃ A m c, e = .returned (.slice A m c) ∧ Sl w' A m c (intB n) ∧ Ext w w' := by
  have h8 := hid (fits8 n h0 h1)
  have hmk := make8
  have ho0 := own_new w (fl n 0) 8 (fl_length n 0 (by omega)).symm (by simp [maxLen]) w.heap.size (Nat.le_refl _)
  go_enter Try.func44, Try.ntmps44
  go_wp2
  go_loopw [8] (fun i wr => ∃ j : Nat, j ≤ 8 ∧ i = .int .i64 j ∧ wr.ownsRow w.heap.size 5 1 (.slice (some ⟨w.heap.size, 0, none⟩) 8 8) 8 ((fl n j).map bv) ∧ Ext w wr) (fun i _ => 8 - (intOf i).toNat)
  case atStart => exact ⟨0, by omega, rfl, ho0, Ext.alloc _ _⟩
  case round =>
    obtain ⟨j, hj, rfl, ho, hx⟩ := hrel
    have Hx := hid hx
    clear hx
    by_cases hlt : j < 8
    · have c1 := ho.cellAt j hlt
      rw [List.getElem?_map, List.getElem?_eq_getElem (by rw [fl_length n j hj]; exact hlt)] at c1
      simp only [Option.map_some, bv] at c1
      have f1 := ho.frozenAt j
      have e1 : (56 - 8 * (j : Int)).toNat = 8 * (8 - 1 - j) := by omega
      go_wp2
      have s1 := ho.stored j (bv (UInt8.ofNat ((n / 2 ^ (8 * (8 - 1 - j))) % 256).toNat))
      refine ⟨⟨j + 1, by omega, by go_num, ?_, ?_⟩, by simp [intOf]; omega⟩
      · have := s1.1
        rw [← List.map_set, fl_step n j hlt _ rfl] at this
        rw [bv_of _ (by omega)]
        exact this
      · rw [bv_of _ (by omega)]
        exact Hx.out.setCell (Nat.le_refl _) _
    · obtain rfl : j = 8 := by omega
      rw [fl_all] at ho
      have hs := Sl.of_own ho
      go_wp2
      go_loop [3] (fun v => ∃ k : Nat, 1 ≤ k ∧ k ≤ 8 ∧ v = .slice (some ⟨w.heap.size, 8 - k, none⟩) k k ∧ fits n k) (fun v => match v with | .slice _ k _ => k | _ => 0)
      case atStart => exact ⟨8, by omega, by omega, rfl, h8.out⟩
      case round =>
        obtain ⟨k, hk1, hk8, rfl, hf⟩ := hrel
        have Hf := hid hf
        have Hs := hid hs
        clear hf
        by_cases hk : 2 ≤ k
        · have hc0 := ibe_at hs (j := 8 - k) (by omega)
          have hc1 := ibe_at hs (j := 8 - k + 1) (by omega)
          rw [show 8 - 1 - (8 - k) = k - 1 by omega] at hc0
          rw [show 8 - 1 - (8 - k + 1) = k - 1 - 1 by omega] at hc1
          have hst := hid (strike n (k - 1) (by omega) (by rw [Nat.sub_add_cancel hk1]; exact Hf.out))
          have hb0 : 0 ≤ (n / 2 ^ (8 * (k - 1))) % 256 ∧ (n / 2 ^ (8 * (k - 1))) % 256 < 256 := by omega
          have hb1 : 0 ≤ (n / 2 ^ (8 * (k - 1 - 1))) % 256 ∧ (n / 2 ^ (8 * (k - 1 - 1))) % 256 < 256 := by omega
          generalize (n / 2 ^ (8 * (k - 1))) % 256 = b0 at *
          generalize (n / 2 ^ (8 * (k - 1 - 1))) % 256 = b1 at *
          clear hs
          have arms : (b0 = 0 ∧ b1 < 128) ∨ (b0 = 255 ∧ 128 ≤ b1) ∨ (¬ fits n (k - 1) ∧ ((b0 = 0 ∧ ¬ b1 < 128) ∨ (b0 = 255 ∧ ¬ 128 ≤ b1) ∨ (b0 ≠ 0 ∧ b0 ≠ 255))) := by
            have h := hst.out
            by_cases hf : fits n (k - 1)
            · have := h.1 hf
              omega
            · have : ¬ _ := fun hh => hf (h.2 hh)
              refine (Decidable.em _).imp id fun h1 => (Decidable.em _).imp id fun h2 => ⟨hf, ?_⟩
              omega
          have hsl := slice_l (some ⟨w.heap.size, 8 - k, none⟩) k k 1 (by omega) 1 rfl
          have e : cutA (some ⟨w.heap.size, 8 - k, none⟩) 1 k 1 = some ⟨w.heap.size, 8 - (k - 1), none⟩ := by
            unfold cutA; rw [if_neg (by omega)]; simp [addr_add]; try omega
          rw [e] at hsl
          clear e
          rcases arms with ⟨rfl, h2⟩ | ⟨rfl, h2⟩ | ⟨hf, harm⟩
          · have Hst := hid (hst.out.2 (.inl ⟨rfl, h2⟩))
            go_wp2
            refine ⟨⟨k - 1, by omega, by omega, ⟨rfl, rfl⟩, Hst.out⟩, by omega⟩
          · have Hst := hid (hst.out.2 (.inr ⟨rfl, h2⟩))
            go_wp2
            refine ⟨⟨k - 1, by omega, by omega, ⟨rfl, rfl⟩, Hst.out⟩, by omega⟩
          · have Hmk := hid (minK_of n k hk1 hk8 (.inl Hf.out) (.inr hf))
            have Hk := ibe_tail Hs.out k hk8 hk1
            clear hf hst hsl
            rcases harm with ⟨rfl, h2⟩ | ⟨rfl, h2⟩ | ⟨h2, h3⟩
            · go_wp2_with (go_at_call 74; (with_reducible refine (clone_any _ _ _ _ _ Hk (by omega)).mono ?_); rintro e w2 ⟨A2, n2, c2, rfl, hs2, hx2⟩)
              go_ret
              refine ⟨_, _, _, rfl, ?_, Hx.out.trans hx2⟩
              unfold intB
              rw [Hmk.out]
              exact hs2
            · go_wp2_with (go_at_call 74; (with_reducible refine (clone_any _ _ _ _ _ Hk (by omega)).mono ?_); rintro e w2 ⟨A2, n2, c2, rfl, hs2, hx2⟩)
              go_ret
              refine ⟨_, _, _, rfl, ?_, Hx.out.trans hx2⟩
              unfold intB
              rw [Hmk.out]
              exact hs2
            · have t1 : (b0 == 0) = false := by rw [beq_eq_false_iff_ne]; exact h2
              have t2 : (b0 == 255) = false := by rw [beq_eq_false_iff_ne]; exact h3
              go_wp2_with (go_at_call 74; (with_reducible refine (clone_any _ _ _ _ _ Hk (by omega)).mono ?_); rintro e w2 ⟨A2, n2, c2, rfl, hs2, hx2⟩)
              go_ret
              refine ⟨_, _, _, rfl, ?_, Hx.out.trans hx2⟩
              unfold intB
              rw [Hmk.out]
              exact hs2
        · obtain rfl : k = 1 := by omega
          have Hmk := hid (minK_of n 1 hk1 hk8 (.inl Hf.out) (.inl rfl))
          have Hk := ibe_tail Hs.out 1 hk8 hk1
          go_wp2_with (go_at_call 74; (with_reducible refine (clone_any _ _ _ _ _ Hk (by omega)).mono ?_); rintro e w2 ⟨A2, n2, c2, rfl, hs2, hx2⟩)
          go_ret
          refine ⟨_, _, _, rfl, ?_, Hx.out.trans hx2⟩
          unfold intB
          rw [Hmk.out]
          exact hs2
end Go.Proofs.Ytabaeiolpbdjnaa
