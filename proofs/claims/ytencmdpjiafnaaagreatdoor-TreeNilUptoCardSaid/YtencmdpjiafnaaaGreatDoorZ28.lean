import Derived.Test.YtencmdpjiafnaaaGreatDoorZ20
/- The walks of rdn's value. -/
namespace Go.Proofs.YtencmdpjiafnaaaGreatDoor
open Go.RowKit
set_option maxRecDepth 100000
set_option linter.unusedSimpArgs false
set_option linter.unusedVariables false

set_option maxHeartbeats 4000000 in
theorem value_any (s : ByteArray) (w : World) (hs : s.size ≤ 4000000) : Calls Tryz.prog 136 #[.string s] w (ValSays w (valueB (bys s))) := by
  have Hs := hid hs
  by_cases hz : s.size = 0
  · have e1 := emp_yes hz
    have HV : Hid (valueB (bys s) = readF [] (bys s)) := by rw [str_emp hz]; rfl
    clear hz
    go_enter Tryz.func136, Tryz.ntmps136
    go_wp2
    go_loopw [5] (fun i wr => ∃ (j : Nat) (acc : List UInt8), j ≤ s.size ∧ i = .int .i64 j ∧ acc.length ≤ j ∧ Hid (IsB w.heap.size w.heap.size acc wr) ∧ Hid (readF acc ((bys s).drop j) = readF [] (bys s)) ∧ Hid (Below w.heap.size w wr)) (fun i _ => s.size - (intOf i).toNat)
    case atStart => exact ⟨0, [], by omega, rfl, by simp, isB_new w, by simp [Hid], Ext.alloc _ _⟩
    case round =>
      obtain ⟨j, acc, hj, rfl, hacc, HI, HR, HX⟩ := hrel
      by_cases hlt : j < s.size
      · obtain ⟨x, hx⟩ := at_some hlt
        have gx := bys_get hx hlt
        have hd := hid (drop_at hx)
        clear hx
        by_cases h92 : x = 92
        · have t92 : ((x.toNat : Int) != 92) = false := by rw [h92]; rfl
          by_cases hl1 : j + 1 < s.size
          · have hl1' : (j : Int) + 1 < (s.size : Int) := by omega
            obtain ⟨y, hy⟩ := at_some hl1
            have gy := bys_get hy hl1
            have hd1 := drop_at hy
            clear hy
            cases hsp : spec2 y with
            | true =>
              have HM := hid ((mem_spec2 y).1 hsp)
              have HH : Hid (readF (acc ++ [y]) ((bys s).drop (j + 1 + 1)) = readF [] (bys s)) := by show _ = _; rw [← HR.out, hd.out, hd1, h92, readF_spec hsp]
              clear h92 hsp hd1
              go_wp2_with (first
                | (go_at_call 179; (with_reducible refine (indexbyte_yes _ _ y (u8_back _) _ HM.out).mono ?_); rintro e w4 ⟨⟨i, rfl⟩, rfl⟩; have hi0 : 0 ≤ (i : Int) := by omega)
                | (go_at_call 161; (with_reducible refine (writeByte_any y HI.out (by omega)).mono ?_); rintro e w5 ⟨rfl, hi5, hx5⟩; have HI5 := hid hi5; have HX5 := hid hx5; clear hi5 hx5))
              exact ⟨⟨j + 2, acc ++ [y], by omega, by go_num, by simp; omega, HI5, HH, Below.trans HX.out HX5.out⟩, by simp [intOf]; omega⟩
            | false =>
              have HM : Hid (y ∉ ([44, 43, 34, 92, 60, 62, 59, 35, 61, 32] : List UInt8)) := fun h => by have := (mem_spec2 y).2 h; rw [hsp] at this; cases this
              by_cases hl2 : j + 2 < s.size
              · have hl2' : (j : Int) + 2 < (s.size : Int) := by omega
                obtain ⟨z, hz⟩ := at_some hl2
                have gz := bys_get hz hl2
                have hd2 := drop_at hz
                clear hz
                have hH := readF_hex (acc := acc) (t := (bys s).drop (j + 2 + 1)) (d := y) (e := z) hsp
                by_cases hy0 : hexZ y < 0
                · have HF : Hid (readF [] (bys s) = none) := by show _ = _; rw [← HR.out, hd.out, hd1, hd2, h92, hH, hexZ_neg hy0]
                  clear h92 hsp hd1 hd2 hH
                  go_wp2_with (first
                    | (go_at_call 179; (with_reducible refine (indexbyte_no _ _ y (u8_back _) _ HM.out).mono ?_); rintro e w4 ⟨rfl, rfl⟩)
                    | (go_at_call 180; (with_reducible refine (digit_any y _).mono ?_); rintro e w5 ⟨rfl, hx5⟩; have HX5 := hid hx5; clear hx5))
                  go_ret2
                  exact ⟨by rw [HV.out, HF.out]; rfl, Below.trans HX.out (Below.mono HX5.out HI.out.le)⟩
                · obtain ⟨a, ha1, ha2, ha3⟩ := hexZ_pos hy0
                  by_cases hz0 : hexZ z < 0
                  · have HF : Hid (readF [] (bys s) = none) := by show _ = _; rw [← HR.out, hd.out, hd1, hd2, h92, hH, ha1, hexZ_neg hz0]
                    clear h92 hsp hd1 hd2 hH ha1 ha2 ha3
                    go_wp2_with (first
                      | (go_at_call 179; (with_reducible refine (indexbyte_no _ _ y (u8_back _) _ HM.out).mono ?_); rintro e w4 ⟨rfl, rfl⟩)
                      | (go_at_call 180; (with_reducible refine (digit_any y _).mono ?_); rintro e w5 ⟨rfl, hx5⟩; have HX5 := hid hx5; clear hx5)
                      | (go_at_call 180; (with_reducible refine (digit_any z _).mono ?_); rintro e w6 ⟨rfl, hx6⟩; have HX6 := hid hx6; clear hx6))
                    go_ret2
                    exact ⟨by rw [HV.out, HF.out]; rfl, Below.trans HX.out (Below.mono (HX5.out.trans HX6.out) HI.out.le)⟩
                  · obtain ⟨b, hb1, hb2, hb3⟩ := hexZ_pos hz0
                    have HH : Hid (readF (acc ++ [UInt8.ofNat (16 * a + b)]) ((bys s).drop (j + 2 + 1)) = readF [] (bys s)) := by show _ = _; rw [← HR.out, hd.out, hd1, hd2, h92, hH, ha1, hb1]
                    have HA := hid ha2
                    have HB := hid hb2
                    obtain ⟨q, hq⟩ : ∃ q, q = UInt8.ofNat (16 * a + b) := ⟨_, rfl⟩
                    rw [← hq] at HH
                    have hov : bits BinOp.or IntKind.i64 ((a : Int) * 16) (b : Int) % 256 = (q.toNat : Int) := by
                      have h1 := hex_or a ha3 b hb3
                      rw [Int.natCast_mul, Int.mul_comm] at h1
                      have h2 : (((16 : Nat) : Int)) = 16 := rfl
                      rw [h2] at h1
                      rw [h1, hq, UInt8.toNat_ofNat']
                      omega
                    clear hq
                    have ta : ¬ (a : Int) < 0 := by omega
                    have tb : ¬ (b : Int) < 0 := by omega
                    clear h92 hsp hd1 hd2 hH ha1 hb1 hy0 hz0 ha2 hb2
                    go_wp2_with (first
                      | (go_at_call 179; (with_reducible refine (indexbyte_no _ _ y (u8_back _) _ HM.out).mono ?_); rintro e w4 ⟨rfl, rfl⟩)
                      | (go_at_call 180; (with_reducible refine (digit_any y _).mono ?_); rintro e w5 ⟨he5, hx5⟩; rw [HA.out] at he5; subst he5; have HX5 := hid hx5; clear hx5)
                      | (go_at_call 180; (with_reducible refine (digit_any z _).mono ?_); rintro e w6 ⟨he6, hx6⟩; rw [HB.out] at he6; subst he6; have HX6 := hid hx6; clear hx6))
                    have HI6 := hid (HI.out.ext (HX5.out.trans HX6.out))
                    have HX0 := hid (Below.trans HX.out (Below.mono (HX5.out.trans HX6.out) HI.out.le))
                    refine wp_region_planB w.heap.size (.read 0 (.read 1 (.read 2 (.read 3 (.read 6 (.read 7 (.read 8 (.read 9 (.main 4 (.read 5 (.main 10 (.read 11 (.read 12 (.main 13 .done)))))))))))))) (by kernel_rfl) (by kernel_rfl) ?_
                    intro wD hxD
                    have XB : Hid (Below w.heap.size wD wD) := Below.refl _ _
                    have HID := hid (HI6.out.ext hxD)
                    have HXD := hid (Below.trans HX0.out (Below.mono hxD HI6.out.le))
                    have hle := hid HID.out.le
                    have p1 : 0 ≤ (j : Int) + 1 := by omega
                    have p2 : 0 ≤ (j : Int) + 2 := by omega
                    repeat' (first
                      | (refine walksB_move rfl rfl ?_; simp only [Act.put, Act.eval, List.setIfInBounds_toArray, List.set_cons_zero, List.set_cons_succ, Array.getD_eq_getD_getElem?, List.getElem?_toArray, List.getElem?_cons_zero, List.getElem?_cons_succ, Option.getD_some])
                      | (refine walksB_assign rfl rfl ?_; simp only [Act.put, Act.eval, List.setIfInBounds_toArray, List.set_cons_zero, List.set_cons_succ, Array.getD_eq_getD_getElem?, List.getElem?_toArray, List.getElem?_cons_zero, List.getElem?_cons_succ, Option.getD_some])
                      | (refine walksB_skip rfl rfl ?_; simp only [Act.put, List.setIfInBounds_toArray, List.set_cons_zero, List.set_cons_succ])
                      | (refine walksB_unwanted rfl rfl ?_; simp only [Act.put, List.setIfInBounds_toArray, List.set_cons_zero, List.set_cons_succ])
                      | (refine walksB_read (v := ?_) rfl rfl (fun w' hE => ?_) ?_; rotate_left 1; (· ((try (have hEx := Below.trans (Hid.out XB) hE)); go_simp; (try go_bits); with_reducible rfl)); simp only [Act.put, List.setIfInBounds_toArray, List.set_cons_zero, List.set_cons_succ])
                      | (refine walksB_alt ?_ ?_)
                      | (refine walksB_main rfl rfl (fun K hK => ?_); go_wp2_with (first | (go_at_call 180; (with_reducible refine (digit_any y _).mono ?_); rintro e w7 ⟨he7, hx7⟩; rw [HA.out] at he7; subst he7; have hx7' := Below.mono hx7 (Nat.le_trans hle.out (Below.size XB.out)); have HID' := hid (HID.out.ext hx7); clear HID hx7; have HID := HID'; clear HID'; have XB' := hid (Below.trans (Hid.out XB) (hx7')); clear XB; have XB := XB'; clear XB') | (go_at_call 180; (with_reducible refine (digit_any z _).mono ?_); rintro e w8 ⟨he8, hx8⟩; rw [HB.out] at he8; subst he8; have hx8' := Below.mono hx8 (Nat.le_trans hle.out (Below.size XB.out)); have HID' := hid (HID.out.ext hx8); clear HID hx8; have HID := HID'; clear HID'; have XB' := hid (Below.trans (Hid.out XB) (hx8')); clear XB; have XB := XB'; clear XB') | (go_at_call 161; (with_reducible refine (writeByte_any q HID.out (by omega)).mono ?_); rintro e w9 ⟨rfl, hi9, hx9⟩; have HI9 := hid hi9; clear hi9; have XB' := hid (Below.trans (Hid.out XB) (hx9)); clear XB; have XB := XB'; clear XB')); refine hK _ _ (by first | assumption | exact Below.refl _ _ | exact Below.mono (Ext.alloc _ _) (Hid.out HSW) | exact Below.setCell (p := ⟨_, _, _⟩) (Below.refl _ _) (Nat.le_refl _) _) ?_; clear hK K; try simp only [Act.put, List.setIfInBounds_toArray, List.set_cons_zero, List.set_cons_succ]))
                    refine walksB_done ?_
                    go_wp2
                    exact ⟨⟨j + 3, acc ++ [q], by omega, by go_num, by simp; omega, HI9, HH, Below.trans HXD.out XB.out⟩, by simp [intOf]; omega⟩
              · have hl2' : ¬ (j : Int) + 2 < (s.size : Int) := by omega
                have HF : Hid (readF [] (bys s) = none) := by show _ = _; rw [← HR.out, hd.out, hd1, h92, show (bys s).drop (j + 1 + 1) = [] from drop_none (by omega), readF_hex1 hsp]
                clear h92 hsp hd1
                go_wp2_with (first
                  | (go_at_call 179; (with_reducible refine (indexbyte_no _ _ y (u8_back _) _ HM.out).mono ?_); rintro e w4 ⟨rfl, rfl⟩))
                go_ret2
                exact ⟨by rw [HV.out, HF.out]; rfl, HX.out⟩
          · have hl1' : ¬ (j : Int) + 1 < (s.size : Int) := by omega
            have hl2' : ¬ (j : Int) + 2 < (s.size : Int) := by omega
            have HF : Hid (readF [] (bys s) = none) := by show _ = _; rw [← HR.out, hd.out, h92, show (bys s).drop (j + 1) = [] from drop_none (by omega), readF_end]
            clear h92
            go_wp2
            go_ret2
            exact ⟨by rw [HV.out, HF.out]; rfl, HX.out⟩
        · have t92 : ((x.toNat : Int) != 92) = true := by
            have h : ((x.toNat : Int) == 92) = false := byte_isnt (k := 92) h92
            rw [bne, h]; rfl
          have hP := readF_plain (acc := acc) (t := (bys s).drop (j + 1)) h92
          by_cases h0 : x = 0
          · have t0 : ((x.toNat : Int) == 0) = true := byte_is (k := 0) (by decide) h0
            have HF : Hid (readF [] (bys s) = none) := by show _ = _; rw [← HR.out, hd.out, hP, if_pos (by rw [h0]; rfl)]
            clear h92 h0 hP
            go_wp2
            go_ret2
            exact ⟨by rw [HV.out, HF.out]; rfl, HX.out⟩
          · have t0 : ((x.toNat : Int) == 0) = false := byte_isnt (k := 0) h0
            cases hsp : specB x with
            | true =>
              have HM := hid ((mem_spec x).1 hsp)
              have HF : Hid (readF [] (bys s) = none) := by show _ = _; rw [← HR.out, hd.out, hP, if_pos (by rw [hsp]; simp)]
              clear h92 h0 hP hsp
              go_wp2_with (first
                | (go_at_call 179; (with_reducible refine (indexbyte_yes _ _ x (u8_back _) _ HM.out).mono ?_); rintro e w4 ⟨⟨i, rfl⟩, rfl⟩; have hi0 : 0 ≤ (i : Int) := by omega))
              go_ret2
              exact ⟨by rw [HV.out, HF.out]; rfl, HX.out⟩
            | false =>
              have HM : Hid (x ∉ ([44, 43, 34, 92, 60, 62, 59] : List UInt8)) := fun h => by have := (mem_spec x).2 h; rw [hsp] at this; cases this
              have hemp : ((bys s).drop (j + 1)).isEmpty = decide (j + 1 = s.size) := by
                rw [Bool.eq_iff_iff, List.isEmpty_iff, decide_eq_true_eq, List.drop_eq_nil_iff, bys_len]
                omega
              by_cases h32 : x = 32 ∧ j + 1 = s.size
              · have t32 : ((x.toNat : Int) == 32) = true := byte_is (k := 32) (by decide) h32.1
                have te : ((j : Int) == (s.size : Int) - 1) = true := by rw [beq_iff_eq]; omega
                have HF : Hid (readF [] (bys s) = none) := by show _ = _; rw [← HR.out, hd.out, hP, if_pos (by rw [hemp, h32.1, decide_eq_true h32.2]; rfl)]
                clear h92 h0 hP hsp hemp h32
                go_wp2_with (first
                  | (go_at_call 179; (with_reducible refine (indexbyte_no _ _ x (u8_back _) _ HM.out).mono ?_); rintro e w4 ⟨rfl, rfl⟩))
                go_ret2
                exact ⟨by rw [HV.out, HF.out]; rfl, HX.out⟩
              · have HH : Hid (readF (acc ++ [x]) ((bys s).drop (j + 1)) = readF [] (bys s)) := by
                  show _ = _
                  rw [← HR.out, hd.out, hP, if_neg]
                  rw [hemp, hsp]
                  simp [h0]
                  exact fun e => fun e2 => h32 ⟨e, e2⟩
                have t32 : ((x.toNat : Int) == 32) = false ∨ (((x.toNat : Int) == 32) = true ∧ ((j : Int) == (s.size : Int) - 1) = false) := by
                  by_cases h3 : x = 32
                  · right
                    refine ⟨byte_is (k := 32) (by decide) h3, ?_⟩
                    rw [beq_eq_false_iff_ne]
                    intro e
                    exact h32 ⟨h3, by omega⟩
                  · exact .inl (byte_isnt (k := 32) h3)
                clear h92 h0 hP hsp hemp h32
                rcases t32 with t32 | ⟨t32, te⟩
                all_goals
                  go_wp2_with (first
                    | (go_at_call 179; (with_reducible refine (indexbyte_no _ _ x (u8_back _) _ HM.out).mono ?_); rintro e w4 ⟨rfl, rfl⟩)
                    | (go_at_call 161; (with_reducible refine (writeByte_any x HI.out (by omega)).mono ?_); rintro e w5 ⟨rfl, hi5, hx5⟩; have HI5 := hid hi5; have HX5 := hid hx5; clear hi5 hx5))
                  exact ⟨⟨j + 1, acc ++ [x], by omega, by go_num, by simp; omega, HI5, HH, Below.trans HX.out HX5.out⟩, by simp [intOf]; omega⟩
      · obtain rfl : j = s.size := by omega
        have HF : Hid (readF [] (bys s) = some acc) := by show _ = _; rw [← HR.out, drop_none (Nat.le_refl _)]; rfl
        go_wp2_with (go_at_call 110; (with_reducible refine (string_any HI.out).mono ?_); rintro e w4 ⟨rfl, hx4⟩; have HX4 := hid hx4; clear hx4)
        go_ret2
        exact ⟨by rw [HV.out, HF.out]; rfl, Below.trans HX.out HX4.out⟩
  · have e1 := emp_nb hz
    have hsz : 0 < s.size := by omega
    obtain ⟨y, hy⟩ := at_some hsz
    have gy := bys_get hy hsz
    have hhd : (bys s).head? = some y := by rw [List.head?_eq_getElem?, hy]
    clear hy
    by_cases h32 : y = 32
    · have t32 : ((y.toNat : Int) == 32) = true := byte_is (k := 32) (by decide) h32
      have HV : Hid (valueB (bys s) = none) := by show _ = _; unfold valueB; rw [hhd, h32, if_pos (.inl rfl)]
      clear hhd hz h32
      go_enter Tryz.func136, Tryz.ntmps136
      go_wp2
      go_ret2
      exact ⟨by rw [HV.out]; rfl, Ext.alloc _ _⟩
    · have t32 : ((y.toNat : Int) == 32) = false := byte_isnt (k := 32) h32
      by_cases h35 : y = 35
      · have t35 : ((y.toNat : Int) == 35) = true := byte_is (k := 35) (by decide) h35
        have HV : Hid (valueB (bys s) = none) := by show _ = _; unfold valueB; rw [hhd, h35, if_pos (.inr rfl)]
        clear hhd hz h32 h35
        go_enter Tryz.func136, Tryz.ntmps136
        go_wp2
        go_ret2
        exact ⟨by rw [HV.out]; rfl, Ext.alloc _ _⟩
      · have t35 : ((y.toNat : Int) == 35) = false := byte_isnt (k := 35) h35
        have HV : Hid (valueB (bys s) = readF [] (bys s)) := by
          show _ = _
          unfold valueB
          rw [hhd, if_neg]
          rintro (h | h)
          · injection h with h; exact h32 h
          · injection h with h; exact h35 h
        clear hhd hz h32 h35
        go_enter Tryz.func136, Tryz.ntmps136
        go_wp2
        go_wp2
        go_loopw [5] (fun i wr => ∃ (j : Nat) (acc : List UInt8), j ≤ s.size ∧ i = .int .i64 j ∧ acc.length ≤ j ∧ Hid (IsB w.heap.size w.heap.size acc wr) ∧ Hid (readF acc ((bys s).drop j) = readF [] (bys s)) ∧ Hid (Below w.heap.size w wr)) (fun i _ => s.size - (intOf i).toNat)
        case atStart => exact ⟨0, [], by omega, rfl, by simp, isB_new w, by simp [Hid], Ext.alloc _ _⟩
        case round =>
          obtain ⟨j, acc, hj, rfl, hacc, HI, HR, HX⟩ := hrel
          by_cases hlt : j < s.size
          · obtain ⟨x, hx⟩ := at_some hlt
            have gx := bys_get hx hlt
            have hd := hid (drop_at hx)
            clear hx
            by_cases h92 : x = 92
            · have t92 : ((x.toNat : Int) != 92) = false := by rw [h92]; rfl
              by_cases hl1 : j + 1 < s.size
              · have hl1' : (j : Int) + 1 < (s.size : Int) := by omega
                obtain ⟨y, hy⟩ := at_some hl1
                have gy := bys_get hy hl1
                have hd1 := drop_at hy
                clear hy
                cases hsp : spec2 y with
                | true =>
                  have HM := hid ((mem_spec2 y).1 hsp)
                  have HH : Hid (readF (acc ++ [y]) ((bys s).drop (j + 1 + 1)) = readF [] (bys s)) := by show _ = _; rw [← HR.out, hd.out, hd1, h92, readF_spec hsp]
                  clear h92 hsp hd1
                  go_wp2_with (first
                    | (go_at_call 179; (with_reducible refine (indexbyte_yes _ _ y (u8_back _) _ HM.out).mono ?_); rintro e w4 ⟨⟨i, rfl⟩, rfl⟩; have hi0 : 0 ≤ (i : Int) := by omega)
                    | (go_at_call 161; (with_reducible refine (writeByte_any y HI.out (by omega)).mono ?_); rintro e w5 ⟨rfl, hi5, hx5⟩; have HI5 := hid hi5; have HX5 := hid hx5; clear hi5 hx5))
                  exact ⟨⟨j + 2, acc ++ [y], by omega, by go_num, by simp; omega, HI5, HH, Below.trans HX.out HX5.out⟩, by simp [intOf]; omega⟩
                | false =>
                  have HM : Hid (y ∉ ([44, 43, 34, 92, 60, 62, 59, 35, 61, 32] : List UInt8)) := fun h => by have := (mem_spec2 y).2 h; rw [hsp] at this; cases this
                  by_cases hl2 : j + 2 < s.size
                  · have hl2' : (j : Int) + 2 < (s.size : Int) := by omega
                    obtain ⟨z, hz⟩ := at_some hl2
                    have gz := bys_get hz hl2
                    have hd2 := drop_at hz
                    clear hz
                    have hH := readF_hex (acc := acc) (t := (bys s).drop (j + 2 + 1)) (d := y) (e := z) hsp
                    by_cases hy0 : hexZ y < 0
                    · have HF : Hid (readF [] (bys s) = none) := by show _ = _; rw [← HR.out, hd.out, hd1, hd2, h92, hH, hexZ_neg hy0]
                      clear h92 hsp hd1 hd2 hH
                      go_wp2_with (first
                        | (go_at_call 179; (with_reducible refine (indexbyte_no _ _ y (u8_back _) _ HM.out).mono ?_); rintro e w4 ⟨rfl, rfl⟩)
                        | (go_at_call 180; (with_reducible refine (digit_any y _).mono ?_); rintro e w5 ⟨rfl, hx5⟩; have HX5 := hid hx5; clear hx5))
                      go_ret2
                      exact ⟨by rw [HV.out, HF.out]; rfl, Below.trans HX.out (Below.mono HX5.out HI.out.le)⟩
                    · obtain ⟨a, ha1, ha2, ha3⟩ := hexZ_pos hy0
                      by_cases hz0 : hexZ z < 0
                      · have HF : Hid (readF [] (bys s) = none) := by show _ = _; rw [← HR.out, hd.out, hd1, hd2, h92, hH, ha1, hexZ_neg hz0]
                        clear h92 hsp hd1 hd2 hH ha1 ha2 ha3
                        go_wp2_with (first
                          | (go_at_call 179; (with_reducible refine (indexbyte_no _ _ y (u8_back _) _ HM.out).mono ?_); rintro e w4 ⟨rfl, rfl⟩)
                          | (go_at_call 180; (with_reducible refine (digit_any y _).mono ?_); rintro e w5 ⟨rfl, hx5⟩; have HX5 := hid hx5; clear hx5)
                          | (go_at_call 180; (with_reducible refine (digit_any z _).mono ?_); rintro e w6 ⟨rfl, hx6⟩; have HX6 := hid hx6; clear hx6))
                        go_ret2
                        exact ⟨by rw [HV.out, HF.out]; rfl, Below.trans HX.out (Below.mono (HX5.out.trans HX6.out) HI.out.le)⟩
                      · obtain ⟨b, hb1, hb2, hb3⟩ := hexZ_pos hz0
                        have HH : Hid (readF (acc ++ [UInt8.ofNat (16 * a + b)]) ((bys s).drop (j + 2 + 1)) = readF [] (bys s)) := by show _ = _; rw [← HR.out, hd.out, hd1, hd2, h92, hH, ha1, hb1]
                        have HA := hid ha2
                        have HB := hid hb2
                        obtain ⟨q, hq⟩ : ∃ q, q = UInt8.ofNat (16 * a + b) := ⟨_, rfl⟩
                        rw [← hq] at HH
                        have hov : bits BinOp.or IntKind.i64 ((a : Int) * 16) (b : Int) % 256 = (q.toNat : Int) := by
                          have h1 := hex_or a ha3 b hb3
                          rw [Int.natCast_mul, Int.mul_comm] at h1
                          have h2 : (((16 : Nat) : Int)) = 16 := rfl
                          rw [h2] at h1
                          rw [h1, hq, UInt8.toNat_ofNat']
                          omega
                        clear hq
                        have ta : ¬ (a : Int) < 0 := by omega
                        have tb : ¬ (b : Int) < 0 := by omega
                        clear h92 hsp hd1 hd2 hH ha1 hb1 hy0 hz0 ha2 hb2
                        go_wp2_with (first
                          | (go_at_call 179; (with_reducible refine (indexbyte_no _ _ y (u8_back _) _ HM.out).mono ?_); rintro e w4 ⟨rfl, rfl⟩)
                          | (go_at_call 180; (with_reducible refine (digit_any y _).mono ?_); rintro e w5 ⟨he5, hx5⟩; rw [HA.out] at he5; subst he5; have HX5 := hid hx5; clear hx5)
                          | (go_at_call 180; (with_reducible refine (digit_any z _).mono ?_); rintro e w6 ⟨he6, hx6⟩; rw [HB.out] at he6; subst he6; have HX6 := hid hx6; clear hx6))
                        have HI6 := hid (HI.out.ext (HX5.out.trans HX6.out))
                        have HX0 := hid (Below.trans HX.out (Below.mono (HX5.out.trans HX6.out) HI.out.le))
                        refine wp_region_planB w.heap.size (.read 0 (.read 1 (.read 2 (.read 3 (.read 6 (.read 7 (.read 8 (.read 9 (.main 4 (.read 5 (.main 10 (.read 11 (.read 12 (.main 13 .done)))))))))))))) (by kernel_rfl) (by kernel_rfl) ?_
                        intro wD hxD
                        have XB : Hid (Below w.heap.size wD wD) := Below.refl _ _
                        have HID := hid (HI6.out.ext hxD)
                        have HXD := hid (Below.trans HX0.out (Below.mono hxD HI6.out.le))
                        have hle := hid HID.out.le
                        have p1 : 0 ≤ (j : Int) + 1 := by omega
                        have p2 : 0 ≤ (j : Int) + 2 := by omega
                        repeat' (first
                          | (refine walksB_move rfl rfl ?_; simp only [Act.put, Act.eval, List.setIfInBounds_toArray, List.set_cons_zero, List.set_cons_succ, Array.getD_eq_getD_getElem?, List.getElem?_toArray, List.getElem?_cons_zero, List.getElem?_cons_succ, Option.getD_some])
                          | (refine walksB_assign rfl rfl ?_; simp only [Act.put, Act.eval, List.setIfInBounds_toArray, List.set_cons_zero, List.set_cons_succ, Array.getD_eq_getD_getElem?, List.getElem?_toArray, List.getElem?_cons_zero, List.getElem?_cons_succ, Option.getD_some])
                          | (refine walksB_skip rfl rfl ?_; simp only [Act.put, List.setIfInBounds_toArray, List.set_cons_zero, List.set_cons_succ])
                          | (refine walksB_unwanted rfl rfl ?_; simp only [Act.put, List.setIfInBounds_toArray, List.set_cons_zero, List.set_cons_succ])
                          | (refine walksB_read (v := ?_) rfl rfl (fun w' hE => ?_) ?_; rotate_left 1; (· ((try (have hEx := Below.trans (Hid.out XB) hE)); go_simp; (try go_bits); with_reducible rfl)); simp only [Act.put, List.setIfInBounds_toArray, List.set_cons_zero, List.set_cons_succ])
                          | (refine walksB_alt ?_ ?_)
                          | (refine walksB_main rfl rfl (fun K hK => ?_); go_wp2_with (first | (go_at_call 180; (with_reducible refine (digit_any y _).mono ?_); rintro e w7 ⟨he7, hx7⟩; rw [HA.out] at he7; subst he7; have hx7' := Below.mono hx7 (Nat.le_trans hle.out (Below.size XB.out)); have HID' := hid (HID.out.ext hx7); clear HID hx7; have HID := HID'; clear HID'; have XB' := hid (Below.trans (Hid.out XB) (hx7')); clear XB; have XB := XB'; clear XB') | (go_at_call 180; (with_reducible refine (digit_any z _).mono ?_); rintro e w8 ⟨he8, hx8⟩; rw [HB.out] at he8; subst he8; have hx8' := Below.mono hx8 (Nat.le_trans hle.out (Below.size XB.out)); have HID' := hid (HID.out.ext hx8); clear HID hx8; have HID := HID'; clear HID'; have XB' := hid (Below.trans (Hid.out XB) (hx8')); clear XB; have XB := XB'; clear XB') | (go_at_call 161; (with_reducible refine (writeByte_any q HID.out (by omega)).mono ?_); rintro e w9 ⟨rfl, hi9, hx9⟩; have HI9 := hid hi9; clear hi9; have XB' := hid (Below.trans (Hid.out XB) (hx9)); clear XB; have XB := XB'; clear XB')); refine hK _ _ (by first | assumption | exact Below.refl _ _ | exact Below.mono (Ext.alloc _ _) (Hid.out HSW) | exact Below.setCell (p := ⟨_, _, _⟩) (Below.refl _ _) (Nat.le_refl _) _) ?_; clear hK K; try simp only [Act.put, List.setIfInBounds_toArray, List.set_cons_zero, List.set_cons_succ]))
                        refine walksB_done ?_
                        go_wp2
                        exact ⟨⟨j + 3, acc ++ [q], by omega, by go_num, by simp; omega, HI9, HH, Below.trans HXD.out XB.out⟩, by simp [intOf]; omega⟩
                  · have hl2' : ¬ (j : Int) + 2 < (s.size : Int) := by omega
                    have HF : Hid (readF [] (bys s) = none) := by show _ = _; rw [← HR.out, hd.out, hd1, h92, show (bys s).drop (j + 1 + 1) = [] from drop_none (by omega), readF_hex1 hsp]
                    clear h92 hsp hd1
                    go_wp2_with (first
                      | (go_at_call 179; (with_reducible refine (indexbyte_no _ _ y (u8_back _) _ HM.out).mono ?_); rintro e w4 ⟨rfl, rfl⟩))
                    go_ret2
                    exact ⟨by rw [HV.out, HF.out]; rfl, HX.out⟩
              · have hl1' : ¬ (j : Int) + 1 < (s.size : Int) := by omega
                have hl2' : ¬ (j : Int) + 2 < (s.size : Int) := by omega
                have HF : Hid (readF [] (bys s) = none) := by show _ = _; rw [← HR.out, hd.out, h92, show (bys s).drop (j + 1) = [] from drop_none (by omega), readF_end]
                clear h92
                go_wp2
                go_ret2
                exact ⟨by rw [HV.out, HF.out]; rfl, HX.out⟩
            · have t92 : ((x.toNat : Int) != 92) = true := by
                have h : ((x.toNat : Int) == 92) = false := byte_isnt (k := 92) h92
                rw [bne, h]; rfl
              have hP := readF_plain (acc := acc) (t := (bys s).drop (j + 1)) h92
              by_cases h0 : x = 0
              · have t0 : ((x.toNat : Int) == 0) = true := byte_is (k := 0) (by decide) h0
                have HF : Hid (readF [] (bys s) = none) := by show _ = _; rw [← HR.out, hd.out, hP, if_pos (by rw [h0]; rfl)]
                clear h92 h0 hP
                go_wp2
                go_ret2
                exact ⟨by rw [HV.out, HF.out]; rfl, HX.out⟩
              · have t0 : ((x.toNat : Int) == 0) = false := byte_isnt (k := 0) h0
                cases hsp : specB x with
                | true =>
                  have HM := hid ((mem_spec x).1 hsp)
                  have HF : Hid (readF [] (bys s) = none) := by show _ = _; rw [← HR.out, hd.out, hP, if_pos (by rw [hsp]; simp)]
                  clear h92 h0 hP hsp
                  go_wp2_with (first
                    | (go_at_call 179; (with_reducible refine (indexbyte_yes _ _ x (u8_back _) _ HM.out).mono ?_); rintro e w4 ⟨⟨i, rfl⟩, rfl⟩; have hi0 : 0 ≤ (i : Int) := by omega))
                  go_ret2
                  exact ⟨by rw [HV.out, HF.out]; rfl, HX.out⟩
                | false =>
                  have HM : Hid (x ∉ ([44, 43, 34, 92, 60, 62, 59] : List UInt8)) := fun h => by have := (mem_spec x).2 h; rw [hsp] at this; cases this
                  have hemp : ((bys s).drop (j + 1)).isEmpty = decide (j + 1 = s.size) := by
                    rw [Bool.eq_iff_iff, List.isEmpty_iff, decide_eq_true_eq, List.drop_eq_nil_iff, bys_len]
                    omega
                  by_cases h32 : x = 32 ∧ j + 1 = s.size
                  · have t32 : ((x.toNat : Int) == 32) = true := byte_is (k := 32) (by decide) h32.1
                    have te : ((j : Int) == (s.size : Int) - 1) = true := by rw [beq_iff_eq]; omega
                    have HF : Hid (readF [] (bys s) = none) := by show _ = _; rw [← HR.out, hd.out, hP, if_pos (by rw [hemp, h32.1, decide_eq_true h32.2]; rfl)]
                    clear h92 h0 hP hsp hemp h32
                    go_wp2_with (first
                      | (go_at_call 179; (with_reducible refine (indexbyte_no _ _ x (u8_back _) _ HM.out).mono ?_); rintro e w4 ⟨rfl, rfl⟩))
                    go_ret2
                    exact ⟨by rw [HV.out, HF.out]; rfl, HX.out⟩
                  · have HH : Hid (readF (acc ++ [x]) ((bys s).drop (j + 1)) = readF [] (bys s)) := by
                      show _ = _
                      rw [← HR.out, hd.out, hP, if_neg]
                      rw [hemp, hsp]
                      simp [h0]
                      exact fun e => fun e2 => h32 ⟨e, e2⟩
                    have t32 : ((x.toNat : Int) == 32) = false ∨ (((x.toNat : Int) == 32) = true ∧ ((j : Int) == (s.size : Int) - 1) = false) := by
                      by_cases h3 : x = 32
                      · right
                        refine ⟨byte_is (k := 32) (by decide) h3, ?_⟩
                        rw [beq_eq_false_iff_ne]
                        intro e
                        exact h32 ⟨h3, by omega⟩
                      · exact .inl (byte_isnt (k := 32) h3)
                    clear h92 h0 hP hsp hemp h32
                    rcases t32 with t32 | ⟨t32, te⟩
                    all_goals
                      go_wp2_with (first
                        | (go_at_call 179; (with_reducible refine (indexbyte_no _ _ x (u8_back _) _ HM.out).mono ?_); rintro e w4 ⟨rfl, rfl⟩)
                        | (go_at_call 161; (with_reducible refine (writeByte_any x HI.out (by omega)).mono ?_); rintro e w5 ⟨rfl, hi5, hx5⟩; have HI5 := hid hi5; have HX5 := hid hx5; clear hi5 hx5))
                      exact ⟨⟨j + 1, acc ++ [x], by omega, by go_num, by simp; omega, HI5, HH, Below.trans HX.out HX5.out⟩, by simp [intOf]; omega⟩
          · obtain rfl : j = s.size := by omega
            have HF : Hid (readF [] (bys s) = some acc) := by show _ = _; rw [← HR.out, drop_none (Nat.le_refl _)]; rfl
            go_wp2_with (go_at_call 110; (with_reducible refine (string_any HI.out).mono ?_); rintro e w4 ⟨rfl, hx4⟩; have HX4 := hid hx4; clear hx4)
            go_ret2
            exact ⟨by rw [HV.out, HF.out]; rfl, Below.trans HX.out HX4.out⟩
end Go.Proofs.YtencmdpjiafnaaaGreatDoor
