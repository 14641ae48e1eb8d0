import Derived.Test.YtencmdpjiafnaaaGreatDoorZ17
/- The walks of the reference's numbers that are pairs: number, second, Text, within. -/
namespace Go.Proofs.YtencmdpjiafnaaaGreatDoor
open Go.RowKit
set_option maxRecDepth 100000
set_option linter.unusedSimpArgs false
set_option linter.unusedVariables false

def sgnD (v : List UInt8) : List UInt8 := if v.head? = some 45 ∨ v.head? = some 43 then v.drop 1 else v
/-- The integer of up to nine digits, perhaps with a sign ahead. -/
def numR (v : List UInt8) : Option Int :=
  if 1 ≤ (sgnD v).length ∧ (sgnD v).length ≤ 9 ∧ (sgnD v).all digC = true then some (if negB v then -(valFrom 0 (sgnD v) : Int) else (valFrom 0 (sgnD v) : Int)) else none
def NumSays (w : World) (v : List UInt8) (e : Ending) (w' : World) : Prop := e = .returned (.tuple #[.int .i64 ((numR v).getD 0), .bool (numR v).isSome]) ∧ Ext w w'
theorem numR_small {v : List UInt8} {n : Int} (h : numR v = some n) : -1000000000 < n ∧ n < 1000000000 := by
  unfold numR at h
  split at h
  · rename_i hc
    have h1 := valFrom_lt (sgnD v) 0 hc.2.2
    have h2 : 10 ^ (sgnD v).length ≤ 10 ^ 9 := Nat.pow_le_pow_right (by decide) hc.2.1
    have h5 : (10 : Nat) ^ 9 = 1000000000 := rfl
    injection h with h
    split at h <;> omega
  · cases h
set_option maxHeartbeats 2000000 in
theorem number_any (s : ByteArray) (w : World) (hs : s.size ≤ 4000000) : Calls Tryz.prog 195 #[.string s] w (NumSays w (bys s)) := by
  have Hs := hid hs
  by_cases h0 : s.size = 0
  · have t0 : ¬ (0 : Int) < (s.size : Int) := by omega
    have HF : Hid (numR (bys s) = none) := by rw [str_emp h0]; rfl
    have t1 : (s.size : Int) < 1 := by omega
    clear h0 hs
    go_enter Tryz.func195, Tryz.ntmps195
    go_wp2
    go_ret2
    exact ⟨by rw [HF.out]; rfl, Ext.refl _⟩
  · have t0 : (0 : Int) < (s.size : Int) := by omega
    obtain ⟨y, hy⟩ : ∃ x, (bys s)[0]? = some x := ⟨_, List.getElem?_eq_getElem (by rw [bys_len]; omega)⟩
    have hsz : 0 < s.size := by omega
    have gy := bys_get hy hsz
    have Hy : Hid ((bys s).head? = some y) := by show _ = _; rw [List.head?_eq_getElem?, hy]
    clear h0 hy
    by_cases h45 : y = 45
    · have ty : ((y.toNat : Int) == 45) = true := byte_is (k := 45) (by decide) h45
      have HNEG : Hid (negB (bys s) = true) := by show _ = _; unfold negB; rw [Hy.out, h45]; rfl
      obtain ⟨d, hd⟩ : ∃ d, s.extract 1 s.size = d := ⟨_, rfl⟩
      have HD : Hid (bys d = sgnD (bys s)) := by show _ = _; rw [← hd, ext_drop]; unfold sgnD; rw [Hy.out, h45, if_pos (.inl rfl)]
      clear h45
      go_enter Tryz.func195, Tryz.ntmps195
      have HN : Hid (¬ (1 ≤ d.size ∧ d.size ≤ 9 ∧ (bys d).all digC = true) → numR (bys s) = none) := by
        intro h
        unfold numR
        rw [← HD.out, bys_len, if_neg h]
      have HY : Hid ((1 ≤ d.size ∧ d.size ≤ 9 ∧ (bys d).all digC = true) → numR (bys s) = some (-(valFrom 0 (bys d) : Int))) := by
        intro h
        unfold numR
        rw [← HD.out, bys_len, if_pos h, HNEG.out]
        rfl
      by_cases hl1 : d.size < 1
      · have hl1' : (d.size : Int) < 1 := by omega
        have HF : Hid (numR (bys s) = none) := HN.out (by omega)
        clear hl1
        go_wp2
        go_ret2
        exact ⟨by rw [HF.out]; rfl, Ext.refl _⟩
      · have hl1' : ¬ (d.size : Int) < 1 := by omega
        by_cases hl2 : 9 < d.size
        · have hl2' : 9 < (d.size : Int) := by omega
          have HF : Hid (numR (bys s) = none) := HN.out (by omega)
          clear hl1 hl2
          go_wp2
          go_ret2
          exact ⟨by rw [HF.out]; rfl, Ext.refl _⟩
        · have hl2' : ¬ 9 < (d.size : Int) := by omega
          go_wp2
          go_loop [4, 6] (fun n i => ∃ k : Nat, k ≤ d.size ∧ i = .int .i64 k ∧ n = .int .i64 (valFrom 0 ((bys d).take k) : Int) ∧ Hid (((bys d).take k).all digC = true)) (fun _ i => d.size - (intOf i).toNat)
          case atStart => exact ⟨0, by omega, rfl, rfl, rfl⟩
          case round =>
            obtain ⟨k, hk, rfl, rfl, HA⟩ := hrel
            have hd9 : d.size ≤ 9 := by omega
            have HB : Hid (valFrom 0 ((bys d).take k) < 10 ^ k) := by
              have h := valFrom_lt ((bys d).take k) 0 HA.out
              have h2 : ((bys d).take k).length ≤ k := List.length_take_le _ _
              have h3 : 10 ^ ((bys d).take k).length ≤ 10 ^ k := Nat.pow_le_pow_right (by decide) h2
              show _ < _
              omega
            have hv9 : valFrom 0 ((bys d).take k) < 1000000000 := by
              have h3 : 10 ^ k ≤ 10 ^ 9 := Nat.pow_le_pow_right (by decide) (by omega)
              have h4 := HB.out
              have h5 : (10 : Nat) ^ 9 = 1000000000 := rfl
              omega
            by_cases hlt : k < d.size
            · obtain ⟨x, hx⟩ : ∃ x, (bys d)[k]? = some x := ⟨_, List.getElem?_eq_getElem (by rw [bys_len]; exact hlt)⟩
              have gk := bys_get hx hlt
              have hx1 : (x.toNat : Int) < 256 := by have := x.toNat_lt; omega
              have HX := hid hx
              clear hx
              have HNO : Hid (¬ (48 ≤ x.toNat ∧ x.toNat ≤ 57) → numR (bys s) = none) := by
                intro hno
                refine HN.out ?_
                rintro ⟨-, -, h7⟩
                rw [List.all_eq_true] at h7
                exact hno ((digC_iff x).1 (h7 x (List.mem_of_getElem? HX.out)))
              by_cases h48 : (x.toNat : Int) < 48
              · have HF : Hid (numR (bys s) = none) := HNO.out (by omega)
                go_wp2
                go_ret2
                exact ⟨by rw [HF.out]; rfl, Ext.refl _⟩
              · by_cases h57 : 57 < (x.toNat : Int)
                · have HF : Hid (numR (bys s) = none) := HNO.out (by omega)
                  go_wp2
                  go_ret2
                  exact ⟨by rw [HF.out]; rfl, Ext.refl _⟩
                · have h48' : 48 ≤ (x.toNat : Int) := by omega
                  have HT : Hid ((bys d).take (k + 1) = (bys d).take k ++ [x]) := by show _ = _; rw [List.take_add_one, HX.out]; rfl
                  have HD2 : Hid (digC x = true) := (digC_iff x).2 (by omega)
                  generalize hv : valFrom 0 ((bys d).take k) = m at *
                  go_wp2
                  refine ⟨⟨k + 1, by omega, by go_num, ?_, ?_⟩, by simp [intOf]; omega⟩
                  · rw [HT.out, valFrom_snoc, hv]
                    congr 1
                    omega
                  · rw [HT.out]
                    show _ = _
                    rw [List.all_append, HA.out]
                    simp [HD2.out]
            · obtain rfl : k = d.size := by omega
              have htk : Hid ((bys d).take d.size = bys d) := by show _ = _; rw [List.take_of_length_le (by rw [bys_len]; omega)]
              have HF : Hid (numR (bys s) = some (-(valFrom 0 (bys d) : Int))) := HY.out ⟨by omega, by omega, by have := HA.out; rwa [htk.out] at this⟩
              have HW : Hid (valFrom 0 ((bys d).take d.size) = valFrom 0 (bys d)) := by show _ = _; rw [htk.out]
              generalize valFrom 0 ((bys d).take d.size) = m at *
              go_wp2
              go_ret2
              refine ⟨?_, Ext.refl _⟩
              rw [HF.out, ← HW.out]
              rfl
    · have ty : ((y.toNat : Int) == 45) = false := byte_isnt (k := 45) h45
      have HNEG : Hid (negB (bys s) = false) := by show _ = _; unfold negB; rw [Hy.out]; simpa using h45
      by_cases h43 : y = 43
      · have tz : ((y.toNat : Int) == 43) = true := byte_is (k := 43) (by decide) h43
        obtain ⟨d, hd⟩ : ∃ d, s.extract 1 s.size = d := ⟨_, rfl⟩
        have HD : Hid (bys d = sgnD (bys s)) := by show _ = _; rw [← hd, ext_drop]; unfold sgnD; rw [Hy.out, h43, if_pos (.inr rfl)]
        clear h45 h43
        go_enter Tryz.func195, Tryz.ntmps195
        have HN : Hid (¬ (1 ≤ d.size ∧ d.size ≤ 9 ∧ (bys d).all digC = true) → numR (bys s) = none) := by
          intro h
          unfold numR
          rw [← HD.out, bys_len, if_neg h]
        have HY : Hid ((1 ≤ d.size ∧ d.size ≤ 9 ∧ (bys d).all digC = true) → numR (bys s) = some ((valFrom 0 (bys d) : Int))) := by
          intro h
          unfold numR
          rw [← HD.out, bys_len, if_pos h, HNEG.out]
          rfl
        by_cases hl1 : d.size < 1
        · have hl1' : (d.size : Int) < 1 := by omega
          have HF : Hid (numR (bys s) = none) := HN.out (by omega)
          clear hl1
          go_wp2
          go_ret2
          exact ⟨by rw [HF.out]; rfl, Ext.refl _⟩
        · have hl1' : ¬ (d.size : Int) < 1 := by omega
          by_cases hl2 : 9 < d.size
          · have hl2' : 9 < (d.size : Int) := by omega
            have HF : Hid (numR (bys s) = none) := HN.out (by omega)
            clear hl1 hl2
            go_wp2
            go_ret2
            exact ⟨by rw [HF.out]; rfl, Ext.refl _⟩
          · have hl2' : ¬ 9 < (d.size : Int) := by omega
            go_wp2
            go_loop [4, 6] (fun n i => ∃ k : Nat, k ≤ d.size ∧ i = .int .i64 k ∧ n = .int .i64 (valFrom 0 ((bys d).take k) : Int) ∧ Hid (((bys d).take k).all digC = true)) (fun _ i => d.size - (intOf i).toNat)
            case atStart => exact ⟨0, by omega, rfl, rfl, rfl⟩
            case round =>
              obtain ⟨k, hk, rfl, rfl, HA⟩ := hrel
              have hd9 : d.size ≤ 9 := by omega
              have HB : Hid (valFrom 0 ((bys d).take k) < 10 ^ k) := by
                have h := valFrom_lt ((bys d).take k) 0 HA.out
                have h2 : ((bys d).take k).length ≤ k := List.length_take_le _ _
                have h3 : 10 ^ ((bys d).take k).length ≤ 10 ^ k := Nat.pow_le_pow_right (by decide) h2
                show _ < _
                omega
              have hv9 : valFrom 0 ((bys d).take k) < 1000000000 := by
                have h3 : 10 ^ k ≤ 10 ^ 9 := Nat.pow_le_pow_right (by decide) (by omega)
                have h4 := HB.out
                have h5 : (10 : Nat) ^ 9 = 1000000000 := rfl
                omega
              by_cases hlt : k < d.size
              · obtain ⟨x, hx⟩ : ∃ x, (bys d)[k]? = some x := ⟨_, List.getElem?_eq_getElem (by rw [bys_len]; exact hlt)⟩
                have gk := bys_get hx hlt
                have hx1 : (x.toNat : Int) < 256 := by have := x.toNat_lt; omega
                have HX := hid hx
                clear hx
                have HNO : Hid (¬ (48 ≤ x.toNat ∧ x.toNat ≤ 57) → numR (bys s) = none) := by
                  intro hno
                  refine HN.out ?_
                  rintro ⟨-, -, h7⟩
                  rw [List.all_eq_true] at h7
                  exact hno ((digC_iff x).1 (h7 x (List.mem_of_getElem? HX.out)))
                by_cases h48 : (x.toNat : Int) < 48
                · have HF : Hid (numR (bys s) = none) := HNO.out (by omega)
                  go_wp2
                  go_ret2
                  exact ⟨by rw [HF.out]; rfl, Ext.refl _⟩
                · by_cases h57 : 57 < (x.toNat : Int)
                  · have HF : Hid (numR (bys s) = none) := HNO.out (by omega)
                    go_wp2
                    go_ret2
                    exact ⟨by rw [HF.out]; rfl, Ext.refl _⟩
                  · have h48' : 48 ≤ (x.toNat : Int) := by omega
                    have HT : Hid ((bys d).take (k + 1) = (bys d).take k ++ [x]) := by show _ = _; rw [List.take_add_one, HX.out]; rfl
                    have HD2 : Hid (digC x = true) := (digC_iff x).2 (by omega)
                    generalize hv : valFrom 0 ((bys d).take k) = m at *
                    go_wp2
                    refine ⟨⟨k + 1, by omega, by go_num, ?_, ?_⟩, by simp [intOf]; omega⟩
                    · rw [HT.out, valFrom_snoc, hv]
                      congr 1
                      omega
                    · rw [HT.out]
                      show _ = _
                      rw [List.all_append, HA.out]
                      simp [HD2.out]
              · obtain rfl : k = d.size := by omega
                have htk : Hid ((bys d).take d.size = bys d) := by show _ = _; rw [List.take_of_length_le (by rw [bys_len]; omega)]
                have HF : Hid (numR (bys s) = some ((valFrom 0 (bys d) : Int))) := HY.out ⟨by omega, by omega, by have := HA.out; rwa [htk.out] at this⟩
                have HW : Hid (valFrom 0 ((bys d).take d.size) = valFrom 0 (bys d)) := by show _ = _; rw [htk.out]
                generalize valFrom 0 ((bys d).take d.size) = m at *
                go_wp2
                go_ret2
                refine ⟨?_, Ext.refl _⟩
                rw [HF.out, ← HW.out]
                rfl
      · have tz : ((y.toNat : Int) == 43) = false := byte_isnt (k := 43) h43
        have HD : Hid (bys s = sgnD (bys s)) := by
          show _ = _
          unfold sgnD
          rw [Hy.out, if_neg]
          rintro (h | h)
          · injection h with h; exact h45 h
          · injection h with h; exact h43 h
        clear h45 h43
        go_enter Tryz.func195, Tryz.ntmps195
        have HN : Hid (¬ (1 ≤ s.size ∧ s.size ≤ 9 ∧ (bys s).all digC = true) → numR (bys s) = none) := by
          intro h
          unfold numR
          rw [← HD.out, bys_len, if_neg h]
        have HY : Hid ((1 ≤ s.size ∧ s.size ≤ 9 ∧ (bys s).all digC = true) → numR (bys s) = some ((valFrom 0 (bys s) : Int))) := by
          intro h
          unfold numR
          rw [← HD.out, bys_len, if_pos h, HNEG.out]
          rfl
        by_cases hl1 : s.size < 1
        · have hl1' : (s.size : Int) < 1 := by omega
          have HF : Hid (numR (bys s) = none) := HN.out (by omega)
          clear hl1
          go_wp2
          go_ret2
          exact ⟨by rw [HF.out]; rfl, Ext.refl _⟩
        · have hl1' : ¬ (s.size : Int) < 1 := by omega
          by_cases hl2 : 9 < s.size
          · have hl2' : 9 < (s.size : Int) := by omega
            have HF : Hid (numR (bys s) = none) := HN.out (by omega)
            clear hl1 hl2
            go_wp2
            go_ret2
            exact ⟨by rw [HF.out]; rfl, Ext.refl _⟩
          · have hl2' : ¬ 9 < (s.size : Int) := by omega
            go_wp2
            go_loop [4, 6] (fun n i => ∃ k : Nat, k ≤ s.size ∧ i = .int .i64 k ∧ n = .int .i64 (valFrom 0 ((bys s).take k) : Int) ∧ Hid (((bys s).take k).all digC = true)) (fun _ i => s.size - (intOf i).toNat)
            case atStart => exact ⟨0, by omega, rfl, rfl, rfl⟩
            case round =>
              obtain ⟨k, hk, rfl, rfl, HA⟩ := hrel
              have hd9 : s.size ≤ 9 := by omega
              have HB : Hid (valFrom 0 ((bys s).take k) < 10 ^ k) := by
                have h := valFrom_lt ((bys s).take k) 0 HA.out
                have h2 : ((bys s).take k).length ≤ k := List.length_take_le _ _
                have h3 : 10 ^ ((bys s).take k).length ≤ 10 ^ k := Nat.pow_le_pow_right (by decide) h2
                show _ < _
                omega
              have hv9 : valFrom 0 ((bys s).take k) < 1000000000 := by
                have h3 : 10 ^ k ≤ 10 ^ 9 := Nat.pow_le_pow_right (by decide) (by omega)
                have h4 := HB.out
                have h5 : (10 : Nat) ^ 9 = 1000000000 := rfl
                omega
              by_cases hlt : k < s.size
              · obtain ⟨x, hx⟩ : ∃ x, (bys s)[k]? = some x := ⟨_, List.getElem?_eq_getElem (by rw [bys_len]; exact hlt)⟩
                have gk := bys_get hx hlt
                have hx1 : (x.toNat : Int) < 256 := by have := x.toNat_lt; omega
                have HX := hid hx
                clear hx
                have HNO : Hid (¬ (48 ≤ x.toNat ∧ x.toNat ≤ 57) → numR (bys s) = none) := by
                  intro hno
                  refine HN.out ?_
                  rintro ⟨-, -, h7⟩
                  rw [List.all_eq_true] at h7
                  exact hno ((digC_iff x).1 (h7 x (List.mem_of_getElem? HX.out)))
                by_cases h48 : (x.toNat : Int) < 48
                · have HF : Hid (numR (bys s) = none) := HNO.out (by omega)
                  go_wp2
                  go_ret2
                  exact ⟨by rw [HF.out]; rfl, Ext.refl _⟩
                · by_cases h57 : 57 < (x.toNat : Int)
                  · have HF : Hid (numR (bys s) = none) := HNO.out (by omega)
                    go_wp2
                    go_ret2
                    exact ⟨by rw [HF.out]; rfl, Ext.refl _⟩
                  · have h48' : 48 ≤ (x.toNat : Int) := by omega
                    have HT : Hid ((bys s).take (k + 1) = (bys s).take k ++ [x]) := by show _ = _; rw [List.take_add_one, HX.out]; rfl
                    have HD2 : Hid (digC x = true) := (digC_iff x).2 (by omega)
                    generalize hv : valFrom 0 ((bys s).take k) = m at *
                    go_wp2
                    refine ⟨⟨k + 1, by omega, by go_num, ?_, ?_⟩, by simp [intOf]; omega⟩
                    · rw [HT.out, valFrom_snoc, hv]
                      congr 1
                      omega
                    · rw [HT.out]
                      show _ = _
                      rw [List.all_append, HA.out]
                      simp [HD2.out]
              · obtain rfl : k = s.size := by omega
                have htk : Hid ((bys s).take s.size = bys s) := by show _ = _; rw [List.take_of_length_le (by rw [bys_len]; omega)]
                have HF : Hid (numR (bys s) = some ((valFrom 0 (bys s) : Int))) := HY.out ⟨by omega, by omega, by have := HA.out; rwa [htk.out] at this⟩
                have HW : Hid (valFrom 0 ((bys s).take s.size) = valFrom 0 (bys s)) := by show _ = _; rw [htk.out]
                generalize valFrom 0 ((bys s).take s.size) = m at *
                go_wp2
                go_ret2
                refine ⟨?_, Ext.refl _⟩
                rw [HF.out, ← HW.out]
                rfl
/-- The text of b times i, and of a pair. -/
def secondR (b : Int) : List UInt8 := if b = 1 then [105] else if b = -1 then [45, 105] else Lib.itoa b ++ [105]
def pairR (a b : Int) : List UInt8 := if b = 0 then Lib.itoa a else if a = 0 then secondR b else if 0 < b then Lib.itoa a ++ 43 :: secondR b else Lib.itoa a ++ secondR b
theorem dec_le : ∀ (n u : Nat), u ≤ n → (Lib.decDigits u).length ≤ u + 1
  | n, u, hn => by
    by_cases h : u < 10
    · rw [dec_small h]; simp
    · rw [dec_big h]
      cases n with
      | zero => omega
      | succ n =>
        have := dec_le n (u / 10) (by omega)
        rw [List.length_append, List.length_cons, List.length_nil]
        omega
theorem itoa_le (n : Int) : (Lib.itoa n).length ≤ n.natAbs + 2 := by
  unfold Lib.itoa
  split
  · have := dec_le _ n.natAbs (Nat.le_refl _); rw [List.length_cons]; omega
  · have := dec_le _ n.toNat (Nat.le_refl _); omega
theorem second_le (n : Int) : (secondR n).length ≤ n.natAbs + 3 := by
  unfold secondR
  split
  · simp
  · split
    · simp
    · have := itoa_le n; rw [List.length_append, List.length_cons, List.length_nil]; omega
set_option maxHeartbeats 1000000 in
theorem second_any (b : Int) (w : World) (hG : Gl w) (h0 : -1000000000 ≤ b) (h1 : b ≤ 1000000000) : Calls Tryz.prog 215 #[.int .i64 b] w fun e w' => e = .returned (.string (str (secondR b))) ∧ Ext w w' := by
  have HG := hid hG
  clear hG
  by_cases hb1 : b = 1
  · have t1 : (b == 1) = true := by rw [hb1]; rfl
    have HF : Hid (secondR b = [105]) := by show _ = _; unfold secondR; rw [if_pos hb1]
    clear hb1 h0 h1
    go_enter Tryz.func215, Tryz.ntmps215
    go_wp2
    go_ret
    exact ⟨by rw [HF.out]; rfl, Ext.refl _⟩
  · have t1 : (b == 1) = false := by rw [beq_eq_false_iff_ne]; exact hb1
    by_cases hb2 : b = -1
    · have t2 : (b == -1) = true := by rw [hb2]; rfl
      have HF : Hid (secondR b = [45, 105]) := by show _ = _; unfold secondR; rw [if_neg hb1, if_pos hb2]
      clear hb1 hb2 h0 h1
      go_enter Tryz.func215, Tryz.ntmps215
      go_wp2
      go_ret
      exact ⟨by rw [HF.out]; rfl, Ext.refl _⟩
    · have t2 : (b == -1) = false := by rw [beq_eq_false_iff_ne]; exact hb2
      have HF : Hid (secondR b = Lib.itoa b ++ [105]) := by show _ = _; unfold secondR; rw [if_neg hb1, if_neg hb2]
      have z1 : ¬ 9223372036854775807 < (Lib.itoa b).length + 1 := by have := itoa_le b; omega
      clear hb1 hb2
      go_enter Tryz.func215, Tryz.ntmps215
      go_wp2_with (go_at_call 200; (with_reducible refine (formatint_any _ _ HG.out (by omega) (by omega)).mono ?_); rintro e w2 ⟨rfl, hx2⟩; have HX2 := hid hx2; clear hx2)
      go_ret
      exact ⟨by rw [HF.out, ← str_app]; rfl, HX2.out⟩
def withinR (a b : Int) : Bool := decide (-1000000 ≤ a) && decide (a ≤ 1000000) && decide (-1000000 ≤ b) && decide (b ≤ 1000000)
set_option maxHeartbeats 1000000 in
theorem within_any (a b : Int) (w : World) : Calls Tryz.prog 196 #[.agg #[.int .i64 a, .int .i64 b]] w fun e w' => e = .returned (.bool (withinR a b)) ∧ Ext w w' := by
  by_cases h1 : -1000000 ≤ a
  · by_cases h2 : a ≤ 1000000
    · by_cases h3 : -1000000 ≤ b
      · by_cases h4 : b ≤ 1000000
        all_goals
          have HF : Hid (withinR a b = decide (b ≤ 1000000)) := by show _ = _; unfold withinR; simp [h1, h2, h3]
          have h5 : decide (b ≤ 1000000) = decide (b ≤ 1000000) := rfl
          go_enter Tryz.func196, Tryz.ntmps196
          go_wp2
          go_ret
          exact ⟨by rw [HF.out]; first | rfl | simp [h4], Ext.alloc _ _⟩
      · have HF : Hid (withinR a b = false) := by show _ = _; unfold withinR; simp [h3]
        go_enter Tryz.func196, Tryz.ntmps196
        go_wp2
        go_ret
        exact ⟨by rw [HF.out]; rfl, Ext.alloc _ _⟩
    · have HF : Hid (withinR a b = false) := by show _ = _; unfold withinR; simp [h2]
      go_enter Tryz.func196, Tryz.ntmps196
      go_wp2
      go_ret
      exact ⟨by rw [HF.out]; rfl, Ext.alloc _ _⟩
  · have HF : Hid (withinR a b = false) := by show _ = _; unfold withinR; simp [h1]
    go_enter Tryz.func196, Tryz.ntmps196
    go_wp2
    go_ret
    exact ⟨by rw [HF.out]; rfl, Ext.alloc _ _⟩
set_option maxHeartbeats 1000000 in
theorem pairtext_any (a b : Int) (w : World) (hG : Gl w) (ha : -1000000000 ≤ a ∧ a ≤ 1000000000) (hb : -1000000000 ≤ b ∧ b ≤ 1000000000) :
    Calls Tryz.prog 197 #[.agg #[.int .i64 a, .int .i64 b]] w fun e w' => e = .returned (.string (str (pairR a b))) ∧ Ext w w' := by
  have HG := hid hG
  have HA := hid ha
  have HB := hid hb
  clear hG ha hb
  by_cases b0 : b = 0
  · have t1 : (b == 0) = true := by rw [b0]; rfl
    have HF : Hid (pairR a b = Lib.itoa a) := by show _ = _; unfold pairR; rw [if_pos b0]
    clear b0
    go_enter Tryz.func197, Tryz.ntmps197
    go_wp2_with (go_at_call 200; (with_reducible refine (formatint_any _ _ (HG.out.ext (Ext.alloc _ _)) (by have := HA.out; omega) (by have := HA.out; omega)).mono ?_); rintro e w2 ⟨rfl, hx2⟩; have HX2 := hid hx2; clear hx2)
    go_ret
    exact ⟨by rw [HF.out]; rfl, (Ext.alloc _ _).trans HX2.out⟩
  · have t1 : (b == 0) = false := by rw [beq_eq_false_iff_ne]; exact b0
    by_cases a0 : a = 0
    · have t2 : (a == 0) = true := by rw [a0]; rfl
      have HF : Hid (pairR a b = secondR b) := by show _ = _; unfold pairR; rw [if_neg b0, if_pos a0]
      clear b0 a0
      go_enter Tryz.func197, Tryz.ntmps197
      go_wp2_with (go_at_call 215; (with_reducible refine (second_any _ _ (HG.out.ext (Ext.alloc _ _)) HB.out.1 HB.out.2).mono ?_); rintro e w2 ⟨rfl, hx2⟩; have HX2 := hid hx2; clear hx2)
      go_ret
      exact ⟨by rw [HF.out]; rfl, (Ext.alloc _ _).trans HX2.out⟩
    · have t2 : (a == 0) = false := by rw [beq_eq_false_iff_ne]; exact a0
      by_cases hp : 0 < b
      · have HF : Hid (pairR a b = Lib.itoa a ++ 43 :: secondR b) := by show _ = _; unfold pairR; rw [if_neg b0, if_neg a0, if_pos hp]
        have z1 : ¬ 9223372036854775807 < (Lib.itoa a).length + 1 := by have := itoa_le a; have := HA.out; omega
        have z2 : ¬ 9223372036854775807 < (Lib.itoa a).length + 1 + (secondR b).length := by have := itoa_le a; have := second_le b; have := HA.out; have := HB.out; omega
        clear b0 a0
        go_enter Tryz.func197, Tryz.ntmps197
        go_wp2
        refine wp_region_plan (.read 0 (.read 1 (.read 4 (.read 5 (.main 2 (.read 3 (.main 6 (.read 7 (.read 8 .done))))))))) (by kernel_rfl) (by kernel_rfl) ?_
        intro wD hxD
        have XE : Hid (Ext wD wD) := Ext.refl _
        have X0 : Hid (Ext w wD) := (Ext.alloc _ _).trans hxD
        have p0 := cell_later (box_a w #[.int .i64 a, .int .i64 b] 201 0) _ hxD |> cell_later
        have p1 := cell_later (box_a w #[.int .i64 a, .int .i64 b] 201 1) _ hxD |> cell_later
        repeat' (first
          | (refine walks_move rfl rfl ?_; simp only [Act.put, Act.eval, List.setIfInBounds_toArray, List.set_cons_zero, List.set_cons_succ, Array.getD_eq_getD_getElem?, List.getElem?_toArray, List.getElem?_cons_zero, List.getElem?_cons_succ, Option.getD_some])
          | (refine walks_assign rfl rfl ?_; simp only [Act.put, Act.eval, List.setIfInBounds_toArray, List.set_cons_zero, List.set_cons_succ, Array.getD_eq_getD_getElem?, List.getElem?_toArray, List.getElem?_cons_zero, List.getElem?_cons_succ, Option.getD_some])
          | (refine walks_skip rfl rfl ?_; simp only [Act.put, List.setIfInBounds_toArray, List.set_cons_zero, List.set_cons_succ])
          | (refine walks_unwanted rfl rfl ?_; simp only [Act.put, List.setIfInBounds_toArray, List.set_cons_zero, List.set_cons_succ])
          | (refine walks_read (v := ?_) rfl rfl (fun w' hE => ?_) ?_; rotate_left 1; (· ((try (have hEx := Ext.trans (Hid.out XE) hE)); go_simp; (try go_bits); with_reducible rfl)); simp only [Act.put, List.setIfInBounds_toArray, List.set_cons_zero, List.set_cons_succ])
          | (refine walks_alt ?_ ?_)
          | (refine walks_main rfl rfl (fun K hK => ?_); go_wp2_with (first | (go_at_call 200; (with_reducible refine (formatint_any _ _ (HG.out.ext (X0.out.trans XE.out)) (by have := HA.out; omega) (by have := HA.out; omega)).mono ?_); rintro e w2 ⟨rfl, hx2⟩; have XE' := hid (Ext.trans (Hid.out XE) hx2); clear XE; have XE := XE'; clear XE') | (go_at_call 215; (with_reducible refine (second_any _ _ (HG.out.ext (X0.out.trans XE.out)) HB.out.1 HB.out.2).mono ?_); rintro e w3 ⟨rfl, hx3⟩; have XE' := hid (Ext.trans (Hid.out XE) hx3); clear XE; have XE := XE'; clear XE')); refine hK _ _ (by first | assumption | exact Ext.alloc _ _ | exact Ext.refl _) ?_; clear hK K; try simp only [Act.put, List.setIfInBounds_toArray, List.set_cons_zero, List.set_cons_succ]))
        refine walks_done ?_
        go_wp2
        go_ret
        refine ⟨?_, X0.out.trans XE.out⟩
        rw [HF.out, show Lib.itoa a ++ 43 :: secondR b = (Lib.itoa a ++ [43]) ++ secondR b by simp, ← str_app, ← str_app]
        rfl
      · have HF : Hid (pairR a b = Lib.itoa a ++ secondR b) := by show _ = _; unfold pairR; rw [if_neg b0, if_neg a0, if_neg hp]
        have z2 : ¬ 9223372036854775807 < (Lib.itoa a).length + (secondR b).length := by have := itoa_le a; have := second_le b; have := HA.out; have := HB.out; omega
        clear b0 a0
        go_enter Tryz.func197, Tryz.ntmps197
        go_wp2
        refine wp_region_plan (.read 0 (.read 1 (.read 3 (.read 4 (.main 2 (.main 5 (.read 6 (.read 7 .done)))))))) (by kernel_rfl) (by kernel_rfl) ?_
        intro wD hxD
        have XE : Hid (Ext wD wD) := Ext.refl _
        have X0 : Hid (Ext w wD) := (Ext.alloc _ _).trans hxD
        have p0 := cell_later (box_a w #[.int .i64 a, .int .i64 b] 201 0) _ hxD |> cell_later
        have p1 := cell_later (box_a w #[.int .i64 a, .int .i64 b] 201 1) _ hxD |> cell_later
        repeat' (first
          | (refine walks_move rfl rfl ?_; simp only [Act.put, Act.eval, List.setIfInBounds_toArray, List.set_cons_zero, List.set_cons_succ, Array.getD_eq_getD_getElem?, List.getElem?_toArray, List.getElem?_cons_zero, List.getElem?_cons_succ, Option.getD_some])
          | (refine walks_assign rfl rfl ?_; simp only [Act.put, Act.eval, List.setIfInBounds_toArray, List.set_cons_zero, List.set_cons_succ, Array.getD_eq_getD_getElem?, List.getElem?_toArray, List.getElem?_cons_zero, List.getElem?_cons_succ, Option.getD_some])
          | (refine walks_skip rfl rfl ?_; simp only [Act.put, List.setIfInBounds_toArray, List.set_cons_zero, List.set_cons_succ])
          | (refine walks_unwanted rfl rfl ?_; simp only [Act.put, List.setIfInBounds_toArray, List.set_cons_zero, List.set_cons_succ])
          | (refine walks_read (v := ?_) rfl rfl (fun w' hE => ?_) ?_; rotate_left 1; (· ((try (have hEx := Ext.trans (Hid.out XE) hE)); go_simp; (try go_bits); with_reducible rfl)); simp only [Act.put, List.setIfInBounds_toArray, List.set_cons_zero, List.set_cons_succ])
          | (refine walks_alt ?_ ?_)
          | (refine walks_main rfl rfl (fun K hK => ?_); go_wp2_with (first | (go_at_call 200; (with_reducible refine (formatint_any _ _ (HG.out.ext (X0.out.trans XE.out)) (by have := HA.out; omega) (by have := HA.out; omega)).mono ?_); rintro e w2 ⟨rfl, hx2⟩; have XE' := hid (Ext.trans (Hid.out XE) hx2); clear XE; have XE := XE'; clear XE') | (go_at_call 215; (with_reducible refine (second_any _ _ (HG.out.ext (X0.out.trans XE.out)) HB.out.1 HB.out.2).mono ?_); rintro e w3 ⟨rfl, hx3⟩; have XE' := hid (Ext.trans (Hid.out XE) hx3); clear XE; have XE := XE'; clear XE')); refine hK _ _ (by first | assumption | exact Ext.alloc _ _ | exact Ext.refl _) ?_; clear hK K; try simp only [Act.put, List.setIfInBounds_toArray, List.set_cons_zero, List.set_cons_succ]))
        refine walks_done ?_
        go_wp2
        go_ret
        refine ⟨?_, X0.out.trans XE.out⟩
        rw [HF.out, ← str_app]
        rfl
end Go.Proofs.YtencmdpjiafnaaaGreatDoor
