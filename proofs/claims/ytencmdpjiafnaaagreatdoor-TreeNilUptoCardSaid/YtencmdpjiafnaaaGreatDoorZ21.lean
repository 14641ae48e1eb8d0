import Derived.Test.YtencmdpjiafnaaaGreatDoorZ18
import Derived.Test.YtencmdpjiafnaaaGreatDoorZ19
import Derived.Test.YtencmdpjiafnaaaGreatDoorZ20
/- The walk of the reference's Parse of pairs. -/
namespace Go.Proofs.YtencmdpjiafnaaaGreatDoor
open Go.RowKit
set_option maxRecDepth 100000
set_option linter.unusedSimpArgs false
set_option linter.unusedVariables false

/-- The last sign below a place, but for the first byte; nought: there is none. -/
def lastS (v : List UInt8) : Nat → Nat
  | 0 => 0
  | i + 1 => if 1 ≤ i ∧ (v[i]? = some 43 ∨ v[i]? = some 45) then i else lastS v i
theorem lastS_lt (v : List UInt8) : ∀ i, 0 < i → lastS v i < i
  | 0, h => by omega
  | 1, _ => by simp [lastS]
  | i + 2, _ => by
    have := lastS_lt v (i + 1) (by omega)
    unfold lastS
    split <;> omega
def atR (v : List UInt8) : Nat := if v.getLast? = some 105 then lastS v v.length else v.length
def secR (b : List UInt8) : Option Int := if b = [] ∨ b = [43] then some 1 else if b = [45] then some (-1) else numR b
def pairP (a b : Option Int) (v : List UInt8) : Option (Int × Int) :=
  match a, b with
  | some a, some b => if withinR a b = true ∧ pairR a b = v then some (a, b) else none
  | _, _ => none
/-- The pair that a text spells. -/
def planeR (v : List UInt8) : Option (Int × Int) :=
  pairP (if 0 < atR v then numR (v.take (atR v)) else some 0) (if atR v < v.length then secR ((v.take (v.length - 1)).drop (atR v)) else some 0) v
def PlaneSays (w : World) (v : List UInt8) (e : Ending) (w' : World) : Prop :=
  e = .returned (.tuple #[.agg #[.int .i64 ((planeR v).getD (0, 0)).1, .int .i64 ((planeR v).getD (0, 0)).2], .int .i64 (if (planeR v).isSome then 0 else 2)]) ∧ Ext w w'
theorem num_none {s1 : ByteArray} (h : s1.size ≤ 4000000) (hn : numR (bys s1) = none) : ∀ w, Calls Tryz.prog 195 #[.string s1] w fun e w' => e = .returned (.tuple #[.int .i64 0, .bool false]) ∧ Ext w w' := fun w => by
  have := number_any s1 w h
  unfold NumSays at this
  rw [hn] at this
  exact this
theorem num_some {s1 : ByteArray} {a : Int} (h : s1.size ≤ 4000000) (hn : numR (bys s1) = some a) : ∀ w, Calls Tryz.prog 195 #[.string s1] w fun e w' => e = .returned (.tuple #[.int .i64 a, .bool true]) ∧ Ext w w' := fun w => by
  have := number_any s1 w h
  unfold NumSays at this
  rw [hn] at this
  exact this
set_option maxHeartbeats 2000000 in
theorem rplane_any (s : ByteArray) (w : World) (hG : Gl w) (hs : s.size ≤ 4000000) : Calls Tryz.prog 169 #[.string s] w (PlaneSays w (bys s)) := by
  have Hs := hid hs
  have HG := hid hG
  by_cases h0 : s.size = 0
  · have HPL : Hid (planeR (bys s) = pairP (some 0) (some 0) (bys s)) := by rw [str_emp h0]; rfl
    have HAB : Hid ((-1000000000 ≤ (0 : Int) ∧ (0 : Int) ≤ 1000000000) ∧ (-1000000000 ≤ (0 : Int) ∧ (0 : Int) ≤ 1000000000)) := ⟨by omega, by omega⟩
    have t0 : ¬ 0 < (s.size : Int) := by omega
    clear h0 hs hG
    cases hwi : withinR 0 0 with
    | false =>
      try exact absurd hwi (by decide)
      all_goals
        have HF : Hid (planeR (bys s) = none) := by show _ = _; rw [HPL.out]; unfold pairP; simp [hwi]
        have HWI := hid hwi
        clear hwi
        go_enter Tryz.func169, Tryz.ntmps169
        go_wp2_with (first
          | (go_at_call 195; (with_reducible refine (HC1 _).mono ?_); rintro e w1 ⟨rfl, hx1⟩; obtain ⟨hr, hp⟩ := two_boxes hx1; have HR := hid (hr.aside (Nat.le_succ _) (by omega) 0 (.int .i64 0) (k := w.heap.size + 1)); have HP := hid (hp.set0 (.int .i64 0)); have c0 := hp.cell (i := 0) rfl; have c1 := hp.cell (i := 1) rfl; have f0 := hp.frozen 0; have f1 := hp.frozen 1; have r0 := hr.cell (i := 0) rfl; have r1 := hr.cell (i := 1) rfl; have g0 := hr.frozen 0; have g1 := hr.frozen 1; clear hx1 hr hp)
          | (go_at_call 195; (with_reducible refine (HC2 _).mono ?_); rintro e w2 ⟨rfl, hx2⟩; (try clear c0 c1 f0 f1 r0 r1 g0 g1); have hr := HR.out.later hx2; have hp := HP.out.later hx2; clear HR HP; have HR := hid (hr.aside (Nat.le_succ _) (by omega) 1 (.int .i64 0) (k := w.heap.size + 1)); have HP := hid (hp.set1 (.int .i64 0)); have c0 := hp.cell (i := 0) rfl; have c1 := hp.cell (i := 1) rfl; have f0 := hp.frozen 0; have f1 := hp.frozen 1; have r0 := hr.cell (i := 0) rfl; have r1 := hr.cell (i := 1) rfl; have g0 := hr.frozen 0; have g1 := hr.frozen 1; clear hx2 hr hp)
          | (go_at_call 196; (with_reducible refine (within_any 0 0 _).mono ?_); rintro e w3 ⟨he, hx3⟩; rw [HWI.out] at he; subst he; (try clear c0 c1 f0 f1 r0 r1 g0 g1); have hr : Bx w w3 w.heap.size 201 #[.int .i64 0, .int .i64 0] := (by first | exact HR.out.later hx3 | exact (HR.out.aside (k := w.heap.size + 1) (Nat.le_succ _) (by omega) 1 _).later hx3 | exact (two_boxes hx3).1); have hp : Bx w w3 (w.heap.size + 1) 201 #[.int .i64 0, .int .i64 0] := (by first | exact HP.out.later hx3 | exact (HP.out.set1 _).later hx3 | exact (two_boxes hx3).2); (try clear HR HP); have HR := hid hr; have HP := hid hp; have c0 := hp.cell (i := 0) rfl; have c1 := hp.cell (i := 1) rfl; have f0 := hp.frozen 0; have f1 := hp.frozen 1; have r0 := hr.cell (i := 0) rfl; have r1 := hr.cell (i := 1) rfl; have g0 := hr.frozen 0; have g1 := hr.frozen 1; clear hx3 hr hp)
          | (go_at_call 197; (with_reducible refine (pairtext_any 0 0 _ (HG.out.ext HP.out.ext) HAB.out.1 HAB.out.2).mono ?_); rintro e w4 ⟨rfl, hx4⟩; (try clear c0 c1 f0 f1 r0 r1 g0 g1); have hr := HR.out.later hx4; have hp := HP.out.later hx4; clear HR HP; have HR := hid hr; have HP := hid hp; have c0 := hp.cell (i := 0) rfl; have c1 := hp.cell (i := 1) rfl; have f0 := hp.frozen 0; have f1 := hp.frozen 1; have r0 := hr.cell (i := 0) rfl; have r1 := hr.cell (i := 1) rfl; have g0 := hr.frozen 0; have g1 := hr.frozen 1; clear hx4 hr hp)
          )
        (try simp only [Exit.inBlock, Exit.then])
        refine ret_cell_tmp _ rfl rfl ((HR.out.set0 (.int .i64 0)).set1 (.int .i64 0)) Tryz.underlying201 rfl (by kernel_rfl) rfl ?_
        exact ⟨by rw [HF.out]; rfl, (HP.out.ext.setCell (Nat.le_refl _) _).setCell (Nat.le_refl _) _⟩
    | true =>
      have HWI := hid hwi
      by_cases htx : pairR 0 0 = bys s
      · have te : (pairR 0 0 == s.toList) = true := by rw [ByteArray.toList_eq, beq_iff_eq]; exact htx
        have HF : Hid (planeR (bys s) = some ((0), (0))) := by show _ = _; rw [HPL.out]; unfold pairP; simp [hwi, htx]
        clear hwi htx
        go_enter Tryz.func169, Tryz.ntmps169
        go_wp2_with (first
          | (go_at_call 195; (with_reducible refine (HC1 _).mono ?_); rintro e w1 ⟨rfl, hx1⟩; obtain ⟨hr, hp⟩ := two_boxes hx1; have HR := hid (hr.aside (Nat.le_succ _) (by omega) 0 (.int .i64 0) (k := w.heap.size + 1)); have HP := hid (hp.set0 (.int .i64 0)); have c0 := hp.cell (i := 0) rfl; have c1 := hp.cell (i := 1) rfl; have f0 := hp.frozen 0; have f1 := hp.frozen 1; have r0 := hr.cell (i := 0) rfl; have r1 := hr.cell (i := 1) rfl; have g0 := hr.frozen 0; have g1 := hr.frozen 1; clear hx1 hr hp)
          | (go_at_call 195; (with_reducible refine (HC2 _).mono ?_); rintro e w2 ⟨rfl, hx2⟩; (try clear c0 c1 f0 f1 r0 r1 g0 g1); have hr := HR.out.later hx2; have hp := HP.out.later hx2; clear HR HP; have HR := hid (hr.aside (Nat.le_succ _) (by omega) 1 (.int .i64 0) (k := w.heap.size + 1)); have HP := hid (hp.set1 (.int .i64 0)); have c0 := hp.cell (i := 0) rfl; have c1 := hp.cell (i := 1) rfl; have f0 := hp.frozen 0; have f1 := hp.frozen 1; have r0 := hr.cell (i := 0) rfl; have r1 := hr.cell (i := 1) rfl; have g0 := hr.frozen 0; have g1 := hr.frozen 1; clear hx2 hr hp)
          | (go_at_call 196; (with_reducible refine (within_any 0 0 _).mono ?_); rintro e w3 ⟨he, hx3⟩; rw [HWI.out] at he; subst he; (try clear c0 c1 f0 f1 r0 r1 g0 g1); have hr : Bx w w3 w.heap.size 201 #[.int .i64 0, .int .i64 0] := (by first | exact HR.out.later hx3 | exact (HR.out.aside (k := w.heap.size + 1) (Nat.le_succ _) (by omega) 1 _).later hx3 | exact (two_boxes hx3).1); have hp : Bx w w3 (w.heap.size + 1) 201 #[.int .i64 0, .int .i64 0] := (by first | exact HP.out.later hx3 | exact (HP.out.set1 _).later hx3 | exact (two_boxes hx3).2); (try clear HR HP); have HR := hid hr; have HP := hid hp; have c0 := hp.cell (i := 0) rfl; have c1 := hp.cell (i := 1) rfl; have f0 := hp.frozen 0; have f1 := hp.frozen 1; have r0 := hr.cell (i := 0) rfl; have r1 := hr.cell (i := 1) rfl; have g0 := hr.frozen 0; have g1 := hr.frozen 1; clear hx3 hr hp)
          | (go_at_call 197; (with_reducible refine (pairtext_any 0 0 _ (HG.out.ext HP.out.ext) HAB.out.1 HAB.out.2).mono ?_); rintro e w4 ⟨rfl, hx4⟩; (try clear c0 c1 f0 f1 r0 r1 g0 g1); have hr := HR.out.later hx4; have hp := HP.out.later hx4; clear HR HP; have HR := hid hr; have HP := hid hp; have c0 := hp.cell (i := 0) rfl; have c1 := hp.cell (i := 1) rfl; have f0 := hp.frozen 0; have f1 := hp.frozen 1; have r0 := hr.cell (i := 0) rfl; have r1 := hr.cell (i := 1) rfl; have g0 := hr.frozen 0; have g1 := hr.frozen 1; clear hx4 hr hp)
          )
        (try simp only [Exit.inBlock, Exit.then])
        refine ret_cell_tmp _ rfl rfl ((HR.out.set0 (.int .i64 0)).set1 (.int .i64 0)) Tryz.underlying201 rfl (by kernel_rfl) rfl ?_
        exact ⟨by rw [HF.out]; rfl, (HP.out.ext.setCell (Nat.le_refl _) _).setCell (Nat.le_refl _) _⟩
      · have te : (pairR 0 0 == s.toList) = false := by rw [ByteArray.toList_eq, beq_eq_false_iff_ne]; exact htx
        have HF : Hid (planeR (bys s) = none) := by show _ = _; rw [HPL.out]; unfold pairP; simp [hwi, htx]
        clear hwi htx
        go_enter Tryz.func169, Tryz.ntmps169
        go_wp2_with (first
          | (go_at_call 195; (with_reducible refine (HC1 _).mono ?_); rintro e w1 ⟨rfl, hx1⟩; obtain ⟨hr, hp⟩ := two_boxes hx1; have HR := hid (hr.aside (Nat.le_succ _) (by omega) 0 (.int .i64 0) (k := w.heap.size + 1)); have HP := hid (hp.set0 (.int .i64 0)); have c0 := hp.cell (i := 0) rfl; have c1 := hp.cell (i := 1) rfl; have f0 := hp.frozen 0; have f1 := hp.frozen 1; have r0 := hr.cell (i := 0) rfl; have r1 := hr.cell (i := 1) rfl; have g0 := hr.frozen 0; have g1 := hr.frozen 1; clear hx1 hr hp)
          | (go_at_call 195; (with_reducible refine (HC2 _).mono ?_); rintro e w2 ⟨rfl, hx2⟩; (try clear c0 c1 f0 f1 r0 r1 g0 g1); have hr := HR.out.later hx2; have hp := HP.out.later hx2; clear HR HP; have HR := hid (hr.aside (Nat.le_succ _) (by omega) 1 (.int .i64 0) (k := w.heap.size + 1)); have HP := hid (hp.set1 (.int .i64 0)); have c0 := hp.cell (i := 0) rfl; have c1 := hp.cell (i := 1) rfl; have f0 := hp.frozen 0; have f1 := hp.frozen 1; have r0 := hr.cell (i := 0) rfl; have r1 := hr.cell (i := 1) rfl; have g0 := hr.frozen 0; have g1 := hr.frozen 1; clear hx2 hr hp)
          | (go_at_call 196; (with_reducible refine (within_any 0 0 _).mono ?_); rintro e w3 ⟨he, hx3⟩; rw [HWI.out] at he; subst he; (try clear c0 c1 f0 f1 r0 r1 g0 g1); have hr : Bx w w3 w.heap.size 201 #[.int .i64 0, .int .i64 0] := (by first | exact HR.out.later hx3 | exact (HR.out.aside (k := w.heap.size + 1) (Nat.le_succ _) (by omega) 1 _).later hx3 | exact (two_boxes hx3).1); have hp : Bx w w3 (w.heap.size + 1) 201 #[.int .i64 0, .int .i64 0] := (by first | exact HP.out.later hx3 | exact (HP.out.set1 _).later hx3 | exact (two_boxes hx3).2); (try clear HR HP); have HR := hid hr; have HP := hid hp; have c0 := hp.cell (i := 0) rfl; have c1 := hp.cell (i := 1) rfl; have f0 := hp.frozen 0; have f1 := hp.frozen 1; have r0 := hr.cell (i := 0) rfl; have r1 := hr.cell (i := 1) rfl; have g0 := hr.frozen 0; have g1 := hr.frozen 1; clear hx3 hr hp)
          | (go_at_call 197; (with_reducible refine (pairtext_any 0 0 _ (HG.out.ext HP.out.ext) HAB.out.1 HAB.out.2).mono ?_); rintro e w4 ⟨rfl, hx4⟩; (try clear c0 c1 f0 f1 r0 r1 g0 g1); have hr := HR.out.later hx4; have hp := HP.out.later hx4; clear HR HP; have HR := hid hr; have HP := hid hp; have c0 := hp.cell (i := 0) rfl; have c1 := hp.cell (i := 1) rfl; have f0 := hp.frozen 0; have f1 := hp.frozen 1; have r0 := hr.cell (i := 0) rfl; have r1 := hr.cell (i := 1) rfl; have g0 := hr.frozen 0; have g1 := hr.frozen 1; clear hx4 hr hp)
          )
        (try simp only [Exit.inBlock, Exit.then])
        refine ret_cell_tmp _ rfl rfl ((HR.out.set0 (.int .i64 0)).set1 (.int .i64 0)) Tryz.underlying201 rfl (by kernel_rfl) rfl ?_
        exact ⟨by rw [HF.out]; rfl, (HP.out.ext.setCell (Nat.le_refl _) _).setCell (Nat.le_refl _) _⟩
  · have t0 : 0 < (s.size : Int) := by omega
    obtain ⟨y, hy⟩ : ∃ y, (bys s)[s.size - 1]? = some y := ⟨_, List.getElem?_eq_getElem (by rw [bys_len]; omega)⟩
    have hsz : s.size - 1 < s.size := by omega
    have gy := bys_get hy hsz
    have HL : Hid ((bys s).getLast? = some y) := by show _ = _; rw [List.getLast?_eq_getElem?, bys_len, hy]
    have z1 : ((s.size : Int) - 1).toNat = s.size - 1 := by omega
    have z2 : 0 ≤ (s.size : Int) - 1 := by omega
    clear hy
    by_cases h105 : y = 105
    · have ty : ((y.toNat : Int) == 105) = true := byte_is (k := 105) (by decide) h105
      have HA : Hid (atR (bys s) = lastS (bys s) s.size) := by show _ = _; unfold atR; rw [HL.out, if_pos (by rw [h105]), bys_len]
      clear h105 hG
      go_enter Tryz.func169, Tryz.ntmps169
      go_wp2
      go_loop [4, 5] (fun v i => ∃ j : Nat, 1 ≤ j ∧ j ≤ s.size ∧ i = .int .i64 j ∧ v = .int .i64 (lastS (bys s) j : Int)) (fun _ i => s.size - (intOf i).toNat)
      case atStart => exact ⟨1, by omega, by omega, rfl, rfl⟩
      case round =>
        obtain ⟨j, hj1, hj, rfl, rfl⟩ := hrel
        by_cases hlt : j < s.size
        · obtain ⟨x, hx⟩ := at_some hlt
          have gx := bys_get hx hlt
          by_cases hc : x = 43 ∨ x = 45
          · have HH : Hid (lastS (bys s) (j + 1) = j) := by
              show _ = _
              unfold lastS
              rw [if_pos ⟨hj1, by rw [hx]; exact hc.imp (fun h => by rw [h]) (fun h => by rw [h])⟩]
            have tc : ((x.toNat : Int) == 43) = true ∨ (((x.toNat : Int) == 43) = false ∧ ((x.toNat : Int) == 45) = true) := by
              rcases hc with rfl | rfl
              · exact .inl rfl
              · exact .inr ⟨rfl, rfl⟩
            clear hx hc
            rcases tc with q1 | ⟨q1, q2⟩
            all_goals
              go_wp2
              exact ⟨⟨j + 1, by omega, by omega, by go_num, by rw [HH.out]⟩, by simp [intOf]; omega⟩
          · have HH : Hid (lastS (bys s) (j + 1) = lastS (bys s) j) := by
              show _ = _
              conv => lhs; unfold lastS
              rw [if_neg]
              rintro ⟨-, h⟩
              rw [hx] at h
              exact hc (h.imp (fun h => by injection h) (fun h => by injection h))
            have q1 : ((x.toNat : Int) == 43) = false := byte_isnt (k := 43) (fun e => hc (.inl e))
            have q2 : ((x.toNat : Int) == 45) = false := byte_isnt (k := 45) (fun e => hc (.inr e))
            clear hx hc
            go_wp2
            exact ⟨⟨j + 1, by omega, by omega, by go_num, by rw [HH.out]⟩, by simp [intOf]; omega⟩
        · obtain rfl : j = s.size := by omega
          have hkl := lastS_lt (bys s) s.size (by omega)
          have HPQ : Hid (planeR (bys s) = pairP (if 0 < lastS (bys s) s.size then numR ((bys s).take (lastS (bys s) s.size)) else some 0) (secR (((bys s).take (s.size - 1)).drop (lastS (bys s) s.size))) (bys s)) := by
            show _ = _
            unfold planeR
            rw [HA.out, if_pos (show lastS (bys s) s.size < (bys s).length by rw [bys_len]; exact hkl), bys_len]
          clear HA
          generalize lastS (bys s) s.size = k at *
          obtain ⟨m, hm⟩ : ∃ m, m = ((bys s).take (s.size - 1)).drop k := ⟨_, rfl⟩
          have hs2 : s.extract k (s.size - 1) = str m := by
            rw [hm, ← str_bys (s.extract k (s.size - 1)), bys_ext, List.drop_take]
          have HZ2 : Hid ((str m).size ≤ 4000000) := by
            show _ ≤ _
            rw [hm, str_size, List.length_drop, List.length_take, bys_len]
            have := Hs.out
            omega
          rw [← hm] at HPQ
          clear hm
          have z3 : (k : Int) < (s.size : Int) := by omega
          have z4 : (k : Int) ≤ (s.size : Int) - 1 := by omega
          have z5 : (s.size : Int) - 1 ≤ (s.size : Int) := by omega
          have z6 : (k : Int) ≤ (s.size : Int) := by omega
          have HS : Hid (∀ b, secR m = some b → -1000000000 ≤ b ∧ b ≤ 1000000000) := by
            intro b hb
            unfold secR at hb
            split at hb
            · injection hb; omega
            · split at hb
              · injection hb; omega
              · have := numR_small hb; omega
          have HM : Hid (secR m = if m = [] ∨ m = [43] then some 1 else if m = [45] then some (-1) else numR m) := rfl
          have HN2 := num_none HZ2.out
          have HO2 := fun b => num_some (a := b) HZ2.out
          rw [bys_str] at HN2
          simp only [bys_str] at HO2
          have HN2 := hid HN2
          have HO2 := hid HO2
          by_cases hk0 : 0 < k
          · have tk : 0 < (k : Int) := by omega
            obtain ⟨m1, hm1⟩ : ∃ m1, m1 = (bys s).take k := ⟨_, rfl⟩
            have hs1 : s.extract 0 k = str m1 := by rw [hm1, ← str_bys (s.extract 0 k), bys_ext]; rfl
            have HZ1 : Hid ((str m1).size ≤ 4000000) := by
              show _ ≤ _
              rw [hm1, str_size, List.length_take, bys_len]
              have := Hs.out
              omega
            rw [if_pos hk0, ← hm1] at HPQ
            clear hm1 hk0
            cases hn : numR m1 with
            | none =>
              have HF : Hid (planeR (bys s) = none) := by show _ = _; rw [HPQ.out, hn]; rfl
              have HC1 := num_none HZ1.out (by rw [bys_str, hn])
              clear hn
              go_wp2_with (first
                | (go_at_call 195; (with_reducible refine (HC1 _).mono ?_); rintro e w1 ⟨rfl, hx1⟩; obtain ⟨hr, hp⟩ := two_boxes hx1; have HR := hid (hr.aside (Nat.le_succ _) (by omega) 0 (.int .i64 0) (k := w.heap.size + 1)); have HP := hid (hp.set0 (.int .i64 0)); have c0 := hp.cell (i := 0) rfl; have c1 := hp.cell (i := 1) rfl; have f0 := hp.frozen 0; have f1 := hp.frozen 1; have r0 := hr.cell (i := 0) rfl; have r1 := hr.cell (i := 1) rfl; have g0 := hr.frozen 0; have g1 := hr.frozen 1; clear hx1 hr hp)
                | (go_at_call 195; (with_reducible refine (HC2 _).mono ?_); rintro e w2 ⟨rfl, hx2⟩; (try clear c0 c1 f0 f1 r0 r1 g0 g1); have hr := HR.out.later hx2; have hp := HP.out.later hx2; clear HR HP; have HR := hid (hr.aside (Nat.le_succ _) (by omega) 1 (.int .i64 0) (k := w.heap.size + 1)); have HP := hid (hp.set1 (.int .i64 0)); have c0 := hp.cell (i := 0) rfl; have c1 := hp.cell (i := 1) rfl; have f0 := hp.frozen 0; have f1 := hp.frozen 1; have r0 := hr.cell (i := 0) rfl; have r1 := hr.cell (i := 1) rfl; have g0 := hr.frozen 0; have g1 := hr.frozen 1; clear hx2 hr hp)
                )
              (try simp only [Exit.inBlock, Exit.then])
              refine ret_cell_tmp _ rfl rfl ((HR.out.set0 (.int .i64 0)).set1 (.int .i64 0)) Tryz.underlying201 rfl (by kernel_rfl) rfl ?_
              exact ⟨by rw [HF.out]; rfl, (HP.out.ext.setCell (Nat.le_refl _) _).setCell (Nat.le_refl _) _⟩
            | some a =>
              have hsm := numR_small hn
              have HC1 := num_some HZ1.out (by rw [bys_str, hn])
              have HAa : Hid (-1000000000 ≤ a ∧ a ≤ 1000000000) := ⟨by omega, by omega⟩
              rw [hn] at HPQ
              clear hn hsm
              by_cases hb0 : m = []
              · have b0 : (m == []) = true := by rw [hb0]; rfl
                have HPL : Hid (planeR (bys s) = pairP (some (a)) (some (1)) (bys s)) := by show _ = _; rw [HPQ.out, HM.out]; rw [if_pos (.inl hb0)]
                have HAB : Hid ((-1000000000 ≤ (a : Int) ∧ (a : Int) ≤ 1000000000) ∧ (-1000000000 ≤ (1 : Int) ∧ (1 : Int) ≤ 1000000000)) := ⟨HAa.out, by omega⟩
                cases hwi : withinR a (1) with
                | false =>
                  try exact absurd hwi (by decide)
                  all_goals
                    have HF : Hid (planeR (bys s) = none) := by show _ = _; rw [HPL.out]; unfold pairP; simp [hwi]
                    have HWI := hid hwi
                    clear hwi
                    clear hb0
                    go_wp2_with (first
                      | (go_at_call 195; (with_reducible refine (HC1 _).mono ?_); rintro e w1 ⟨rfl, hx1⟩; obtain ⟨hr, hp⟩ := two_boxes hx1; have HR := hid (hr.aside (Nat.le_succ _) (by omega) 0 (.int .i64 a) (k := w.heap.size + 1)); have HP := hid (hp.set0 (.int .i64 a)); have c0 := hp.cell (i := 0) rfl; have c1 := hp.cell (i := 1) rfl; have f0 := hp.frozen 0; have f1 := hp.frozen 1; have r0 := hr.cell (i := 0) rfl; have r1 := hr.cell (i := 1) rfl; have g0 := hr.frozen 0; have g1 := hr.frozen 1; clear hx1 hr hp)
                      | (go_at_call 195; (with_reducible refine (HC2 _).mono ?_); rintro e w2 ⟨rfl, hx2⟩; (try clear c0 c1 f0 f1 r0 r1 g0 g1); have hr := HR.out.later hx2; have hp := HP.out.later hx2; clear HR HP; have HR := hid (hr.aside (Nat.le_succ _) (by omega) 1 (.int .i64 (1)) (k := w.heap.size + 1)); have HP := hid (hp.set1 (.int .i64 (1))); have c0 := hp.cell (i := 0) rfl; have c1 := hp.cell (i := 1) rfl; have f0 := hp.frozen 0; have f1 := hp.frozen 1; have r0 := hr.cell (i := 0) rfl; have r1 := hr.cell (i := 1) rfl; have g0 := hr.frozen 0; have g1 := hr.frozen 1; clear hx2 hr hp)
                      | (go_at_call 196; (with_reducible refine (within_any a (1) _).mono ?_); rintro e w3 ⟨he, hx3⟩; rw [HWI.out] at he; subst he; (try clear c0 c1 f0 f1 r0 r1 g0 g1); have hr : Bx w w3 w.heap.size 201 #[.int .i64 0, .int .i64 0] := (by first | exact HR.out.later hx3 | exact (HR.out.aside (k := w.heap.size + 1) (Nat.le_succ _) (by omega) 1 _).later hx3 | exact (two_boxes hx3).1); have hp : Bx w w3 (w.heap.size + 1) 201 #[.int .i64 a, .int .i64 (1)] := (by first | exact HP.out.later hx3 | exact (HP.out.set1 _).later hx3 | exact (two_boxes hx3).2); (try clear HR HP); have HR := hid hr; have HP := hid hp; have c0 := hp.cell (i := 0) rfl; have c1 := hp.cell (i := 1) rfl; have f0 := hp.frozen 0; have f1 := hp.frozen 1; have r0 := hr.cell (i := 0) rfl; have r1 := hr.cell (i := 1) rfl; have g0 := hr.frozen 0; have g1 := hr.frozen 1; clear hx3 hr hp)
                      | (go_at_call 197; (with_reducible refine (pairtext_any a (1) _ (HG.out.ext HP.out.ext) HAB.out.1 HAB.out.2).mono ?_); rintro e w4 ⟨rfl, hx4⟩; (try clear c0 c1 f0 f1 r0 r1 g0 g1); have hr := HR.out.later hx4; have hp := HP.out.later hx4; clear HR HP; have HR := hid hr; have HP := hid hp; have c0 := hp.cell (i := 0) rfl; have c1 := hp.cell (i := 1) rfl; have f0 := hp.frozen 0; have f1 := hp.frozen 1; have r0 := hr.cell (i := 0) rfl; have r1 := hr.cell (i := 1) rfl; have g0 := hr.frozen 0; have g1 := hr.frozen 1; clear hx4 hr hp)
                      )
                    (try simp only [Exit.inBlock, Exit.then])
                    refine ret_cell_tmp _ rfl rfl ((HR.out.set0 (.int .i64 0)).set1 (.int .i64 0)) Tryz.underlying201 rfl (by kernel_rfl) rfl ?_
                    exact ⟨by rw [HF.out]; rfl, (HP.out.ext.setCell (Nat.le_refl _) _).setCell (Nat.le_refl _) _⟩
                | true =>
                  have HWI := hid hwi
                  by_cases htx : pairR a (1) = bys s
                  · have te : (pairR a (1) == s.toList) = true := by rw [ByteArray.toList_eq, beq_iff_eq]; exact htx
                    have HF : Hid (planeR (bys s) = some ((a), ((1)))) := by show _ = _; rw [HPL.out]; unfold pairP; simp [hwi, htx]
                    clear hwi htx
                    clear hb0
                    go_wp2_with (first
                      | (go_at_call 195; (with_reducible refine (HC1 _).mono ?_); rintro e w1 ⟨rfl, hx1⟩; obtain ⟨hr, hp⟩ := two_boxes hx1; have HR := hid (hr.aside (Nat.le_succ _) (by omega) 0 (.int .i64 a) (k := w.heap.size + 1)); have HP := hid (hp.set0 (.int .i64 a)); have c0 := hp.cell (i := 0) rfl; have c1 := hp.cell (i := 1) rfl; have f0 := hp.frozen 0; have f1 := hp.frozen 1; have r0 := hr.cell (i := 0) rfl; have r1 := hr.cell (i := 1) rfl; have g0 := hr.frozen 0; have g1 := hr.frozen 1; clear hx1 hr hp)
                      | (go_at_call 195; (with_reducible refine (HC2 _).mono ?_); rintro e w2 ⟨rfl, hx2⟩; (try clear c0 c1 f0 f1 r0 r1 g0 g1); have hr := HR.out.later hx2; have hp := HP.out.later hx2; clear HR HP; have HR := hid (hr.aside (Nat.le_succ _) (by omega) 1 (.int .i64 (1)) (k := w.heap.size + 1)); have HP := hid (hp.set1 (.int .i64 (1))); have c0 := hp.cell (i := 0) rfl; have c1 := hp.cell (i := 1) rfl; have f0 := hp.frozen 0; have f1 := hp.frozen 1; have r0 := hr.cell (i := 0) rfl; have r1 := hr.cell (i := 1) rfl; have g0 := hr.frozen 0; have g1 := hr.frozen 1; clear hx2 hr hp)
                      | (go_at_call 196; (with_reducible refine (within_any a (1) _).mono ?_); rintro e w3 ⟨he, hx3⟩; rw [HWI.out] at he; subst he; (try clear c0 c1 f0 f1 r0 r1 g0 g1); have hr : Bx w w3 w.heap.size 201 #[.int .i64 0, .int .i64 0] := (by first | exact HR.out.later hx3 | exact (HR.out.aside (k := w.heap.size + 1) (Nat.le_succ _) (by omega) 1 _).later hx3 | exact (two_boxes hx3).1); have hp : Bx w w3 (w.heap.size + 1) 201 #[.int .i64 a, .int .i64 (1)] := (by first | exact HP.out.later hx3 | exact (HP.out.set1 _).later hx3 | exact (two_boxes hx3).2); (try clear HR HP); have HR := hid hr; have HP := hid hp; have c0 := hp.cell (i := 0) rfl; have c1 := hp.cell (i := 1) rfl; have f0 := hp.frozen 0; have f1 := hp.frozen 1; have r0 := hr.cell (i := 0) rfl; have r1 := hr.cell (i := 1) rfl; have g0 := hr.frozen 0; have g1 := hr.frozen 1; clear hx3 hr hp)
                      | (go_at_call 197; (with_reducible refine (pairtext_any a (1) _ (HG.out.ext HP.out.ext) HAB.out.1 HAB.out.2).mono ?_); rintro e w4 ⟨rfl, hx4⟩; (try clear c0 c1 f0 f1 r0 r1 g0 g1); have hr := HR.out.later hx4; have hp := HP.out.later hx4; clear HR HP; have HR := hid hr; have HP := hid hp; have c0 := hp.cell (i := 0) rfl; have c1 := hp.cell (i := 1) rfl; have f0 := hp.frozen 0; have f1 := hp.frozen 1; have r0 := hr.cell (i := 0) rfl; have r1 := hr.cell (i := 1) rfl; have g0 := hr.frozen 0; have g1 := hr.frozen 1; clear hx4 hr hp)
                      )
                    (try simp only [Exit.inBlock, Exit.then])
                    refine ret_cell_tmp _ rfl rfl ((HR.out.set0 (.int .i64 a)).set1 (.int .i64 (1))) Tryz.underlying201 rfl (by kernel_rfl) rfl ?_
                    exact ⟨by rw [HF.out]; rfl, (HP.out.ext.setCell (Nat.le_refl _) _).setCell (Nat.le_refl _) _⟩
                  · have te : (pairR a (1) == s.toList) = false := by rw [ByteArray.toList_eq, beq_eq_false_iff_ne]; exact htx
                    have HF : Hid (planeR (bys s) = none) := by show _ = _; rw [HPL.out]; unfold pairP; simp [hwi, htx]
                    clear hwi htx
                    clear hb0
                    go_wp2_with (first
                      | (go_at_call 195; (with_reducible refine (HC1 _).mono ?_); rintro e w1 ⟨rfl, hx1⟩; obtain ⟨hr, hp⟩ := two_boxes hx1; have HR := hid (hr.aside (Nat.le_succ _) (by omega) 0 (.int .i64 a) (k := w.heap.size + 1)); have HP := hid (hp.set0 (.int .i64 a)); have c0 := hp.cell (i := 0) rfl; have c1 := hp.cell (i := 1) rfl; have f0 := hp.frozen 0; have f1 := hp.frozen 1; have r0 := hr.cell (i := 0) rfl; have r1 := hr.cell (i := 1) rfl; have g0 := hr.frozen 0; have g1 := hr.frozen 1; clear hx1 hr hp)
                      | (go_at_call 195; (with_reducible refine (HC2 _).mono ?_); rintro e w2 ⟨rfl, hx2⟩; (try clear c0 c1 f0 f1 r0 r1 g0 g1); have hr := HR.out.later hx2; have hp := HP.out.later hx2; clear HR HP; have HR := hid (hr.aside (Nat.le_succ _) (by omega) 1 (.int .i64 (1)) (k := w.heap.size + 1)); have HP := hid (hp.set1 (.int .i64 (1))); have c0 := hp.cell (i := 0) rfl; have c1 := hp.cell (i := 1) rfl; have f0 := hp.frozen 0; have f1 := hp.frozen 1; have r0 := hr.cell (i := 0) rfl; have r1 := hr.cell (i := 1) rfl; have g0 := hr.frozen 0; have g1 := hr.frozen 1; clear hx2 hr hp)
                      | (go_at_call 196; (with_reducible refine (within_any a (1) _).mono ?_); rintro e w3 ⟨he, hx3⟩; rw [HWI.out] at he; subst he; (try clear c0 c1 f0 f1 r0 r1 g0 g1); have hr : Bx w w3 w.heap.size 201 #[.int .i64 0, .int .i64 0] := (by first | exact HR.out.later hx3 | exact (HR.out.aside (k := w.heap.size + 1) (Nat.le_succ _) (by omega) 1 _).later hx3 | exact (two_boxes hx3).1); have hp : Bx w w3 (w.heap.size + 1) 201 #[.int .i64 a, .int .i64 (1)] := (by first | exact HP.out.later hx3 | exact (HP.out.set1 _).later hx3 | exact (two_boxes hx3).2); (try clear HR HP); have HR := hid hr; have HP := hid hp; have c0 := hp.cell (i := 0) rfl; have c1 := hp.cell (i := 1) rfl; have f0 := hp.frozen 0; have f1 := hp.frozen 1; have r0 := hr.cell (i := 0) rfl; have r1 := hr.cell (i := 1) rfl; have g0 := hr.frozen 0; have g1 := hr.frozen 1; clear hx3 hr hp)
                      | (go_at_call 197; (with_reducible refine (pairtext_any a (1) _ (HG.out.ext HP.out.ext) HAB.out.1 HAB.out.2).mono ?_); rintro e w4 ⟨rfl, hx4⟩; (try clear c0 c1 f0 f1 r0 r1 g0 g1); have hr := HR.out.later hx4; have hp := HP.out.later hx4; clear HR HP; have HR := hid hr; have HP := hid hp; have c0 := hp.cell (i := 0) rfl; have c1 := hp.cell (i := 1) rfl; have f0 := hp.frozen 0; have f1 := hp.frozen 1; have r0 := hr.cell (i := 0) rfl; have r1 := hr.cell (i := 1) rfl; have g0 := hr.frozen 0; have g1 := hr.frozen 1; clear hx4 hr hp)
                      )
                    (try simp only [Exit.inBlock, Exit.then])
                    refine ret_cell_tmp _ rfl rfl ((HR.out.set0 (.int .i64 0)).set1 (.int .i64 0)) Tryz.underlying201 rfl (by kernel_rfl) rfl ?_
                    exact ⟨by rw [HF.out]; rfl, (HP.out.ext.setCell (Nat.le_refl _) _).setCell (Nat.le_refl _) _⟩
              · have b0 : (m == []) = false := by rw [beq_eq_false_iff_ne]; exact hb0
                by_cases hb1 : m = [43]
                · have b1 : (m == [43]) = true := by rw [hb1]; rfl
                  have HPL : Hid (planeR (bys s) = pairP (some (a)) (some (1)) (bys s)) := by show _ = _; rw [HPQ.out, HM.out]; rw [if_pos (.inr hb1)]
                  have HAB : Hid ((-1000000000 ≤ (a : Int) ∧ (a : Int) ≤ 1000000000) ∧ (-1000000000 ≤ (1 : Int) ∧ (1 : Int) ≤ 1000000000)) := ⟨HAa.out, by omega⟩
                  cases hwi : withinR a (1) with
                  | false =>
                    try exact absurd hwi (by decide)
                    all_goals
                      have HF : Hid (planeR (bys s) = none) := by show _ = _; rw [HPL.out]; unfold pairP; simp [hwi]
                      have HWI := hid hwi
                      clear hwi
                      clear hb0 hb1
                      go_wp2_with (first
                        | (go_at_call 195; (with_reducible refine (HC1 _).mono ?_); rintro e w1 ⟨rfl, hx1⟩; obtain ⟨hr, hp⟩ := two_boxes hx1; have HR := hid (hr.aside (Nat.le_succ _) (by omega) 0 (.int .i64 a) (k := w.heap.size + 1)); have HP := hid (hp.set0 (.int .i64 a)); have c0 := hp.cell (i := 0) rfl; have c1 := hp.cell (i := 1) rfl; have f0 := hp.frozen 0; have f1 := hp.frozen 1; have r0 := hr.cell (i := 0) rfl; have r1 := hr.cell (i := 1) rfl; have g0 := hr.frozen 0; have g1 := hr.frozen 1; clear hx1 hr hp)
                        | (go_at_call 195; (with_reducible refine (HC2 _).mono ?_); rintro e w2 ⟨rfl, hx2⟩; (try clear c0 c1 f0 f1 r0 r1 g0 g1); have hr := HR.out.later hx2; have hp := HP.out.later hx2; clear HR HP; have HR := hid (hr.aside (Nat.le_succ _) (by omega) 1 (.int .i64 (1)) (k := w.heap.size + 1)); have HP := hid (hp.set1 (.int .i64 (1))); have c0 := hp.cell (i := 0) rfl; have c1 := hp.cell (i := 1) rfl; have f0 := hp.frozen 0; have f1 := hp.frozen 1; have r0 := hr.cell (i := 0) rfl; have r1 := hr.cell (i := 1) rfl; have g0 := hr.frozen 0; have g1 := hr.frozen 1; clear hx2 hr hp)
                        | (go_at_call 196; (with_reducible refine (within_any a (1) _).mono ?_); rintro e w3 ⟨he, hx3⟩; rw [HWI.out] at he; subst he; (try clear c0 c1 f0 f1 r0 r1 g0 g1); have hr : Bx w w3 w.heap.size 201 #[.int .i64 0, .int .i64 0] := (by first | exact HR.out.later hx3 | exact (HR.out.aside (k := w.heap.size + 1) (Nat.le_succ _) (by omega) 1 _).later hx3 | exact (two_boxes hx3).1); have hp : Bx w w3 (w.heap.size + 1) 201 #[.int .i64 a, .int .i64 (1)] := (by first | exact HP.out.later hx3 | exact (HP.out.set1 _).later hx3 | exact (two_boxes hx3).2); (try clear HR HP); have HR := hid hr; have HP := hid hp; have c0 := hp.cell (i := 0) rfl; have c1 := hp.cell (i := 1) rfl; have f0 := hp.frozen 0; have f1 := hp.frozen 1; have r0 := hr.cell (i := 0) rfl; have r1 := hr.cell (i := 1) rfl; have g0 := hr.frozen 0; have g1 := hr.frozen 1; clear hx3 hr hp)
                        | (go_at_call 197; (with_reducible refine (pairtext_any a (1) _ (HG.out.ext HP.out.ext) HAB.out.1 HAB.out.2).mono ?_); rintro e w4 ⟨rfl, hx4⟩; (try clear c0 c1 f0 f1 r0 r1 g0 g1); have hr := HR.out.later hx4; have hp := HP.out.later hx4; clear HR HP; have HR := hid hr; have HP := hid hp; have c0 := hp.cell (i := 0) rfl; have c1 := hp.cell (i := 1) rfl; have f0 := hp.frozen 0; have f1 := hp.frozen 1; have r0 := hr.cell (i := 0) rfl; have r1 := hr.cell (i := 1) rfl; have g0 := hr.frozen 0; have g1 := hr.frozen 1; clear hx4 hr hp)
                        )
                      (try simp only [Exit.inBlock, Exit.then])
                      refine ret_cell_tmp _ rfl rfl ((HR.out.set0 (.int .i64 0)).set1 (.int .i64 0)) Tryz.underlying201 rfl (by kernel_rfl) rfl ?_
                      exact ⟨by rw [HF.out]; rfl, (HP.out.ext.setCell (Nat.le_refl _) _).setCell (Nat.le_refl _) _⟩
                  | true =>
                    have HWI := hid hwi
                    by_cases htx : pairR a (1) = bys s
                    · have te : (pairR a (1) == s.toList) = true := by rw [ByteArray.toList_eq, beq_iff_eq]; exact htx
                      have HF : Hid (planeR (bys s) = some ((a), ((1)))) := by show _ = _; rw [HPL.out]; unfold pairP; simp [hwi, htx]
                      clear hwi htx
                      clear hb0 hb1
                      go_wp2_with (first
                        | (go_at_call 195; (with_reducible refine (HC1 _).mono ?_); rintro e w1 ⟨rfl, hx1⟩; obtain ⟨hr, hp⟩ := two_boxes hx1; have HR := hid (hr.aside (Nat.le_succ _) (by omega) 0 (.int .i64 a) (k := w.heap.size + 1)); have HP := hid (hp.set0 (.int .i64 a)); have c0 := hp.cell (i := 0) rfl; have c1 := hp.cell (i := 1) rfl; have f0 := hp.frozen 0; have f1 := hp.frozen 1; have r0 := hr.cell (i := 0) rfl; have r1 := hr.cell (i := 1) rfl; have g0 := hr.frozen 0; have g1 := hr.frozen 1; clear hx1 hr hp)
                        | (go_at_call 195; (with_reducible refine (HC2 _).mono ?_); rintro e w2 ⟨rfl, hx2⟩; (try clear c0 c1 f0 f1 r0 r1 g0 g1); have hr := HR.out.later hx2; have hp := HP.out.later hx2; clear HR HP; have HR := hid (hr.aside (Nat.le_succ _) (by omega) 1 (.int .i64 (1)) (k := w.heap.size + 1)); have HP := hid (hp.set1 (.int .i64 (1))); have c0 := hp.cell (i := 0) rfl; have c1 := hp.cell (i := 1) rfl; have f0 := hp.frozen 0; have f1 := hp.frozen 1; have r0 := hr.cell (i := 0) rfl; have r1 := hr.cell (i := 1) rfl; have g0 := hr.frozen 0; have g1 := hr.frozen 1; clear hx2 hr hp)
                        | (go_at_call 196; (with_reducible refine (within_any a (1) _).mono ?_); rintro e w3 ⟨he, hx3⟩; rw [HWI.out] at he; subst he; (try clear c0 c1 f0 f1 r0 r1 g0 g1); have hr : Bx w w3 w.heap.size 201 #[.int .i64 0, .int .i64 0] := (by first | exact HR.out.later hx3 | exact (HR.out.aside (k := w.heap.size + 1) (Nat.le_succ _) (by omega) 1 _).later hx3 | exact (two_boxes hx3).1); have hp : Bx w w3 (w.heap.size + 1) 201 #[.int .i64 a, .int .i64 (1)] := (by first | exact HP.out.later hx3 | exact (HP.out.set1 _).later hx3 | exact (two_boxes hx3).2); (try clear HR HP); have HR := hid hr; have HP := hid hp; have c0 := hp.cell (i := 0) rfl; have c1 := hp.cell (i := 1) rfl; have f0 := hp.frozen 0; have f1 := hp.frozen 1; have r0 := hr.cell (i := 0) rfl; have r1 := hr.cell (i := 1) rfl; have g0 := hr.frozen 0; have g1 := hr.frozen 1; clear hx3 hr hp)
                        | (go_at_call 197; (with_reducible refine (pairtext_any a (1) _ (HG.out.ext HP.out.ext) HAB.out.1 HAB.out.2).mono ?_); rintro e w4 ⟨rfl, hx4⟩; (try clear c0 c1 f0 f1 r0 r1 g0 g1); have hr := HR.out.later hx4; have hp := HP.out.later hx4; clear HR HP; have HR := hid hr; have HP := hid hp; have c0 := hp.cell (i := 0) rfl; have c1 := hp.cell (i := 1) rfl; have f0 := hp.frozen 0; have f1 := hp.frozen 1; have r0 := hr.cell (i := 0) rfl; have r1 := hr.cell (i := 1) rfl; have g0 := hr.frozen 0; have g1 := hr.frozen 1; clear hx4 hr hp)
                        )
                      (try simp only [Exit.inBlock, Exit.then])
                      refine ret_cell_tmp _ rfl rfl ((HR.out.set0 (.int .i64 a)).set1 (.int .i64 (1))) Tryz.underlying201 rfl (by kernel_rfl) rfl ?_
                      exact ⟨by rw [HF.out]; rfl, (HP.out.ext.setCell (Nat.le_refl _) _).setCell (Nat.le_refl _) _⟩
                    · have te : (pairR a (1) == s.toList) = false := by rw [ByteArray.toList_eq, beq_eq_false_iff_ne]; exact htx
                      have HF : Hid (planeR (bys s) = none) := by show _ = _; rw [HPL.out]; unfold pairP; simp [hwi, htx]
                      clear hwi htx
                      clear hb0 hb1
                      go_wp2_with (first
                        | (go_at_call 195; (with_reducible refine (HC1 _).mono ?_); rintro e w1 ⟨rfl, hx1⟩; obtain ⟨hr, hp⟩ := two_boxes hx1; have HR := hid (hr.aside (Nat.le_succ _) (by omega) 0 (.int .i64 a) (k := w.heap.size + 1)); have HP := hid (hp.set0 (.int .i64 a)); have c0 := hp.cell (i := 0) rfl; have c1 := hp.cell (i := 1) rfl; have f0 := hp.frozen 0; have f1 := hp.frozen 1; have r0 := hr.cell (i := 0) rfl; have r1 := hr.cell (i := 1) rfl; have g0 := hr.frozen 0; have g1 := hr.frozen 1; clear hx1 hr hp)
                        | (go_at_call 195; (with_reducible refine (HC2 _).mono ?_); rintro e w2 ⟨rfl, hx2⟩; (try clear c0 c1 f0 f1 r0 r1 g0 g1); have hr := HR.out.later hx2; have hp := HP.out.later hx2; clear HR HP; have HR := hid (hr.aside (Nat.le_succ _) (by omega) 1 (.int .i64 (1)) (k := w.heap.size + 1)); have HP := hid (hp.set1 (.int .i64 (1))); have c0 := hp.cell (i := 0) rfl; have c1 := hp.cell (i := 1) rfl; have f0 := hp.frozen 0; have f1 := hp.frozen 1; have r0 := hr.cell (i := 0) rfl; have r1 := hr.cell (i := 1) rfl; have g0 := hr.frozen 0; have g1 := hr.frozen 1; clear hx2 hr hp)
                        | (go_at_call 196; (with_reducible refine (within_any a (1) _).mono ?_); rintro e w3 ⟨he, hx3⟩; rw [HWI.out] at he; subst he; (try clear c0 c1 f0 f1 r0 r1 g0 g1); have hr : Bx w w3 w.heap.size 201 #[.int .i64 0, .int .i64 0] := (by first | exact HR.out.later hx3 | exact (HR.out.aside (k := w.heap.size + 1) (Nat.le_succ _) (by omega) 1 _).later hx3 | exact (two_boxes hx3).1); have hp : Bx w w3 (w.heap.size + 1) 201 #[.int .i64 a, .int .i64 (1)] := (by first | exact HP.out.later hx3 | exact (HP.out.set1 _).later hx3 | exact (two_boxes hx3).2); (try clear HR HP); have HR := hid hr; have HP := hid hp; have c0 := hp.cell (i := 0) rfl; have c1 := hp.cell (i := 1) rfl; have f0 := hp.frozen 0; have f1 := hp.frozen 1; have r0 := hr.cell (i := 0) rfl; have r1 := hr.cell (i := 1) rfl; have g0 := hr.frozen 0; have g1 := hr.frozen 1; clear hx3 hr hp)
                        | (go_at_call 197; (with_reducible refine (pairtext_any a (1) _ (HG.out.ext HP.out.ext) HAB.out.1 HAB.out.2).mono ?_); rintro e w4 ⟨rfl, hx4⟩; (try clear c0 c1 f0 f1 r0 r1 g0 g1); have hr := HR.out.later hx4; have hp := HP.out.later hx4; clear HR HP; have HR := hid hr; have HP := hid hp; have c0 := hp.cell (i := 0) rfl; have c1 := hp.cell (i := 1) rfl; have f0 := hp.frozen 0; have f1 := hp.frozen 1; have r0 := hr.cell (i := 0) rfl; have r1 := hr.cell (i := 1) rfl; have g0 := hr.frozen 0; have g1 := hr.frozen 1; clear hx4 hr hp)
                        )
                      (try simp only [Exit.inBlock, Exit.then])
                      refine ret_cell_tmp _ rfl rfl ((HR.out.set0 (.int .i64 0)).set1 (.int .i64 0)) Tryz.underlying201 rfl (by kernel_rfl) rfl ?_
                      exact ⟨by rw [HF.out]; rfl, (HP.out.ext.setCell (Nat.le_refl _) _).setCell (Nat.le_refl _) _⟩
                · have b1 : (m == [43]) = false := by rw [beq_eq_false_iff_ne]; exact hb1
                  rw [if_neg (fun h => h.elim hb0 hb1)] at HM
                  by_cases hb2 : m = [45]
                  · have b2 : (m == [45]) = true := by rw [hb2]; rfl
                    have HPL : Hid (planeR (bys s) = pairP (some (a)) (some (-1)) (bys s)) := by show _ = _; rw [HPQ.out, HM.out]; rw [if_pos hb2]
                    have HAB : Hid ((-1000000000 ≤ (a : Int) ∧ (a : Int) ≤ 1000000000) ∧ (-1000000000 ≤ (-1 : Int) ∧ (-1 : Int) ≤ 1000000000)) := ⟨HAa.out, by omega⟩
                    cases hwi : withinR a (-1) with
                    | false =>
                      try exact absurd hwi (by decide)
                      all_goals
                        have HF : Hid (planeR (bys s) = none) := by show _ = _; rw [HPL.out]; unfold pairP; simp [hwi]
                        have HWI := hid hwi
                        clear hwi
                        clear hb0 hb1 hb2
                        go_wp2_with (first
                          | (go_at_call 195; (with_reducible refine (HC1 _).mono ?_); rintro e w1 ⟨rfl, hx1⟩; obtain ⟨hr, hp⟩ := two_boxes hx1; have HR := hid (hr.aside (Nat.le_succ _) (by omega) 0 (.int .i64 a) (k := w.heap.size + 1)); have HP := hid (hp.set0 (.int .i64 a)); have c0 := hp.cell (i := 0) rfl; have c1 := hp.cell (i := 1) rfl; have f0 := hp.frozen 0; have f1 := hp.frozen 1; have r0 := hr.cell (i := 0) rfl; have r1 := hr.cell (i := 1) rfl; have g0 := hr.frozen 0; have g1 := hr.frozen 1; clear hx1 hr hp)
                          | (go_at_call 195; (with_reducible refine (HC2 _).mono ?_); rintro e w2 ⟨rfl, hx2⟩; (try clear c0 c1 f0 f1 r0 r1 g0 g1); have hr := HR.out.later hx2; have hp := HP.out.later hx2; clear HR HP; have HR := hid (hr.aside (Nat.le_succ _) (by omega) 1 (.int .i64 (-1)) (k := w.heap.size + 1)); have HP := hid (hp.set1 (.int .i64 (-1))); have c0 := hp.cell (i := 0) rfl; have c1 := hp.cell (i := 1) rfl; have f0 := hp.frozen 0; have f1 := hp.frozen 1; have r0 := hr.cell (i := 0) rfl; have r1 := hr.cell (i := 1) rfl; have g0 := hr.frozen 0; have g1 := hr.frozen 1; clear hx2 hr hp)
                          | (go_at_call 196; (with_reducible refine (within_any a (-1) _).mono ?_); rintro e w3 ⟨he, hx3⟩; rw [HWI.out] at he; subst he; (try clear c0 c1 f0 f1 r0 r1 g0 g1); have hr : Bx w w3 w.heap.size 201 #[.int .i64 0, .int .i64 0] := (by first | exact HR.out.later hx3 | exact (HR.out.aside (k := w.heap.size + 1) (Nat.le_succ _) (by omega) 1 _).later hx3 | exact (two_boxes hx3).1); have hp : Bx w w3 (w.heap.size + 1) 201 #[.int .i64 a, .int .i64 (-1)] := (by first | exact HP.out.later hx3 | exact (HP.out.set1 _).later hx3 | exact (two_boxes hx3).2); (try clear HR HP); have HR := hid hr; have HP := hid hp; have c0 := hp.cell (i := 0) rfl; have c1 := hp.cell (i := 1) rfl; have f0 := hp.frozen 0; have f1 := hp.frozen 1; have r0 := hr.cell (i := 0) rfl; have r1 := hr.cell (i := 1) rfl; have g0 := hr.frozen 0; have g1 := hr.frozen 1; clear hx3 hr hp)
                          | (go_at_call 197; (with_reducible refine (pairtext_any a (-1) _ (HG.out.ext HP.out.ext) HAB.out.1 HAB.out.2).mono ?_); rintro e w4 ⟨rfl, hx4⟩; (try clear c0 c1 f0 f1 r0 r1 g0 g1); have hr := HR.out.later hx4; have hp := HP.out.later hx4; clear HR HP; have HR := hid hr; have HP := hid hp; have c0 := hp.cell (i := 0) rfl; have c1 := hp.cell (i := 1) rfl; have f0 := hp.frozen 0; have f1 := hp.frozen 1; have r0 := hr.cell (i := 0) rfl; have r1 := hr.cell (i := 1) rfl; have g0 := hr.frozen 0; have g1 := hr.frozen 1; clear hx4 hr hp)
                          )
                        (try simp only [Exit.inBlock, Exit.then])
                        refine ret_cell_tmp _ rfl rfl ((HR.out.set0 (.int .i64 0)).set1 (.int .i64 0)) Tryz.underlying201 rfl (by kernel_rfl) rfl ?_
                        exact ⟨by rw [HF.out]; rfl, (HP.out.ext.setCell (Nat.le_refl _) _).setCell (Nat.le_refl _) _⟩
                    | true =>
                      have HWI := hid hwi
                      by_cases htx : pairR a (-1) = bys s
                      · have te : (pairR a (-1) == s.toList) = true := by rw [ByteArray.toList_eq, beq_iff_eq]; exact htx
                        have HF : Hid (planeR (bys s) = some ((a), ((-1)))) := by show _ = _; rw [HPL.out]; unfold pairP; simp [hwi, htx]
                        clear hwi htx
                        clear hb0 hb1 hb2
                        go_wp2_with (first
                          | (go_at_call 195; (with_reducible refine (HC1 _).mono ?_); rintro e w1 ⟨rfl, hx1⟩; obtain ⟨hr, hp⟩ := two_boxes hx1; have HR := hid (hr.aside (Nat.le_succ _) (by omega) 0 (.int .i64 a) (k := w.heap.size + 1)); have HP := hid (hp.set0 (.int .i64 a)); have c0 := hp.cell (i := 0) rfl; have c1 := hp.cell (i := 1) rfl; have f0 := hp.frozen 0; have f1 := hp.frozen 1; have r0 := hr.cell (i := 0) rfl; have r1 := hr.cell (i := 1) rfl; have g0 := hr.frozen 0; have g1 := hr.frozen 1; clear hx1 hr hp)
                          | (go_at_call 195; (with_reducible refine (HC2 _).mono ?_); rintro e w2 ⟨rfl, hx2⟩; (try clear c0 c1 f0 f1 r0 r1 g0 g1); have hr := HR.out.later hx2; have hp := HP.out.later hx2; clear HR HP; have HR := hid (hr.aside (Nat.le_succ _) (by omega) 1 (.int .i64 (-1)) (k := w.heap.size + 1)); have HP := hid (hp.set1 (.int .i64 (-1))); have c0 := hp.cell (i := 0) rfl; have c1 := hp.cell (i := 1) rfl; have f0 := hp.frozen 0; have f1 := hp.frozen 1; have r0 := hr.cell (i := 0) rfl; have r1 := hr.cell (i := 1) rfl; have g0 := hr.frozen 0; have g1 := hr.frozen 1; clear hx2 hr hp)
                          | (go_at_call 196; (with_reducible refine (within_any a (-1) _).mono ?_); rintro e w3 ⟨he, hx3⟩; rw [HWI.out] at he; subst he; (try clear c0 c1 f0 f1 r0 r1 g0 g1); have hr : Bx w w3 w.heap.size 201 #[.int .i64 0, .int .i64 0] := (by first | exact HR.out.later hx3 | exact (HR.out.aside (k := w.heap.size + 1) (Nat.le_succ _) (by omega) 1 _).later hx3 | exact (two_boxes hx3).1); have hp : Bx w w3 (w.heap.size + 1) 201 #[.int .i64 a, .int .i64 (-1)] := (by first | exact HP.out.later hx3 | exact (HP.out.set1 _).later hx3 | exact (two_boxes hx3).2); (try clear HR HP); have HR := hid hr; have HP := hid hp; have c0 := hp.cell (i := 0) rfl; have c1 := hp.cell (i := 1) rfl; have f0 := hp.frozen 0; have f1 := hp.frozen 1; have r0 := hr.cell (i := 0) rfl; have r1 := hr.cell (i := 1) rfl; have g0 := hr.frozen 0; have g1 := hr.frozen 1; clear hx3 hr hp)
                          | (go_at_call 197; (with_reducible refine (pairtext_any a (-1) _ (HG.out.ext HP.out.ext) HAB.out.1 HAB.out.2).mono ?_); rintro e w4 ⟨rfl, hx4⟩; (try clear c0 c1 f0 f1 r0 r1 g0 g1); have hr := HR.out.later hx4; have hp := HP.out.later hx4; clear HR HP; have HR := hid hr; have HP := hid hp; have c0 := hp.cell (i := 0) rfl; have c1 := hp.cell (i := 1) rfl; have f0 := hp.frozen 0; have f1 := hp.frozen 1; have r0 := hr.cell (i := 0) rfl; have r1 := hr.cell (i := 1) rfl; have g0 := hr.frozen 0; have g1 := hr.frozen 1; clear hx4 hr hp)
                          )
                        (try simp only [Exit.inBlock, Exit.then])
                        refine ret_cell_tmp _ rfl rfl ((HR.out.set0 (.int .i64 a)).set1 (.int .i64 (-1))) Tryz.underlying201 rfl (by kernel_rfl) rfl ?_
                        exact ⟨by rw [HF.out]; rfl, (HP.out.ext.setCell (Nat.le_refl _) _).setCell (Nat.le_refl _) _⟩
                      · have te : (pairR a (-1) == s.toList) = false := by rw [ByteArray.toList_eq, beq_eq_false_iff_ne]; exact htx
                        have HF : Hid (planeR (bys s) = none) := by show _ = _; rw [HPL.out]; unfold pairP; simp [hwi, htx]
                        clear hwi htx
                        clear hb0 hb1 hb2
                        go_wp2_with (first
                          | (go_at_call 195; (with_reducible refine (HC1 _).mono ?_); rintro e w1 ⟨rfl, hx1⟩; obtain ⟨hr, hp⟩ := two_boxes hx1; have HR := hid (hr.aside (Nat.le_succ _) (by omega) 0 (.int .i64 a) (k := w.heap.size + 1)); have HP := hid (hp.set0 (.int .i64 a)); have c0 := hp.cell (i := 0) rfl; have c1 := hp.cell (i := 1) rfl; have f0 := hp.frozen 0; have f1 := hp.frozen 1; have r0 := hr.cell (i := 0) rfl; have r1 := hr.cell (i := 1) rfl; have g0 := hr.frozen 0; have g1 := hr.frozen 1; clear hx1 hr hp)
                          | (go_at_call 195; (with_reducible refine (HC2 _).mono ?_); rintro e w2 ⟨rfl, hx2⟩; (try clear c0 c1 f0 f1 r0 r1 g0 g1); have hr := HR.out.later hx2; have hp := HP.out.later hx2; clear HR HP; have HR := hid (hr.aside (Nat.le_succ _) (by omega) 1 (.int .i64 (-1)) (k := w.heap.size + 1)); have HP := hid (hp.set1 (.int .i64 (-1))); have c0 := hp.cell (i := 0) rfl; have c1 := hp.cell (i := 1) rfl; have f0 := hp.frozen 0; have f1 := hp.frozen 1; have r0 := hr.cell (i := 0) rfl; have r1 := hr.cell (i := 1) rfl; have g0 := hr.frozen 0; have g1 := hr.frozen 1; clear hx2 hr hp)
                          | (go_at_call 196; (with_reducible refine (within_any a (-1) _).mono ?_); rintro e w3 ⟨he, hx3⟩; rw [HWI.out] at he; subst he; (try clear c0 c1 f0 f1 r0 r1 g0 g1); have hr : Bx w w3 w.heap.size 201 #[.int .i64 0, .int .i64 0] := (by first | exact HR.out.later hx3 | exact (HR.out.aside (k := w.heap.size + 1) (Nat.le_succ _) (by omega) 1 _).later hx3 | exact (two_boxes hx3).1); have hp : Bx w w3 (w.heap.size + 1) 201 #[.int .i64 a, .int .i64 (-1)] := (by first | exact HP.out.later hx3 | exact (HP.out.set1 _).later hx3 | exact (two_boxes hx3).2); (try clear HR HP); have HR := hid hr; have HP := hid hp; have c0 := hp.cell (i := 0) rfl; have c1 := hp.cell (i := 1) rfl; have f0 := hp.frozen 0; have f1 := hp.frozen 1; have r0 := hr.cell (i := 0) rfl; have r1 := hr.cell (i := 1) rfl; have g0 := hr.frozen 0; have g1 := hr.frozen 1; clear hx3 hr hp)
                          | (go_at_call 197; (with_reducible refine (pairtext_any a (-1) _ (HG.out.ext HP.out.ext) HAB.out.1 HAB.out.2).mono ?_); rintro e w4 ⟨rfl, hx4⟩; (try clear c0 c1 f0 f1 r0 r1 g0 g1); have hr := HR.out.later hx4; have hp := HP.out.later hx4; clear HR HP; have HR := hid hr; have HP := hid hp; have c0 := hp.cell (i := 0) rfl; have c1 := hp.cell (i := 1) rfl; have f0 := hp.frozen 0; have f1 := hp.frozen 1; have r0 := hr.cell (i := 0) rfl; have r1 := hr.cell (i := 1) rfl; have g0 := hr.frozen 0; have g1 := hr.frozen 1; clear hx4 hr hp)
                          )
                        (try simp only [Exit.inBlock, Exit.then])
                        refine ret_cell_tmp _ rfl rfl ((HR.out.set0 (.int .i64 0)).set1 (.int .i64 0)) Tryz.underlying201 rfl (by kernel_rfl) rfl ?_
                        exact ⟨by rw [HF.out]; rfl, (HP.out.ext.setCell (Nat.le_refl _) _).setCell (Nat.le_refl _) _⟩
                  · have b2 : (m == [45]) = false := by rw [beq_eq_false_iff_ne]; exact hb2
                    rw [if_neg hb2] at HM
                    clear hb0 hb1 hb2
                    cases hn2 : numR m with
                    | none =>
                      have HF : Hid (planeR (bys s) = none) := by show _ = _; rw [HPQ.out, HM.out, hn2]; rfl
                      have HC2 := HN2.out hn2
                      clear hn2
                      skip
                      go_wp2_with (first
                        | (go_at_call 195; (with_reducible refine (HC1 _).mono ?_); rintro e w1 ⟨rfl, hx1⟩; obtain ⟨hr, hp⟩ := two_boxes hx1; have HR := hid (hr.aside (Nat.le_succ _) (by omega) 0 (.int .i64 a) (k := w.heap.size + 1)); have HP := hid (hp.set0 (.int .i64 a)); have c0 := hp.cell (i := 0) rfl; have c1 := hp.cell (i := 1) rfl; have f0 := hp.frozen 0; have f1 := hp.frozen 1; have r0 := hr.cell (i := 0) rfl; have r1 := hr.cell (i := 1) rfl; have g0 := hr.frozen 0; have g1 := hr.frozen 1; clear hx1 hr hp)
                        | (go_at_call 195; (with_reducible refine (HC2 _).mono ?_); rintro e w2 ⟨rfl, hx2⟩; (try clear c0 c1 f0 f1 r0 r1 g0 g1); have hr := HR.out.later hx2; have hp := HP.out.later hx2; clear HR HP; have HR := hid (hr.aside (Nat.le_succ _) (by omega) 1 (.int .i64 0) (k := w.heap.size + 1)); have HP := hid (hp.set1 (.int .i64 0)); have c0 := hp.cell (i := 0) rfl; have c1 := hp.cell (i := 1) rfl; have f0 := hp.frozen 0; have f1 := hp.frozen 1; have r0 := hr.cell (i := 0) rfl; have r1 := hr.cell (i := 1) rfl; have g0 := hr.frozen 0; have g1 := hr.frozen 1; clear hx2 hr hp)
                        )
                      (try simp only [Exit.inBlock, Exit.then])
                      refine ret_cell_tmp _ rfl rfl ((HR.out.set0 (.int .i64 0)).set1 (.int .i64 0)) Tryz.underlying201 rfl (by kernel_rfl) rfl ?_
                      exact ⟨by rw [HF.out]; rfl, (HP.out.ext.setCell (Nat.le_refl _) _).setCell (Nat.le_refl _) _⟩
                    | some b =>
                      have HPL : Hid (planeR (bys s) = pairP (some (a)) (some b) (bys s)) := by show _ = _; rw [HPQ.out, HM.out, hn2]
                      have HAB : Hid ((-1000000000 ≤ (a : Int) ∧ (a : Int) ≤ 1000000000) ∧ (-1000000000 ≤ b ∧ b ≤ 1000000000)) := ⟨HAa.out, HS.out b (by rw [HM.out, hn2])⟩
                      have HC2 := HO2.out b hn2
                      clear hn2
                      skip
                      cases hwi : withinR a b with
                      | false =>
                        try exact absurd hwi (by decide)
                        all_goals
                          have HF : Hid (planeR (bys s) = none) := by show _ = _; rw [HPL.out]; unfold pairP; simp [hwi]
                          have HWI := hid hwi
                          clear hwi
                          skip
                          go_wp2_with (first
                            | (go_at_call 195; (with_reducible refine (HC1 _).mono ?_); rintro e w1 ⟨rfl, hx1⟩; obtain ⟨hr, hp⟩ := two_boxes hx1; have HR := hid (hr.aside (Nat.le_succ _) (by omega) 0 (.int .i64 a) (k := w.heap.size + 1)); have HP := hid (hp.set0 (.int .i64 a)); have c0 := hp.cell (i := 0) rfl; have c1 := hp.cell (i := 1) rfl; have f0 := hp.frozen 0; have f1 := hp.frozen 1; have r0 := hr.cell (i := 0) rfl; have r1 := hr.cell (i := 1) rfl; have g0 := hr.frozen 0; have g1 := hr.frozen 1; clear hx1 hr hp)
                            | (go_at_call 195; (with_reducible refine (HC2 _).mono ?_); rintro e w2 ⟨rfl, hx2⟩; (try clear c0 c1 f0 f1 r0 r1 g0 g1); have hr := HR.out.later hx2; have hp := HP.out.later hx2; clear HR HP; have HR := hid (hr.aside (Nat.le_succ _) (by omega) 1 (.int .i64 b) (k := w.heap.size + 1)); have HP := hid (hp.set1 (.int .i64 b)); have c0 := hp.cell (i := 0) rfl; have c1 := hp.cell (i := 1) rfl; have f0 := hp.frozen 0; have f1 := hp.frozen 1; have r0 := hr.cell (i := 0) rfl; have r1 := hr.cell (i := 1) rfl; have g0 := hr.frozen 0; have g1 := hr.frozen 1; clear hx2 hr hp)
                            | (go_at_call 196; (with_reducible refine (within_any a b _).mono ?_); rintro e w3 ⟨he, hx3⟩; rw [HWI.out] at he; subst he; (try clear c0 c1 f0 f1 r0 r1 g0 g1); have hr : Bx w w3 w.heap.size 201 #[.int .i64 0, .int .i64 0] := (by first | exact HR.out.later hx3 | exact (HR.out.aside (k := w.heap.size + 1) (Nat.le_succ _) (by omega) 1 _).later hx3 | exact (two_boxes hx3).1); have hp : Bx w w3 (w.heap.size + 1) 201 #[.int .i64 a, .int .i64 b] := (by first | exact HP.out.later hx3 | exact (HP.out.set1 _).later hx3 | exact (two_boxes hx3).2); (try clear HR HP); have HR := hid hr; have HP := hid hp; have c0 := hp.cell (i := 0) rfl; have c1 := hp.cell (i := 1) rfl; have f0 := hp.frozen 0; have f1 := hp.frozen 1; have r0 := hr.cell (i := 0) rfl; have r1 := hr.cell (i := 1) rfl; have g0 := hr.frozen 0; have g1 := hr.frozen 1; clear hx3 hr hp)
                            | (go_at_call 197; (with_reducible refine (pairtext_any a b _ (HG.out.ext HP.out.ext) HAB.out.1 HAB.out.2).mono ?_); rintro e w4 ⟨rfl, hx4⟩; (try clear c0 c1 f0 f1 r0 r1 g0 g1); have hr := HR.out.later hx4; have hp := HP.out.later hx4; clear HR HP; have HR := hid hr; have HP := hid hp; have c0 := hp.cell (i := 0) rfl; have c1 := hp.cell (i := 1) rfl; have f0 := hp.frozen 0; have f1 := hp.frozen 1; have r0 := hr.cell (i := 0) rfl; have r1 := hr.cell (i := 1) rfl; have g0 := hr.frozen 0; have g1 := hr.frozen 1; clear hx4 hr hp)
                            )
                          (try simp only [Exit.inBlock, Exit.then])
                          refine ret_cell_tmp _ rfl rfl ((HR.out.set0 (.int .i64 0)).set1 (.int .i64 0)) Tryz.underlying201 rfl (by kernel_rfl) rfl ?_
                          exact ⟨by rw [HF.out]; rfl, (HP.out.ext.setCell (Nat.le_refl _) _).setCell (Nat.le_refl _) _⟩
                      | true =>
                        have HWI := hid hwi
                        by_cases htx : pairR a b = bys s
                        · have te : (pairR a b == s.toList) = true := by rw [ByteArray.toList_eq, beq_iff_eq]; exact htx
                          have HF : Hid (planeR (bys s) = some ((a), (b))) := by show _ = _; rw [HPL.out]; unfold pairP; simp [hwi, htx]
                          clear hwi htx
                          skip
                          go_wp2_with (first
                            | (go_at_call 195; (with_reducible refine (HC1 _).mono ?_); rintro e w1 ⟨rfl, hx1⟩; obtain ⟨hr, hp⟩ := two_boxes hx1; have HR := hid (hr.aside (Nat.le_succ _) (by omega) 0 (.int .i64 a) (k := w.heap.size + 1)); have HP := hid (hp.set0 (.int .i64 a)); have c0 := hp.cell (i := 0) rfl; have c1 := hp.cell (i := 1) rfl; have f0 := hp.frozen 0; have f1 := hp.frozen 1; have r0 := hr.cell (i := 0) rfl; have r1 := hr.cell (i := 1) rfl; have g0 := hr.frozen 0; have g1 := hr.frozen 1; clear hx1 hr hp)
                            | (go_at_call 195; (with_reducible refine (HC2 _).mono ?_); rintro e w2 ⟨rfl, hx2⟩; (try clear c0 c1 f0 f1 r0 r1 g0 g1); have hr := HR.out.later hx2; have hp := HP.out.later hx2; clear HR HP; have HR := hid (hr.aside (Nat.le_succ _) (by omega) 1 (.int .i64 b) (k := w.heap.size + 1)); have HP := hid (hp.set1 (.int .i64 b)); have c0 := hp.cell (i := 0) rfl; have c1 := hp.cell (i := 1) rfl; have f0 := hp.frozen 0; have f1 := hp.frozen 1; have r0 := hr.cell (i := 0) rfl; have r1 := hr.cell (i := 1) rfl; have g0 := hr.frozen 0; have g1 := hr.frozen 1; clear hx2 hr hp)
                            | (go_at_call 196; (with_reducible refine (within_any a b _).mono ?_); rintro e w3 ⟨he, hx3⟩; rw [HWI.out] at he; subst he; (try clear c0 c1 f0 f1 r0 r1 g0 g1); have hr : Bx w w3 w.heap.size 201 #[.int .i64 0, .int .i64 0] := (by first | exact HR.out.later hx3 | exact (HR.out.aside (k := w.heap.size + 1) (Nat.le_succ _) (by omega) 1 _).later hx3 | exact (two_boxes hx3).1); have hp : Bx w w3 (w.heap.size + 1) 201 #[.int .i64 a, .int .i64 b] := (by first | exact HP.out.later hx3 | exact (HP.out.set1 _).later hx3 | exact (two_boxes hx3).2); (try clear HR HP); have HR := hid hr; have HP := hid hp; have c0 := hp.cell (i := 0) rfl; have c1 := hp.cell (i := 1) rfl; have f0 := hp.frozen 0; have f1 := hp.frozen 1; have r0 := hr.cell (i := 0) rfl; have r1 := hr.cell (i := 1) rfl; have g0 := hr.frozen 0; have g1 := hr.frozen 1; clear hx3 hr hp)
                            | (go_at_call 197; (with_reducible refine (pairtext_any a b _ (HG.out.ext HP.out.ext) HAB.out.1 HAB.out.2).mono ?_); rintro e w4 ⟨rfl, hx4⟩; (try clear c0 c1 f0 f1 r0 r1 g0 g1); have hr := HR.out.later hx4; have hp := HP.out.later hx4; clear HR HP; have HR := hid hr; have HP := hid hp; have c0 := hp.cell (i := 0) rfl; have c1 := hp.cell (i := 1) rfl; have f0 := hp.frozen 0; have f1 := hp.frozen 1; have r0 := hr.cell (i := 0) rfl; have r1 := hr.cell (i := 1) rfl; have g0 := hr.frozen 0; have g1 := hr.frozen 1; clear hx4 hr hp)
                            )
                          (try simp only [Exit.inBlock, Exit.then])
                          refine ret_cell_tmp _ rfl rfl ((HR.out.set0 (.int .i64 a)).set1 (.int .i64 b)) Tryz.underlying201 rfl (by kernel_rfl) rfl ?_
                          exact ⟨by rw [HF.out]; rfl, (HP.out.ext.setCell (Nat.le_refl _) _).setCell (Nat.le_refl _) _⟩
                        · have te : (pairR a b == s.toList) = false := by rw [ByteArray.toList_eq, beq_eq_false_iff_ne]; exact htx
                          have HF : Hid (planeR (bys s) = none) := by show _ = _; rw [HPL.out]; unfold pairP; simp [hwi, htx]
                          clear hwi htx
                          skip
                          go_wp2_with (first
                            | (go_at_call 195; (with_reducible refine (HC1 _).mono ?_); rintro e w1 ⟨rfl, hx1⟩; obtain ⟨hr, hp⟩ := two_boxes hx1; have HR := hid (hr.aside (Nat.le_succ _) (by omega) 0 (.int .i64 a) (k := w.heap.size + 1)); have HP := hid (hp.set0 (.int .i64 a)); have c0 := hp.cell (i := 0) rfl; have c1 := hp.cell (i := 1) rfl; have f0 := hp.frozen 0; have f1 := hp.frozen 1; have r0 := hr.cell (i := 0) rfl; have r1 := hr.cell (i := 1) rfl; have g0 := hr.frozen 0; have g1 := hr.frozen 1; clear hx1 hr hp)
                            | (go_at_call 195; (with_reducible refine (HC2 _).mono ?_); rintro e w2 ⟨rfl, hx2⟩; (try clear c0 c1 f0 f1 r0 r1 g0 g1); have hr := HR.out.later hx2; have hp := HP.out.later hx2; clear HR HP; have HR := hid (hr.aside (Nat.le_succ _) (by omega) 1 (.int .i64 b) (k := w.heap.size + 1)); have HP := hid (hp.set1 (.int .i64 b)); have c0 := hp.cell (i := 0) rfl; have c1 := hp.cell (i := 1) rfl; have f0 := hp.frozen 0; have f1 := hp.frozen 1; have r0 := hr.cell (i := 0) rfl; have r1 := hr.cell (i := 1) rfl; have g0 := hr.frozen 0; have g1 := hr.frozen 1; clear hx2 hr hp)
                            | (go_at_call 196; (with_reducible refine (within_any a b _).mono ?_); rintro e w3 ⟨he, hx3⟩; rw [HWI.out] at he; subst he; (try clear c0 c1 f0 f1 r0 r1 g0 g1); have hr : Bx w w3 w.heap.size 201 #[.int .i64 0, .int .i64 0] := (by first | exact HR.out.later hx3 | exact (HR.out.aside (k := w.heap.size + 1) (Nat.le_succ _) (by omega) 1 _).later hx3 | exact (two_boxes hx3).1); have hp : Bx w w3 (w.heap.size + 1) 201 #[.int .i64 a, .int .i64 b] := (by first | exact HP.out.later hx3 | exact (HP.out.set1 _).later hx3 | exact (two_boxes hx3).2); (try clear HR HP); have HR := hid hr; have HP := hid hp; have c0 := hp.cell (i := 0) rfl; have c1 := hp.cell (i := 1) rfl; have f0 := hp.frozen 0; have f1 := hp.frozen 1; have r0 := hr.cell (i := 0) rfl; have r1 := hr.cell (i := 1) rfl; have g0 := hr.frozen 0; have g1 := hr.frozen 1; clear hx3 hr hp)
                            | (go_at_call 197; (with_reducible refine (pairtext_any a b _ (HG.out.ext HP.out.ext) HAB.out.1 HAB.out.2).mono ?_); rintro e w4 ⟨rfl, hx4⟩; (try clear c0 c1 f0 f1 r0 r1 g0 g1); have hr := HR.out.later hx4; have hp := HP.out.later hx4; clear HR HP; have HR := hid hr; have HP := hid hp; have c0 := hp.cell (i := 0) rfl; have c1 := hp.cell (i := 1) rfl; have f0 := hp.frozen 0; have f1 := hp.frozen 1; have r0 := hr.cell (i := 0) rfl; have r1 := hr.cell (i := 1) rfl; have g0 := hr.frozen 0; have g1 := hr.frozen 1; clear hx4 hr hp)
                            )
                          (try simp only [Exit.inBlock, Exit.then])
                          refine ret_cell_tmp _ rfl rfl ((HR.out.set0 (.int .i64 0)).set1 (.int .i64 0)) Tryz.underlying201 rfl (by kernel_rfl) rfl ?_
                          exact ⟨by rw [HF.out]; rfl, (HP.out.ext.setCell (Nat.le_refl _) _).setCell (Nat.le_refl _) _⟩
          · have tk : ¬ 0 < (k : Int) := by omega
            obtain rfl : k = 0 := by omega
            rw [if_neg (by omega)] at HPQ
            have HAa : Hid (-1000000000 ≤ (0 : Int) ∧ (0 : Int) ≤ 1000000000) := ⟨by omega, by omega⟩
            by_cases hb0 : m = []
            · have b0 : (m == []) = true := by rw [hb0]; rfl
              have HPL : Hid (planeR (bys s) = pairP (some (0)) (some (1)) (bys s)) := by show _ = _; rw [HPQ.out, HM.out]; rw [if_pos (.inl hb0)]
              have HAB : Hid ((-1000000000 ≤ (0 : Int) ∧ (0 : Int) ≤ 1000000000) ∧ (-1000000000 ≤ (1 : Int) ∧ (1 : Int) ≤ 1000000000)) := ⟨HAa.out, by omega⟩
              cases hwi : withinR 0 (1) with
              | false =>
                try exact absurd hwi (by decide)
                all_goals
                  have HF : Hid (planeR (bys s) = none) := by show _ = _; rw [HPL.out]; unfold pairP; simp [hwi]
                  have HWI := hid hwi
                  clear hwi
                  clear hb0
                  go_wp2_with (first
                    | (go_at_call 195; (with_reducible refine (HC1 _).mono ?_); rintro e w1 ⟨rfl, hx1⟩; obtain ⟨hr, hp⟩ := two_boxes hx1; have HR := hid (hr.aside (Nat.le_succ _) (by omega) 0 (.int .i64 0) (k := w.heap.size + 1)); have HP := hid (hp.set0 (.int .i64 0)); have c0 := hp.cell (i := 0) rfl; have c1 := hp.cell (i := 1) rfl; have f0 := hp.frozen 0; have f1 := hp.frozen 1; have r0 := hr.cell (i := 0) rfl; have r1 := hr.cell (i := 1) rfl; have g0 := hr.frozen 0; have g1 := hr.frozen 1; clear hx1 hr hp)
                    | (go_at_call 195; (with_reducible refine (HC2 _).mono ?_); rintro e w2 ⟨rfl, hx2⟩; (try clear c0 c1 f0 f1 r0 r1 g0 g1); have hr := HR.out.later hx2; have hp := HP.out.later hx2; clear HR HP; have HR := hid (hr.aside (Nat.le_succ _) (by omega) 1 (.int .i64 (1)) (k := w.heap.size + 1)); have HP := hid (hp.set1 (.int .i64 (1))); have c0 := hp.cell (i := 0) rfl; have c1 := hp.cell (i := 1) rfl; have f0 := hp.frozen 0; have f1 := hp.frozen 1; have r0 := hr.cell (i := 0) rfl; have r1 := hr.cell (i := 1) rfl; have g0 := hr.frozen 0; have g1 := hr.frozen 1; clear hx2 hr hp)
                    | (go_at_call 196; (with_reducible refine (within_any 0 (1) _).mono ?_); rintro e w3 ⟨he, hx3⟩; rw [HWI.out] at he; subst he; (try clear c0 c1 f0 f1 r0 r1 g0 g1); have hr : Bx w w3 w.heap.size 201 #[.int .i64 0, .int .i64 0] := (by first | exact HR.out.later hx3 | exact (HR.out.aside (k := w.heap.size + 1) (Nat.le_succ _) (by omega) 1 _).later hx3 | exact (two_boxes hx3).1); have hp : Bx w w3 (w.heap.size + 1) 201 #[.int .i64 0, .int .i64 (1)] := (by first | exact HP.out.later hx3 | exact (HP.out.set1 _).later hx3 | exact (two_boxes hx3).2); (try clear HR HP); have HR := hid hr; have HP := hid hp; have c0 := hp.cell (i := 0) rfl; have c1 := hp.cell (i := 1) rfl; have f0 := hp.frozen 0; have f1 := hp.frozen 1; have r0 := hr.cell (i := 0) rfl; have r1 := hr.cell (i := 1) rfl; have g0 := hr.frozen 0; have g1 := hr.frozen 1; clear hx3 hr hp)
                    | (go_at_call 197; (with_reducible refine (pairtext_any 0 (1) _ (HG.out.ext HP.out.ext) HAB.out.1 HAB.out.2).mono ?_); rintro e w4 ⟨rfl, hx4⟩; (try clear c0 c1 f0 f1 r0 r1 g0 g1); have hr := HR.out.later hx4; have hp := HP.out.later hx4; clear HR HP; have HR := hid hr; have HP := hid hp; have c0 := hp.cell (i := 0) rfl; have c1 := hp.cell (i := 1) rfl; have f0 := hp.frozen 0; have f1 := hp.frozen 1; have r0 := hr.cell (i := 0) rfl; have r1 := hr.cell (i := 1) rfl; have g0 := hr.frozen 0; have g1 := hr.frozen 1; clear hx4 hr hp)
                    )
                  (try simp only [Exit.inBlock, Exit.then])
                  refine ret_cell_tmp _ rfl rfl ((HR.out.set0 (.int .i64 0)).set1 (.int .i64 0)) Tryz.underlying201 rfl (by kernel_rfl) rfl ?_
                  exact ⟨by rw [HF.out]; rfl, (HP.out.ext.setCell (Nat.le_refl _) _).setCell (Nat.le_refl _) _⟩
              | true =>
                have HWI := hid hwi
                by_cases htx : pairR 0 (1) = bys s
                · have te : (pairR 0 (1) == s.toList) = true := by rw [ByteArray.toList_eq, beq_iff_eq]; exact htx
                  have HF : Hid (planeR (bys s) = some ((0), ((1)))) := by show _ = _; rw [HPL.out]; unfold pairP; simp [hwi, htx]
                  clear hwi htx
                  clear hb0
                  go_wp2_with (first
                    | (go_at_call 195; (with_reducible refine (HC1 _).mono ?_); rintro e w1 ⟨rfl, hx1⟩; obtain ⟨hr, hp⟩ := two_boxes hx1; have HR := hid (hr.aside (Nat.le_succ _) (by omega) 0 (.int .i64 0) (k := w.heap.size + 1)); have HP := hid (hp.set0 (.int .i64 0)); have c0 := hp.cell (i := 0) rfl; have c1 := hp.cell (i := 1) rfl; have f0 := hp.frozen 0; have f1 := hp.frozen 1; have r0 := hr.cell (i := 0) rfl; have r1 := hr.cell (i := 1) rfl; have g0 := hr.frozen 0; have g1 := hr.frozen 1; clear hx1 hr hp)
                    | (go_at_call 195; (with_reducible refine (HC2 _).mono ?_); rintro e w2 ⟨rfl, hx2⟩; (try clear c0 c1 f0 f1 r0 r1 g0 g1); have hr := HR.out.later hx2; have hp := HP.out.later hx2; clear HR HP; have HR := hid (hr.aside (Nat.le_succ _) (by omega) 1 (.int .i64 (1)) (k := w.heap.size + 1)); have HP := hid (hp.set1 (.int .i64 (1))); have c0 := hp.cell (i := 0) rfl; have c1 := hp.cell (i := 1) rfl; have f0 := hp.frozen 0; have f1 := hp.frozen 1; have r0 := hr.cell (i := 0) rfl; have r1 := hr.cell (i := 1) rfl; have g0 := hr.frozen 0; have g1 := hr.frozen 1; clear hx2 hr hp)
                    | (go_at_call 196; (with_reducible refine (within_any 0 (1) _).mono ?_); rintro e w3 ⟨he, hx3⟩; rw [HWI.out] at he; subst he; (try clear c0 c1 f0 f1 r0 r1 g0 g1); have hr : Bx w w3 w.heap.size 201 #[.int .i64 0, .int .i64 0] := (by first | exact HR.out.later hx3 | exact (HR.out.aside (k := w.heap.size + 1) (Nat.le_succ _) (by omega) 1 _).later hx3 | exact (two_boxes hx3).1); have hp : Bx w w3 (w.heap.size + 1) 201 #[.int .i64 0, .int .i64 (1)] := (by first | exact HP.out.later hx3 | exact (HP.out.set1 _).later hx3 | exact (two_boxes hx3).2); (try clear HR HP); have HR := hid hr; have HP := hid hp; have c0 := hp.cell (i := 0) rfl; have c1 := hp.cell (i := 1) rfl; have f0 := hp.frozen 0; have f1 := hp.frozen 1; have r0 := hr.cell (i := 0) rfl; have r1 := hr.cell (i := 1) rfl; have g0 := hr.frozen 0; have g1 := hr.frozen 1; clear hx3 hr hp)
                    | (go_at_call 197; (with_reducible refine (pairtext_any 0 (1) _ (HG.out.ext HP.out.ext) HAB.out.1 HAB.out.2).mono ?_); rintro e w4 ⟨rfl, hx4⟩; (try clear c0 c1 f0 f1 r0 r1 g0 g1); have hr := HR.out.later hx4; have hp := HP.out.later hx4; clear HR HP; have HR := hid hr; have HP := hid hp; have c0 := hp.cell (i := 0) rfl; have c1 := hp.cell (i := 1) rfl; have f0 := hp.frozen 0; have f1 := hp.frozen 1; have r0 := hr.cell (i := 0) rfl; have r1 := hr.cell (i := 1) rfl; have g0 := hr.frozen 0; have g1 := hr.frozen 1; clear hx4 hr hp)
                    )
                  (try simp only [Exit.inBlock, Exit.then])
                  refine ret_cell_tmp _ rfl rfl ((HR.out.set0 (.int .i64 0)).set1 (.int .i64 (1))) Tryz.underlying201 rfl (by kernel_rfl) rfl ?_
                  exact ⟨by rw [HF.out]; rfl, (HP.out.ext.setCell (Nat.le_refl _) _).setCell (Nat.le_refl _) _⟩
                · have te : (pairR 0 (1) == s.toList) = false := by rw [ByteArray.toList_eq, beq_eq_false_iff_ne]; exact htx
                  have HF : Hid (planeR (bys s) = none) := by show _ = _; rw [HPL.out]; unfold pairP; simp [hwi, htx]
                  clear hwi htx
                  clear hb0
                  go_wp2_with (first
                    | (go_at_call 195; (with_reducible refine (HC1 _).mono ?_); rintro e w1 ⟨rfl, hx1⟩; obtain ⟨hr, hp⟩ := two_boxes hx1; have HR := hid (hr.aside (Nat.le_succ _) (by omega) 0 (.int .i64 0) (k := w.heap.size + 1)); have HP := hid (hp.set0 (.int .i64 0)); have c0 := hp.cell (i := 0) rfl; have c1 := hp.cell (i := 1) rfl; have f0 := hp.frozen 0; have f1 := hp.frozen 1; have r0 := hr.cell (i := 0) rfl; have r1 := hr.cell (i := 1) rfl; have g0 := hr.frozen 0; have g1 := hr.frozen 1; clear hx1 hr hp)
                    | (go_at_call 195; (with_reducible refine (HC2 _).mono ?_); rintro e w2 ⟨rfl, hx2⟩; (try clear c0 c1 f0 f1 r0 r1 g0 g1); have hr := HR.out.later hx2; have hp := HP.out.later hx2; clear HR HP; have HR := hid (hr.aside (Nat.le_succ _) (by omega) 1 (.int .i64 (1)) (k := w.heap.size + 1)); have HP := hid (hp.set1 (.int .i64 (1))); have c0 := hp.cell (i := 0) rfl; have c1 := hp.cell (i := 1) rfl; have f0 := hp.frozen 0; have f1 := hp.frozen 1; have r0 := hr.cell (i := 0) rfl; have r1 := hr.cell (i := 1) rfl; have g0 := hr.frozen 0; have g1 := hr.frozen 1; clear hx2 hr hp)
                    | (go_at_call 196; (with_reducible refine (within_any 0 (1) _).mono ?_); rintro e w3 ⟨he, hx3⟩; rw [HWI.out] at he; subst he; (try clear c0 c1 f0 f1 r0 r1 g0 g1); have hr : Bx w w3 w.heap.size 201 #[.int .i64 0, .int .i64 0] := (by first | exact HR.out.later hx3 | exact (HR.out.aside (k := w.heap.size + 1) (Nat.le_succ _) (by omega) 1 _).later hx3 | exact (two_boxes hx3).1); have hp : Bx w w3 (w.heap.size + 1) 201 #[.int .i64 0, .int .i64 (1)] := (by first | exact HP.out.later hx3 | exact (HP.out.set1 _).later hx3 | exact (two_boxes hx3).2); (try clear HR HP); have HR := hid hr; have HP := hid hp; have c0 := hp.cell (i := 0) rfl; have c1 := hp.cell (i := 1) rfl; have f0 := hp.frozen 0; have f1 := hp.frozen 1; have r0 := hr.cell (i := 0) rfl; have r1 := hr.cell (i := 1) rfl; have g0 := hr.frozen 0; have g1 := hr.frozen 1; clear hx3 hr hp)
                    | (go_at_call 197; (with_reducible refine (pairtext_any 0 (1) _ (HG.out.ext HP.out.ext) HAB.out.1 HAB.out.2).mono ?_); rintro e w4 ⟨rfl, hx4⟩; (try clear c0 c1 f0 f1 r0 r1 g0 g1); have hr := HR.out.later hx4; have hp := HP.out.later hx4; clear HR HP; have HR := hid hr; have HP := hid hp; have c0 := hp.cell (i := 0) rfl; have c1 := hp.cell (i := 1) rfl; have f0 := hp.frozen 0; have f1 := hp.frozen 1; have r0 := hr.cell (i := 0) rfl; have r1 := hr.cell (i := 1) rfl; have g0 := hr.frozen 0; have g1 := hr.frozen 1; clear hx4 hr hp)
                    )
                  (try simp only [Exit.inBlock, Exit.then])
                  refine ret_cell_tmp _ rfl rfl ((HR.out.set0 (.int .i64 0)).set1 (.int .i64 0)) Tryz.underlying201 rfl (by kernel_rfl) rfl ?_
                  exact ⟨by rw [HF.out]; rfl, (HP.out.ext.setCell (Nat.le_refl _) _).setCell (Nat.le_refl _) _⟩
            · have b0 : (m == []) = false := by rw [beq_eq_false_iff_ne]; exact hb0
              by_cases hb1 : m = [43]
              · have b1 : (m == [43]) = true := by rw [hb1]; rfl
                have HPL : Hid (planeR (bys s) = pairP (some (0)) (some (1)) (bys s)) := by show _ = _; rw [HPQ.out, HM.out]; rw [if_pos (.inr hb1)]
                have HAB : Hid ((-1000000000 ≤ (0 : Int) ∧ (0 : Int) ≤ 1000000000) ∧ (-1000000000 ≤ (1 : Int) ∧ (1 : Int) ≤ 1000000000)) := ⟨HAa.out, by omega⟩
                cases hwi : withinR 0 (1) with
                | false =>
                  try exact absurd hwi (by decide)
                  all_goals
                    have HF : Hid (planeR (bys s) = none) := by show _ = _; rw [HPL.out]; unfold pairP; simp [hwi]
                    have HWI := hid hwi
                    clear hwi
                    clear hb0 hb1
                    go_wp2_with (first
                      | (go_at_call 195; (with_reducible refine (HC1 _).mono ?_); rintro e w1 ⟨rfl, hx1⟩; obtain ⟨hr, hp⟩ := two_boxes hx1; have HR := hid (hr.aside (Nat.le_succ _) (by omega) 0 (.int .i64 0) (k := w.heap.size + 1)); have HP := hid (hp.set0 (.int .i64 0)); have c0 := hp.cell (i := 0) rfl; have c1 := hp.cell (i := 1) rfl; have f0 := hp.frozen 0; have f1 := hp.frozen 1; have r0 := hr.cell (i := 0) rfl; have r1 := hr.cell (i := 1) rfl; have g0 := hr.frozen 0; have g1 := hr.frozen 1; clear hx1 hr hp)
                      | (go_at_call 195; (with_reducible refine (HC2 _).mono ?_); rintro e w2 ⟨rfl, hx2⟩; (try clear c0 c1 f0 f1 r0 r1 g0 g1); have hr := HR.out.later hx2; have hp := HP.out.later hx2; clear HR HP; have HR := hid (hr.aside (Nat.le_succ _) (by omega) 1 (.int .i64 (1)) (k := w.heap.size + 1)); have HP := hid (hp.set1 (.int .i64 (1))); have c0 := hp.cell (i := 0) rfl; have c1 := hp.cell (i := 1) rfl; have f0 := hp.frozen 0; have f1 := hp.frozen 1; have r0 := hr.cell (i := 0) rfl; have r1 := hr.cell (i := 1) rfl; have g0 := hr.frozen 0; have g1 := hr.frozen 1; clear hx2 hr hp)
                      | (go_at_call 196; (with_reducible refine (within_any 0 (1) _).mono ?_); rintro e w3 ⟨he, hx3⟩; rw [HWI.out] at he; subst he; (try clear c0 c1 f0 f1 r0 r1 g0 g1); have hr : Bx w w3 w.heap.size 201 #[.int .i64 0, .int .i64 0] := (by first | exact HR.out.later hx3 | exact (HR.out.aside (k := w.heap.size + 1) (Nat.le_succ _) (by omega) 1 _).later hx3 | exact (two_boxes hx3).1); have hp : Bx w w3 (w.heap.size + 1) 201 #[.int .i64 0, .int .i64 (1)] := (by first | exact HP.out.later hx3 | exact (HP.out.set1 _).later hx3 | exact (two_boxes hx3).2); (try clear HR HP); have HR := hid hr; have HP := hid hp; have c0 := hp.cell (i := 0) rfl; have c1 := hp.cell (i := 1) rfl; have f0 := hp.frozen 0; have f1 := hp.frozen 1; have r0 := hr.cell (i := 0) rfl; have r1 := hr.cell (i := 1) rfl; have g0 := hr.frozen 0; have g1 := hr.frozen 1; clear hx3 hr hp)
                      | (go_at_call 197; (with_reducible refine (pairtext_any 0 (1) _ (HG.out.ext HP.out.ext) HAB.out.1 HAB.out.2).mono ?_); rintro e w4 ⟨rfl, hx4⟩; (try clear c0 c1 f0 f1 r0 r1 g0 g1); have hr := HR.out.later hx4; have hp := HP.out.later hx4; clear HR HP; have HR := hid hr; have HP := hid hp; have c0 := hp.cell (i := 0) rfl; have c1 := hp.cell (i := 1) rfl; have f0 := hp.frozen 0; have f1 := hp.frozen 1; have r0 := hr.cell (i := 0) rfl; have r1 := hr.cell (i := 1) rfl; have g0 := hr.frozen 0; have g1 := hr.frozen 1; clear hx4 hr hp)
                      )
                    (try simp only [Exit.inBlock, Exit.then])
                    refine ret_cell_tmp _ rfl rfl ((HR.out.set0 (.int .i64 0)).set1 (.int .i64 0)) Tryz.underlying201 rfl (by kernel_rfl) rfl ?_
                    exact ⟨by rw [HF.out]; rfl, (HP.out.ext.setCell (Nat.le_refl _) _).setCell (Nat.le_refl _) _⟩
                | true =>
                  have HWI := hid hwi
                  by_cases htx : pairR 0 (1) = bys s
                  · have te : (pairR 0 (1) == s.toList) = true := by rw [ByteArray.toList_eq, beq_iff_eq]; exact htx
                    have HF : Hid (planeR (bys s) = some ((0), ((1)))) := by show _ = _; rw [HPL.out]; unfold pairP; simp [hwi, htx]
                    clear hwi htx
                    clear hb0 hb1
                    go_wp2_with (first
                      | (go_at_call 195; (with_reducible refine (HC1 _).mono ?_); rintro e w1 ⟨rfl, hx1⟩; obtain ⟨hr, hp⟩ := two_boxes hx1; have HR := hid (hr.aside (Nat.le_succ _) (by omega) 0 (.int .i64 0) (k := w.heap.size + 1)); have HP := hid (hp.set0 (.int .i64 0)); have c0 := hp.cell (i := 0) rfl; have c1 := hp.cell (i := 1) rfl; have f0 := hp.frozen 0; have f1 := hp.frozen 1; have r0 := hr.cell (i := 0) rfl; have r1 := hr.cell (i := 1) rfl; have g0 := hr.frozen 0; have g1 := hr.frozen 1; clear hx1 hr hp)
                      | (go_at_call 195; (with_reducible refine (HC2 _).mono ?_); rintro e w2 ⟨rfl, hx2⟩; (try clear c0 c1 f0 f1 r0 r1 g0 g1); have hr := HR.out.later hx2; have hp := HP.out.later hx2; clear HR HP; have HR := hid (hr.aside (Nat.le_succ _) (by omega) 1 (.int .i64 (1)) (k := w.heap.size + 1)); have HP := hid (hp.set1 (.int .i64 (1))); have c0 := hp.cell (i := 0) rfl; have c1 := hp.cell (i := 1) rfl; have f0 := hp.frozen 0; have f1 := hp.frozen 1; have r0 := hr.cell (i := 0) rfl; have r1 := hr.cell (i := 1) rfl; have g0 := hr.frozen 0; have g1 := hr.frozen 1; clear hx2 hr hp)
                      | (go_at_call 196; (with_reducible refine (within_any 0 (1) _).mono ?_); rintro e w3 ⟨he, hx3⟩; rw [HWI.out] at he; subst he; (try clear c0 c1 f0 f1 r0 r1 g0 g1); have hr : Bx w w3 w.heap.size 201 #[.int .i64 0, .int .i64 0] := (by first | exact HR.out.later hx3 | exact (HR.out.aside (k := w.heap.size + 1) (Nat.le_succ _) (by omega) 1 _).later hx3 | exact (two_boxes hx3).1); have hp : Bx w w3 (w.heap.size + 1) 201 #[.int .i64 0, .int .i64 (1)] := (by first | exact HP.out.later hx3 | exact (HP.out.set1 _).later hx3 | exact (two_boxes hx3).2); (try clear HR HP); have HR := hid hr; have HP := hid hp; have c0 := hp.cell (i := 0) rfl; have c1 := hp.cell (i := 1) rfl; have f0 := hp.frozen 0; have f1 := hp.frozen 1; have r0 := hr.cell (i := 0) rfl; have r1 := hr.cell (i := 1) rfl; have g0 := hr.frozen 0; have g1 := hr.frozen 1; clear hx3 hr hp)
                      | (go_at_call 197; (with_reducible refine (pairtext_any 0 (1) _ (HG.out.ext HP.out.ext) HAB.out.1 HAB.out.2).mono ?_); rintro e w4 ⟨rfl, hx4⟩; (try clear c0 c1 f0 f1 r0 r1 g0 g1); have hr := HR.out.later hx4; have hp := HP.out.later hx4; clear HR HP; have HR := hid hr; have HP := hid hp; have c0 := hp.cell (i := 0) rfl; have c1 := hp.cell (i := 1) rfl; have f0 := hp.frozen 0; have f1 := hp.frozen 1; have r0 := hr.cell (i := 0) rfl; have r1 := hr.cell (i := 1) rfl; have g0 := hr.frozen 0; have g1 := hr.frozen 1; clear hx4 hr hp)
                      )
                    (try simp only [Exit.inBlock, Exit.then])
                    refine ret_cell_tmp _ rfl rfl ((HR.out.set0 (.int .i64 0)).set1 (.int .i64 (1))) Tryz.underlying201 rfl (by kernel_rfl) rfl ?_
                    exact ⟨by rw [HF.out]; rfl, (HP.out.ext.setCell (Nat.le_refl _) _).setCell (Nat.le_refl _) _⟩
                  · have te : (pairR 0 (1) == s.toList) = false := by rw [ByteArray.toList_eq, beq_eq_false_iff_ne]; exact htx
                    have HF : Hid (planeR (bys s) = none) := by show _ = _; rw [HPL.out]; unfold pairP; simp [hwi, htx]
                    clear hwi htx
                    clear hb0 hb1
                    go_wp2_with (first
                      | (go_at_call 195; (with_reducible refine (HC1 _).mono ?_); rintro e w1 ⟨rfl, hx1⟩; obtain ⟨hr, hp⟩ := two_boxes hx1; have HR := hid (hr.aside (Nat.le_succ _) (by omega) 0 (.int .i64 0) (k := w.heap.size + 1)); have HP := hid (hp.set0 (.int .i64 0)); have c0 := hp.cell (i := 0) rfl; have c1 := hp.cell (i := 1) rfl; have f0 := hp.frozen 0; have f1 := hp.frozen 1; have r0 := hr.cell (i := 0) rfl; have r1 := hr.cell (i := 1) rfl; have g0 := hr.frozen 0; have g1 := hr.frozen 1; clear hx1 hr hp)
                      | (go_at_call 195; (with_reducible refine (HC2 _).mono ?_); rintro e w2 ⟨rfl, hx2⟩; (try clear c0 c1 f0 f1 r0 r1 g0 g1); have hr := HR.out.later hx2; have hp := HP.out.later hx2; clear HR HP; have HR := hid (hr.aside (Nat.le_succ _) (by omega) 1 (.int .i64 (1)) (k := w.heap.size + 1)); have HP := hid (hp.set1 (.int .i64 (1))); have c0 := hp.cell (i := 0) rfl; have c1 := hp.cell (i := 1) rfl; have f0 := hp.frozen 0; have f1 := hp.frozen 1; have r0 := hr.cell (i := 0) rfl; have r1 := hr.cell (i := 1) rfl; have g0 := hr.frozen 0; have g1 := hr.frozen 1; clear hx2 hr hp)
                      | (go_at_call 196; (with_reducible refine (within_any 0 (1) _).mono ?_); rintro e w3 ⟨he, hx3⟩; rw [HWI.out] at he; subst he; (try clear c0 c1 f0 f1 r0 r1 g0 g1); have hr : Bx w w3 w.heap.size 201 #[.int .i64 0, .int .i64 0] := (by first | exact HR.out.later hx3 | exact (HR.out.aside (k := w.heap.size + 1) (Nat.le_succ _) (by omega) 1 _).later hx3 | exact (two_boxes hx3).1); have hp : Bx w w3 (w.heap.size + 1) 201 #[.int .i64 0, .int .i64 (1)] := (by first | exact HP.out.later hx3 | exact (HP.out.set1 _).later hx3 | exact (two_boxes hx3).2); (try clear HR HP); have HR := hid hr; have HP := hid hp; have c0 := hp.cell (i := 0) rfl; have c1 := hp.cell (i := 1) rfl; have f0 := hp.frozen 0; have f1 := hp.frozen 1; have r0 := hr.cell (i := 0) rfl; have r1 := hr.cell (i := 1) rfl; have g0 := hr.frozen 0; have g1 := hr.frozen 1; clear hx3 hr hp)
                      | (go_at_call 197; (with_reducible refine (pairtext_any 0 (1) _ (HG.out.ext HP.out.ext) HAB.out.1 HAB.out.2).mono ?_); rintro e w4 ⟨rfl, hx4⟩; (try clear c0 c1 f0 f1 r0 r1 g0 g1); have hr := HR.out.later hx4; have hp := HP.out.later hx4; clear HR HP; have HR := hid hr; have HP := hid hp; have c0 := hp.cell (i := 0) rfl; have c1 := hp.cell (i := 1) rfl; have f0 := hp.frozen 0; have f1 := hp.frozen 1; have r0 := hr.cell (i := 0) rfl; have r1 := hr.cell (i := 1) rfl; have g0 := hr.frozen 0; have g1 := hr.frozen 1; clear hx4 hr hp)
                      )
                    (try simp only [Exit.inBlock, Exit.then])
                    refine ret_cell_tmp _ rfl rfl ((HR.out.set0 (.int .i64 0)).set1 (.int .i64 0)) Tryz.underlying201 rfl (by kernel_rfl) rfl ?_
                    exact ⟨by rw [HF.out]; rfl, (HP.out.ext.setCell (Nat.le_refl _) _).setCell (Nat.le_refl _) _⟩
              · have b1 : (m == [43]) = false := by rw [beq_eq_false_iff_ne]; exact hb1
                rw [if_neg (fun h => h.elim hb0 hb1)] at HM
                by_cases hb2 : m = [45]
                · have b2 : (m == [45]) = true := by rw [hb2]; rfl
                  have HPL : Hid (planeR (bys s) = pairP (some (0)) (some (-1)) (bys s)) := by show _ = _; rw [HPQ.out, HM.out]; rw [if_pos hb2]
                  have HAB : Hid ((-1000000000 ≤ (0 : Int) ∧ (0 : Int) ≤ 1000000000) ∧ (-1000000000 ≤ (-1 : Int) ∧ (-1 : Int) ≤ 1000000000)) := ⟨HAa.out, by omega⟩
                  cases hwi : withinR 0 (-1) with
                  | false =>
                    try exact absurd hwi (by decide)
                    all_goals
                      have HF : Hid (planeR (bys s) = none) := by show _ = _; rw [HPL.out]; unfold pairP; simp [hwi]
                      have HWI := hid hwi
                      clear hwi
                      clear hb0 hb1 hb2
                      go_wp2_with (first
                        | (go_at_call 195; (with_reducible refine (HC1 _).mono ?_); rintro e w1 ⟨rfl, hx1⟩; obtain ⟨hr, hp⟩ := two_boxes hx1; have HR := hid (hr.aside (Nat.le_succ _) (by omega) 0 (.int .i64 0) (k := w.heap.size + 1)); have HP := hid (hp.set0 (.int .i64 0)); have c0 := hp.cell (i := 0) rfl; have c1 := hp.cell (i := 1) rfl; have f0 := hp.frozen 0; have f1 := hp.frozen 1; have r0 := hr.cell (i := 0) rfl; have r1 := hr.cell (i := 1) rfl; have g0 := hr.frozen 0; have g1 := hr.frozen 1; clear hx1 hr hp)
                        | (go_at_call 195; (with_reducible refine (HC2 _).mono ?_); rintro e w2 ⟨rfl, hx2⟩; (try clear c0 c1 f0 f1 r0 r1 g0 g1); have hr := HR.out.later hx2; have hp := HP.out.later hx2; clear HR HP; have HR := hid (hr.aside (Nat.le_succ _) (by omega) 1 (.int .i64 (-1)) (k := w.heap.size + 1)); have HP := hid (hp.set1 (.int .i64 (-1))); have c0 := hp.cell (i := 0) rfl; have c1 := hp.cell (i := 1) rfl; have f0 := hp.frozen 0; have f1 := hp.frozen 1; have r0 := hr.cell (i := 0) rfl; have r1 := hr.cell (i := 1) rfl; have g0 := hr.frozen 0; have g1 := hr.frozen 1; clear hx2 hr hp)
                        | (go_at_call 196; (with_reducible refine (within_any 0 (-1) _).mono ?_); rintro e w3 ⟨he, hx3⟩; rw [HWI.out] at he; subst he; (try clear c0 c1 f0 f1 r0 r1 g0 g1); have hr : Bx w w3 w.heap.size 201 #[.int .i64 0, .int .i64 0] := (by first | exact HR.out.later hx3 | exact (HR.out.aside (k := w.heap.size + 1) (Nat.le_succ _) (by omega) 1 _).later hx3 | exact (two_boxes hx3).1); have hp : Bx w w3 (w.heap.size + 1) 201 #[.int .i64 0, .int .i64 (-1)] := (by first | exact HP.out.later hx3 | exact (HP.out.set1 _).later hx3 | exact (two_boxes hx3).2); (try clear HR HP); have HR := hid hr; have HP := hid hp; have c0 := hp.cell (i := 0) rfl; have c1 := hp.cell (i := 1) rfl; have f0 := hp.frozen 0; have f1 := hp.frozen 1; have r0 := hr.cell (i := 0) rfl; have r1 := hr.cell (i := 1) rfl; have g0 := hr.frozen 0; have g1 := hr.frozen 1; clear hx3 hr hp)
                        | (go_at_call 197; (with_reducible refine (pairtext_any 0 (-1) _ (HG.out.ext HP.out.ext) HAB.out.1 HAB.out.2).mono ?_); rintro e w4 ⟨rfl, hx4⟩; (try clear c0 c1 f0 f1 r0 r1 g0 g1); have hr := HR.out.later hx4; have hp := HP.out.later hx4; clear HR HP; have HR := hid hr; have HP := hid hp; have c0 := hp.cell (i := 0) rfl; have c1 := hp.cell (i := 1) rfl; have f0 := hp.frozen 0; have f1 := hp.frozen 1; have r0 := hr.cell (i := 0) rfl; have r1 := hr.cell (i := 1) rfl; have g0 := hr.frozen 0; have g1 := hr.frozen 1; clear hx4 hr hp)
                        )
                      (try simp only [Exit.inBlock, Exit.then])
                      refine ret_cell_tmp _ rfl rfl ((HR.out.set0 (.int .i64 0)).set1 (.int .i64 0)) Tryz.underlying201 rfl (by kernel_rfl) rfl ?_
                      exact ⟨by rw [HF.out]; rfl, (HP.out.ext.setCell (Nat.le_refl _) _).setCell (Nat.le_refl _) _⟩
                  | true =>
                    have HWI := hid hwi
                    by_cases htx : pairR 0 (-1) = bys s
                    · have te : (pairR 0 (-1) == s.toList) = true := by rw [ByteArray.toList_eq, beq_iff_eq]; exact htx
                      have HF : Hid (planeR (bys s) = some ((0), ((-1)))) := by show _ = _; rw [HPL.out]; unfold pairP; simp [hwi, htx]
                      clear hwi htx
                      clear hb0 hb1 hb2
                      go_wp2_with (first
                        | (go_at_call 195; (with_reducible refine (HC1 _).mono ?_); rintro e w1 ⟨rfl, hx1⟩; obtain ⟨hr, hp⟩ := two_boxes hx1; have HR := hid (hr.aside (Nat.le_succ _) (by omega) 0 (.int .i64 0) (k := w.heap.size + 1)); have HP := hid (hp.set0 (.int .i64 0)); have c0 := hp.cell (i := 0) rfl; have c1 := hp.cell (i := 1) rfl; have f0 := hp.frozen 0; have f1 := hp.frozen 1; have r0 := hr.cell (i := 0) rfl; have r1 := hr.cell (i := 1) rfl; have g0 := hr.frozen 0; have g1 := hr.frozen 1; clear hx1 hr hp)
                        | (go_at_call 195; (with_reducible refine (HC2 _).mono ?_); rintro e w2 ⟨rfl, hx2⟩; (try clear c0 c1 f0 f1 r0 r1 g0 g1); have hr := HR.out.later hx2; have hp := HP.out.later hx2; clear HR HP; have HR := hid (hr.aside (Nat.le_succ _) (by omega) 1 (.int .i64 (-1)) (k := w.heap.size + 1)); have HP := hid (hp.set1 (.int .i64 (-1))); have c0 := hp.cell (i := 0) rfl; have c1 := hp.cell (i := 1) rfl; have f0 := hp.frozen 0; have f1 := hp.frozen 1; have r0 := hr.cell (i := 0) rfl; have r1 := hr.cell (i := 1) rfl; have g0 := hr.frozen 0; have g1 := hr.frozen 1; clear hx2 hr hp)
                        | (go_at_call 196; (with_reducible refine (within_any 0 (-1) _).mono ?_); rintro e w3 ⟨he, hx3⟩; rw [HWI.out] at he; subst he; (try clear c0 c1 f0 f1 r0 r1 g0 g1); have hr : Bx w w3 w.heap.size 201 #[.int .i64 0, .int .i64 0] := (by first | exact HR.out.later hx3 | exact (HR.out.aside (k := w.heap.size + 1) (Nat.le_succ _) (by omega) 1 _).later hx3 | exact (two_boxes hx3).1); have hp : Bx w w3 (w.heap.size + 1) 201 #[.int .i64 0, .int .i64 (-1)] := (by first | exact HP.out.later hx3 | exact (HP.out.set1 _).later hx3 | exact (two_boxes hx3).2); (try clear HR HP); have HR := hid hr; have HP := hid hp; have c0 := hp.cell (i := 0) rfl; have c1 := hp.cell (i := 1) rfl; have f0 := hp.frozen 0; have f1 := hp.frozen 1; have r0 := hr.cell (i := 0) rfl; have r1 := hr.cell (i := 1) rfl; have g0 := hr.frozen 0; have g1 := hr.frozen 1; clear hx3 hr hp)
                        | (go_at_call 197; (with_reducible refine (pairtext_any 0 (-1) _ (HG.out.ext HP.out.ext) HAB.out.1 HAB.out.2).mono ?_); rintro e w4 ⟨rfl, hx4⟩; (try clear c0 c1 f0 f1 r0 r1 g0 g1); have hr := HR.out.later hx4; have hp := HP.out.later hx4; clear HR HP; have HR := hid hr; have HP := hid hp; have c0 := hp.cell (i := 0) rfl; have c1 := hp.cell (i := 1) rfl; have f0 := hp.frozen 0; have f1 := hp.frozen 1; have r0 := hr.cell (i := 0) rfl; have r1 := hr.cell (i := 1) rfl; have g0 := hr.frozen 0; have g1 := hr.frozen 1; clear hx4 hr hp)
                        )
                      (try simp only [Exit.inBlock, Exit.then])
                      refine ret_cell_tmp _ rfl rfl ((HR.out.set0 (.int .i64 0)).set1 (.int .i64 (-1))) Tryz.underlying201 rfl (by kernel_rfl) rfl ?_
                      exact ⟨by rw [HF.out]; rfl, (HP.out.ext.setCell (Nat.le_refl _) _).setCell (Nat.le_refl _) _⟩
                    · have te : (pairR 0 (-1) == s.toList) = false := by rw [ByteArray.toList_eq, beq_eq_false_iff_ne]; exact htx
                      have HF : Hid (planeR (bys s) = none) := by show _ = _; rw [HPL.out]; unfold pairP; simp [hwi, htx]
                      clear hwi htx
                      clear hb0 hb1 hb2
                      go_wp2_with (first
                        | (go_at_call 195; (with_reducible refine (HC1 _).mono ?_); rintro e w1 ⟨rfl, hx1⟩; obtain ⟨hr, hp⟩ := two_boxes hx1; have HR := hid (hr.aside (Nat.le_succ _) (by omega) 0 (.int .i64 0) (k := w.heap.size + 1)); have HP := hid (hp.set0 (.int .i64 0)); have c0 := hp.cell (i := 0) rfl; have c1 := hp.cell (i := 1) rfl; have f0 := hp.frozen 0; have f1 := hp.frozen 1; have r0 := hr.cell (i := 0) rfl; have r1 := hr.cell (i := 1) rfl; have g0 := hr.frozen 0; have g1 := hr.frozen 1; clear hx1 hr hp)
                        | (go_at_call 195; (with_reducible refine (HC2 _).mono ?_); rintro e w2 ⟨rfl, hx2⟩; (try clear c0 c1 f0 f1 r0 r1 g0 g1); have hr := HR.out.later hx2; have hp := HP.out.later hx2; clear HR HP; have HR := hid (hr.aside (Nat.le_succ _) (by omega) 1 (.int .i64 (-1)) (k := w.heap.size + 1)); have HP := hid (hp.set1 (.int .i64 (-1))); have c0 := hp.cell (i := 0) rfl; have c1 := hp.cell (i := 1) rfl; have f0 := hp.frozen 0; have f1 := hp.frozen 1; have r0 := hr.cell (i := 0) rfl; have r1 := hr.cell (i := 1) rfl; have g0 := hr.frozen 0; have g1 := hr.frozen 1; clear hx2 hr hp)
                        | (go_at_call 196; (with_reducible refine (within_any 0 (-1) _).mono ?_); rintro e w3 ⟨he, hx3⟩; rw [HWI.out] at he; subst he; (try clear c0 c1 f0 f1 r0 r1 g0 g1); have hr : Bx w w3 w.heap.size 201 #[.int .i64 0, .int .i64 0] := (by first | exact HR.out.later hx3 | exact (HR.out.aside (k := w.heap.size + 1) (Nat.le_succ _) (by omega) 1 _).later hx3 | exact (two_boxes hx3).1); have hp : Bx w w3 (w.heap.size + 1) 201 #[.int .i64 0, .int .i64 (-1)] := (by first | exact HP.out.later hx3 | exact (HP.out.set1 _).later hx3 | exact (two_boxes hx3).2); (try clear HR HP); have HR := hid hr; have HP := hid hp; have c0 := hp.cell (i := 0) rfl; have c1 := hp.cell (i := 1) rfl; have f0 := hp.frozen 0; have f1 := hp.frozen 1; have r0 := hr.cell (i := 0) rfl; have r1 := hr.cell (i := 1) rfl; have g0 := hr.frozen 0; have g1 := hr.frozen 1; clear hx3 hr hp)
                        | (go_at_call 197; (with_reducible refine (pairtext_any 0 (-1) _ (HG.out.ext HP.out.ext) HAB.out.1 HAB.out.2).mono ?_); rintro e w4 ⟨rfl, hx4⟩; (try clear c0 c1 f0 f1 r0 r1 g0 g1); have hr := HR.out.later hx4; have hp := HP.out.later hx4; clear HR HP; have HR := hid hr; have HP := hid hp; have c0 := hp.cell (i := 0) rfl; have c1 := hp.cell (i := 1) rfl; have f0 := hp.frozen 0; have f1 := hp.frozen 1; have r0 := hr.cell (i := 0) rfl; have r1 := hr.cell (i := 1) rfl; have g0 := hr.frozen 0; have g1 := hr.frozen 1; clear hx4 hr hp)
                        )
                      (try simp only [Exit.inBlock, Exit.then])
                      refine ret_cell_tmp _ rfl rfl ((HR.out.set0 (.int .i64 0)).set1 (.int .i64 0)) Tryz.underlying201 rfl (by kernel_rfl) rfl ?_
                      exact ⟨by rw [HF.out]; rfl, (HP.out.ext.setCell (Nat.le_refl _) _).setCell (Nat.le_refl _) _⟩
                · have b2 : (m == [45]) = false := by rw [beq_eq_false_iff_ne]; exact hb2
                  rw [if_neg hb2] at HM
                  clear hb0 hb1 hb2
                  cases hn2 : numR m with
                  | none =>
                    have HF : Hid (planeR (bys s) = none) := by show _ = _; rw [HPQ.out, HM.out, hn2]; rfl
                    have HC2 := HN2.out hn2
                    clear hn2
                    (obtain ⟨hr, hp⟩ := two_boxes (w := w) (T := 201) (U := 201) (xs := #[.int .i64 0, .int .i64 0]) (ys := #[.int .i64 0, .int .i64 0]) (Ext.refl _); have HR := hid hr; have HP := hid hp; clear hr hp)
                    go_wp2_with (first
                      | (go_at_call 195; (with_reducible refine (HC1 _).mono ?_); rintro e w1 ⟨rfl, hx1⟩; obtain ⟨hr, hp⟩ := two_boxes hx1; have HR := hid (hr.aside (Nat.le_succ _) (by omega) 0 (.int .i64 0) (k := w.heap.size + 1)); have HP := hid (hp.set0 (.int .i64 0)); have c0 := hp.cell (i := 0) rfl; have c1 := hp.cell (i := 1) rfl; have f0 := hp.frozen 0; have f1 := hp.frozen 1; have r0 := hr.cell (i := 0) rfl; have r1 := hr.cell (i := 1) rfl; have g0 := hr.frozen 0; have g1 := hr.frozen 1; clear hx1 hr hp)
                      | (go_at_call 195; (with_reducible refine (HC2 _).mono ?_); rintro e w2 ⟨rfl, hx2⟩; (try clear c0 c1 f0 f1 r0 r1 g0 g1); have hr := HR.out.later hx2; have hp := HP.out.later hx2; clear HR HP; have HR := hid (hr.aside (Nat.le_succ _) (by omega) 1 (.int .i64 0) (k := w.heap.size + 1)); have HP := hid (hp.set1 (.int .i64 0)); have c0 := hp.cell (i := 0) rfl; have c1 := hp.cell (i := 1) rfl; have f0 := hp.frozen 0; have f1 := hp.frozen 1; have r0 := hr.cell (i := 0) rfl; have r1 := hr.cell (i := 1) rfl; have g0 := hr.frozen 0; have g1 := hr.frozen 1; clear hx2 hr hp)
                      )
                    (try simp only [Exit.inBlock, Exit.then])
                    refine ret_cell_tmp _ rfl rfl ((HR.out.set0 (.int .i64 0)).set1 (.int .i64 0)) Tryz.underlying201 rfl (by kernel_rfl) rfl ?_
                    exact ⟨by rw [HF.out]; rfl, (HP.out.ext.setCell (Nat.le_refl _) _).setCell (Nat.le_refl _) _⟩
                  | some b =>
                    have HPL : Hid (planeR (bys s) = pairP (some (0)) (some b) (bys s)) := by show _ = _; rw [HPQ.out, HM.out, hn2]
                    have HAB : Hid ((-1000000000 ≤ (0 : Int) ∧ (0 : Int) ≤ 1000000000) ∧ (-1000000000 ≤ b ∧ b ≤ 1000000000)) := ⟨HAa.out, HS.out b (by rw [HM.out, hn2])⟩
                    have HC2 := HO2.out b hn2
                    clear hn2
                    (obtain ⟨hr, hp⟩ := two_boxes (w := w) (T := 201) (U := 201) (xs := #[.int .i64 0, .int .i64 0]) (ys := #[.int .i64 0, .int .i64 0]) (Ext.refl _); have HR := hid hr; have HP := hid hp; clear hr hp)
                    cases hwi : withinR 0 b with
                    | false =>
                      try exact absurd hwi (by decide)
                      all_goals
                        have HF : Hid (planeR (bys s) = none) := by show _ = _; rw [HPL.out]; unfold pairP; simp [hwi]
                        have HWI := hid hwi
                        clear hwi
                        skip
                        go_wp2_with (first
                          | (go_at_call 195; (with_reducible refine (HC1 _).mono ?_); rintro e w1 ⟨rfl, hx1⟩; obtain ⟨hr, hp⟩ := two_boxes hx1; have HR := hid (hr.aside (Nat.le_succ _) (by omega) 0 (.int .i64 0) (k := w.heap.size + 1)); have HP := hid (hp.set0 (.int .i64 0)); have c0 := hp.cell (i := 0) rfl; have c1 := hp.cell (i := 1) rfl; have f0 := hp.frozen 0; have f1 := hp.frozen 1; have r0 := hr.cell (i := 0) rfl; have r1 := hr.cell (i := 1) rfl; have g0 := hr.frozen 0; have g1 := hr.frozen 1; clear hx1 hr hp)
                          | (go_at_call 195; (with_reducible refine (HC2 _).mono ?_); rintro e w2 ⟨rfl, hx2⟩; (try clear c0 c1 f0 f1 r0 r1 g0 g1); have hr := HR.out.later hx2; have hp := HP.out.later hx2; clear HR HP; have HR := hid (hr.aside (Nat.le_succ _) (by omega) 1 (.int .i64 b) (k := w.heap.size + 1)); have HP := hid (hp.set1 (.int .i64 b)); have c0 := hp.cell (i := 0) rfl; have c1 := hp.cell (i := 1) rfl; have f0 := hp.frozen 0; have f1 := hp.frozen 1; have r0 := hr.cell (i := 0) rfl; have r1 := hr.cell (i := 1) rfl; have g0 := hr.frozen 0; have g1 := hr.frozen 1; clear hx2 hr hp)
                          | (go_at_call 196; (with_reducible refine (within_any 0 b _).mono ?_); rintro e w3 ⟨he, hx3⟩; rw [HWI.out] at he; subst he; (try clear c0 c1 f0 f1 r0 r1 g0 g1); have hr : Bx w w3 w.heap.size 201 #[.int .i64 0, .int .i64 0] := (by first | exact HR.out.later hx3 | exact (HR.out.aside (k := w.heap.size + 1) (Nat.le_succ _) (by omega) 1 _).later hx3 | exact (two_boxes hx3).1); have hp : Bx w w3 (w.heap.size + 1) 201 #[.int .i64 0, .int .i64 b] := (by first | exact HP.out.later hx3 | exact (HP.out.set1 _).later hx3 | exact (two_boxes hx3).2); (try clear HR HP); have HR := hid hr; have HP := hid hp; have c0 := hp.cell (i := 0) rfl; have c1 := hp.cell (i := 1) rfl; have f0 := hp.frozen 0; have f1 := hp.frozen 1; have r0 := hr.cell (i := 0) rfl; have r1 := hr.cell (i := 1) rfl; have g0 := hr.frozen 0; have g1 := hr.frozen 1; clear hx3 hr hp)
                          | (go_at_call 197; (with_reducible refine (pairtext_any 0 b _ (HG.out.ext HP.out.ext) HAB.out.1 HAB.out.2).mono ?_); rintro e w4 ⟨rfl, hx4⟩; (try clear c0 c1 f0 f1 r0 r1 g0 g1); have hr := HR.out.later hx4; have hp := HP.out.later hx4; clear HR HP; have HR := hid hr; have HP := hid hp; have c0 := hp.cell (i := 0) rfl; have c1 := hp.cell (i := 1) rfl; have f0 := hp.frozen 0; have f1 := hp.frozen 1; have r0 := hr.cell (i := 0) rfl; have r1 := hr.cell (i := 1) rfl; have g0 := hr.frozen 0; have g1 := hr.frozen 1; clear hx4 hr hp)
                          )
                        (try simp only [Exit.inBlock, Exit.then])
                        refine ret_cell_tmp _ rfl rfl ((HR.out.set0 (.int .i64 0)).set1 (.int .i64 0)) Tryz.underlying201 rfl (by kernel_rfl) rfl ?_
                        exact ⟨by rw [HF.out]; rfl, (HP.out.ext.setCell (Nat.le_refl _) _).setCell (Nat.le_refl _) _⟩
                    | true =>
                      have HWI := hid hwi
                      by_cases htx : pairR 0 b = bys s
                      · have te : (pairR 0 b == s.toList) = true := by rw [ByteArray.toList_eq, beq_iff_eq]; exact htx
                        have HF : Hid (planeR (bys s) = some ((0), (b))) := by show _ = _; rw [HPL.out]; unfold pairP; simp [hwi, htx]
                        clear hwi htx
                        skip
                        go_wp2_with (first
                          | (go_at_call 195; (with_reducible refine (HC1 _).mono ?_); rintro e w1 ⟨rfl, hx1⟩; obtain ⟨hr, hp⟩ := two_boxes hx1; have HR := hid (hr.aside (Nat.le_succ _) (by omega) 0 (.int .i64 0) (k := w.heap.size + 1)); have HP := hid (hp.set0 (.int .i64 0)); have c0 := hp.cell (i := 0) rfl; have c1 := hp.cell (i := 1) rfl; have f0 := hp.frozen 0; have f1 := hp.frozen 1; have r0 := hr.cell (i := 0) rfl; have r1 := hr.cell (i := 1) rfl; have g0 := hr.frozen 0; have g1 := hr.frozen 1; clear hx1 hr hp)
                          | (go_at_call 195; (with_reducible refine (HC2 _).mono ?_); rintro e w2 ⟨rfl, hx2⟩; (try clear c0 c1 f0 f1 r0 r1 g0 g1); have hr := HR.out.later hx2; have hp := HP.out.later hx2; clear HR HP; have HR := hid (hr.aside (Nat.le_succ _) (by omega) 1 (.int .i64 b) (k := w.heap.size + 1)); have HP := hid (hp.set1 (.int .i64 b)); have c0 := hp.cell (i := 0) rfl; have c1 := hp.cell (i := 1) rfl; have f0 := hp.frozen 0; have f1 := hp.frozen 1; have r0 := hr.cell (i := 0) rfl; have r1 := hr.cell (i := 1) rfl; have g0 := hr.frozen 0; have g1 := hr.frozen 1; clear hx2 hr hp)
                          | (go_at_call 196; (with_reducible refine (within_any 0 b _).mono ?_); rintro e w3 ⟨he, hx3⟩; rw [HWI.out] at he; subst he; (try clear c0 c1 f0 f1 r0 r1 g0 g1); have hr : Bx w w3 w.heap.size 201 #[.int .i64 0, .int .i64 0] := (by first | exact HR.out.later hx3 | exact (HR.out.aside (k := w.heap.size + 1) (Nat.le_succ _) (by omega) 1 _).later hx3 | exact (two_boxes hx3).1); have hp : Bx w w3 (w.heap.size + 1) 201 #[.int .i64 0, .int .i64 b] := (by first | exact HP.out.later hx3 | exact (HP.out.set1 _).later hx3 | exact (two_boxes hx3).2); (try clear HR HP); have HR := hid hr; have HP := hid hp; have c0 := hp.cell (i := 0) rfl; have c1 := hp.cell (i := 1) rfl; have f0 := hp.frozen 0; have f1 := hp.frozen 1; have r0 := hr.cell (i := 0) rfl; have r1 := hr.cell (i := 1) rfl; have g0 := hr.frozen 0; have g1 := hr.frozen 1; clear hx3 hr hp)
                          | (go_at_call 197; (with_reducible refine (pairtext_any 0 b _ (HG.out.ext HP.out.ext) HAB.out.1 HAB.out.2).mono ?_); rintro e w4 ⟨rfl, hx4⟩; (try clear c0 c1 f0 f1 r0 r1 g0 g1); have hr := HR.out.later hx4; have hp := HP.out.later hx4; clear HR HP; have HR := hid hr; have HP := hid hp; have c0 := hp.cell (i := 0) rfl; have c1 := hp.cell (i := 1) rfl; have f0 := hp.frozen 0; have f1 := hp.frozen 1; have r0 := hr.cell (i := 0) rfl; have r1 := hr.cell (i := 1) rfl; have g0 := hr.frozen 0; have g1 := hr.frozen 1; clear hx4 hr hp)
                          )
                        (try simp only [Exit.inBlock, Exit.then])
                        refine ret_cell_tmp _ rfl rfl ((HR.out.set0 (.int .i64 0)).set1 (.int .i64 b)) Tryz.underlying201 rfl (by kernel_rfl) rfl ?_
                        exact ⟨by rw [HF.out]; rfl, (HP.out.ext.setCell (Nat.le_refl _) _).setCell (Nat.le_refl _) _⟩
                      · have te : (pairR 0 b == s.toList) = false := by rw [ByteArray.toList_eq, beq_eq_false_iff_ne]; exact htx
                        have HF : Hid (planeR (bys s) = none) := by show _ = _; rw [HPL.out]; unfold pairP; simp [hwi, htx]
                        clear hwi htx
                        skip
                        go_wp2_with (first
                          | (go_at_call 195; (with_reducible refine (HC1 _).mono ?_); rintro e w1 ⟨rfl, hx1⟩; obtain ⟨hr, hp⟩ := two_boxes hx1; have HR := hid (hr.aside (Nat.le_succ _) (by omega) 0 (.int .i64 0) (k := w.heap.size + 1)); have HP := hid (hp.set0 (.int .i64 0)); have c0 := hp.cell (i := 0) rfl; have c1 := hp.cell (i := 1) rfl; have f0 := hp.frozen 0; have f1 := hp.frozen 1; have r0 := hr.cell (i := 0) rfl; have r1 := hr.cell (i := 1) rfl; have g0 := hr.frozen 0; have g1 := hr.frozen 1; clear hx1 hr hp)
                          | (go_at_call 195; (with_reducible refine (HC2 _).mono ?_); rintro e w2 ⟨rfl, hx2⟩; (try clear c0 c1 f0 f1 r0 r1 g0 g1); have hr := HR.out.later hx2; have hp := HP.out.later hx2; clear HR HP; have HR := hid (hr.aside (Nat.le_succ _) (by omega) 1 (.int .i64 b) (k := w.heap.size + 1)); have HP := hid (hp.set1 (.int .i64 b)); have c0 := hp.cell (i := 0) rfl; have c1 := hp.cell (i := 1) rfl; have f0 := hp.frozen 0; have f1 := hp.frozen 1; have r0 := hr.cell (i := 0) rfl; have r1 := hr.cell (i := 1) rfl; have g0 := hr.frozen 0; have g1 := hr.frozen 1; clear hx2 hr hp)
                          | (go_at_call 196; (with_reducible refine (within_any 0 b _).mono ?_); rintro e w3 ⟨he, hx3⟩; rw [HWI.out] at he; subst he; (try clear c0 c1 f0 f1 r0 r1 g0 g1); have hr : Bx w w3 w.heap.size 201 #[.int .i64 0, .int .i64 0] := (by first | exact HR.out.later hx3 | exact (HR.out.aside (k := w.heap.size + 1) (Nat.le_succ _) (by omega) 1 _).later hx3 | exact (two_boxes hx3).1); have hp : Bx w w3 (w.heap.size + 1) 201 #[.int .i64 0, .int .i64 b] := (by first | exact HP.out.later hx3 | exact (HP.out.set1 _).later hx3 | exact (two_boxes hx3).2); (try clear HR HP); have HR := hid hr; have HP := hid hp; have c0 := hp.cell (i := 0) rfl; have c1 := hp.cell (i := 1) rfl; have f0 := hp.frozen 0; have f1 := hp.frozen 1; have r0 := hr.cell (i := 0) rfl; have r1 := hr.cell (i := 1) rfl; have g0 := hr.frozen 0; have g1 := hr.frozen 1; clear hx3 hr hp)
                          | (go_at_call 197; (with_reducible refine (pairtext_any 0 b _ (HG.out.ext HP.out.ext) HAB.out.1 HAB.out.2).mono ?_); rintro e w4 ⟨rfl, hx4⟩; (try clear c0 c1 f0 f1 r0 r1 g0 g1); have hr := HR.out.later hx4; have hp := HP.out.later hx4; clear HR HP; have HR := hid hr; have HP := hid hp; have c0 := hp.cell (i := 0) rfl; have c1 := hp.cell (i := 1) rfl; have f0 := hp.frozen 0; have f1 := hp.frozen 1; have r0 := hr.cell (i := 0) rfl; have r1 := hr.cell (i := 1) rfl; have g0 := hr.frozen 0; have g1 := hr.frozen 1; clear hx4 hr hp)
                          )
                        (try simp only [Exit.inBlock, Exit.then])
                        refine ret_cell_tmp _ rfl rfl ((HR.out.set0 (.int .i64 0)).set1 (.int .i64 0)) Tryz.underlying201 rfl (by kernel_rfl) rfl ?_
                        exact ⟨by rw [HF.out]; rfl, (HP.out.ext.setCell (Nat.le_refl _) _).setCell (Nat.le_refl _) _⟩
    · have ty : ((y.toNat : Int) == 105) = false := byte_isnt (k := 105) h105
      have HA : Hid (atR (bys s) = s.size) := by show _ = _; unfold atR; rw [HL.out, if_neg (fun e => h105 (by injection e)), bys_len]
      have HP0 : Hid (planeR (bys s) = pairP (numR (bys s)) (some 0) (bys s)) := by
        show _ = _
        unfold planeR
        rw [HA.out, if_pos (by omega), if_neg (by rw [bys_len]; omega), List.take_of_length_le (Nat.le_of_eq (bys_len s))]
      obtain ⟨s1, hs1⟩ : ∃ s1, s.extract 0 s.size = s1 := ⟨_, rfl⟩
      have HE1 : Hid (bys s1 = bys s) := by show _ = _; rw [← hs1, ext_drop]; rfl
      have HZ1 : Hid (s1.size ≤ 4000000) := by show _ ≤ _; rw [← bys_len, HE1.out, bys_len]; exact hs
      clear h105
      cases hn : numR (bys s) with
      | none =>
        have HF : Hid (planeR (bys s) = none) := by show _ = _; rw [HP0.out, hn]; rfl
        have HC1 := num_none HZ1.out (by rw [HE1.out, hn])
        clear hn
        go_enter Tryz.func169, Tryz.ntmps169
        go_wp2_with (first
          | (go_at_call 195; (with_reducible refine (HC1 _).mono ?_); rintro e w1 ⟨rfl, hx1⟩; obtain ⟨hr, hp⟩ := two_boxes hx1; have HR := hid (hr.aside (Nat.le_succ _) (by omega) 0 (.int .i64 0) (k := w.heap.size + 1)); have HP := hid (hp.set0 (.int .i64 0)); have c0 := hp.cell (i := 0) rfl; have c1 := hp.cell (i := 1) rfl; have f0 := hp.frozen 0; have f1 := hp.frozen 1; have r0 := hr.cell (i := 0) rfl; have r1 := hr.cell (i := 1) rfl; have g0 := hr.frozen 0; have g1 := hr.frozen 1; clear hx1 hr hp)
          | (go_at_call 195; (with_reducible refine (HC2 _).mono ?_); rintro e w2 ⟨rfl, hx2⟩; (try clear c0 c1 f0 f1 r0 r1 g0 g1); have hr := HR.out.later hx2; have hp := HP.out.later hx2; clear HR HP; have HR := hid (hr.aside (Nat.le_succ _) (by omega) 1 (.int .i64 0) (k := w.heap.size + 1)); have HP := hid (hp.set1 (.int .i64 0)); have c0 := hp.cell (i := 0) rfl; have c1 := hp.cell (i := 1) rfl; have f0 := hp.frozen 0; have f1 := hp.frozen 1; have r0 := hr.cell (i := 0) rfl; have r1 := hr.cell (i := 1) rfl; have g0 := hr.frozen 0; have g1 := hr.frozen 1; clear hx2 hr hp)
          )
        (try simp only [Exit.inBlock, Exit.then])
        refine ret_cell_tmp _ rfl rfl ((HR.out.set0 (.int .i64 0)).set1 (.int .i64 0)) Tryz.underlying201 rfl (by kernel_rfl) rfl ?_
        exact ⟨by rw [HF.out]; rfl, (HP.out.ext.setCell (Nat.le_refl _) _).setCell (Nat.le_refl _) _⟩
      | some a =>
        have HPL : Hid (planeR (bys s) = pairP (some a) (some 0) (bys s)) := by show _ = _; rw [HP0.out, hn]
        have hsm := numR_small hn
        have HAB : Hid ((-1000000000 ≤ a ∧ a ≤ 1000000000) ∧ (-1000000000 ≤ (0 : Int) ∧ (0 : Int) ≤ 1000000000)) := ⟨by omega, by omega⟩
        have HC1 := num_some HZ1.out (by rw [HE1.out, hn])
        clear hn hsm
        cases hwi : withinR a 0 with
        | false =>
          try exact absurd hwi (by decide)
          all_goals
            have HF : Hid (planeR (bys s) = none) := by show _ = _; rw [HPL.out]; unfold pairP; simp [hwi]
            have HWI := hid hwi
            clear hwi
            go_enter Tryz.func169, Tryz.ntmps169
            go_wp2_with (first
              | (go_at_call 195; (with_reducible refine (HC1 _).mono ?_); rintro e w1 ⟨rfl, hx1⟩; obtain ⟨hr, hp⟩ := two_boxes hx1; have HR := hid (hr.aside (Nat.le_succ _) (by omega) 0 (.int .i64 a) (k := w.heap.size + 1)); have HP := hid (hp.set0 (.int .i64 a)); have c0 := hp.cell (i := 0) rfl; have c1 := hp.cell (i := 1) rfl; have f0 := hp.frozen 0; have f1 := hp.frozen 1; have r0 := hr.cell (i := 0) rfl; have r1 := hr.cell (i := 1) rfl; have g0 := hr.frozen 0; have g1 := hr.frozen 1; clear hx1 hr hp)
              | (go_at_call 195; (with_reducible refine (HC2 _).mono ?_); rintro e w2 ⟨rfl, hx2⟩; (try clear c0 c1 f0 f1 r0 r1 g0 g1); have hr := HR.out.later hx2; have hp := HP.out.later hx2; clear HR HP; have HR := hid (hr.aside (Nat.le_succ _) (by omega) 1 (.int .i64 0) (k := w.heap.size + 1)); have HP := hid (hp.set1 (.int .i64 0)); have c0 := hp.cell (i := 0) rfl; have c1 := hp.cell (i := 1) rfl; have f0 := hp.frozen 0; have f1 := hp.frozen 1; have r0 := hr.cell (i := 0) rfl; have r1 := hr.cell (i := 1) rfl; have g0 := hr.frozen 0; have g1 := hr.frozen 1; clear hx2 hr hp)
              | (go_at_call 196; (with_reducible refine (within_any a 0 _).mono ?_); rintro e w3 ⟨he, hx3⟩; rw [HWI.out] at he; subst he; (try clear c0 c1 f0 f1 r0 r1 g0 g1); have hr : Bx w w3 w.heap.size 201 #[.int .i64 0, .int .i64 0] := (by first | exact HR.out.later hx3 | exact (HR.out.aside (k := w.heap.size + 1) (Nat.le_succ _) (by omega) 1 _).later hx3 | exact (two_boxes hx3).1); have hp : Bx w w3 (w.heap.size + 1) 201 #[.int .i64 a, .int .i64 0] := (by first | exact HP.out.later hx3 | exact (HP.out.set1 _).later hx3 | exact (two_boxes hx3).2); (try clear HR HP); have HR := hid hr; have HP := hid hp; have c0 := hp.cell (i := 0) rfl; have c1 := hp.cell (i := 1) rfl; have f0 := hp.frozen 0; have f1 := hp.frozen 1; have r0 := hr.cell (i := 0) rfl; have r1 := hr.cell (i := 1) rfl; have g0 := hr.frozen 0; have g1 := hr.frozen 1; clear hx3 hr hp)
              | (go_at_call 197; (with_reducible refine (pairtext_any a 0 _ (HG.out.ext HP.out.ext) HAB.out.1 HAB.out.2).mono ?_); rintro e w4 ⟨rfl, hx4⟩; (try clear c0 c1 f0 f1 r0 r1 g0 g1); have hr := HR.out.later hx4; have hp := HP.out.later hx4; clear HR HP; have HR := hid hr; have HP := hid hp; have c0 := hp.cell (i := 0) rfl; have c1 := hp.cell (i := 1) rfl; have f0 := hp.frozen 0; have f1 := hp.frozen 1; have r0 := hr.cell (i := 0) rfl; have r1 := hr.cell (i := 1) rfl; have g0 := hr.frozen 0; have g1 := hr.frozen 1; clear hx4 hr hp)
              )
            (try simp only [Exit.inBlock, Exit.then])
            refine ret_cell_tmp _ rfl rfl ((HR.out.set0 (.int .i64 0)).set1 (.int .i64 0)) Tryz.underlying201 rfl (by kernel_rfl) rfl ?_
            exact ⟨by rw [HF.out]; rfl, (HP.out.ext.setCell (Nat.le_refl _) _).setCell (Nat.le_refl _) _⟩
        | true =>
          have HWI := hid hwi
          by_cases htx : pairR a 0 = bys s
          · have te : (pairR a 0 == s.toList) = true := by rw [ByteArray.toList_eq, beq_iff_eq]; exact htx
            have HF : Hid (planeR (bys s) = some ((a), (0))) := by show _ = _; rw [HPL.out]; unfold pairP; simp [hwi, htx]
            clear hwi htx
            go_enter Tryz.func169, Tryz.ntmps169
            go_wp2_with (first
              | (go_at_call 195; (with_reducible refine (HC1 _).mono ?_); rintro e w1 ⟨rfl, hx1⟩; obtain ⟨hr, hp⟩ := two_boxes hx1; have HR := hid (hr.aside (Nat.le_succ _) (by omega) 0 (.int .i64 a) (k := w.heap.size + 1)); have HP := hid (hp.set0 (.int .i64 a)); have c0 := hp.cell (i := 0) rfl; have c1 := hp.cell (i := 1) rfl; have f0 := hp.frozen 0; have f1 := hp.frozen 1; have r0 := hr.cell (i := 0) rfl; have r1 := hr.cell (i := 1) rfl; have g0 := hr.frozen 0; have g1 := hr.frozen 1; clear hx1 hr hp)
              | (go_at_call 195; (with_reducible refine (HC2 _).mono ?_); rintro e w2 ⟨rfl, hx2⟩; (try clear c0 c1 f0 f1 r0 r1 g0 g1); have hr := HR.out.later hx2; have hp := HP.out.later hx2; clear HR HP; have HR := hid (hr.aside (Nat.le_succ _) (by omega) 1 (.int .i64 0) (k := w.heap.size + 1)); have HP := hid (hp.set1 (.int .i64 0)); have c0 := hp.cell (i := 0) rfl; have c1 := hp.cell (i := 1) rfl; have f0 := hp.frozen 0; have f1 := hp.frozen 1; have r0 := hr.cell (i := 0) rfl; have r1 := hr.cell (i := 1) rfl; have g0 := hr.frozen 0; have g1 := hr.frozen 1; clear hx2 hr hp)
              | (go_at_call 196; (with_reducible refine (within_any a 0 _).mono ?_); rintro e w3 ⟨he, hx3⟩; rw [HWI.out] at he; subst he; (try clear c0 c1 f0 f1 r0 r1 g0 g1); have hr : Bx w w3 w.heap.size 201 #[.int .i64 0, .int .i64 0] := (by first | exact HR.out.later hx3 | exact (HR.out.aside (k := w.heap.size + 1) (Nat.le_succ _) (by omega) 1 _).later hx3 | exact (two_boxes hx3).1); have hp : Bx w w3 (w.heap.size + 1) 201 #[.int .i64 a, .int .i64 0] := (by first | exact HP.out.later hx3 | exact (HP.out.set1 _).later hx3 | exact (two_boxes hx3).2); (try clear HR HP); have HR := hid hr; have HP := hid hp; have c0 := hp.cell (i := 0) rfl; have c1 := hp.cell (i := 1) rfl; have f0 := hp.frozen 0; have f1 := hp.frozen 1; have r0 := hr.cell (i := 0) rfl; have r1 := hr.cell (i := 1) rfl; have g0 := hr.frozen 0; have g1 := hr.frozen 1; clear hx3 hr hp)
              | (go_at_call 197; (with_reducible refine (pairtext_any a 0 _ (HG.out.ext HP.out.ext) HAB.out.1 HAB.out.2).mono ?_); rintro e w4 ⟨rfl, hx4⟩; (try clear c0 c1 f0 f1 r0 r1 g0 g1); have hr := HR.out.later hx4; have hp := HP.out.later hx4; clear HR HP; have HR := hid hr; have HP := hid hp; have c0 := hp.cell (i := 0) rfl; have c1 := hp.cell (i := 1) rfl; have f0 := hp.frozen 0; have f1 := hp.frozen 1; have r0 := hr.cell (i := 0) rfl; have r1 := hr.cell (i := 1) rfl; have g0 := hr.frozen 0; have g1 := hr.frozen 1; clear hx4 hr hp)
              )
            (try simp only [Exit.inBlock, Exit.then])
            refine ret_cell_tmp _ rfl rfl ((HR.out.set0 (.int .i64 a)).set1 (.int .i64 0)) Tryz.underlying201 rfl (by kernel_rfl) rfl ?_
            exact ⟨by rw [HF.out]; rfl, (HP.out.ext.setCell (Nat.le_refl _) _).setCell (Nat.le_refl _) _⟩
          · have te : (pairR a 0 == s.toList) = false := by rw [ByteArray.toList_eq, beq_eq_false_iff_ne]; exact htx
            have HF : Hid (planeR (bys s) = none) := by show _ = _; rw [HPL.out]; unfold pairP; simp [hwi, htx]
            clear hwi htx
            go_enter Tryz.func169, Tryz.ntmps169
            go_wp2_with (first
              | (go_at_call 195; (with_reducible refine (HC1 _).mono ?_); rintro e w1 ⟨rfl, hx1⟩; obtain ⟨hr, hp⟩ := two_boxes hx1; have HR := hid (hr.aside (Nat.le_succ _) (by omega) 0 (.int .i64 a) (k := w.heap.size + 1)); have HP := hid (hp.set0 (.int .i64 a)); have c0 := hp.cell (i := 0) rfl; have c1 := hp.cell (i := 1) rfl; have f0 := hp.frozen 0; have f1 := hp.frozen 1; have r0 := hr.cell (i := 0) rfl; have r1 := hr.cell (i := 1) rfl; have g0 := hr.frozen 0; have g1 := hr.frozen 1; clear hx1 hr hp)
              | (go_at_call 195; (with_reducible refine (HC2 _).mono ?_); rintro e w2 ⟨rfl, hx2⟩; (try clear c0 c1 f0 f1 r0 r1 g0 g1); have hr := HR.out.later hx2; have hp := HP.out.later hx2; clear HR HP; have HR := hid (hr.aside (Nat.le_succ _) (by omega) 1 (.int .i64 0) (k := w.heap.size + 1)); have HP := hid (hp.set1 (.int .i64 0)); have c0 := hp.cell (i := 0) rfl; have c1 := hp.cell (i := 1) rfl; have f0 := hp.frozen 0; have f1 := hp.frozen 1; have r0 := hr.cell (i := 0) rfl; have r1 := hr.cell (i := 1) rfl; have g0 := hr.frozen 0; have g1 := hr.frozen 1; clear hx2 hr hp)
              | (go_at_call 196; (with_reducible refine (within_any a 0 _).mono ?_); rintro e w3 ⟨he, hx3⟩; rw [HWI.out] at he; subst he; (try clear c0 c1 f0 f1 r0 r1 g0 g1); have hr : Bx w w3 w.heap.size 201 #[.int .i64 0, .int .i64 0] := (by first | exact HR.out.later hx3 | exact (HR.out.aside (k := w.heap.size + 1) (Nat.le_succ _) (by omega) 1 _).later hx3 | exact (two_boxes hx3).1); have hp : Bx w w3 (w.heap.size + 1) 201 #[.int .i64 a, .int .i64 0] := (by first | exact HP.out.later hx3 | exact (HP.out.set1 _).later hx3 | exact (two_boxes hx3).2); (try clear HR HP); have HR := hid hr; have HP := hid hp; have c0 := hp.cell (i := 0) rfl; have c1 := hp.cell (i := 1) rfl; have f0 := hp.frozen 0; have f1 := hp.frozen 1; have r0 := hr.cell (i := 0) rfl; have r1 := hr.cell (i := 1) rfl; have g0 := hr.frozen 0; have g1 := hr.frozen 1; clear hx3 hr hp)
              | (go_at_call 197; (with_reducible refine (pairtext_any a 0 _ (HG.out.ext HP.out.ext) HAB.out.1 HAB.out.2).mono ?_); rintro e w4 ⟨rfl, hx4⟩; (try clear c0 c1 f0 f1 r0 r1 g0 g1); have hr := HR.out.later hx4; have hp := HP.out.later hx4; clear HR HP; have HR := hid hr; have HP := hid hp; have c0 := hp.cell (i := 0) rfl; have c1 := hp.cell (i := 1) rfl; have f0 := hp.frozen 0; have f1 := hp.frozen 1; have r0 := hr.cell (i := 0) rfl; have r1 := hr.cell (i := 1) rfl; have g0 := hr.frozen 0; have g1 := hr.frozen 1; clear hx4 hr hp)
              )
            (try simp only [Exit.inBlock, Exit.then])
            refine ret_cell_tmp _ rfl rfl ((HR.out.set0 (.int .i64 0)).set1 (.int .i64 0)) Tryz.underlying201 rfl (by kernel_rfl) rfl ?_
            exact ⟨by rw [HF.out]; rfl, (HP.out.ext.setCell (Nat.le_refl _) _).setCell (Nat.le_refl _) _⟩
end Go.Proofs.YtencmdpjiafnaaaGreatDoor
