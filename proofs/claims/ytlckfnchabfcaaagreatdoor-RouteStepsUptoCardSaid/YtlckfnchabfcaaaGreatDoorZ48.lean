import Derived.Test.YtlckfnchabfcaaaGreatDoorZ47
/- The walk of RouteSteps. -/
namespace Go.Proofs.YtlckfnchabfcaaaGreatDoor
open Go.RowKit
set_option maxRecDepth 100000
set_option linter.unusedSimpArgs false
set_option linter.unusedVariables false

theorem agg_of_two {v a b : Value} (h : v.cells.toList = [a, b]) : v = .agg #[a, b] := by
  cases v <;> simp [Value.cells] at h
  rename_i cs
  obtain ⟨l⟩ := cs
  simp at h
  rw [h]
theorem elem_ints : Tryz.prog.underlying 28 = some (.slice (Tryz.prog.elem 28)) := by kernel_rfl
theorem size_int1 (w : World) : (sizeOf (Tryz.prog.elem 28)).run Tryz.prog w = .ok 1 w := by kernel_rfl
theorem islice_l (A : Option Addr) (n c l : Nat) (hlk : l ≤ n) (L : Int) (hL : L = l) :
    ∀ w, (Instr.sliceAt 28 (.slice A n c) (some (.int .i64 L)) none none).run Tryz.prog w = .ok (.slice (cutA A l c 1) (n - l) (c - l)) w := fun w => by
  subst hL
  have h1 : (l : Int) ≤ (n : Int) := by omega
  have := run_slice_l (P := Tryz.prog) w 28 A n c elem_ints .i64 (l : Int) (by omega) h1
  rw [run_sliceAt_slice w 28 _ _ _ _ elem_ints, this, size_int1]
  simp only [sliced, cutA, Result.andThen, Int.toNat_natCast]
set_option maxHeartbeats 8000000 in
theorem routesteps_any {S : Nat → Prop} {w : World} {A : Option Addr} {n c : Nat} {B : Option Addr} {m d : Nat} {s : List (List Cxt)} {t : List CutR} (h : CfgAt S w A n c B m d s t) (hG : Gl w) (server : Int) (name : ByteArray)
    (hs : s.length ≤ 1048576 ∧ ∀ l ∈ s, SrvOk l) (ht : t.length ≤ 1048576) :
    Calls Tryz.prog 3 #[.agg #[.slice A n c, .slice B m d], .int .i64 server, .string name] w fun e w' => e = .returned (.bool true) ∧ Ext w w' := by
  have HAW : ∀ w', Ext w w' → Calls Tryz.prog 5 #[] w' fun e w'' => e = .returned (.bool true) ∧ Ext w' w'' := fun w' hx => awake16_any w' (hG.ext hx)
  have HFW : ∀ w', Ext w w' → Calls Tryz.prog 6 #[.agg #[.slice A n c, .slice B m d], .string name] w' (BoolSays w') := fun w' hx => few16_any (h.srv.ext hx) (h.top.ext hx) name
  have HTH : ∀ w', Ext w w' → Calls Tryz.prog 8 #[.agg #[.slice A n c, .slice B m d]] w' (TheirsSays w' s t) := fun w' hx => theirs15_any (h.ext hx) ⟨by omega, hs.2⟩ (by omega)
  have hsl : ∀ l ∈ s, l.length ≤ 4000000 := fun l hl => by have := (hs.2 l hl).1; omega
  have HPA : ∀ (T : Nat → Prop) A1 n1 c1 B1 m1 d1 (sv : Int) w', Ext w w' → CfgAt T w' A1 n1 c1 B1 m1 d1 s t → Calls Tryz.prog 7 #[.agg #[.slice A1 n1 c1, .slice B1 m1 d1], .int .i64 sv, .string name] w' (PathSays w' (pathF (rtOf s t) sv (bys name))) :=
    fun T A1 n1 c1 B1 m1 d1 sv w' hx hc => path_any hc (hG.ext hx) sv name hsl (by omega)
  have HNE : ∀ (T : Nat → Prop) A1 n1 c1 B1 m1 d1 (sv : Int) w', Ext w w' → CfgAt T w' A1 n1 c1 B1 m1 d1 s t → Calls Tryz.prog 9 #[.agg #[.slice A1 n1 c1, .slice B1 m1 d1], .int .i64 sv, .string name] w' (NearSays w' (nearF (rtOf s t) sv (bys name))) :=
    fun T A1 n1 c1 B1 m1 d1 sv w' hx hc => nearer_any hc (hG.ext hx) sv name hsl
  have HST := hid (path_steps (rtOf s t) server (bys name))
  have HB0 := hid (Bx.make (Ext.refl w) #[.slice A n c, .slice B m d] 25)
  obtain ⟨P, hP⟩ : ∃ P, P = pathF (rtOf s t) server (bys name) := ⟨_, rfl⟩
  rw [← hP] at HST
  have HPF : ∀ (T : Nat → Prop) A1 n1 c1 B1 m1 d1 w', Ext w w' → CfgAt T w' A1 n1 c1 B1 m1 d1 s t → Calls Tryz.prog 7 #[.agg #[.slice A1 n1 c1, .slice B1 m1 d1], .int .i64 server, .string name] w' (PathSays w' P) :=
    fun T A1 n1 c1 B1 m1 d1 w' hx hc => by rw [hP]; exact HPA T A1 n1 c1 B1 m1 d1 server w' hx hc
  clear hP
  unfold BoolSays at HFW
  unfold TheirsSays at HTH
  unfold PathSays at HPA HPF
  unfold NearSays at HNE
  clear h hG hs ht hsl
  obtain ⟨p, code⟩ := P
  simp only at HST HPF
  go_enter Tryz.func3, Tryz.ntmps3
  go_wp2_with
    (first
      | (go_at_call 5; first
          | ((with_reducible refine (HAW _ HB0.out.ext).mono ?_); rintro e w1 ⟨rfl, hx1⟩; have HB1 := hid (HB0.out.later hx1); have a0 := HB1.out.cell (i := 0) rfl; have a1 := HB1.out.cell (i := 1) rfl; clear hx1)
          | ((with_reducible refine (HAW _ HB2.out.ext).mono ?_); rintro e w8 ⟨rfl, hx8⟩; have HB8 := hid (HB2.out.later hx8); clear hx8))
      | (refine load_row_wanted (by kernel_rfl) 25 (.tmp 3) rfl w.heap.size rfl _ _ _ HB1.out.blk Tryz.underlying25 rfl (by kernel_rfl) ?_)
      | (go_at_call 6; (with_reducible refine (HFW _ HB1.out.ext).mono ?_); rintro e w2 ⟨b2, rfl, hx2⟩; have HB2 := hid (HB1.out.later hx2); have b0 := HB2.out.cell (i := 0) rfl; have b1' := HB2.out.cell (i := 1) rfl; clear hx2 a0 a1; cases b2)
      | (go_at_call 8; (with_reducible refine (HTH _ HB2.out.ext).mono ?_); rintro e w3 ⟨A3, n3, c3, B3, m3, d3, rfl, hr3, hx3⟩; have HR3 := hid hr3; have HX3 := hid hx3; have HB3 := hid (HB2.out.later hx3); clear hx3 hr3 b0 b1')
      | (go_at_call 7; (with_reducible refine (HPF _ _ _ _ _ _ _ _ HB3.out.ext HR3.out).mono ?_); rintro e w4 ⟨A4, n4, c4, rfl, hr4, hx4⟩; have HR4 := hid hr4; have HB4 := hid (HB3.out.later hx4); clear hr4 hx4))
  · go_ret
    exact ⟨rfl, HB8.out.ext⟩
  have hn4 : n4 = p.length := HR4.out.len
  have HN4 : Hid (n4 = p.length) := hn4
  have hn49 : n4 ≤ 9223372036854775807 := by have := HR4.out.cap; have := HR4.out.most; simp only [maxLen] at this; omega
  have HAP : ∀ b : Int, Hid ((b != b) = false) := fun b => by simp [Hid]
  have HBS := hid HB4.out
  clear hn4 HAW HFW HPF
  go_loopw [9] (fun i wr => ∃ k : Nat, i = .int .i64 ((k : Int) + 1) ∧ (k < p.length ∨ k = 0) ∧ Hid (Ext w4 wr)) (fun i _ => p.length + 1 - (intOf i).toNat)
  case atStart => exact ⟨0, rfl, .inr rfl, Ext.refl _⟩
  case round =>
    obtain ⟨k, rfl, hk, hx⟩ := hrel
    by_cases hlt : k + 1 < n4
    · obtain ⟨a, b, ga, gb, hnear, hpath⟩ := HST.out k (by have := HN4.out; omega)
      obtain ⟨g1, o1, xa, rfl, ga', ca⟩ := HR4.out.int_cell (i := k) (by omega)
      obtain ⟨g2, o2, xb, hA, gb', cb⟩ := HR4.out.int_cell (i := k + 1) hlt
      obtain ⟨rfl, rfl⟩ : g2 = g1 ∧ o2 = o1 := by injection hA with hA; injection hA with h1 h2; exact ⟨h1.symm, h2.symm⟩
      obtain rfl : xa = a := by rw [ga] at ga'; injection ga' with ga'; exact ga'.symm
      obtain rfl : xb = b := by rw [gb] at gb'; injection gb' with gb'; exact gb'.symm
      have CA := hid (cell_later ca _ hx.out)
      have CB := hid (cell_later cb _ hx.out)
      have HNA : ∀ (T : Nat → Prop) A1 n1 c1 B1 m1 d1 w', Ext w w' → CfgAt T w' A1 n1 c1 B1 m1 d1 s t → Calls Tryz.prog 9 #[.agg #[.slice A1 n1 c1, .slice B1 m1 d1], .int .i64 xa, .string name] w' fun e w'' => e = .returned (.tuple #[.int .i64 xb, .bool true]) ∧ Ext w' w'' :=
        fun T A1 n1 c1 B1 m1 d1 w' hx hc => by have := HNE T A1 n1 c1 B1 m1 d1 xa w' hx hc; rw [hnear] at this; exact this
      have HPB := fun (T : Nat → Prop) A1 n1 c1 B1 m1 d1 w' hx hc => HPA T A1 n1 c1 B1 m1 d1 xb w' hx hc
      have tlt : (k : Int) + 1 < (n4 : Int) := by omega
      have tk4 : k < n4 := by omega
      have tk5 : (0 : Int) ≤ (k : Int) + 1 := by omega
      have hbb := (HAP xb).out
      have HPT := hid hpath
      have HLT := hid hlt
      clear HNE HPA ga gb ga' gb' ca cb hnear hpath
      have hsl := islice_l (some ⟨g2, o2, none⟩) n4 c4 (k + 1) (by omega) ((k : Int) + 1) (by omega)
      have HTL := hid (HR4.out.tail (k := k + 1) (by omega))
      by_cases h54 : code = 54
      · have e54 : (code != 54) = false := by rw [h54]; rfl
        clear h54 HPT
        go_wp2
        refine wp_region_plan (.read 0 (.read 2 (.read 3 (.read 4 (.read 5 (.read 6 (.read 7 (.main 1 (.main 8 (.read 9 (.read 10 (.read 11 (.read 12 (.read 13 .done)))))))))))))) (by kernel_rfl) (by kernel_rfl) ?_
        intro wD hxD
        have XE : Hid (Ext wD wD) := Ext.refl _
        have HBD := hid (HBS.out.later (hx.out.trans hxD))
        have c1 := cell_later (cell_later CA.out _ hxD)
        repeat' (first
          | (refine walks_move rfl rfl ?_; simp only [Act.put, Act.eval, List.setIfInBounds_toArray, List.set_cons_zero, List.set_cons_succ, Array.getD_eq_getD_getElem?, List.getElem?_toArray, List.getElem?_cons_zero, List.getElem?_cons_succ, Option.getD_some])
          | (refine walks_assign rfl rfl ?_; simp only [Act.put, Act.eval, List.setIfInBounds_toArray, List.set_cons_zero, List.set_cons_succ, Array.getD_eq_getD_getElem?, List.getElem?_toArray, List.getElem?_cons_zero, List.getElem?_cons_succ, Option.getD_some])
          | (refine walks_skip rfl rfl ?_; simp only [Act.put, List.setIfInBounds_toArray, List.set_cons_zero, List.set_cons_succ])
          | (refine walks_read (v := .agg #[.slice A n c, .slice B m d]) rfl rfl (fun w' hE => run_load_row 25 (.tmp 3) rfl _ rfl _ _ _ ((HBD.out.later (XE.out.trans hE)).blk) Tryz.underlying25 rfl (by kernel_rfl)) ?_; simp only [Act.put, List.setIfInBounds_toArray, List.set_cons_zero, List.set_cons_succ])
          | (refine walks_unwanted rfl rfl ?_; simp only [Act.put, List.setIfInBounds_toArray, List.set_cons_zero, List.set_cons_succ])
          | (refine walks_read (v := ?_) rfl rfl (fun w' hE => ?_) ?_; rotate_left 1; (· ((try (have hEx := Ext.trans (Hid.out XE) hE)); go_simp; (try go_bits); with_reducible rfl)); simp only [Act.put, List.setIfInBounds_toArray, List.set_cons_zero, List.set_cons_succ])
          | (refine walks_alt ?_ ?_)
          | (refine walks_main rfl rfl (fun K hK => ?_); go_wp2_with (first | (go_at_call 8; (with_reducible refine (HTH _ (HBD.out.ext.trans XE.out)).mono ?_); rintro e w5 ⟨A5, n5, c5, B5, m5, d5, rfl, hr5, hx5⟩; have HR5 := hid hr5; clear hr5; have XE' := hid (Ext.trans (Hid.out XE) hx5); clear XE; have XE := XE'; clear XE') | (go_at_call 9; (with_reducible refine (HNA _ _ _ _ _ _ _ _ (HBD.out.ext.trans XE.out) HR5.out).mono ?_); rintro e w6 ⟨rfl, hx6⟩; have XE' := hid (Ext.trans (Hid.out XE) hx6); clear XE; have XE := XE'; clear XE')); refine hK _ _ (by first | assumption | exact Ext.alloc _ _ | exact Ext.refl _) ?_; clear hK K; try simp only [Act.put, List.setIfInBounds_toArray, List.set_cons_zero, List.set_cons_succ]))
        refine walks_done ?_
        have HXV := hid (hx.out.trans (hxD.trans XE.out))
        have f2 := cell_later CB.out _ (hxD.trans XE.out)
        have HXQ := hid (hxD.trans XE.out)
        clear XE HBD c1 hxD
        go_wp2
        refine wp_region_plan (.read 0 (.read 2 (.read 3 (.read 4 (.read 5 (.read 6 (.main 1 (.main 7 (.read 8 (.read 9 (.read 10 (.read 11 (.read 12 .done))))))))))))) (by kernel_rfl) (by kernel_rfl) ?_
        intro wD hxD
        have XE : Hid (Ext wD wD) := Ext.refl _
        have HBD := hid (HBS.out.later (HXV.out.trans hxD))
        have c1 := cell_later (cell_later f2 _ hxD)
        repeat' (first
          | (refine walks_move rfl rfl ?_; simp only [Act.put, Act.eval, List.setIfInBounds_toArray, List.set_cons_zero, List.set_cons_succ, Array.getD_eq_getD_getElem?, List.getElem?_toArray, List.getElem?_cons_zero, List.getElem?_cons_succ, Option.getD_some])
          | (refine walks_assign rfl rfl ?_; simp only [Act.put, Act.eval, List.setIfInBounds_toArray, List.set_cons_zero, List.set_cons_succ, Array.getD_eq_getD_getElem?, List.getElem?_toArray, List.getElem?_cons_zero, List.getElem?_cons_succ, Option.getD_some])
          | (refine walks_skip rfl rfl ?_; simp only [Act.put, List.setIfInBounds_toArray, List.set_cons_zero, List.set_cons_succ])
          | (refine walks_read (v := .agg #[.slice A n c, .slice B m d]) rfl rfl (fun w' hE => run_load_row 25 (.tmp 3) rfl _ rfl _ _ _ ((HBD.out.later (XE.out.trans hE)).blk) Tryz.underlying25 rfl (by kernel_rfl)) ?_; simp only [Act.put, List.setIfInBounds_toArray, List.set_cons_zero, List.set_cons_succ])
          | (refine walks_unwanted rfl rfl ?_; simp only [Act.put, List.setIfInBounds_toArray, List.set_cons_zero, List.set_cons_succ])
          | (refine walks_read (v := ?_) rfl rfl (fun w' hE => ?_) ?_; rotate_left 1; (· ((try (have hEx := Ext.trans (Hid.out XE) hE)); go_simp; (try go_bits); with_reducible rfl)); simp only [Act.put, List.setIfInBounds_toArray, List.set_cons_zero, List.set_cons_succ])
          | (refine walks_alt ?_ ?_)
          | (refine walks_main rfl rfl (fun K hK => ?_); go_wp2_with (first | (go_at_call 8; (with_reducible refine (HTH _ (HBD.out.ext.trans XE.out)).mono ?_); rintro e w7 ⟨A7, n7, c7, B7, m7, d7, rfl, hr7, hx7⟩; have HR7 := hid hr7; clear hr7; have XE' := hid (Ext.trans (Hid.out XE) hx7); clear XE; have XE := XE'; clear XE') | (go_at_call 7; (with_reducible refine (HPB _ _ _ _ _ _ _ _ (HBD.out.ext.trans XE.out) HR7.out).mono ?_); rintro e w8 ⟨A8, n8, c8, rfl, hr8, hx8⟩; have HR8 := hid hr8; clear hr8; have XE' := hid (Ext.trans (Hid.out XE) hx8); clear XE; have XE := XE'; clear XE')); refine hK _ _ (by first | assumption | exact Ext.alloc _ _ | exact Ext.refl _) ?_; clear hK K; try simp only [Act.put, List.setIfInBounds_toArray, List.set_cons_zero, List.set_cons_succ]))
        refine walks_done ?_
        have HXW := hid (HXV.out.trans (hxD.trans XE.out))
        clear XE HBD c1 hxD
        go_wp2
        exact ⟨⟨k + 1, by (congr 1), .inl (by have := HN4.out; omega), HXW.out⟩, by simp [intOf]; have := HN4.out; omega⟩
      · have e54 : (code != 54) = true := by rw [bne_iff_ne]; exact h54
        have hcc : (code != code) = false := by simp
        have hpt := HPT.out h54
        rw [hpt] at HPB
        simp only at HPB
        clear h54 HPT hpt
        go_wp2
        refine wp_region_plan (.read 0 (.read 2 (.read 3 (.read 4 (.read 5 (.read 6 (.read 7 (.main 1 (.main 8 (.read 9 (.read 10 (.read 11 (.read 12 (.read 13 .done)))))))))))))) (by kernel_rfl) (by kernel_rfl) ?_
        intro wD hxD
        have XE : Hid (Ext wD wD) := Ext.refl _
        have HBD := hid (HBS.out.later (hx.out.trans hxD))
        have c1 := cell_later (cell_later CA.out _ hxD)
        repeat' (first
          | (refine walks_move rfl rfl ?_; simp only [Act.put, Act.eval, List.setIfInBounds_toArray, List.set_cons_zero, List.set_cons_succ, Array.getD_eq_getD_getElem?, List.getElem?_toArray, List.getElem?_cons_zero, List.getElem?_cons_succ, Option.getD_some])
          | (refine walks_assign rfl rfl ?_; simp only [Act.put, Act.eval, List.setIfInBounds_toArray, List.set_cons_zero, List.set_cons_succ, Array.getD_eq_getD_getElem?, List.getElem?_toArray, List.getElem?_cons_zero, List.getElem?_cons_succ, Option.getD_some])
          | (refine walks_skip rfl rfl ?_; simp only [Act.put, List.setIfInBounds_toArray, List.set_cons_zero, List.set_cons_succ])
          | (refine walks_read (v := .agg #[.slice A n c, .slice B m d]) rfl rfl (fun w' hE => run_load_row 25 (.tmp 3) rfl _ rfl _ _ _ ((HBD.out.later (XE.out.trans hE)).blk) Tryz.underlying25 rfl (by kernel_rfl)) ?_; simp only [Act.put, List.setIfInBounds_toArray, List.set_cons_zero, List.set_cons_succ])
          | (refine walks_unwanted rfl rfl ?_; simp only [Act.put, List.setIfInBounds_toArray, List.set_cons_zero, List.set_cons_succ])
          | (refine walks_read (v := ?_) rfl rfl (fun w' hE => ?_) ?_; rotate_left 1; (· ((try (have hEx := Ext.trans (Hid.out XE) hE)); go_simp; (try go_bits); with_reducible rfl)); simp only [Act.put, List.setIfInBounds_toArray, List.set_cons_zero, List.set_cons_succ])
          | (refine walks_alt ?_ ?_)
          | (refine walks_main rfl rfl (fun K hK => ?_); go_wp2_with (first | (go_at_call 8; (with_reducible refine (HTH _ (HBD.out.ext.trans XE.out)).mono ?_); rintro e w5 ⟨A5, n5, c5, B5, m5, d5, rfl, hr5, hx5⟩; have HR5 := hid hr5; clear hr5; have XE' := hid (Ext.trans (Hid.out XE) hx5); clear XE; have XE := XE'; clear XE') | (go_at_call 9; (with_reducible refine (HNA _ _ _ _ _ _ _ _ (HBD.out.ext.trans XE.out) HR5.out).mono ?_); rintro e w6 ⟨rfl, hx6⟩; have XE' := hid (Ext.trans (Hid.out XE) hx6); clear XE; have XE := XE'; clear XE')); refine hK _ _ (by first | assumption | exact Ext.alloc _ _ | exact Ext.refl _) ?_; clear hK K; try simp only [Act.put, List.setIfInBounds_toArray, List.set_cons_zero, List.set_cons_succ]))
        refine walks_done ?_
        have HXV := hid (hx.out.trans (hxD.trans XE.out))
        have f2 := cell_later CB.out _ (hxD.trans XE.out)
        have HXQ := hid (hxD.trans XE.out)
        clear XE HBD c1 hxD
        go_wp2
        refine wp_region_plan (.read 0 (.read 2 (.read 3 (.read 4 (.read 5 (.read 6 (.main 1 (.main 7 (.read 8 (.read 9 (.read 10 (.read 11 (.read 12 .done))))))))))))) (by kernel_rfl) (by kernel_rfl) ?_
        intro wD hxD
        have XE : Hid (Ext wD wD) := Ext.refl _
        have HBD := hid (HBS.out.later (HXV.out.trans hxD))
        have c1 := cell_later (cell_later f2 _ hxD)
        repeat' (first
          | (refine walks_move rfl rfl ?_; simp only [Act.put, Act.eval, List.setIfInBounds_toArray, List.set_cons_zero, List.set_cons_succ, Array.getD_eq_getD_getElem?, List.getElem?_toArray, List.getElem?_cons_zero, List.getElem?_cons_succ, Option.getD_some])
          | (refine walks_assign rfl rfl ?_; simp only [Act.put, Act.eval, List.setIfInBounds_toArray, List.set_cons_zero, List.set_cons_succ, Array.getD_eq_getD_getElem?, List.getElem?_toArray, List.getElem?_cons_zero, List.getElem?_cons_succ, Option.getD_some])
          | (refine walks_skip rfl rfl ?_; simp only [Act.put, List.setIfInBounds_toArray, List.set_cons_zero, List.set_cons_succ])
          | (refine walks_read (v := .agg #[.slice A n c, .slice B m d]) rfl rfl (fun w' hE => run_load_row 25 (.tmp 3) rfl _ rfl _ _ _ ((HBD.out.later (XE.out.trans hE)).blk) Tryz.underlying25 rfl (by kernel_rfl)) ?_; simp only [Act.put, List.setIfInBounds_toArray, List.set_cons_zero, List.set_cons_succ])
          | (refine walks_unwanted rfl rfl ?_; simp only [Act.put, List.setIfInBounds_toArray, List.set_cons_zero, List.set_cons_succ])
          | (refine walks_read (v := ?_) rfl rfl (fun w' hE => ?_) ?_; rotate_left 1; (· ((try (have hEx := Ext.trans (Hid.out XE) hE)); go_simp; (try go_bits); with_reducible rfl)); simp only [Act.put, List.setIfInBounds_toArray, List.set_cons_zero, List.set_cons_succ])
          | (refine walks_alt ?_ ?_)
          | (refine walks_main rfl rfl (fun K hK => ?_); go_wp2_with (first | (go_at_call 8; (with_reducible refine (HTH _ (HBD.out.ext.trans XE.out)).mono ?_); rintro e w7 ⟨A7, n7, c7, B7, m7, d7, rfl, hr7, hx7⟩; have HR7 := hid hr7; clear hr7; have XE' := hid (Ext.trans (Hid.out XE) hx7); clear XE; have XE := XE'; clear XE') | (go_at_call 7; (with_reducible refine (HPB _ _ _ _ _ _ _ _ (HBD.out.ext.trans XE.out) HR7.out).mono ?_); rintro e w8 ⟨A8, n8, c8, rfl, hr8, hx8⟩; have HR8 := hid hr8; clear hr8; have XE' := hid (Ext.trans (Hid.out XE) hx8); clear XE; have XE := XE'; clear XE')); refine hK _ _ (by first | assumption | exact Ext.alloc _ _ | exact Ext.refl _) ?_; clear hK K; try simp only [Act.put, List.setIfInBounds_toArray, List.set_cons_zero, List.set_cons_succ]))
        refine walks_done ?_
        have HXW := hid (HXV.out.trans (hxD.trans XE.out))
        clear XE HBD c1 hxD
        have HSI : ∀ w', Ext w8 w' → Calls Tryz.prog 10 #[.slice A8 n8 c8, .slice (cutA (some ⟨g2, o2, none⟩) (k + 1) c4 1) (n4 - (k + 1)) (c4 - (k + 1))] w' fun e w'' => e = .returned (.bool true) ∧ Ext w' w'' := fun w' hx' => by
          have := sameints_any (HR8.out.ext hx') (HTL.out.ext (HXW.out.trans hx'))
          rw [decide_eq_true rfl] at this
          exact this
        go_wp2_with (go_at_call 10; (with_reducible refine (HSI _ (Ext.refl _)).mono ?_); rintro e w9 ⟨rfl, hx9⟩; have HX9 := hid (HXW.out.trans hx9); clear hx9)
        exact ⟨⟨k + 1, by (congr 1), .inl (by have := HN4.out; omega), HX9.out⟩, by simp [intOf]; have := HN4.out; omega⟩
    · have tlt : ¬ (k : Int) + 1 < (n4 : Int) := by omega
      go_wp2
      go_ret
      exact ⟨rfl, HB4.out.ext.trans hx.out⟩
end Go.Proofs.YtlckfnchabfcaaaGreatDoor
