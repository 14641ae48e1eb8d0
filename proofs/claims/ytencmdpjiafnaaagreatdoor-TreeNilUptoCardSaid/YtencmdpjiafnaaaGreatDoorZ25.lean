import Derived.Test.YtencmdpjiafnaaaGreatDoorZ20
/- How a value is written, byte by byte. -/
namespace Go.Proofs.YtencmdpjiafnaaaGreatDoor
open Go.RowKit
set_option maxRecDepth 100000
set_option linter.unusedSimpArgs false
set_option linter.unusedVariables false

def escI (z : Int) (b0 bL sp : Bool) : Bool := ((z == 32) && (b0 || bL)) || ((z == 35) && b0) || sp
def chunkW (c : UInt8) (b0 bL : Bool) : List UInt8 :=
  if escI (c.toNat : Int) b0 bL (specB c) = true then [92, c] else if (c.toNat : Int) < 32 ∨ 126 < (c.toNat : Int) then [92, digitB (c.toNat / 16), digitB (c.toNat % 16)] else [c]
theorem writeF_cons (b0 : Bool) (c : UInt8) (t : List UInt8) : writeF b0 (c :: t) = chunkW c b0 t.isEmpty ++ writeF false t := by
  have e32 : ((c.toNat : Int) == 32) = (c == 32) := by
    by_cases h : c = 32
    · rw [show ((c.toNat : Int) == 32) = true from byte_is (k := 32) (by decide) h, h]; rfl
    · rw [show ((c.toNat : Int) == 32) = false from byte_isnt (k := 32) h, beq_eq_false_iff_ne.2 h]
  have e35 : ((c.toNat : Int) == 35) = (c == 35) := by
    by_cases h : c = 35
    · rw [show ((c.toNat : Int) == 35) = true from byte_is (k := 35) (by decide) h, h]; rfl
    · rw [show ((c.toNat : Int) == 35) = false from byte_isnt (k := 35) h, beq_eq_false_iff_ne.2 h]
  have eq : ((c.toNat : Int) < 32 ∨ 126 < (c.toNat : Int)) ↔ (c.toNat < 32 ∨ 126 < c.toNat) := by omega
  unfold chunkW escI
  rw [e32, e35]
  simp only [eq]
  rfl
theorem hexd_at {k : Nat} (h : k < 16) : (bys ⟨#[48, 49, 50, 51, 52, 53, 54, 55, 56, 57, 97, 98, 99, 100, 101, 102]⟩)[k]? = some (digitB k) := by
  have hall : ∀ k < 16, (bys ⟨#[48, 49, 50, 51, 52, 53, 54, 55, 56, 57, 97, 98, 99, 100, 101, 102]⟩)[k]? = some (digitB k) := by decide
  exact hall k h
theorem and_low (x : UInt8) : bits BinOp.and IntKind.u8 (x.toNat : Int) 15 = ((x.toNat % 16 : Nat) : Int) := by
  obtain ⟨n, rfl⟩ : ∃ n : Fin 256, x = UInt8.ofFin n := ⟨x.toFin, rfl⟩
  revert n
  decide +kernel
theorem sl_lit (w : World) (xs : List UInt8) (n : Nat) (hn : n = xs.length) (hm : n ≤ maxLen) : Sl (w.alloc (.cells (xs.map bv).toArray 5)) (some ⟨w.heap.size, 0, none⟩) n n xs := Sl.of_own (own_new w xs n hn hm 0 (Nat.zero_le _))
end Go.Proofs.YtencmdpjiafnaaaGreatDoor
/- The walk of rdn's write. -/
namespace Go.Proofs.YtencmdpjiafnaaaGreatDoor
open Go.RowKit
set_option maxRecDepth 100000
set_option linter.unusedSimpArgs false
set_option linter.unusedVariables false

theorem sl_esc (w : World) (x : UInt8) : Sl (w.alloc (.cells #[.int .u8 92, .int .u8 (x.toNat : Int)] 5)) (some ⟨w.heap.size, 0, none⟩) 2 2 [92, x] := sl_lit w [92, x] 2 rfl (by simp [maxLen])
theorem lit_at3 {w : World} {o : Oper} {a : Act} {K : Act → World → Prop} {Q : Exit → Act → World → Prop} (x y : Operand) (ho : o.op = .buildSlice 141 3 #[(0, .const (.int .u8 92)), (1, x), (2, y)]) (p q : UInt8) (hx : a.eval x = .int .u8 (p.toNat : Int)) (hy : a.eval y = .int .u8 (q.toNat : Int))
    (h : ∀ w', Ext w w' → Sl w' (some ⟨w.heap.size, 0, none⟩) 3 3 [92, p, q] → K (a.put o.dst (.slice (some ⟨w.heap.size, 0, none⟩) 3 3)) w') : o.wp Tryz.prog a w K Q := by
  have hr : (execOp a.eval o).run Tryz.prog w = .ok (.value (.slice (some ⟨w.heap.size, 0, none⟩) 3 3)) (w.alloc (.cells #[.int .u8 92, .int .u8 (p.toNat : Int), .int .u8 (q.toNat : Int)] 5)) := by
    unfold execOp
    simp only [ho, List.map_toArray, List.map_cons, List.map_nil, hx, hy]
    kernel_rfl
  unfold Oper.wp
  rw [hr]
  exact h _ (Ext.alloc _ _) (sl_lit w [92, p, q] 3 rfl (by simp [maxLen]))
set_option maxHeartbeats 4000000 in
theorem writeall_kept {B b : Nat} {xs : List UInt8} (s : ByteArray) (w : World) (hI : IsB B b xs w) (hs : s.size ≤ 4000000) (hl : xs.length ≤ 100000000000000) :
    Calls Tryz.prog 162 #[.pointer (some ⟨b, 0, none⟩), .string s] w fun e w' => e = .returned (.tuple #[]) ∧ IsB B b (xs ++ writeF true (bys s)) w' ∧ Kept B b w w' := by
  have Hs := hid hs
  have HI0 := hid hI
  clear hI
  go_enter Tryz.func162, Tryz.ntmps162
  go_wp2
  go_loopw [9] (fun i wr => ∃ (j : Nat) (acc : List UInt8), j ≤ s.size ∧ i = .int .i64 j ∧ acc.length ≤ 3 * j ∧ Hid (IsB B b (xs ++ acc) wr ∧ Kept B b w wr) ∧ Hid (acc ++ writeF (decide (j = 0)) ((bys s).drop j) = writeF true (bys s))) (fun i _ => s.size - (intOf i).toNat)
  case atStart => exact ⟨0, [], by omega, rfl, by simp, ⟨by rw [List.append_nil]; exact HI0, Kept.refl _ _ _⟩, rfl⟩
  case round =>
    obtain ⟨j, acc, hj, rfl, hacc, HI, HR⟩ := hrel
    by_cases hlt : j < s.size
    · obtain ⟨x, hx⟩ := at_some hlt
      have gx := bys_get hx hlt
      have hd := drop_at hx
      have hx1 : (x.toNat : Int) < 256 := by have := x.toNat_lt; omega
      have hx0 : 0 ≤ (x.toNat : Int) := by omega
      have hemp : ((bys s).drop (j + 1)).isEmpty = ((j : Int) == (s.size : Int) - 1) := by
        rw [Bool.eq_iff_iff, List.isEmpty_iff, beq_iff_eq, List.drop_eq_nil_iff, bys_len]
        omega
      have h0 : decide (j = 0) = ((j : Int) == 0) := by rw [Bool.eq_iff_iff, beq_iff_eq, decide_eq_true_eq]; omega
      have hst : acc ++ chunkW x ((j : Int) == 0) ((j : Int) == (s.size : Int) - 1) ++ writeF false ((bys s).drop (j + 1)) = writeF true (bys s) := by
        rw [← HR.out, hd, writeF_cons, hemp, h0, List.append_assoc]
      have hj1 : decide (j + 1 = 0) = false := rfl
      rw [← hj1] at hst
      have HE : Hid (escI (x.toNat : Int) ((j : Int) == 0) ((j : Int) == (s.size : Int) - 1) (specB x) = true → (acc ++ [92, x]) ++ writeF (decide (j + 1 = 0)) ((bys s).drop (j + 1)) = writeF true (bys s)) := by
        intro h; rw [← hst]; unfold chunkW; rw [if_pos h]
      have HP : Hid (escI (x.toNat : Int) ((j : Int) == 0) ((j : Int) == (s.size : Int) - 1) (specB x) = false → ¬ ((x.toNat : Int) < 32 ∨ 126 < (x.toNat : Int)) → (acc ++ [x]) ++ writeF (decide (j + 1 = 0)) ((bys s).drop (j + 1)) = writeF true (bys s)) := by
        intro h k; rw [← hst]; unfold chunkW; rw [if_neg (by rw [h]; decide), if_neg k]
      have HX : Hid (escI (x.toNat : Int) ((j : Int) == 0) ((j : Int) == (s.size : Int) - 1) (specB x) = false → ((x.toNat : Int) < 32 ∨ 126 < (x.toNat : Int)) → (acc ++ [92, digitB (x.toNat / 16), digitB (x.toNat % 16)]) ++ writeF (decide (j + 1 = 0)) ((bys s).drop (j + 1)) = writeF true (bys s)) := by
        intro h k; rw [← hst]; unfold chunkW; rw [if_neg (by rw [h]; decide), if_pos k]
      clear hx hd hemp h0 hst hj1
      cases hsp : specB x with
      | true =>
        have HM := hid ((mem_spec x).1 hsp)
        have HE' : Hid ((acc ++ [92, x]) ++ writeF (decide (j + 1 = 0)) ((bys s).drop (j + 1)) = writeF true (bys s)) := HE.out (by unfold escI; rw [hsp]; simp)
        clear hsp HE HP HX
        generalize hq32 : ((x.toNat : Int) == 32) = b32 at *
        generalize hq35 : ((x.toNat : Int) == 35) = b35 at *
        generalize hq0 : ((j : Int) == 0) = b0 at *
        generalize hqL : ((j : Int) == (s.size : Int) - 1) = bL at *
        cases b32 <;> cases b35 <;> cases b0 <;> cases bL
        all_goals
          go_wp2_with (first
            | (go_at_call 179; (with_reducible refine (indexbyte_yes _ _ x (u8_back _) _ HM.out).mono ?_); rintro e w4 ⟨⟨i, rfl⟩, rfl⟩; have hi0 : 0 ≤ (i : Int) := by omega)
            | (go_at_call 191; (with_reducible refine (write_kept _ 2 2 [92, x] (HI.out.1.ext (Ext.alloc _ _)) (sl_esc _ x) (fun a ha => by injection ha with ha; subst ha; have := HI.out.1.lt; show _ ≠ _; simp; omega) (by simp; omega)).mono ?_); rintro e w5 ⟨rfl, hi5, hx5⟩; have HI5 := hid hi5; have HX5 := hid hx5; clear hi5 hx5))
          exact ⟨⟨j + 1, acc ++ [92, x], by omega, by go_num, by simp; omega, ⟨by rw [← List.append_assoc]; exact HI5.out, Kept.trans HI.out.2 (Kept.trans (kept_ext (Ext.alloc _ _) HI.out.1.le) HX5.out)⟩, HE'⟩, by simp [intOf]; omega⟩
      | false =>
        have HM : Hid (x ∉ ([44, 43, 34, 92, 60, 62, 59] : List UInt8)) := fun h => by have := (mem_spec x).2 h; rw [hsp] at this; cases this
        rw [hsp] at HE HP HX
        clear hsp
        generalize hq32 : ((x.toNat : Int) == 32) = b32 at *
        generalize hq35 : ((x.toNat : Int) == 35) = b35 at *
        generalize hq0 : ((j : Int) == 0) = b0 at *
        generalize hqL : ((j : Int) == (s.size : Int) - 1) = bL at *
        have hE2 : ∀ b, escI (x.toNat : Int) b0 bL false = b ↔ ((b32 && (b0 || bL)) || (b35 && b0)) = b := by intro b; unfold escI; rw [hq32, hq35, Bool.or_false]
        rw [hE2] at HE HP HX
        clear hE2
        have hu : (((x.toNat : Int) < 32 ∨ 126 < (x.toNat : Int)) ∧ ((x.toNat : Int) < 32 ∨ (¬ (x.toNat : Int) < 32 ∧ 126 < (x.toNat : Int)))) ∨ (¬ ((x.toNat : Int) < 32 ∨ 126 < (x.toNat : Int)) ∧ ¬ (x.toNat : Int) < 32 ∧ ¬ 126 < (x.toNat : Int)) := by omega
        cases b32 <;> cases b35 <;> cases b0 <;> cases bL
        all_goals first
          | (have HE' := hid (HE.out rfl)
             clear HE HP HX hu
             go_wp2_with (first
               | (go_at_call 191; (with_reducible refine (write_kept _ 2 2 [92, x] (HI.out.1.ext (Ext.alloc _ _)) (sl_esc _ x) (fun a ha => by injection ha with ha; subst ha; have := HI.out.1.lt; show _ ≠ _; simp; omega) (by simp; omega)).mono ?_); rintro e w5 ⟨rfl, hi5, hx5⟩; have HI5 := hid hi5; have HX5 := hid hx5; clear hi5 hx5))
             exact ⟨⟨j + 1, acc ++ [92, x], by omega, by go_num, by simp; omega, ⟨by rw [← List.append_assoc]; exact HI5.out, Kept.trans HI.out.2 (Kept.trans (kept_ext (Ext.alloc _ _) HI.out.1.le) HX5.out)⟩, HE'⟩, by simp [intOf]; omega⟩)
          | (rcases hu with ⟨hu, hv⟩ | ⟨hu, hu1, hu2⟩
             · have HX' := hid (HX.out rfl hu)
               clear HE HP HX hu
               obtain ⟨k1, hk1⟩ : ∃ k, k = x.toNat / 16 := ⟨_, rfl⟩
               obtain ⟨k2, hk2⟩ : ∃ k, k = x.toNat % 16 := ⟨_, rfl⟩
               have hl1 : k1 < 16 := by omega
               have hl2 : k2 < 16 := by omega
               have g1 := bys_get (hexd_at hl1) hl1
               have g2 := bys_get (hexd_at hl2) hl2
               have hsh : (x.toNat : Int) / 16 = (k1 : Int) := by omega
               have hand := and_low x
               rw [← hk1, ← hk2] at HX'
               rw [← hk2] at hand
               have hk1' : (k1 : Int) < 16 := by omega
               have hk2' : (k2 : Int) < 16 := by omega
               generalize digitB k1 = d1 at *
               generalize digitB k2 = d2 at *
               clear hk1 hk2
               rcases hv with hv | ⟨hv, hv2⟩
               all_goals
                 go_wp2_with (first
                   | (go_at_call 179; (with_reducible refine (indexbyte_no _ _ x (u8_back _) _ HM.out).mono ?_); rintro e w4 ⟨rfl, rfl⟩))
                 refine wp_region_planB B (.read 0 (.read 1 (.read 2 (.read 3 (.read 4 (.read 5 (.read 6 (.main 7 (.main 8 .done))))))))) (by kernel_rfl) (by kernel_rfl) ?_
                 intro wD hxD
                 have XB : Hid (Below B wD wD) := Below.refl _ _
                 have HID := hid (HI.out.1.ext hxD)
                 have HXD := hid (Kept.trans HI.out.2 (kept_ext hxD HI.out.1.le))
                 repeat' (first
                   | (refine walksB_move rfl rfl ?_; simp only [Act.put, Act.eval, List.setIfInBounds_toArray, List.set_cons_zero, List.set_cons_succ, Array.getD_eq_getD_getElem?, List.getElem?_toArray, List.getElem?_cons_zero, List.getElem?_cons_succ, Option.getD_some])
                   | (refine walksB_assign rfl rfl ?_; simp only [Act.put, Act.eval, List.setIfInBounds_toArray, List.set_cons_zero, List.set_cons_succ, Array.getD_eq_getD_getElem?, List.getElem?_toArray, List.getElem?_cons_zero, List.getElem?_cons_succ, Option.getD_some])
                   | (refine walksB_skip rfl rfl ?_; simp only [Act.put, List.setIfInBounds_toArray, List.set_cons_zero, List.set_cons_succ])
                   | (refine walksB_unwanted rfl rfl ?_; simp only [Act.put, List.setIfInBounds_toArray, List.set_cons_zero, List.set_cons_succ])
                   | (refine walksB_read (v := ?_) rfl rfl (fun w' hE => ?_) ?_; rotate_left 1; (· ((try (have hEx := Below.trans (Hid.out XB) hE)); go_simp; (try go_bits); with_reducible rfl)); simp only [Act.put, List.setIfInBounds_toArray, List.set_cons_zero, List.set_cons_succ])
                   | (refine walksB_main rfl rfl (fun K hK => ?_); (first | (refine lit_at3 _ _ rfl d1 d2 rfl rfl ?_; intro w8 hx8 hs8; have hx8' := Below.mono hx8 HID.out.le; have HIE := hid (HID.out.ext hx8); have HK8 : Hid (Kept B b wD w8) := kept_ext hx8 HID.out.le; have HS8 := hid hs8; have HA8 : Hid (∀ a, some (⟨wD.heap.size, 0, none⟩ : Addr) = some a → a.block ≠ b) := (fun a ha => by injection ha with ha; subst ha; have := HID.out.lt; show _ ≠ _; simp; omega); clear hx8 hs8; have XB' := hid (Below.trans (Hid.out XB) (hx8')); clear XB; have XB := XB'; clear XB')); refine hK _ _ (by first | assumption | exact Below.refl _ _ | exact Below.mono (Ext.alloc _ _) (Hid.out HSW) | exact Below.setCell (p := ⟨_, _, _⟩) (Below.refl _ _) (Nat.le_refl _) _) ?_; clear hK K; try simp only [Act.put, List.setIfInBounds_toArray, List.set_cons_zero, List.set_cons_succ])
                   | (refine walksB_alt ?_ ?_)
                   | (refine walksB_main rfl rfl (fun K hK => ?_); go_wp2_with ((go_at_call 191; (with_reducible refine (write_kept _ 3 3 [92, d1, d2] HIE.out HS8.out HA8.out (by simp; omega)).mono ?_); rintro e w9 ⟨rfl, hi9, hk9⟩; have HI9 := hid hi9; have HK9 := hid (Kept.trans HK8.out hk9); have hx9 := hk9.below; clear hi9 hk9; have XB' := hid (Below.trans (Hid.out XB) (hx9)); clear XB; have XB := XB'; clear XB')); refine hK _ _ (by first | assumption | exact Below.refl _ _ | exact Below.mono (Ext.alloc _ _) (Hid.out HSW) | exact Below.setCell (p := ⟨_, _, _⟩) (Below.refl _ _) (Nat.le_refl _) _) ?_; clear hK K; try simp only [Act.put, List.setIfInBounds_toArray, List.set_cons_zero, List.set_cons_succ]))
                 refine walksB_done ?_
                 go_wp2
                 exact ⟨⟨j + 1, acc ++ [92, d1, d2], by omega, by go_num, by simp; omega, ⟨by rw [← List.append_assoc]; exact HI9.out, Kept.trans HXD.out HK9.out⟩, HX'⟩, by simp [intOf]; omega⟩
             · have HP' := hid (HP.out rfl hu)
               clear HE HP HX hu
               go_wp2_with (first
                 | (go_at_call 179; (with_reducible refine (indexbyte_no _ _ x (u8_back _) _ HM.out).mono ?_); rintro e w4 ⟨rfl, rfl⟩)
                 | (go_at_call 161; (with_reducible refine (writeByte_kept x HI.out.1 (by simp; omega)).mono ?_); rintro e w5 ⟨rfl, hi5, hx5⟩; have HI5 := hid hi5; have HX5 := hid hx5; clear hi5 hx5))
               exact ⟨⟨j + 1, acc ++ [x], by omega, by go_num, by simp; omega, ⟨by rw [← List.append_assoc]; exact HI5.out, Kept.trans HI.out.2 HX5.out⟩, HP'⟩, by simp [intOf]; omega⟩)
    · obtain rfl : j = s.size := by omega
      have HF : Hid (writeF true (bys s) = acc) := by show _ = _; rw [← HR.out, drop_none (Nat.le_refl _)]; simp [writeF]
      go_wp2
      go_end0
      exact ⟨rfl, by rw [HF.out]; exact HI.out.1, HI.out.2⟩
theorem write_all {B b : Nat} {xs : List UInt8} (s : ByteArray) (w : World) (hI : IsB B b xs w) (hs : s.size ≤ 4000000) (hl : xs.length ≤ 100000000000000) :
    Calls Tryz.prog 162 #[.pointer (some ⟨b, 0, none⟩), .string s] w fun e w' => e = .returned (.tuple #[]) ∧ IsB B b (xs ++ writeF true (bys s)) w' ∧ Below B w w' :=
  (writeall_kept s w hI hs hl).mono fun _ _ ⟨h1, h2, h3⟩ => ⟨h1, h2, h3.below⟩
end Go.Proofs.YtencmdpjiafnaaaGreatDoor
/- The walks of rdn's write and of the reference's value: a value as it is written. -/
namespace Go.Proofs.YtencmdpjiafnaaaGreatDoor
open Go.RowKit
set_option maxRecDepth 100000
set_option linter.unusedSimpArgs false
set_option linter.unusedVariables false

theorem lit_wp3 {w : World} {o : Oper} {a : Act} {K : Act → World → Prop} {Q : Exit → Act → World → Prop} (x y : Operand) (ho : o.op = .buildSlice 141 3 #[(0, .const (.int .u8 92)), (1, x), (2, y)]) (p q : UInt8) (hx : a.eval x = .int .u8 (p.toNat : Int)) (hy : a.eval y = .int .u8 (q.toNat : Int))
    (h : ∀ A w', Ext w w' → Sl w' A 3 3 [92, p, q] → K (a.put o.dst (.slice A 3 3)) w') : o.wp Tryz.prog a w K Q := by
  have hr : (execOp a.eval o).run Tryz.prog w = .ok (.value (.slice (some ⟨w.heap.size, 0, none⟩) 3 3)) (w.alloc (.cells #[.int .u8 92, .int .u8 (p.toNat : Int), .int .u8 (q.toNat : Int)] 5)) := by
    unfold execOp
    simp only [ho, List.map_toArray, List.map_cons, List.map_nil, hx, hy]
    kernel_rfl
  unfold Oper.wp
  rw [hr]
  exact h _ _ (Ext.alloc _ _) (sl_lit w [92, p, q] 3 rfl (by simp [maxLen]))
set_option maxHeartbeats 4000000 in
theorem rvalue_any (s : ByteArray) (w : World) (hs : s.size ≤ 4000000) : Calls Tryz.prog 166 #[.string s] w fun e w' => e = .returned (.string (str (writeF true (bys s)))) ∧ Ext w w' := by
  have Hs := hid hs
  go_enter Tryz.func166, Tryz.ntmps166
  go_wp2
  go_loopw [3, 4] (fun v i wr => ∃ (j : Nat) (acc : List UInt8), j ≤ s.size ∧ i = .int .i64 j ∧ acc.length ≤ 3 * j ∧ Hid (GrowB w wr v acc) ∧ Hid (acc ++ writeF (decide (j = 0)) ((bys s).drop j) = writeF true (bys s))) (fun _ i _ => s.size - (intOf i).toNat)
  case atStart => exact ⟨0, [], by omega, rfl, by simp, GrowB.nil (Ext.refl _), rfl⟩
  case round =>
    obtain ⟨j, acc, hj, rfl, hacc, HG, HR⟩ := hrel
    by_cases hlt : j < s.size
    · obtain ⟨x, hx⟩ := at_some hlt
      have gx := bys_get hx hlt
      have hd := drop_at hx
      have hx1 : (x.toNat : Int) < 256 := by have := x.toNat_lt; omega
      have hx0 : 0 ≤ (x.toNat : Int) := by omega
      have hemp : ((bys s).drop (j + 1)).isEmpty = ((j : Int) == (s.size : Int) - 1) := by
        rw [Bool.eq_iff_iff, List.isEmpty_iff, beq_iff_eq, List.drop_eq_nil_iff, bys_len]
        omega
      have h0 : decide (j = 0) = ((j : Int) == 0) := by rw [Bool.eq_iff_iff, beq_iff_eq, decide_eq_true_eq]; omega
      have hst : acc ++ chunkW x ((j : Int) == 0) ((j : Int) == (s.size : Int) - 1) ++ writeF false ((bys s).drop (j + 1)) = writeF true (bys s) := by
        rw [← HR.out, hd, writeF_cons, hemp, h0, List.append_assoc]
      have hj1 : decide (j + 1 = 0) = false := rfl
      rw [← hj1] at hst
      have HE : Hid (escI (x.toNat : Int) ((j : Int) == 0) ((j : Int) == (s.size : Int) - 1) (specB x) = true → (acc ++ [92, x]) ++ writeF (decide (j + 1 = 0)) ((bys s).drop (j + 1)) = writeF true (bys s)) := by
        intro h; rw [← hst]; unfold chunkW; rw [if_pos h]
      have HP : Hid (escI (x.toNat : Int) ((j : Int) == 0) ((j : Int) == (s.size : Int) - 1) (specB x) = false → ¬ ((x.toNat : Int) < 32 ∨ 126 < (x.toNat : Int)) → (acc ++ [x]) ++ writeF (decide (j + 1 = 0)) ((bys s).drop (j + 1)) = writeF true (bys s)) := by
        intro h k; rw [← hst]; unfold chunkW; rw [if_neg (by rw [h]; decide), if_neg k]
      have HX : Hid (escI (x.toNat : Int) ((j : Int) == 0) ((j : Int) == (s.size : Int) - 1) (specB x) = false → ((x.toNat : Int) < 32 ∨ 126 < (x.toNat : Int)) → (acc ++ [92, digitB (x.toNat / 16), digitB (x.toNat % 16)]) ++ writeF (decide (j + 1 = 0)) ((bys s).drop (j + 1)) = writeF true (bys s)) := by
        intro h k; rw [← hst]; unfold chunkW; rw [if_neg (by rw [h]; decide), if_pos k]
      clear hx hd hemp h0 hst hj1
      cases hsp : specB x with
      | true =>
        have HSP := hid hsp
        have HE' : Hid ((acc ++ [92, x]) ++ writeF (decide (j + 1 = 0)) ((bys s).drop (j + 1)) = writeF true (bys s)) := HE.out (by unfold escI; rw [hsp]; simp)
        clear hsp HE HP HX
        go_wp2_with (first
          | (go_at_call 194; (with_reducible refine (special_any x _).mono ?_); rintro e w4 ⟨he4, rfl⟩; rw [HSP.out] at he4; subst he4)
          | (at_builtin; refine append_grow rfl _ _ rfl _ _ rfl (HG.out.later (Ext.alloc _ _)) _ 2 2 [92, x] rfl (sl_lit _ [92, x] 2 rfl (by simp [maxLen])) (by omega) ?_; intro v' w5 hg5; have HG5 := hid hg5; clear hg5))
        exact ⟨⟨j + 1, _, by omega, by go_num, by simp; omega, HG5, HE'⟩, by simp [intOf]; omega⟩
      | false =>
        have HSP := hid hsp
        clear hsp
        rw [HSP.out] at HE HP HX
        generalize hq32 : ((x.toNat : Int) == 32) = b32 at *
        generalize hq35 : ((x.toNat : Int) == 35) = b35 at *
        generalize hq0 : ((j : Int) == 0) = b0 at *
        generalize hqL : ((j : Int) == (s.size : Int) - 1) = bL at *
        have hE2 : ∀ b, escI (x.toNat : Int) b0 bL false = b ↔ ((b32 && (b0 || bL)) || (b35 && b0)) = b := by intro b; unfold escI; rw [hq32, hq35, Bool.or_false]
        rw [hE2] at HE HP HX
        clear hE2
        have hu : (((x.toNat : Int) < 32 ∨ 126 < (x.toNat : Int)) ∧ ((x.toNat : Int) < 32 ∨ (¬ (x.toNat : Int) < 32 ∧ 126 < (x.toNat : Int)))) ∨ (¬ ((x.toNat : Int) < 32 ∨ 126 < (x.toNat : Int)) ∧ ¬ (x.toNat : Int) < 32 ∧ ¬ 126 < (x.toNat : Int)) := by omega
        cases b32 <;> cases b35 <;> cases b0 <;> cases bL
        all_goals first
          | (have HE' := hid (HE.out rfl)
             clear HE HP HX hu
             go_wp2_with (first
               | (go_at_call 194; (with_reducible refine (special_any x _).mono ?_); rintro e w4 ⟨he4, rfl⟩; rw [HSP.out] at he4; subst he4)
               | (at_builtin; refine append_grow rfl _ _ rfl _ _ rfl (HG.out.later (Ext.alloc _ _)) _ 2 2 [92, x] rfl (sl_lit _ [92, x] 2 rfl (by simp [maxLen])) (by omega) ?_; intro v' w5 hg5; have HG5 := hid hg5; clear hg5))
             exact ⟨⟨j + 1, _, by omega, by go_num, by simp; omega, HG5, HE'⟩, by simp [intOf]; omega⟩)
          | (rcases hu with ⟨hu, hv⟩ | ⟨hu, hu1, hu2⟩
             · have HX' := hid (HX.out rfl hu)
               clear HE HP HX hu
               obtain ⟨k1, hk1⟩ : ∃ k, k = x.toNat / 16 := ⟨_, rfl⟩
               obtain ⟨k2, hk2⟩ : ∃ k, k = x.toNat % 16 := ⟨_, rfl⟩
               have hl1 : k1 < 16 := by omega
               have hl2 : k2 < 16 := by omega
               have g1 := bys_get (hexd_at hl1) hl1
               have g2 := bys_get (hexd_at hl2) hl2
               have hsh : (x.toNat : Int) / 16 = (k1 : Int) := by omega
               have hand := and_low x
               rw [← hk1, ← hk2] at HX'
               rw [← hk2] at hand
               have hk1' : (k1 : Int) < 16 := by omega
               have hk2' : (k2 : Int) < 16 := by omega
               generalize digitB k1 = d1 at *
               generalize digitB k2 = d2 at *
               clear hk1 hk2
               rcases hv with hv | ⟨hv, hv2⟩
               all_goals
                 go_wp2_with (first
                   | (go_at_call 194; (with_reducible refine (special_any x _).mono ?_); rintro e w4 ⟨he4, rfl⟩; rw [HSP.out] at he4; subst he4))
                 refine wp_region_planB w.heap.size (.read 0 (.read 1 (.read 2 (.read 3 (.read 4 (.read 5 (.read 6 (.main 7 (.main 8 (.read 9 .done)))))))))) (by kernel_rfl) (by kernel_rfl) ?_
                 intro wD hxD
                 have XB : Hid (Below w.heap.size wD wD) := Below.refl _ _
                 have HGD := hid (HG.out.later hxD)
                 repeat' (first
                   | (refine walksB_move rfl rfl ?_; simp only [Act.put, Act.eval, List.setIfInBounds_toArray, List.set_cons_zero, List.set_cons_succ, Array.getD_eq_getD_getElem?, List.getElem?_toArray, List.getElem?_cons_zero, List.getElem?_cons_succ, Option.getD_some])
                   | (refine walksB_assign rfl rfl ?_; simp only [Act.put, Act.eval, List.setIfInBounds_toArray, List.set_cons_zero, List.set_cons_succ, Array.getD_eq_getD_getElem?, List.getElem?_toArray, List.getElem?_cons_zero, List.getElem?_cons_succ, Option.getD_some])
                   | (refine walksB_skip rfl rfl ?_; simp only [Act.put, List.setIfInBounds_toArray, List.set_cons_zero, List.set_cons_succ])
                   | (refine walksB_unwanted rfl rfl ?_; simp only [Act.put, List.setIfInBounds_toArray, List.set_cons_zero, List.set_cons_succ])
                   | (refine walksB_read (v := ?_) rfl rfl (fun w' hE => ?_) ?_; rotate_left 1; (· ((try (have hEx := Below.trans (Hid.out XB) hE)); go_simp; (try go_bits); with_reducible rfl)); simp only [Act.put, List.setIfInBounds_toArray, List.set_cons_zero, List.set_cons_succ])
                   | (refine walksB_main rfl rfl (fun K hK => ?_); (first | (refine lit_wp3 _ _ rfl d1 d2 rfl rfl ?_; intro A8 w8 hx8 hs8; have hx8' := Below.mono hx8 (ext_sz HGD.out.ext); have HGE := hid (HGD.out.later hx8); have HS8 := hid hs8; clear hx8 hs8; have XB' := hid (Below.trans (Hid.out XB) (hx8')); clear XB; have XB := XB'; clear XB') | (refine append_grow_wp _ _ rfl _ acc rfl HGE.out _ 3 3 [92, d1, d2] rfl HS8.out (by omega) ?_; intro v' w9 hg9 hb9; have HG9 := hid hg9; clear hg9; have XB' := hid (Below.trans (Hid.out XB) (hb9)); clear XB; have XB := XB'; clear XB')); refine hK _ _ (by first | assumption | exact Below.refl _ _ | exact Below.mono (Ext.alloc _ _) (Hid.out HSW) | exact Below.setCell (p := ⟨_, _, _⟩) (Below.refl _ _) (Nat.le_refl _) _) ?_; clear hK K; try simp only [Act.put, List.setIfInBounds_toArray, List.set_cons_zero, List.set_cons_succ])
                   | (refine walksB_alt ?_ ?_)
                   | (refine walksB_main rfl rfl (fun K hK => ?_); go_wp2_with (fail); refine hK _ _ (by first | assumption | exact Below.refl _ _ | exact Below.mono (Ext.alloc _ _) (Hid.out HSW) | exact Below.setCell (p := ⟨_, _, _⟩) (Below.refl _ _) (Nat.le_refl _) _) ?_; clear hK K; try simp only [Act.put, List.setIfInBounds_toArray, List.set_cons_zero, List.set_cons_succ]))
                 refine walksB_done ?_
                 go_wp2
                 exact ⟨⟨j + 1, acc ++ [92, d1, d2], by omega, by go_num, by simp; omega, HG9, HX'⟩, by simp [intOf]; omega⟩
             · have HP' := hid (HP.out rfl hu)
               clear HE HP HX hu
               go_wp2_with (first
                 | (go_at_call 194; (with_reducible refine (special_any x _).mono ?_); rintro e w4 ⟨he4, rfl⟩; rw [HSP.out] at he4; subst he4)
                 | (at_builtin; refine append_grow rfl _ _ rfl _ _ rfl (HG.out.later (Ext.alloc _ _)) _ 1 1 [x] rfl (sl_char _ x) (by omega) ?_; intro v' w5 hg5; have HG5 := hid hg5; clear hg5))
               exact ⟨⟨j + 1, _, by omega, by go_num, by simp; omega, HG5, HP'⟩, by simp [intOf]; omega⟩)
    · obtain rfl : j = s.size := by omega
      have HF : Hid (writeF true (bys s) = acc) := by show _ = _; rw [← HR.out, drop_none (Nat.le_refl _)]; simp [writeF]
      obtain ⟨A1, c1, rfl, hs1⟩ := HG.out.sl
      have hC := hs1.conv wr (Ext.refl wr)
      clear hs1
      go_wp2
      go_ret
      exact ⟨by rw [HF.out]; rfl, HG.out.ext⟩
end Go.Proofs.YtencmdpjiafnaaaGreatDoor
