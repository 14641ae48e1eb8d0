/- The walks of what compares attributes and changes. -/
import Derived.Test.YtabaeiolpbdjnaaDs
namespace Go.Proofs.Ytabaeiolpbdjnaa
open Go.RowKit
set_option maxRecDepth 100000

theorem att_eq {a b : Att} : a = b ↔ a.type = b.type ∧ a.vals = b.vals := by
  obtain ⟨t, v⟩ := a
  obtain ⟨u, x⟩ := b
  simp
instance : DecidableEq Att := fun _ _ => decidable_of_iff _ att_eq.symm
theorem ret_bool {a b : Bool} (h : a = b) : Ending.returned (.bool b) = .returned (.bool a) := by rw [h]
theorem att_dec (a b : Att) : decide (a = b) = (decide (a.type = b.type) && decide (a.vals = b.vals)) := by
  rw [Bool.eq_iff_iff]; simp [att_eq]
set_option maxHeartbeats 1000000 in
theorem sameattr_any {S T : Nat → Prop} {a b : Att} {A B : Option Addr} {n c m d : Nat} {w : World} (h : Row Elem.str S w A n c a.vals) (k : Row Elem.str T w B m d b.vals) :
    Calls Try.prog 29 #[.agg #[.string a.type, .slice A n c], .agg #[.string b.type, .slice B m d]] w fun e w' => e = .returned (.bool (decide (a = b))) ∧ Ext w w' := by
  have hd := hid (att_dec a b)
  by_cases he : a.type = b.type
  · have hf := hid (show decide (a = b) = decide (a.vals = b.vals) by rw [hd.out, decide_eq_true he, Bool.true_and])
    have hs := str_eq he
    clear he
    go_enter Try.func29, Try.ntmps29
    go_wp2_with (go_at_call 27; (with_reducible refine (equaltexts_any (h.ext ((Ext.alloc _ _).trans (Ext.alloc _ _))) (k.ext ((Ext.alloc _ _).trans (Ext.alloc _ _)))).mono ?_); rintro e w1 ⟨rfl, hx1⟩)
    go_ret
    exact ⟨ret_bool hf.out, ((Ext.alloc _ _).trans (Ext.alloc _ _)).trans hx1⟩
  · have hf := hid (show decide (a = b) = false by rw [hd.out, decide_eq_false he, Bool.false_and])
    have hs := str_ne he
    clear he
    go_enter Try.func29, Try.ntmps29
    go_wp2
    go_ret
    exact ⟨ret_bool hf.out, (Ext.alloc _ _).trans (Ext.alloc _ _)⟩

theorem chg_eq {a b : Chg} : a = b ↔ a.op = b.op ∧ a.att = b.att := by
  obtain ⟨t, v⟩ := a
  obtain ⟨u, x⟩ := b
  simp
instance : DecidableEq Chg := fun _ _ => decidable_of_iff _ chg_eq.symm
theorem chg_dec (a b : Chg) : decide (a = b) = (decide (a.op = b.op) && decide (a.att = b.att)) := by
  rw [Bool.eq_iff_iff]; simp [chg_eq]
set_option maxHeartbeats 1000000 in
theorem samechange_any {S T : Nat → Prop} {a b : Chg} {A B : Option Addr} {n c m d : Nat} {w : World} (h : Row Elem.str S w A n c a.att.vals) (k : Row Elem.str T w B m d b.att.vals) :
    Calls Try.prog 31 #[.agg #[.int .i64 a.op, .string a.att.type, .slice A n c], .agg #[.int .i64 b.op, .string b.att.type, .slice B m d]] w fun e w' => e = .returned (.bool (decide (a = b))) ∧ Ext w w' := by
  have hd := hid (chg_dec a b)
  by_cases he : a.op = b.op
  · have hf := hid (show decide (a = b) = decide (a.att = b.att) by rw [hd.out, decide_eq_true he, Bool.true_and])
    have hs : (a.op == b.op) = true := by rw [beq_iff_eq]; exact he
    clear he
    go_enter Try.func31, Try.ntmps31
    go_wp2_with (go_at_call 29; (with_reducible refine (sameattr_any (h.ext ((Ext.alloc _ _).trans (Ext.alloc _ _))) (k.ext ((Ext.alloc _ _).trans (Ext.alloc _ _)))).mono ?_); rintro e w1 ⟨rfl, hx1⟩)
    go_ret
    exact ⟨ret_bool hf.out, ((Ext.alloc _ _).trans (Ext.alloc _ _)).trans hx1⟩
  · have hf := hid (show decide (a = b) = false by rw [hd.out, decide_eq_false he, Bool.false_and])
    have hs : (a.op == b.op) = false := by rw [beq_eq_false_iff_ne]; exact he
    clear he
    go_enter Try.func31, Try.ntmps31
    go_wp2
    go_ret
    exact ⟨ret_bool hf.out, (Ext.alloc _ _).trans (Ext.alloc _ _)⟩
set_option maxHeartbeats 1000000 in
theorem equalatts_any {S T : Nat → Prop} {A B : Option Addr} {n c m d : Nat} {l r : List Att} {w : World} (h : Row Elem.att S w A n c l) (k : Row Elem.att T w B m d r) :
    Calls Try.prog 28 #[.slice A n c, .slice B m d, .func (.func 29) #[] #[]] w fun e w' => e = .returned (.bool (decide (l = r))) ∧ Ext w w' := by
  have hl := hid h.len
  have kl := hid k.len
  have hnl : n ≤ 9223372036854775807 := by have := h.cap; have := h.most; simp only [maxLen] at this; omega
  have hml : m ≤ 9223372036854775807 := by have := k.cap; have := k.most; simp only [maxLen] at this; omega
  by_cases hnm : n = m
  · subst hnm
    have kl2 := kl
    clear kl
    go_enter Try.func28, Try.ntmps28
    go_wp2
    go_loopw [17] (fun i wr => ∃ j : Nat, j ≤ n ∧ i = .int .i64 j ∧ Hid (l.take j = r.take j) ∧ Hid (Ext w wr)) (fun i _ => n - (intOf i).toNat)
    case atStart => exact ⟨0, by omega, rfl, by simp [Hid], Ext.refl w⟩
    case round =>
      obtain ⟨j, hj, rfl, Htk, hx⟩ := hrel
      by_cases hlt : j < n
      · obtain ⟨b1, o1, v1, x1, rfl, g1, _, ⟨A1, n1, c1, rfl, r1⟩, q1⟩ := (h.ext hx.out).at_ hlt
        obtain ⟨b2, o2, v2, x2, rfl, g2, _, ⟨A2, n2, c2, rfl, r2⟩, q2⟩ := (k.ext hx.out).at_ hlt
        have e10 := q1 0 _ rfl; have e20 := q2 0 _ rfl; have e11 := q1 1 _ rfl; have e21 := q2 1 _ rfl
        clear q1 q2
        simp only [Elem.att, Nat.add_zero] at e10 e20 e11 e21
        have hb2 : b2 < wr.heap.size := World.block_lt_of_cell? wr _ e20
        have Hg := hid (And.intro g1 g2)
        clear g1 g2
        by_cases hxx : x1 = x2
        · have Hd := hid (decide_eq_true hxx)
          have Hx := hid hxx
          clear hxx
          go_wp2_with (go_at_call 29; (with_reducible refine (sameattr_any (r1.ext ((Ext.alloc _ _).trans (Ext.alloc _ _))) (r2.ext ((Ext.alloc _ _).trans (Ext.alloc _ _)))).mono ?_); rintro e w1 ⟨he, hx1⟩; rw [Hd.out] at he; subst he)
          refine ⟨⟨j + 1, by omega, by go_num, ?_, hx.out.trans (((Ext.alloc _ _).trans (Ext.alloc _ _)).trans hx1)⟩, by simp [intOf]; omega⟩
          show _ = _
          rw [List.take_add_one, List.take_add_one, Htk.out, Hg.out.1, Hg.out.2, Hx.out]
        · have Hd := hid (decide_eq_false hxx)
          have Hx := hid hxx
          clear hxx
          go_wp2_with (go_at_call 29; (with_reducible refine (sameattr_any (r1.ext ((Ext.alloc _ _).trans (Ext.alloc _ _))) (r2.ext ((Ext.alloc _ _).trans (Ext.alloc _ _)))).mono ?_); rintro e w1 ⟨he, hx1⟩; rw [Hd.out] at he; subst he)
          go_ret
          exact ⟨ret_bool (decide_eq_false (fun e => by subst e; exact Hx.out (Option.some.inj (Hg.out.1.symm.trans Hg.out.2)))), hx.out.trans (((Ext.alloc _ _).trans (Ext.alloc _ _)).trans hx1)⟩
      · obtain rfl : j = n := by omega
        go_wp2
        go_ret
        exact ⟨ret_bool (decide_eq_true (take_eq_all hl.out kl2.out Htk.out)), hx.out⟩
  · have hne : ((n : Int) != (m : Int)) = true := by rw [bne_iff_ne]; omega
    have hfin : Hid (decide (l = r) = false) := by
      refine decide_eq_false fun e => ?_
      subst e
      have := hl.out
      have := kl.out
      omega
    clear hnm
    go_enter Try.func28, Try.ntmps28
    go_wp2
    go_ret
    exact ⟨ret_bool hfin.out, Ext.refl w⟩
set_option maxHeartbeats 1000000 in
theorem equalchanges_any {S T : Nat → Prop} {A B : Option Addr} {n c m d : Nat} {l r : List Chg} {w : World} (h : Row Elem.chg S w A n c l) (k : Row Elem.chg T w B m d r) :
    Calls Try.prog 30 #[.slice A n c, .slice B m d, .func (.func 31) #[] #[]] w fun e w' => e = .returned (.bool (decide (l = r))) ∧ Ext w w' := by
  have hl := hid h.len
  have kl := hid k.len
  have hnl : n ≤ 9223372036854775807 := by have := h.cap; have := h.most; simp only [maxLen] at this; omega
  have hml : m ≤ 9223372036854775807 := by have := k.cap; have := k.most; simp only [maxLen] at this; omega
  by_cases hnm : n = m
  · subst hnm
    have kl2 := kl
    clear kl
    go_enter Try.func30, Try.ntmps30
    go_wp2
    go_loopw [17] (fun i wr => ∃ j : Nat, j ≤ n ∧ i = .int .i64 j ∧ Hid (l.take j = r.take j) ∧ Hid (Ext w wr)) (fun i _ => n - (intOf i).toNat)
    case atStart => exact ⟨0, by omega, rfl, by simp [Hid], Ext.refl w⟩
    case round =>
      obtain ⟨j, hj, rfl, Htk, hx⟩ := hrel
      by_cases hlt : j < n
      · obtain ⟨b1, o1, v1, x1, rfl, g1, _, ⟨A1, n1, c1, rfl, r1⟩, q1⟩ := (h.ext hx.out).at_ hlt
        obtain ⟨b2, o2, v2, x2, rfl, g2, _, ⟨A2, n2, c2, rfl, r2⟩, q2⟩ := (k.ext hx.out).at_ hlt
        have e10 := q1 0 _ rfl; have e20 := q2 0 _ rfl; have e11 := q1 1 _ rfl; have e21 := q2 1 _ rfl; have e12 := q1 2 _ rfl; have e22 := q2 2 _ rfl
        clear q1 q2
        simp only [Elem.chg, Nat.add_zero] at e10 e20 e11 e21 e12 e22
        have hb2 : b2 < wr.heap.size := World.block_lt_of_cell? wr _ e20
        have Hg := hid (And.intro g1 g2)
        clear g1 g2
        by_cases hxx : x1 = x2
        · have Hd := hid (decide_eq_true hxx)
          have Hx := hid hxx
          clear hxx
          go_wp2_with (go_at_call 31; (with_reducible refine (samechange_any (r1.ext ((Ext.alloc _ _).trans (Ext.alloc _ _))) (r2.ext ((Ext.alloc _ _).trans (Ext.alloc _ _)))).mono ?_); rintro e w1 ⟨he, hx1⟩; rw [Hd.out] at he; subst he)
          refine ⟨⟨j + 1, by omega, by go_num, ?_, hx.out.trans (((Ext.alloc _ _).trans (Ext.alloc _ _)).trans hx1)⟩, by simp [intOf]; omega⟩
          show _ = _
          rw [List.take_add_one, List.take_add_one, Htk.out, Hg.out.1, Hg.out.2, Hx.out]
        · have Hd := hid (decide_eq_false hxx)
          have Hx := hid hxx
          clear hxx
          go_wp2_with (go_at_call 31; (with_reducible refine (samechange_any (r1.ext ((Ext.alloc _ _).trans (Ext.alloc _ _))) (r2.ext ((Ext.alloc _ _).trans (Ext.alloc _ _)))).mono ?_); rintro e w1 ⟨he, hx1⟩; rw [Hd.out] at he; subst he)
          go_ret
          exact ⟨ret_bool (decide_eq_false (fun e => by subst e; exact Hx.out (Option.some.inj (Hg.out.1.symm.trans Hg.out.2)))), hx.out.trans (((Ext.alloc _ _).trans (Ext.alloc _ _)).trans hx1)⟩
      · obtain rfl : j = n := by omega
        go_wp2
        go_ret
        exact ⟨ret_bool (decide_eq_true (take_eq_all hl.out kl2.out Htk.out)), hx.out⟩
  · have hne : ((n : Int) != (m : Int)) = true := by rw [bne_iff_ne]; omega
    have hfin : Hid (decide (l = r) = false) := by
      refine decide_eq_false fun e => ?_
      subst e
      have := hl.out
      have := kl.out
      omega
    clear hnm
    go_enter Try.func30, Try.ntmps30
    go_wp2
    go_ret
    exact ⟨ret_bool hfin.out, Ext.refl w⟩
end Go.Proofs.Ytabaeiolpbdjnaa
