/- The walks of what compares filters. -/
import Derived.Test.YtabaeiolpbdjnaaDt
namespace Go.Proofs.Ytabaeiolpbdjnaa
open Go.RowKit
set_option maxRecDepth 100000

noncomputable instance : DecidableEq Fil := fun a b => Classical.propDecidable (a = b)
theorem fil_eq {k a v f l any parts k' a' v' f' l' any' parts'} : Fil.mk k a v f l any parts = Fil.mk k' a' v' f' l' any' parts' ↔ k = k' ∧ a = a' ∧ v = v' ∧ f = f' ∧ l = l' ∧ any = any' ∧ parts = parts' := by simp
/-- The scalars are alike, or this is the first that isn't. -/
def FilHead (k : Int) (a v f l : ByteArray) (k' : Int) (a' v' f' l' : ByteArray) : Prop :=
  (k = k' ∧ a = a' ∧ v = v' ∧ f = f' ∧ l = l') ∨ (¬ k = k') ∨ (k = k' ∧ ¬ a = a') ∨ (k = k' ∧ a = a' ∧ ¬ v = v') ∨ (k = k' ∧ a = a' ∧ v = v' ∧ ¬ f = f') ∨ (k = k' ∧ a = a' ∧ v = v' ∧ f = f' ∧ ¬ l = l')
theorem filhead (k : Int) (a v f l : ByteArray) (k' : Int) (a' v' f' l' : ByteArray) : FilHead k a v f l k' a' v' f' l' := by
  unfold FilHead
  by_cases h1 : k = k'
  · by_cases h2 : a = a'
    · by_cases h3 : v = v'
      · by_cases h4 : f = f'
        · by_cases h5 : l = l'
          · exact .inl ⟨h1, h2, h3, h4, h5⟩
          · exact .inr (.inr (.inr (.inr (.inr ⟨h1, h2, h3, h4, h5⟩))))
        · exact .inr (.inr (.inr (.inr (.inl ⟨h1, h2, h3, h4⟩))))
      · exact .inr (.inr (.inr (.inl ⟨h1, h2, h3⟩)))
    · exact .inr (.inr (.inl ⟨h1, h2⟩))
  · exact .inr (.inl h1)
theorem int_eq {a b : Int} (h : a = b) : (a == b) = true := by rw [beq_iff_eq]; exact h
theorem int_ne {a b : Int} (h : ¬ a = b) : (a == b) = false := by rw [beq_eq_false_iff_ne]; exact h
theorem int_eq' {a b : Int} (h : a = b) : (a != b) = false := by rw [bne_eq_false_iff_eq]; exact h
theorem int_ne' {a b : Int} (h : ¬ a = b) : (a != b) = true := by rw [bne_iff_ne]; exact h

/-- What the comparison of a filter says. -/
def SameSays (F : FuncId) (x : Fil) : Prop := ∀ (y : Fil) (S T : Nat → Prop) (vs us : List Value) (w : World), FilAt S w vs x → FilAt T w us y →
  Calls Try.prog F #[.agg vs.toArray, .agg us.toArray] w fun e w' => e = .returned (.bool (decide (x = y))) ∧ Ext w w'

set_option maxHeartbeats 1000000 in
theorem equalfils_any {S T : Nat → Prop} {A B : Option Addr} {n c m d : Nat} {l r : List Fil} {w : World} (hs : ∀ x ∈ l, SameSays 26 x) (h : Row Elem.fil S w A n c l) (k : Row Elem.fil T w B m d r) :
    Calls Try.prog 69 #[.slice A n c, .slice B m d, .func (.func 26) #[] #[]] w fun e w' => e = .returned (.bool (decide (l = r))) ∧ Ext w w' := by
  have hl := hid h.len
  have kl := hid k.len
  have hnl : n ≤ 9223372036854775807 := by have := h.cap; have := h.most; simp only [maxLen] at this; omega
  have hml : m ≤ 9223372036854775807 := by have := k.cap; have := k.most; simp only [maxLen] at this; omega
  have HS := hid hs
  clear hs
  by_cases hnm : n = m
  · subst hnm
    have kl2 := kl
    clear kl
    go_enter Try.func69, Try.ntmps69
    go_wp2
    go_loopw [17] (fun i wr => ∃ j : Nat, j ≤ n ∧ i = .int .i64 j ∧ Hid (l.take j = r.take j) ∧ Hid (Ext w wr)) (fun i _ => n - (intOf i).toNat)
    case atStart => exact ⟨0, by omega, rfl, by simp [Hid], Ext.refl w⟩
    case round =>
      obtain ⟨j, hj, rfl, Htk, hx⟩ := hrel
      by_cases hlt : j < n
      · obtain ⟨b1, o1, v1, x1, rfl, g1, _, R1, q1⟩ := (h.ext hx.out).at_ hlt
        obtain ⟨b2, o2, v2, x2, rfl, g2, _, R2, q2⟩ := (k.ext hx.out).at_ hlt
        have hsx := hid (HS.out x1 (List.mem_of_getElem? g1))
        obtain ⟨ka, aa, va, fa, la, anya, pa⟩ := x1
        obtain ⟨kb, ab, vb, fb, lb, anyb, pb⟩ := x2
        obtain ⟨A1, n1, c1, B1, m1, d1, rfl, -, -⟩ := FilAt.open_ R1
        obtain ⟨A2, n2, c2, B2, m2, d2, rfl, -, -⟩ := FilAt.open_ R2
        have e10 := q1 0 _ rfl; have e11 := q1 1 _ rfl; have e12 := q1 2 _ rfl; have e13 := q1 3 _ rfl; have e14 := q1 4 _ rfl; have e15 := q1 5 _ rfl; have e16 := q1 6 _ rfl
        have e20 := q2 0 _ rfl; have e21 := q2 1 _ rfl; have e22 := q2 2 _ rfl; have e23 := q2 3 _ rfl; have e24 := q2 4 _ rfl; have e25 := q2 5 _ rfl; have e26 := q2 6 _ rfl
        clear q1 q2
        simp only [Elem.fil, Nat.add_zero] at e10 e11 e12 e13 e14 e15 e16 e20 e21 e22 e23 e24 e25 e26
        have hb2 : b2 < wr.heap.size := World.block_lt_of_cell? wr _ e20
        have Hg := hid (And.intro g1 g2)
        have HR1 : Hid (FilAt S wr _ _) := hid R1
        have HR2 : Hid (FilAt T wr _ _) := hid R2
        clear g1 g2 R1 R2
        have HC : ∀ w2, Ext wr w2 → Calls Try.prog 26 #[.agg #[.int .i64 ka, .string aa, .string va, .string fa, .string la, .slice A1 n1 c1, .slice B1 m1 d1], .agg #[.int .i64 kb, .string ab, .string vb, .string fb, .string lb, .slice A2 n2 c2, .slice B2 m2 d2]] w2
            fun e w' => e = .returned (.bool (decide (Fil.mk ka aa va fa la anya pa = Fil.mk kb ab vb fb lb anyb pb))) ∧ Ext w2 w' := fun w2 hx2 => hsx.out _ _ _ _ _ w2 (FilAt.ext HR1.out hx2) (FilAt.ext HR2.out hx2)
        have HC' := hid HC
        clear HC
        by_cases hxx : Fil.mk ka aa va fa la anya pa = Fil.mk kb ab vb fb lb anyb pb
        · have Hd := hid (decide_eq_true hxx)
          have Hx := hid hxx
          clear hxx
          go_wp2_with (go_at_call 26; (with_reducible refine (HC'.out _ ((Ext.alloc _ _).trans (Ext.alloc _ _))).mono ?_); rintro e w1 ⟨he, hx1⟩; rw [Hd.out] at he; subst he)
          refine ⟨⟨j + 1, by omega, by go_num, ?_, hx.out.trans (((Ext.alloc _ _).trans (Ext.alloc _ _)).trans hx1)⟩, by simp [intOf]; omega⟩
          show _ = _
          rw [List.take_add_one, List.take_add_one, Htk.out, Hg.out.1, Hg.out.2, Hx.out]
        · have Hd := hid (decide_eq_false hxx)
          have Hx := hid hxx
          clear hxx
          go_wp2_with (go_at_call 26; (with_reducible refine (HC'.out _ ((Ext.alloc _ _).trans (Ext.alloc _ _))).mono ?_); rintro e w1 ⟨he, hx1⟩; rw [Hd.out] at he; subst he)
          go_ret
          exact ⟨ret_bool (decide_eq_false (fun e => by subst e; exact Hx.out (Option.some.inj (Hg.out.1.symm.trans Hg.out.2)))), hx.out.trans (((Ext.alloc _ _).trans (Ext.alloc _ _)).trans hx1)⟩
      · obtain rfl : j = n := by omega
        go_wp2
        go_ret
        exact ⟨ret_bool (decide_eq_true (take_eq_all hl.out kl2.out Htk.out)), hx.out⟩
  · have hne : ((n : Int) != (m : Int)) = true := by rw [bne_iff_ne]; omega
    have hfin : Hid (decide (l = r) = false) := by
      refine decide_eq_false fun e => ?_
      subst e
      have := hl.out
      have := kl.out
      omega
    clear hnm
    go_enter Try.func69, Try.ntmps69
    go_wp2
    go_ret
    exact ⟨ret_bool hfin.out, Ext.refl w⟩

set_option maxHeartbeats 1000000 in
theorem filtersame_any : ∀ x, SameSays 26 x := by
  refine Fil.ind fun k a v f l any parts ih => ?_
  rintro ⟨k', a', v', f', l', any', parts'⟩ S T vs us w h h'
  obtain ⟨A1, n1, c1, B1, m1, d1, rfl, r1, p1⟩ := FilAt.open_ h
  obtain ⟨A2, n2, c2, B2, m2, d2, rfl, r2, p2⟩ := FilAt.open_ h'
  have hx2 : ∀ o1 o2, Ext w ((w.alloc o1).alloc o2) := fun o1 o2 => (Ext.alloc _ _).trans (Ext.alloc _ _)
  have HX := hid hx2
  have IH := hid ih
  clear h h' hx2 ih
  rcases filhead k a v f l k' a' v' f' l' with ⟨h1, h2, h3, h4, h5⟩ | h1 | ⟨h1, h2⟩ | ⟨h1, h2, h3⟩ | ⟨h1, h2, h3, h4⟩ | ⟨h1, h2, h3, h4, h5⟩
  case inl =>
    have t1 := int_eq h1; have t2 := str_eq h2; have t3 := str_eq h3; have t4 := str_eq h4; have t5 := str_eq h5
    by_cases h6 : any = any'
    · have Hd := hid (decide_eq_true h6)
      have Hf : Hid (decide (Fil.mk k a v f l any parts = Fil.mk k' a' v' f' l' any' parts') = decide (parts = parts')) := by
        refine decide_eq_decide.2 ?_
        simp [h1, h2, h3, h4, h5, h6]
      clear h1 h2 h3 h4 h5 h6
      go_enter Try.func26, Try.ntmps26
      go_wp2_with (first
        | (go_at_call 27; (with_reducible refine (equaltexts_any (r1.ext (HX.out _ _)) (r2.ext (HX.out _ _))).mono ?_); rintro e w1 ⟨he, hx1⟩; rw [Hd.out] at he; subst he; have bc := bcell hx1)
        | (go_at_call 69; (with_reducible refine (equalfils_any IH.out (p1.ext ((HX.out _ _).trans hx1)) (p2.ext ((HX.out _ _).trans hx1))).mono ?_); rintro e w2 ⟨rfl, hx2⟩))
      go_ret
      exact ⟨ret_bool Hf.out, (HX.out _ _).trans (hx1.trans hx2)⟩
    · have Hd := hid (decide_eq_false h6)
      have Hf : Hid (decide (Fil.mk k a v f l any parts = Fil.mk k' a' v' f' l' any' parts') = false) := decide_eq_false fun e => h6 (fil_eq.1 e).2.2.2.2.2.1
      clear h1 h2 h3 h4 h5 h6
      go_enter Try.func26, Try.ntmps26
      go_wp2_with (go_at_call 27; (with_reducible refine (equaltexts_any (r1.ext (HX.out _ _)) (r2.ext (HX.out _ _))).mono ?_); rintro e w1 ⟨he, hx1⟩; rw [Hd.out] at he; subst he)
      go_ret
      exact ⟨ret_bool Hf.out, (HX.out _ _).trans hx1⟩
  all_goals
    have Hf : Hid (decide (Fil.mk k a v f l any parts = Fil.mk k' a' v' f' l' any' parts') = false) := decide_eq_false fun e => by
      have e' := fil_eq.1 e
      first | exact h5 e'.2.2.2.2.1 | exact h4 e'.2.2.2.1 | exact h3 e'.2.2.1 | exact h2 e'.2.1 | exact h1 e'.1
    have t1 : True := trivial
    first | (have t1 := int_ne h1; clear h1) | (have t1 := int_eq h1; clear h1)
    try first | (have t2 := str_ne h2; clear h2) | (have t2 := str_eq h2; clear h2)
    try first | (have t3 := str_ne h3; clear h3) | (have t3 := str_eq h3; clear h3)
    try first | (have t4 := str_ne h4; clear h4) | (have t4 := str_eq h4; clear h4)
    try (have t5 := str_ne h5; clear h5)
    go_enter Try.func26, Try.ntmps26
    go_wp2
    go_ret
    exact ⟨ret_bool Hf.out, HX.out _ _⟩
end Go.Proofs.Ytabaeiolpbdjnaa
