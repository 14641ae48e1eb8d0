/- The walks of what tells whether texts are short. -/
import Derived.Test.YtabaeiolpbdjnaaDw
namespace Go.Proofs.Ytabaeiolpbdjnaa
open Go.RowKit
set_option maxRecDepth 100000

def longB (s : ByteArray) : Bool := decide (1000 < s.size)
def shortB (l : List ByteArray) : Bool := !(l.any longB)
theorem short1_any (s : ByteArray) (w : World) : Calls Try.prog 73 #[.string s] w fun e w' => e = .returned (.bool (longB s)) ∧ w = w' := by
  unfold longB
  by_cases h : 1000 < s.size
  · have h' : (1000 : Int) < (s.size : Int) := by omega
    rw [decide_eq_true h]
    clear h
    go_enter Try.func73, Try.ntmps73
    go_wp2
    go_ret
    simp
  · have h' : ¬ (1000 : Int) < (s.size : Int) := by omega
    rw [decide_eq_false h]
    clear h
    go_enter Try.func73, Try.ntmps73
    go_wp2
    go_ret
    simp
theorem any_take {α : Type} {p : α → Bool} {l : List α} {j : Nat} {x : α} (h : (l.take j).any p = false) (hx : l[j]? = some x) (hp : p x = false) : (l.take (j + 1)).any p = false := by
  rw [List.take_add_one, hx]
  simp only [Option.toList, List.any_append, h, List.any_cons, hp, List.any_nil, Bool.or_self]
theorem any_at {α : Type} {p : α → Bool} {l : List α} {j : Nat} {x : α} (hx : l[j]? = some x) (hp : p x = true) : l.any p = true := List.any_eq_true.2 ⟨x, List.mem_of_getElem? hx, hp⟩
theorem ret_int {r : Int} {b : Bool} {w w' : World} (h : decide (0 ≤ r) = b) (hx : Ext w w') : ∃ r' : Int, Ending.returned (.int .i64 r) = .returned (.int .i64 r') ∧ decide (0 ≤ r') = b ∧ Ext w w' := ⟨r, rfl, h, hx⟩
set_option maxHeartbeats 1000000 in
theorem indexfunc_any {S : Nat → Prop} {A : Option Addr} {n c : Nat} {l : List ByteArray} {w : World} (h : Row Elem.str S w A n c l) :
    Calls Try.prog 89 #[.slice A n c, .func (.func 73) #[] #[]] w fun e w' => ∃ r : Int, e = .returned (.int .i64 r) ∧ decide (0 ≤ r) = l.any longB ∧ Ext w w' := by
  have hl := hid h.len
  have hnl : n ≤ 9223372036854775807 := by have := h.cap; have := h.most; simp only [maxLen] at this; omega
  go_enter Try.func89, Try.ntmps89
  go_wp2
  go_loopw [8] (fun i wr => ∃ j : Nat, j ≤ n ∧ i = .int .i64 j ∧ Hid ((l.take j).any longB = false) ∧ Hid (Ext w wr)) (fun i _ => n - (intOf i).toNat)
  case atStart => exact ⟨0, by omega, rfl, by simp [Hid], Ext.refl w⟩
  case round =>
    obtain ⟨j, hj, rfl, Htk, hx⟩ := hrel
    by_cases hlt : j < n
    · obtain ⟨b1, o1, rfl, c1⟩ := (h.ext hx.out).str_cell (by omega)
      have e1 := c1 j hlt
      clear c1
      have g1 : l[j]? = some (l[j]?.getD ByteArray.empty) := by have := hl.out; rw [List.getElem?_eq_getElem (by omega)]; simp
      have Hg := hid g1
      clear g1
      generalize l[j]?.getD ByteArray.empty = x1 at *
      cases hp : longB x1
      · have Hp := hid hp
        clear hp
        go_wp2_with (go_at_call 73; (with_reducible refine (short1_any _ _).mono ?_); rintro e w1 ⟨he, rfl⟩; rw [Hp.out] at he; subst he)
        exact ⟨⟨j + 1, by omega, by go_num, any_take Htk.out Hg.out Hp.out, hx⟩, by simp [intOf]; omega⟩
      · have Hp := hid hp
        clear hp
        go_wp2_with (go_at_call 73; (with_reducible refine (short1_any _ _).mono ?_); rintro e w1 ⟨he, rfl⟩; rw [Hp.out] at he; subst he)
        go_ret
        exact ret_int (by rw [any_at Hg.out Hp.out]; exact decide_eq_true (by omega)) hx.out
    · obtain rfl : j = n := by omega
      go_wp2
      go_ret
      have h9 := Htk.out
      rw [List.take_of_length_le (Nat.le_of_eq hl.out.symm)] at h9
      exact ret_int (by rw [h9]; rfl) hx.out
theorem containsfunc_any {S : Nat → Prop} {A : Option Addr} {n c : Nat} {l : List ByteArray} {w : World} (h : Row Elem.str S w A n c l) :
    Calls Try.prog 72 #[.slice A n c, .func (.func 73) #[] #[]] w fun e w' => e = .returned (.bool (l.any longB)) ∧ Ext w w' := by
  cases hb : l.any longB
  all_goals
    have Hb := hid hb
    clear hb
    go_enter Try.func72, Try.ntmps72
    go_wp2_with (go_at_call 89; (with_reducible refine (indexfunc_any h).mono ?_); rintro e w1 ⟨r, rfl, hr, hx1⟩; rw [Hb.out] at hr; have Hr := hid hr; clear hr)
    go_ret
    refine ⟨?_, hx1⟩
    have h9 := Hr.out
    simpa using h9
theorem short_any {S : Nat → Prop} {A : Option Addr} {n c : Nat} {l : List ByteArray} {w : World} (h : Row Elem.str S w A n c l) :
    Calls Try.prog 42 #[.slice A n c] w fun e w' => e = .returned (.bool (shortB l)) ∧ Ext w w' := by
  unfold shortB
  cases hb : l.any longB
  all_goals
    have Hb := hid hb
    clear hb
    go_enter Try.func42, Try.ntmps42
    go_wp2_with (go_at_call 72; (with_reducible refine (containsfunc_any h).mono ?_); rintro e w1 ⟨he, hx1⟩; rw [Hb.out] at he; subst he)
    go_ret
    exact ⟨rfl, hx1⟩
end Go.Proofs.Ytabaeiolpbdjnaa
