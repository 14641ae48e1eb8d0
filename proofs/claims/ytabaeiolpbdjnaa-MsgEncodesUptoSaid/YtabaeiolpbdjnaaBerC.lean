/- The walks of slices.Clone, Equal, Grow, Concat at bytes. -/
import Derived.Test.YtabaeiolpbdjnaaMem
import Derived.Lib.AppendZeros
import Derived.BigQuiet
import Derived.Deep.QuietTactic
namespace Go.Proofs.Ytabaeiolpbdjnaa
open Go.RowKit
set_option maxRecDepth 100000

theorem clone_any (A : Option Addr) (n c : Nat) (xs : List UInt8) (w : World) (h : Sl w A n c xs) (hn : n ≤ 140737488355328) :
    Calls Try.prog 74 #[.slice A n c] w fun e w' => ∃ A' n' c', e = .returned (.slice A' n' c') ∧ Sl w' A' n' c' xs ∧ Ext w w' := by
  rcases A with _ | a
  · have hx : xs = [] := by
      rcases h.cells with h' | ⟨b, off, hA, _⟩
      · simpa using h'
      · cases hA
    subst hx
    have hz := fun W => Lib.run_eql_slice_nil (P := Try.prog) W 33 5 none n c 0 0 Try.underlying33
    go_enter Try.func74, Try.ntmps74
    go_wp2
    go_ret
    exact ⟨_, _, _, rfl, Sl.nil w, Ext.refl w⟩
  · have hz := fun W => Lib.run_eql_slice_nil (P := Try.prog) W 33 5 (some a) n c 0 0 Try.underlying33
    go_enter Try.func74, Try.ntmps74
    go_wp2_with (at_builtin; refine append_bytes rfl _ _ rfl w.heap.size _ 0 [] rfl (own_none _ _ (Nat.le_refl _)) _ _ _ _ rfl (h.ext (Ext.alloc _ _)) (by omega) (by simp) ?_; intro v' w1 ho1 hg1 _ _)
    go_ret
    obtain ⟨A4, c4, hv, hs⟩ := Sl.of_row ho1
    exact ⟨A4, _, c4, congrArg Ending.returned hv, by simpa using hs, Below.trans (Ext.alloc w _) hg1⟩

/-! slices.Grow of nil -/
theorem grow_any (n : Nat) (w : World) (hn : n ≤ 140737488355328) :
    Calls Try.prog 46 #[.slice none 0 0, .int .i64 n] w fun e w' => ∃ A c, e = .returned (.slice A 0 c) ∧ w'.ownsRow w.heap.size 5 1 (.slice A 0 c) 0 [] ∧ Ext w w' := by
  obtain ⟨i0, hi, hz0, hz1, hz2⟩ := info_parts Try.infoByte
  by_cases h0 : n = 0
  · subst h0
    go_enter Try.func46, Try.ntmps46
    go_wp2
    go_ret
    exact ⟨_, _, rfl, World.ownsRow_nil _ _ _ _, Ext.refl w⟩
  · have hp : 0 < n := by omega
    have hge := grownCap_ge w n 0 5
    have hle := grownCap_le_maxLen w n 0 5 (by simp only [maxLen]; omega)
    have hr := Lib.run_append_nil_zeros (P := Try.prog) w 33 3 33 5 i0 (.int .u8 0) .i64 .i64 Try.underlying33 Try.underlying3 hi hz0 n hp (by omega) (by omega) (by rw [hz2]; omega)
    have Hge := hid hge
    have Hle := hid hle
    clear hge hle h0
    go_enter Try.func46, Try.ntmps46
    go_wp2_with (at_builtin; refine Lib.wpList_append_run _ rfl _ _ _ _ rfl _ _ rfl rfl _ _ hr ?_)
    go_ret
    refine ⟨_, _, rfl, ?_, (Below.refl _ _).drew.alloc (by simp) _⟩
    have := World.ownsRow_made (base := w.heap.size) (e := 5) (size := 1) w.drew (Builtin.zeroCells (Value.int .u8 0).cells n ++ Builtin.zeroCells (Value.int .u8 0).cells (grownCap w n 0 5 - n)) (grownCap w n 0 5) (by simp) Hle.out (by have := Hge.out; simp [size_zeroCells, Value.cells]; omega)
    exact this

/-! slices.Concat -/
theorem flatten_take_succ (xss : List (List UInt8)) (j : Nat) (h : j < xss.length) : (xss.take (j + 1)).flatten = (xss.take j).flatten ++ xss[j] := by
  rw [List.take_succ_eq_append_getElem h, List.flatten_append]; simp
theorem flatten_take_le (xss : List (List UInt8)) (j : Nat) : (xss.take j).flatten.length ≤ xss.flatten.length := by
  have := congrArg (fun l : List (List UInt8) => l.flatten.length) (List.take_append_drop j xss)
  simp only [List.flatten_append, List.length_append] at this
  omega
theorem concat_any (A : Option Addr) (n c : Nat) (xss : List (List UInt8)) (w : World) (h : Sls w A n c xss) (ht : xss.flatten.length ≤ 140737488355328) :
    Calls Try.prog 17 #[.slice A n c] w fun e w' => ∃ A' n' c', e = .returned (.slice A' n' c') ∧ Sl w' A' n' c' xss.flatten ∧ Ext w w' := by
  have hl := hid h.len
  have hnl : n ≤ 9223372036854775807 := by have := h.cap; have := h.most; simp only [maxLen] at this; omega
  go_enter Try.func17, Try.ntmps17
  go_wp2
  go_loop [3, 11] (fun z i => ∃ j : Nat, j ≤ n ∧ i = .int .i64 j ∧ z = .int .i64 ((xss.take j).flatten.length : Nat)) (fun _ i => n - (intOf i).toNat)
  case atStart => exact ⟨0, by omega, rfl, rfl⟩
  case round =>
    obtain ⟨j, hj, rfl, rfl⟩ := hrel
    by_cases hlt : j < n
    · obtain ⟨b1, o1, rfl, c1⟩ := h.at_ (by omega)
      obtain ⟨Aj, nj, cj, hc, hs⟩ := c1 j hlt
      clear c1
      have Hs := hid (flatten_take_succ xss j (by rw [← hl.out]; exact hlt))
      have Hl := hid hs.len
      have hm := flatten_take_le xss j
      have hm2 := flatten_take_le xss (j + 1)
      have hnj : (xss.take j).flatten.length + nj ≤ 140737488355328 := by
        rw [Hl.out]
        rw [Hs.out, List.length_append] at hm2
        simp only [List.getElem?_eq_getElem (show j < xss.length by rw [← hl.out]; exact hlt), Option.getD_some]
        omega
      have Hm := hid hm
      have Ht := hid ht
      clear hm hm2 ht
      generalize hg : (xss.take j).flatten.length = z at *
      have Hg := hid hg
      clear hg
      go_wp2
      go_round
      case rel =>
        refine ⟨j + 1, by omega, by go_num, ?_⟩
        rw [Hs.out, List.length_append, Hg.out, Hl.out]
        simp [List.getElem?_eq_getElem (show j < xss.length by rw [← hl.out]; exact hlt)]
      case measure => simp [intOf]; omega
    · obtain rfl : j = n := by omega
      have hall : Hid (xss.take j = xss) := by
        show xss.take j = xss
        exact List.take_of_length_le (by rw [← hl.out]; omega)
      rw [hall.out]
      generalize hT : xss.flatten.length = t at *
      have HT := hid hT
      clear hT
      go_wp2_with (go_at_call 46; (with_reducible refine (grow_any _ _ ht).mono ?_); rintro e w1 ⟨A1, c1, rfl, ho1, hx1⟩)
      have hs1 := h.ext hx1
      go_loopw [6, 27] (fun v i wr => ∃ k : Nat, k ≤ j ∧ i = .int .i64 k ∧ Ext w wr ∧ ∃ m, m = ((xss.take k).flatten.map bv).length ∧ wr.ownsRow w.heap.size 5 1 v m ((xss.take k).flatten.map bv)) (fun _ i _ => j - (intOf i).toNat)
      case atStart => exact ⟨0, by omega, rfl, hx1, 0, by simp, by simpa using ho1⟩
      case round =>
        obtain ⟨k, hk, rfl, hx, m, hm, ho⟩ := hrel
        have Hx := hid hx
        have Hm := hid hm
        have hsz := hx.size
        clear hx hm
        by_cases hlt2 : k < j
        · obtain ⟨b1, o1, rfl, c2⟩ := (h.ext Hx.out).at_ (by omega)
          obtain ⟨Aj, nj, cj, hc, hs⟩ := c2 k hlt2
          clear c2
          have Hs := hid (flatten_take_succ xss k (by rw [← hl.out]; exact hlt2))
          have Hl := hid hs.len
          have hge : (xss[k]?.getD []) = xss[k]'(by rw [← hl.out]; exact hlt2) := by simp [List.getElem?_eq_getElem (show k < xss.length by rw [← hl.out]; exact hlt2)]
          have Hge := hid hge
          clear hge
          have hsum : m + nj ≤ 140737488355328 := by
            have hm2 := flatten_take_le xss (k + 1)
            rw [Hs.out, List.length_append] at hm2
            rw [Hm.out, Hl.out, Hge.out, List.length_map]
            have := HT.out
            omega
          go_wp2_with (at_builtin; refine append_bytes rfl _ _ rfl w.heap.size u6 m _ rfl ho _ _ _ _ rfl hs hsum hsz ?_; intro v' w3 ho3 hg3 _ _)
          refine ⟨⟨k + 1, by omega, by go_num, ?_, m + nj, ?_, ?_⟩, by simp [intOf]; omega⟩
          · exact Below.trans Hx.out hg3
          · rw [Hs.out, Hm.out, Hl.out, Hge.out]; simp
          · rw [Hs.out, ← Hge.out]; exact ho3
        · obtain rfl : k = j := by omega
          go_wp2
          go_ret
          obtain ⟨A4, c4, hv, hs⟩ := Sl.of_row ho
          rw [hall.out] at hs
          exact ⟨A4, _, c4, congrArg Ending.returned hv, hs, Hx.out⟩
end Go.Proofs.Ytabaeiolpbdjnaa
