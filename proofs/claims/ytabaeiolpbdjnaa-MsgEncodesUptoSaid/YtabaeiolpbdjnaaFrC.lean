/- slices.Concat at bytes: what it answers lies in new memory. -/
import Derived.Test.YtabaeiolpbdjnaaNew
namespace Go.Proofs.Ytabaeiolpbdjnaa
open Go.RowKit
set_option maxRecDepth 100000

theorem concat_new (A : Option Addr) (n c : Nat) (xss : List (List UInt8)) (w : World) (h : Sls w A n c xss) (ht : xss.flatten.length ≤ 140737488355328) :
    Calls Try.prog 17 #[.slice A n c] w fun e w' => ∃ A' n' c', e = .returned (.slice A' n' c') ∧ Sl w' A' n' c' xss.flatten ∧ New w.heap.size A' xss.flatten ∧ Ext w w' := by
  have hl := hid h.len
  have hnl : n ≤ 9223372036854775807 := by have := h.cap; have := h.most; simp only [maxLen] at this; omega
  go_enter Try.func17, Try.ntmps17
  go_wp2
  go_loop [3, 11] (fun z i => ∃ j : Nat, j ≤ n ∧ i = .int .i64 j ∧ z = .int .i64 ((xss.take j).flatten.length : Nat)) (fun _ i => n - (intOf i).toNat)
  case atStart => exact ⟨0, by omega, rfl, rfl⟩
  case round =>
    obtain ⟨j, hj, rfl, rfl⟩ := hrel
    by_cases hlt : j < n
    · obtain ⟨b1, o1, rfl, c1⟩ := h.at_ (by omega)
      obtain ⟨Aj, nj, cj, hc, hs⟩ := c1 j hlt
      clear c1
      have Hs := hid (flatten_take_succ xss j (by rw [← hl.out]; exact hlt))
      have Hl := hid hs.len
      have hm := flatten_take_le xss j
      have hm2 := flatten_take_le xss (j + 1)
      have hnj : (xss.take j).flatten.length + nj ≤ 140737488355328 := by
        rw [Hl.out]
        rw [Hs.out, List.length_append] at hm2
        simp only [List.getElem?_eq_getElem (show j < xss.length by rw [← hl.out]; exact hlt), Option.getD_some]
        omega
      have Hm := hid hm
      have Ht := hid ht
      clear hm hm2 ht
      generalize hg : (xss.take j).flatten.length = z at *
      have Hg := hid hg
      clear hg
      go_wp2
      go_round
      case rel =>
        refine ⟨j + 1, by omega, by go_num, ?_⟩
        rw [Hs.out, List.length_append, Hg.out, Hl.out]
        simp [List.getElem?_eq_getElem (show j < xss.length by rw [← hl.out]; exact hlt)]
      case measure => simp [intOf]; omega
    · obtain rfl : j = n := by omega
      have hall : Hid (xss.take j = xss) := by
        show xss.take j = xss
        exact List.take_of_length_le (by rw [← hl.out]; omega)
      rw [hall.out]
      generalize hT : xss.flatten.length = t at *
      have HT := hid hT
      clear hT
      go_wp2_with (go_at_call 46; (with_reducible refine (grow_any _ _ ht).mono ?_); rintro e w1 ⟨A1, c1, rfl, ho1, hx1⟩)
      have hs1 := h.ext hx1
      go_loopw [6, 27] (fun v i wr => ∃ k : Nat, k ≤ j ∧ i = .int .i64 k ∧ Ext w wr ∧ ∃ m, m = ((xss.take k).flatten.map bv).length ∧ wr.ownsRow w.heap.size 5 1 v m ((xss.take k).flatten.map bv)) (fun _ i _ => j - (intOf i).toNat)
      case atStart => exact ⟨0, by omega, rfl, hx1, 0, by simp, by simpa using ho1⟩
      case round =>
        obtain ⟨k, hk, rfl, hx, m, hm, ho⟩ := hrel
        have Hx := hid hx
        have Hm := hid hm
        have hsz := hx.size
        clear hx hm
        by_cases hlt2 : k < j
        · obtain ⟨b1, o1, rfl, c2⟩ := (h.ext Hx.out).at_ (by omega)
          obtain ⟨Aj, nj, cj, hc, hs⟩ := c2 k hlt2
          clear c2
          have Hs := hid (flatten_take_succ xss k (by rw [← hl.out]; exact hlt2))
          have Hl := hid hs.len
          have hge : (xss[k]?.getD []) = xss[k]'(by rw [← hl.out]; exact hlt2) := by simp [List.getElem?_eq_getElem (show k < xss.length by rw [← hl.out]; exact hlt2)]
          have Hge := hid hge
          clear hge
          have hsum : m + nj ≤ 140737488355328 := by
            have hm2 := flatten_take_le xss (k + 1)
            rw [Hs.out, List.length_append] at hm2
            rw [Hm.out, Hl.out, Hge.out, List.length_map]
            have := HT.out
            omega
          go_wp2_with (at_builtin; refine append_bytes rfl _ _ rfl w.heap.size u6 m _ rfl ho _ _ _ _ rfl hs hsum hsz ?_; intro v' w3 ho3 hg3 _ _)
          refine ⟨⟨k + 1, by omega, by go_num, ?_, m + nj, ?_, ?_⟩, by simp [intOf]; omega⟩
          · exact Below.trans Hx.out hg3
          · rw [Hs.out, Hm.out, Hl.out, Hge.out]; simp
          · rw [Hs.out, ← Hge.out]; exact ho3
        · obtain rfl : k = j := by omega
          go_wp2
          go_ret
          obtain ⟨A4, c4, hv, hs⟩ := Sl.of_row ho
          rw [hv] at ho
          have hn := New.of_own ho
          rw [hall.out] at hs hn
          exact ⟨A4, _, c4, congrArg Ending.returned hv, hs, hn, Hx.out⟩

theorem sls_two (w : World) (A1 A2 : Option Addr) (n1 c1 n2 c2 : Nat) (x1 x2 : List UInt8) (h1 : Sl w A1 n1 c1 x1) (h2 : Sl w A2 n2 c2 x2) :
    Sls (w.alloc (.cells #[.slice A1 n1 c1, .slice A2 n2 c2] 33)) (some ⟨w.heap.size, 0, none⟩) 2 2 [x1, x2] := by
  refine ⟨rfl, Nat.le_refl _, by simp [maxLen], [.slice A1 n1 c1, .slice A2 n2 c2], rfl, .inr ⟨w.heap.size, 0, rfl, fun j u hj => ?_⟩, fun j v hj => ?_⟩
  · rw [cell_of_row _ _ _ _ _ _ (heap_alloc_new w _)]
    simpa using hj
  · have hx := Ext.alloc w (.cells #[.slice A1 n1 c1, .slice A2 n2 c2] 33)
    match j, hj with
    | 0, hj => exact ⟨A1, n1, c1, by simpa using hj.symm, h1.ext hx⟩
    | 1, hj => exact ⟨A2, n2, c2, by simpa using hj.symm, h2.ext hx⟩
end Go.Proofs.Ytabaeiolpbdjnaa
