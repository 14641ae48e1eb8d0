/- Bo, BerM, BerRF, Eo, Ec, Ls, in one text. -/
import Derived.Test.YtabaeiolpbdjnaaMem
import Derived.Test.YtabaeiolpbdjnaaBerP
import Derived.Test.YtabaeiolpbdjnaaBerFP
import Derived.Test.YtabaeiolpbdjnaaBerF
import Derived.Test.YtabaeiolpbdjnaaAp
import Derived.Test.YtabaeiolpbdjnaaEa
import Derived.Test.YtabaeiolpbdjnaaCv
import Derived.Test.YtabaeiolpbdjnaaNew
/- The walks of ber's and of the reference's Bool. -/
namespace Go.Proofs.Ytabaeiolpbdjnaa
open Go.RowKit

def boolB (b : Bool) : List UInt8 := [if b then 255 else 0]
theorem bool_any (b : Bool) (w : World) :
    Calls Try.prog 76 #[.bool b] w fun e w' => ∃ A n c, e = .returned (.slice A n c) ∧ Sl w' A n c (boolB b) ∧ Ext w w' := by
  cases b
  · go_enter Try.func76, Try.ntmps76
    go_wp2
    go_ret
    exact ⟨_, _, _, rfl, sl_one w 0 (by omega), Ext.alloc _ _⟩
  · go_enter Try.func76, Try.ntmps76
    go_wp2
    go_ret
    exact ⟨_, _, _, rfl, sl_one w 255 (by omega), Ext.alloc _ _⟩
theorem rbool_any (b : Bool) (w : World) :
    Calls Try.prog 87 #[.bool b] w fun e w' => ∃ A n c, e = .returned (.slice A n c) ∧ Sl w' A n c (boolB b) ∧ Ext w w' := by
  cases b
  · go_enter Try.func87, Try.ntmps87
    go_wp2
    go_ret
    exact ⟨_, _, _, rfl, sl_one w 0 (by omega), Ext.alloc _ _⟩
  · go_enter Try.func87, Try.ntmps87
    go_wp2
    go_ret
    exact ⟨_, _, _, rfl, sl_one w 255 (by omega), Ext.alloc _ _⟩

end Go.Proofs.Ytabaeiolpbdjnaa
/- The walk of the reference's Length. -/
namespace Go.Proofs.Ytabaeiolpbdjnaa
open Go.RowKit
set_option maxRecDepth 100000

theorem rlength_none (n : Int) (w : World) (h : n < 0 ∨ 2147483647 < n) :
    Calls Try.prog 82 #[.int .i64 n] w fun e w' => e = .returned (.slice none 0 0) ∧ w = w' := by
  rcases h with h | h
  · go_enter Try.func82, Try.ntmps82
    go_wp2
    go_ret
    exact ⟨rfl, rfl⟩
  · have h' : ¬ n < 0 := by omega
    go_enter Try.func82, Try.ntmps82
    go_wp2
    go_ret
    exact ⟨rfl, rfl⟩
theorem rlength_short (n : Int) (w : World) (h0 : 0 ≤ n) (h : n < 128) :
    Calls Try.prog 82 #[.int .i64 n] w fun e w' => e = .returned (.slice (some ⟨w.heap.size, 0, none⟩) 1 1) ∧ w.alloc (.cells #[.int .u8 n] 5) = w' := by
  have h' : ¬ n < 0 := by omega
  have h'' : ¬ 2147483647 < n := by omega
  go_enter Try.func82, Try.ntmps82
  go_wp2
  go_ret
  exact ⟨rfl, rfl⟩
theorem be_get (n : Nat) : ∀ (k j : Nat), j < k → (be n k)[j]? = some (UInt8.ofNat (n / 256 ^ (k - 1 - j)))
  | 0, j, h => absurd h (by omega)
  | k + 1, 0, _ => by simp [be]
  | k + 1, j + 1, h => by rw [be, List.getElem?_cons_succ, be_get n k j (by omega), show k + 1 - 1 - (j + 1) = k - 1 - j by omega]
theorem be_take_succ (n k j : Nat) (z : Int) (h : j < k) (hz : z = (n : Int) / 2 ^ (8 * (k - 1 - j))) : (be n k).take (j + 1) = (be n k).take j ++ [UInt8.ofNat (z % 256).toNat] := by
  rw [List.take_add_one, be_get n k j h, hz]
  congr 1
  simp only [Option.toList_some, List.cons.injEq, and_true]
  have e : (2 : Int) ^ (8 * (k - 1 - j)) = ((256 ^ (k - 1 - j) : Nat) : Int) := by rw [Int.natCast_pow, Int.pow_mul]; rfl
  rw [e, ← Int.natCast_ediv, show ((((n / 256 ^ (k - 1 - j) : Nat) : Int)) % 256).toNat = (n / 256 ^ (k - 1 - j)) % 256 by omega]
  exact (UInt8.ofNat_mod_size (x := n / 256 ^ (k - 1 - j))).symm
set_option maxHeartbeats 400000 in
theorem rlength_long (n : Int) (w : World) (h0 : 128 ≤ n) (h : n ≤ 2147483647) :
    Calls Try.prog 82 #[.int .i64 n] w fun e w' => ∃ A m c, e = .returned (.slice A m c) ∧ Sl w' A m c (lenB n) ∧ Below w.heap.size w w' := by
  have h1 : ¬ n < 0 := by omega
  have h2 : ¬ 2147483647 < n := by omega
  have h3 : ¬ n < 128 := by omega
  obtain ⟨n, rfl⟩ := Int.eq_ofNat_of_zero_le (show 0 ≤ n by omega)
  go_enter Try.func82, Try.ntmps82
  go_wp2
  go_loop [3] (fun i => ∃ k : Nat, 1 ≤ k ∧ k ≤ 4 ∧ i = .int .i64 k ∧ (k = 1 ∨ 256 ^ (k - 1) ≤ n)) (fun i => 4 - (intOf i).toNat)
  case atStart => exact ⟨1, by omega, by omega, rfl, .inl rfl⟩
  case round =>
    obtain ⟨k, hk1, hk4, rfl, hlo⟩ := hrel
    have Hlo := hid hlo
    clear hlo
    by_cases hc : k < 4
    · have e1 : (8 * (k : Int)).toNat = 8 * k := by omega
      have e3 : (2 : Int) ^ (8 * k) = ((256 ^ k : Nat) : Int) := by rw [Int.natCast_pow, Int.pow_mul]; rfl
      by_cases hd : 256 ^ k ≤ n
      · have hd' : 0 < (n : Int) / 2 ^ (8 * k) := by
          rw [e3]
          have : 0 < n / 256 ^ k := Nat.div_pos hd (Nat.pow_pos (by decide))
          omega
        clear e3
        go_wp2
        refine ⟨⟨k + 1, by omega, by omega, by go_num, .inr (by simpa using hd)⟩, by simp [intOf]; omega⟩
      · have hhi : n < 256 ^ k := by omega
        have hd' : ¬ 0 < (n : Int) / 2 ^ (8 * k) := by
          rw [e3]
          have : n / 256 ^ k = 0 := Nat.div_eq_of_lt hhi
          omega
        clear e3 hd
        have Hhi := hid hhi
        clear hhi
        go_wp2
        go_loopw [4, 5] (fun v i wr => ∃ j : Nat, j ≤ k ∧ i = .int .i64 ((k : Int) - 1 - j) ∧ wr.ownsRow w.heap.size 5 1 v (1 + j) ((UInt8.ofNat (128 + k) :: (be n k).take j).map bv) ∧ Below w.heap.size w wr) (fun _ i _ => (intOf i + 1).toNat)
        case atStart => exact ⟨0, by omega, by simp, by have := own_one w (128 + k) (by omega) w.heap.size (Nat.le_refl _); rw [show (128 + (k : Int)).toNat = 128 + k by omega] at this; simpa using this, (Below.refl _ _).alloc (Nat.le_refl _) _⟩
        case round =>
          obtain ⟨j, hj, rfl, ho, hb⟩ := hrel
          by_cases hjk : j < k
          · have e2 : (8 * ((k : Int) - 1 - j)).toNat = 8 * (k - 1 - j) := by omega
            have z0 : 0 ≤ (n : Int) / 2 ^ (8 * (k - 1 - j)) := Int.ediv_nonneg (by omega) (Int.le_of_lt (Int.pow_pos (by decide)))
            go_wp2_with (at_builtin; refine append_bytes rfl _ _ rfl w.heap.size u4 _ _ rfl (ho.alloc _) _ 1 1 _ rfl (sl_one _ _ (by omega)) (by omega) (by have := hb.size; simp; omega) ?_; intro v' w1 ho1 hg1 _ _)
            refine ⟨⟨j + 1, by omega, by go_num, ?_, (hb.alloc hb.size _).trans hg1⟩, by simp [intOf]; omega⟩
            rw [be_take_succ n k j _ hjk rfl, ← List.cons_append]
            simpa [Nat.add_assoc] using ho1
          · obtain rfl : j = k := by omega
            go_wp2
            go_ret
            obtain ⟨A4, c4, hv, hs⟩ := Sl.of_row ho
            refine ⟨A4, _, c4, congrArg Ending.returned hv, ?_, hb⟩
            rw [List.take_of_length_le (by rw [be_length]; omega)] at hs
            have hr := be_le n j (by rcases Hlo.out with h | h
                                     · subst h; right; simp; omega
                                     · exact .inr h) Hhi.out
            have hl := congrArg List.length hr
            rw [be_length, List.length_reverse] at hl
            rw [lenB_long h0 h, Int.toNat_natCast, ← hr, ← hl]
            exact hs
    · obtain rfl : k = 4 := by omega
      have Hhi : Hid (n < 256 ^ 4) := hid (by omega)
      go_wp2
      go_loopw [4, 5] (fun v i wr => ∃ j : Nat, j ≤ 4 ∧ i = .int .i64 ((4 : Int) - 1 - j) ∧ wr.ownsRow w.heap.size 5 1 v (1 + j) ((UInt8.ofNat (128 + 4) :: (be n 4).take j).map bv) ∧ Below w.heap.size w wr) (fun _ i _ => (intOf i + 1).toNat)
      case atStart => exact ⟨0, by omega, by simp, by have := own_one w (128 + 4) (by omega) w.heap.size (Nat.le_refl _); rw [show (128 + (4 : Int)).toNat = 128 + 4 by omega] at this; simpa using this, (Below.refl _ _).alloc (Nat.le_refl _) _⟩
      case round =>
        obtain ⟨j, hj, rfl, ho, hb⟩ := hrel
        by_cases hjk : j < 4
        · have e2 : (8 * ((4 : Int) - 1 - j)).toNat = 8 * (4 - 1 - j) := by omega
          have z0 : 0 ≤ (n : Int) / 2 ^ (8 * (4 - 1 - j)) := Int.ediv_nonneg (by omega) (Int.le_of_lt (Int.pow_pos (by decide)))
          go_wp2_with (at_builtin; refine append_bytes rfl _ _ rfl w.heap.size u4 _ _ rfl (ho.alloc _) _ 1 1 _ rfl (sl_one _ _ (by omega)) (by omega) (by have := hb.size; simp; omega) ?_; intro v' w1 ho1 hg1 _ _)
          refine ⟨⟨j + 1, by omega, by go_num, ?_, (hb.alloc hb.size _).trans hg1⟩, by simp [intOf]; omega⟩
          rw [be_take_succ n 4 j _ hjk rfl, ← List.cons_append]
          simpa [Nat.add_assoc] using ho1
        · obtain rfl : j = 4 := by omega
          go_wp2
          go_ret
          obtain ⟨A4, c4, hv, hs⟩ := Sl.of_row ho
          refine ⟨A4, _, c4, congrArg Ending.returned hv, ?_, hb⟩
          rw [List.take_of_length_le (by rw [be_length]; omega)] at hs
          have hr := be_le n 4 (by rcases Hlo.out with h | h; (· omega); (· exact .inr h)) Hhi.out
          have hl := congrArg List.length hr
          rw [be_length, List.length_reverse] at hl
          rw [lenB_long h0 h, Int.toNat_natCast, ← hr, ← hl]
          exact hs
theorem rlength_any (n : Int) (w : World) :
    Calls Try.prog 82 #[.int .i64 n] w fun e w' => ∃ A m c, e = .returned (.slice A m c) ∧ Sl w' A m c (lenB n) ∧ Below w.heap.size w w' := by
  by_cases h : n < 0 ∨ 2147483647 < n
  · refine (rlength_none n w h).mono ?_
    rintro e w' ⟨rfl, rfl⟩
    exact ⟨_, _, _, rfl, by rw [lenB_none h]; exact Sl.nil w, Below.refl _ _⟩
  by_cases h1 : n < 128
  · refine (rlength_short n w (by omega) h1).mono ?_
    rintro e w' ⟨rfl, rfl⟩
    exact ⟨_, _, _, rfl, by rw [lenB_short (by omega) h1]; exact sl_one w n (by omega), (Below.refl _ _).alloc (Nat.le_refl _) _⟩
  exact rlength_long n w (by omega) (by omega)
end Go.Proofs.Ytabaeiolpbdjnaa
/- The walk of the reference's Field. -/
namespace Go.Proofs.Ytabaeiolpbdjnaa
open Go.RowKit
set_option maxRecDepth 100000

theorem rfield_any (tag : UInt8) (A : Option Addr) (n c : Nat) (xs : List UInt8) (w : World) (h : Sl w A n c xs) (hm : n ≤ 140737488351232) :
    Calls Try.prog 64 #[.int .u8 (tag.toNat : Int), .slice A n c] w fun e w' => ∃ A' n' c', e = .returned (.slice A' n' c') ∧ Sl w' A' n' c' (fieldB tag xs) ∧ Ext w w' := by
  have hl := hid h.len
  have hb : (tag.toNat : Int) < 256 := by have := tag.toNat_lt; omega
  have hP : Hid ([UInt8.ofNat (tag.toNat : Int).toNat] ++ lenB n ++ xs = fieldB tag xs) := by
    show _ = _
    simp [fieldB, hl.out]
  go_enter Try.func64, Try.ntmps64
  go_wp2_with (first | (go_at_call 82; (with_reducible refine (rlength_any _ _).mono ?_); rintro e w1 ⟨A1, n1, c1, rfl, h1, hx1⟩) | (at_builtin; refine append_bytes rfl (.tmp 7) (.tmp 10) rfl w.heap.size _ 1 _ rfl (own_ext (own_one w (tag.toNat : Int) (by omega) w.heap.size (Nat.le_refl _)) hx1) _ _ _ _ rfl h1 (by have := h1.len; have := lenB_le n; omega) (by have := hx1.size; simp at this; omega) ?_; intro v' w2 ho2 hg2 _ _) | (at_builtin; refine append_bytes rfl (.tmp 12) (.tmp 13) rfl w.heap.size _ _ _ rfl ho2 _ _ _ _ rfl (h.below (Below.trans (Ext.alloc w _) (Below.trans (hx1.mono (by simp)) hg2))) (by have := h1.len; have := lenB_le n; omega) (by have := hx1.size; have := hg2.size; simp at *; omega) ?_; intro v3 w3 ho3 hg3 _ _))
  go_ret
  obtain ⟨A4, c4, hv, hs⟩ := Sl.of_row ho3
  exact ⟨A4, _, c4, congrArg Ending.returned hv, by rw [← hP.out]; exact hs, Below.trans (Ext.alloc w _) (Below.trans (hx1.mono (by simp)) (Below.trans hg2 hg3))⟩
end Go.Proofs.Ytabaeiolpbdjnaa
/- slices.Concat, ber.Field and the reference's Field: what they answer is a row of the call's own. -/
namespace Go.Proofs.Ytabaeiolpbdjnaa
open Go.RowKit
set_option maxRecDepth 100000

/-- What a function answers that makes bytes: a row of its own. -/
def BytesOwn (w : World) (xs : List UInt8) (e : Ending) (w' : World) : Prop := ∃ A n c, e = .returned (.slice A n c) ∧ n = xs.length ∧ w'.ownsRow w.heap.size 5 1 (.slice A n c) n (xs.map bv) ∧ Ext w w'
theorem own_base {w : World} {b b' : Nat} {e : TypeId} {size : Nat} {v : Value} {n : Nat} {xs : List Value} (h : w.ownsRow b e size v n xs) (hb : b' ≤ b) : w.ownsRow b' e size v n xs := by
  obtain ⟨h1, h2⟩ := h
  refine ⟨h1, ?_⟩
  rcases h2 with h2 | ⟨g, cap, cur, h3, h4, h5⟩
  · exact .inl h2
  · exact .inr ⟨g, cap, cur, h3, Nat.le_trans hb h4, h5⟩
theorem concat_own (A : Option Addr) (n c : Nat) (xss : List (List UInt8)) (w : World) (h : Sls w A n c xss) (ht : xss.flatten.length ≤ 140737488355328) :
    Calls Try.prog 17 #[.slice A n c] w (BytesOwn w xss.flatten) := by
  have hl := hid h.len
  have hnl : n ≤ 9223372036854775807 := by have := h.cap; have := h.most; simp only [maxLen] at this; omega
  go_enter Try.func17, Try.ntmps17
  go_wp2
  go_loop [3, 11] (fun z i => ∃ j : Nat, j ≤ n ∧ i = .int .i64 j ∧ z = .int .i64 ((xss.take j).flatten.length : Nat)) (fun _ i => n - (intOf i).toNat)
  case atStart => exact ⟨0, by omega, rfl, rfl⟩
  case round =>
    obtain ⟨j, hj, rfl, rfl⟩ := hrel
    by_cases hlt : j < n
    · obtain ⟨b1, o1, rfl, c1⟩ := h.at_ (by omega)
      obtain ⟨Aj, nj, cj, hc, hs⟩ := c1 j hlt
      clear c1
      have Hs := hid (flatten_take_succ xss j (by rw [← hl.out]; exact hlt))
      have Hl := hid hs.len
      have hm := flatten_take_le xss j
      have hm2 := flatten_take_le xss (j + 1)
      have hnj : (xss.take j).flatten.length + nj ≤ 140737488355328 := by
        rw [Hl.out]
        rw [Hs.out, List.length_append] at hm2
        simp only [List.getElem?_eq_getElem (show j < xss.length by rw [← hl.out]; exact hlt), Option.getD_some]
        omega
      have Hm := hid hm
      have Ht := hid ht
      clear hm hm2 ht
      generalize hg : (xss.take j).flatten.length = z at *
      have Hg := hid hg
      clear hg
      go_wp2
      go_round
      case rel =>
        refine ⟨j + 1, by omega, by go_num, ?_⟩
        rw [Hs.out, List.length_append, Hg.out, Hl.out]
        simp [List.getElem?_eq_getElem (show j < xss.length by rw [← hl.out]; exact hlt)]
      case measure => simp [intOf]; omega
    · obtain rfl : j = n := by omega
      have hall : Hid (xss.take j = xss) := by
        show xss.take j = xss
        exact List.take_of_length_le (by rw [← hl.out]; omega)
      rw [hall.out]
      generalize hT : xss.flatten.length = t at *
      have HT := hid hT
      clear hT
      go_wp2_with (go_at_call 46; (with_reducible refine (grow_any _ _ ht).mono ?_); rintro e w1 ⟨A1, c1, rfl, ho1, hx1⟩)
      have hs1 := h.ext hx1
      go_loopw [6, 27] (fun v i wr => ∃ k : Nat, k ≤ j ∧ i = .int .i64 k ∧ Ext w wr ∧ ∃ m, m = ((xss.take k).flatten.map bv).length ∧ wr.ownsRow w.heap.size 5 1 v m ((xss.take k).flatten.map bv)) (fun _ i _ => j - (intOf i).toNat)
      case atStart => exact ⟨0, by omega, rfl, hx1, 0, by simp, by simpa using ho1⟩
      case round =>
        obtain ⟨k, hk, rfl, hx, m, hm, ho⟩ := hrel
        have Hx := hid hx
        have Hm := hid hm
        have hsz := hx.size
        clear hx hm
        by_cases hlt2 : k < j
        · obtain ⟨b1, o1, rfl, c2⟩ := (h.ext Hx.out).at_ (by omega)
          obtain ⟨Aj, nj, cj, hc, hs⟩ := c2 k hlt2
          clear c2
          have Hs := hid (flatten_take_succ xss k (by rw [← hl.out]; exact hlt2))
          have Hl := hid hs.len
          have hge : (xss[k]?.getD []) = xss[k]'(by rw [← hl.out]; exact hlt2) := by simp [List.getElem?_eq_getElem (show k < xss.length by rw [← hl.out]; exact hlt2)]
          have Hge := hid hge
          clear hge
          have hsum : m + nj ≤ 140737488355328 := by
            have hm2 := flatten_take_le xss (k + 1)
            rw [Hs.out, List.length_append] at hm2
            rw [Hm.out, Hl.out, Hge.out, List.length_map]
            have := HT.out
            omega
          go_wp2_with (at_builtin; refine append_bytes rfl _ _ rfl w.heap.size u6 m _ rfl ho _ _ _ _ rfl hs hsum hsz ?_; intro v' w3 ho3 hg3 _ _)
          refine ⟨⟨k + 1, by omega, by go_num, ?_, m + nj, ?_, ?_⟩, by simp [intOf]; omega⟩
          · exact Below.trans Hx.out hg3
          · rw [Hs.out, Hm.out, Hl.out, Hge.out]; simp
          · rw [Hs.out, ← Hge.out]; exact ho3
        · obtain rfl : k = j := by omega
          go_wp2
          go_ret
          rw [hall.out, List.length_map] at Hm
          rw [hall.out] at ho
          have hm := Hm.out
          subst hm
          obtain ⟨A4, c4, rfl⟩ := own_form ho
          exact ⟨A4, _, c4, rfl, rfl, ho, Hx.out⟩
theorem field_own (tag : UInt8) (k : Int) (hk : (tag.toNat : Int) = k) (A : Option Addr) (n c : Nat) (xs : List UInt8) (w : World) (h : Sl w A n c xs) (hm : n ≤ 140737488351232) :
    Calls Try.prog 15 #[.int .u8 k, .slice A n c] w (BytesOwn w (fieldB tag xs)) := by
  subst hk
  have hl := hid h.len
  have hb : (tag.toNat : Int) < 256 := by have := tag.toNat_lt; omega
  have ht : ([[UInt8.ofNat (tag.toNat : Int).toNat], lenB n, xs] : List (List UInt8)).flatten.length ≤ 140737488355328 := by
    have := lenB_le (n : Int)
    have := hl.out
    simp; omega
  have hP : Hid (([[UInt8.ofNat (tag.toNat : Int).toNat], lenB n, xs] : List (List UInt8)).flatten = fieldB tag xs) := by
    show _ = _
    simp [fieldB, hl.out]
  have HT := hid ht
  clear ht
  go_enter Try.func15, Try.ntmps15
  go_wp2_with (go_at_call 45; (with_reducible refine (length_any _ _).mono ?_); rintro e w1 ⟨A1, n1, c1, rfl, h1, hx1⟩)
  refine (concat_own _ _ _ _ _ (sls_three _ _ _ _ _ _ _ _ _ _ _ _ _ ((sl_one w (tag.toNat : Int) (by omega)).ext hx1) h1 ((h.ext (Ext.alloc _ _)).ext hx1)) HT.out).mono ?_
  rintro e w2 ⟨A2, n2, c2, rfl, hn2, h2, hx2⟩
  rw [hP.out] at hn2 h2
  have H2 := hid h2
  have HN := hid hn2
  clear h2 hn2
  go_wp2
  go_ret
  exact ⟨_, _, _, rfl, HN.out, own_base H2.out (by have := ext_sz hx1; simp at *; omega), (Ext.alloc _ _).trans (Ext.trans hx1 ((Ext.alloc _ _).trans hx2))⟩
theorem rfield_own (tag : UInt8) (k : Int) (hk : (tag.toNat : Int) = k) (A : Option Addr) (n c : Nat) (xs : List UInt8) (w : World) (h : Sl w A n c xs) (hm : n ≤ 140737488351232) :
    Calls Try.prog 64 #[.int .u8 k, .slice A n c] w (BytesOwn w (fieldB tag xs)) := by
  subst hk
  have hl := hid h.len
  have hb : (tag.toNat : Int) < 256 := by have := tag.toNat_lt; omega
  have hP : Hid ([UInt8.ofNat (tag.toNat : Int).toNat] ++ lenB n ++ xs = fieldB tag xs) := by
    show _ = _
    simp [fieldB, hl.out]
  go_enter Try.func64, Try.ntmps64
  go_wp2_with (first | (go_at_call 82; (with_reducible refine (rlength_any _ _).mono ?_); rintro e w1 ⟨A1, n1, c1, rfl, h1, hx1⟩) | (at_builtin; refine append_bytes rfl (.tmp 7) (.tmp 10) rfl w.heap.size _ 1 _ rfl (own_ext (own_one w (tag.toNat : Int) (by omega) w.heap.size (Nat.le_refl _)) hx1) _ _ _ _ rfl h1 (by have := h1.len; have := lenB_le n; omega) (by have := hx1.size; simp at this; omega) ?_; intro v' w2 ho2 hg2 _ _) | (at_builtin; refine append_bytes rfl (.tmp 12) (.tmp 13) rfl w.heap.size _ _ _ rfl ho2 _ _ _ _ rfl (h.below (Below.trans (Ext.alloc w _) (Below.trans (hx1.mono (by simp)) hg2))) (by have := h1.len; have := lenB_le n; omega) (by have := hx1.size; have := hg2.size; simp at *; omega) ?_; intro v3 w3 ho3 hg3 _ _))
  go_ret
  obtain ⟨A4, c4, rfl⟩ := own_form ho3
  rw [hP.out] at ho3
  have hn : (fieldB tag xs).length = 1 + n1 + n := by have := ho3.1; simpa using this
  exact ⟨A4, _, c4, rfl, hn.symm, ho3, Below.trans (Ext.alloc w _) (Below.trans (hx1.mono (by simp)) (Below.trans hg2 hg3))⟩
theorem own_sl {w : World} {b : Nat} {A : Option Addr} {n c : Nat} {xs : List UInt8} (h : w.ownsRow b 5 1 (.slice A n c) n (xs.map bv)) : Sl w A n c xs := Sl.of_own h
end Go.Proofs.Ytabaeiolpbdjnaa
/- The walks of msg's text, plainText, boolean, and of many at texts. -/
namespace Go.Proofs.Ytabaeiolpbdjnaa
open Go.RowKit
set_option maxRecDepth 100000

def textB (t : UInt8) (s : ByteArray) : List UInt8 := fieldB t (bys s)
theorem textB_len (t : UInt8) (s : ByteArray) : (textB t s).length ≤ s.size + 6 := by
  have := fieldB_length t (bys s)
  rw [bys_len] at this
  exact this
theorem text_at (t : UInt8) (k : Int) (hk : (t.toNat : Int) = k) (s : ByteArray) (w : World) (hs : s.size ≤ 1048576) :
    Calls Try.prog 48 #[.int .u8 k, .string s] w (BytesOwn w (textB t s)) := by
  subst hk
  have Hs := hid hs
  have hm : Hid (s.size ≤ maxLen) := by show _ ≤ _; unfold maxLen; omega
  clear hs
  go_enter Try.func48, Try.ntmps48
  go_wp2_with (first
    | (refine tobytes_arm rfl (.tmp 6) rfl s rfl hm.out ?_; intro A c w1 hs1 hf1; have HS1 := hid hs1; have X1 := hid hf1.ext; clear hs1 hf1)
    | (go_at_call 15; (with_reducible refine (field_own t _ rfl _ _ _ _ _ HS1.out (by have := Hs.out; omega)).mono ?_); rintro e w2 ⟨A2, n2, c2, rfl, hn2, hs2, hx2⟩; have HN2 := hid hn2; have HS2 := hid hs2; clear hn2 hs2))
  go_ret
  exact ⟨_, _, _, rfl, HN2.out, own_base HS2.out (ext_sz X1.out), X1.out.trans hx2⟩
theorem plain_text (s : ByteArray) (w : World) (hs : s.size ≤ 1048576) : Calls Try.prog 47 #[.string s] w (BytesOwn w (textB 4 s)) := by
  have Hs := hid hs
  clear hs
  go_enter Try.func47, Try.ntmps47
  go_wp2_with (go_at_call 48; (with_reducible refine (text_at 4 4 rfl _ _ Hs.out).mono ?_); rintro e w2 ⟨A2, n2, c2, rfl, hn2, hs2, hx2⟩; have HN2 := hid hn2; have HS2 := hid hs2; clear hn2 hs2)
  go_ret
  exact ⟨_, _, _, rfl, HN2.out, HS2.out, hx2⟩
theorem boolean_any (b : Bool) (w : World) : Calls Try.prog 49 #[.bool b] w (BytesOwn w (fieldB 1 (boolB b))) := by
  have hb : Hid ((boolB b).length = 1) := rfl
  go_enter Try.func49, Try.ntmps49
  go_wp2_with (first
    | (go_at_call 76; (with_reducible refine (bool_any _ _).mono ?_); rintro e w1 ⟨A1, n1, c1, rfl, hs1, hx1⟩; have HS1 := hid hs1; clear hs1)
    | (go_at_call 15; (with_reducible refine (field_own 1 1 rfl _ _ _ _ _ HS1.out (by rw [HS1.out.len, hb.out]; decide)).mono ?_); rintro e w2 ⟨A2, n2, c2, rfl, hn2, hs2, hx2⟩; have HN2 := hid hn2; have HS2 := hid hs2; clear hn2 hs2))
  go_ret
  exact ⟨_, _, _, rfl, HN2.out, own_base HS2.out (ext_sz hx1), hx1.trans hx2⟩
theorem flat_take {α : Type} {f : α → List UInt8} {l : List α} {j : Nat} {x : α} (h : l[j]? = some x) : ((l.take (j + 1)).map f).flatten = ((l.take j).map f).flatten ++ f x := by
  rw [List.take_add_one, h]
  simp
theorem flat_le {α : Type} (f : α → List UInt8) (l : List α) (j : Nat) : ((l.take j).map f).flatten.length ≤ (l.map f).flatten.length := by
  have h := congrArg (fun l => ((l.map f).flatten).length) (List.take_append_drop j l)
  simp only [List.map_append, List.flatten_append, List.length_append] at h
  omega
/-- A row of bytes of the call's own that grows. -/
structure Grows (w wr : World) (v : Value) (xs : List UInt8) : Prop where
  own : ∃ m, m = xs.length ∧ wr.ownsRow w.heap.size 5 1 v m (xs.map bv)
  ext : Ext w wr
set_option maxHeartbeats 1000000 in
theorem manystr_any (t : UInt8) (k : Int) (hk : (t.toNat : Int) = k) {S : Nat → Prop} {A : Option Addr} {n c : Nat} {l : List ByteArray} {w : World} (h : Row Elem.str S w A n c l) (hs : ∀ s ∈ l, s.size ≤ 1048576) (ht : (l.map (textB 4)).flatten.length ≤ 140737488350000) :
    Calls Try.prog 51 #[.int .u8 k, .slice A n c, .func (.func 47) #[] #[]] w (BytesOwn w (fieldB t (l.map (textB 4)).flatten)) := by
  subst hk
  have hl := hid h.len
  have hnl : n ≤ 9223372036854775807 := by have := h.cap; have := h.most; simp only [maxLen] at this; omega
  have Hs := hid hs
  have HT := hid ht
  have HR := hid h
  clear hs ht h
  go_enter Try.func51, Try.ntmps51
  go_wp2
  go_loopw [7, 12] (fun v i wr => ∃ j : Nat, j ≤ n ∧ i = .int .i64 j ∧ Hid (Grows w wr v ((l.take j).map (textB 4)).flatten)) (fun _ i _ => n - (intOf i).toNat)
  case atStart => exact ⟨0, by omega, rfl, ⟨0, by simp, World.ownsRow_nil _ _ _ _⟩, Ext.refl _⟩
  case round =>
    obtain ⟨j, hj, rfl, HG⟩ := hrel
    obtain ⟨m, hm, ho⟩ := HG.out.own
    by_cases hlt : j < n
    · obtain ⟨b1, o1, rfl, c1⟩ := (HR.out.ext HG.out.ext).str_cell (by omega)
      have e1 := c1 j hlt
      clear c1
      have g1 : l[j]? = some (l[j]?.getD ByteArray.empty) := by have := hl.out; rw [List.getElem?_eq_getElem (by omega)]; simp
      have Hg := hid g1
      clear g1
      generalize l[j]?.getD ByteArray.empty = x1 at *
      have HO := hid ho
      have HM := hid hm
      have Hx := hid (Hs.out x1 (List.mem_of_getElem? Hg.out))
      have HF := hid (flat_take (f := textB 4) Hg.out)
      have HL := hid (flat_le (textB 4) l (j + 1))
      clear ho hm
      go_wp2_with (first
        | (go_at_call 47; (with_reducible refine (plain_text _ _ Hx.out).mono ?_); rintro e w1 ⟨A1, n1, c1, rfl, -, hs1, hx1⟩; have HS1 := hid (own_sl hs1); have X1 := hid hx1; clear hs1 hx1)
        | (at_builtin; refine append_bytes rfl _ _ rfl w.heap.size _ m _ rfl (own_ext HO.out X1.out) _ _ _ _ rfl HS1.out (by have := HS1.out.len; have := HM.out; have := HL.out; rw [HF.out, List.length_append] at this; have := HT.out; omega) (ext_sz (HG.out.ext.trans X1.out)) ?_; intro v' w3 ho3 hg3 _ _; have HO3 := hid ho3; have X3 := hid hg3; clear ho3 hg3))
      refine ⟨⟨j + 1, by omega, by go_num, ⟨m + n1, ?_, ?_⟩, ?_⟩, by simp [intOf]; omega⟩
      · rw [HF.out, List.length_append, ← HM.out, ← HS1.out.len]
      · rw [HF.out]; exact HO3.out
      · exact Below.trans (HG.out.ext.trans X1.out) X3.out
    · obtain rfl : j = n := by omega
      have hall : Hid ((l.take j).map (textB 4) = l.map (textB 4)) := by show _ = _; rw [List.take_of_length_le (Nat.le_of_eq hl.out.symm)]
      rw [hall.out] at hm ho
      obtain ⟨A4, c4, rfl, hs4⟩ := Sl.of_row ho
      have HS4 := hid hs4
      have HM := hid hm
      clear hm ho hs4
      go_wp2_with (go_at_call 15; (with_reducible refine (field_own t _ rfl _ _ _ _ _ HS4.out (by have := HM.out; have := HT.out; omega)).mono ?_); rintro e w2 ⟨A2, n2, c2, rfl, hn2, hs2, hx2⟩; have HN2 := hid hn2; have HS2 := hid hs2; clear hn2 hs2)
      go_ret
      exact ⟨_, _, _, rfl, HN2.out, own_base HS2.out (ext_sz HG.out.ext), HG.out.ext.trans hx2⟩
end Go.Proofs.Ytabaeiolpbdjnaa
/- Rows of slices of bytes: made by literals, grown by append. -/
namespace Go.Proofs.Ytabaeiolpbdjnaa
open Go.RowKit
set_option maxRecDepth 100000

/-- A row of slices of bytes of the call's own that reads as L. -/
structure Lst (B : Nat) (w : World) (v : Value) (k : Nat) (L : List (List UInt8)) : Prop where
  ex : ∃ vs, w.ownsRow B 33 1 v k vs ∧ Vs w none v.ownBlock vs L
/-- Values that are slices of bytes. -/
inductive Sl2 (w : World) : List Value → List (List UInt8) → Prop where
  | nil : Sl2 w [] []
  | cons {A : Option Addr} {n c : Nat} {xs : List UInt8} {vs : List Value} {L : List (List UInt8)} (h : Sl w A n c xs) (r : Sl2 w vs L) : Sl2 w (.slice A n c :: vs) (xs :: L)
theorem Sl2.len {w : World} {vs : List Value} {L : List (List UInt8)} (h : Sl2 w vs L) : vs.length = L.length := by
  induction h with
  | nil => rfl
  | cons h r ih => simp [ih]
theorem Sl2.at_ {w : World} {vs : List Value} {L : List (List UInt8)} (h : Sl2 w vs L) : ∀ (j : Nat) (v : Value), vs[j]? = some v → ∃ A n c, v = Value.slice A n c ∧ Sl w A n c (L[j]?.getD []) := by
  induction h with
  | nil => intro j v hj; simp at hj
  | cons h r ih =>
    intro j v hj
    rcases j with _ | j
    · simp at hj
      exact ⟨_, _, _, hj.symm, by simpa using h⟩
    · simp at hj
      simpa using ih j v hj
section
variable {B : Nat} {w w' : World} {v : Value} {k : Nat} {L : List (List UInt8)}
theorem Lst.nil (w : World) (B : Nat) : Lst B w (.slice none 0 0) 0 [] := ⟨[], World.ownsRow_nil _ _ _ _, Vs.nil _ _ _⟩
theorem Lst.ext (h : Lst B w v k L) (hx : Ext w w') : Lst B w' v k L := by
  obtain ⟨vs, h1, h2⟩ := h
  exact ⟨vs, own_ext h1 hx, h2.ext hx⟩
theorem Lst.sls (h : Lst B w v k L) : ∃ A c, v = .slice A k c ∧ Sls w A k c L := by
  obtain ⟨vs, h1, h2⟩ := h
  exact h2.sls h1
theorem Lst.sls' {A : Option Addr} {n c : Nat} (h : Lst B w (.slice A n c) k L) : Sls w A n c L := by
  obtain ⟨A', c', hv, hs⟩ := h.sls
  injection hv with h1 h2 h3
  subst h1 h2 h3
  exact hs
theorem Lst.len (h : Lst B w v k L) : k = L.length := by
  obtain ⟨vs, h1, h2⟩ := h
  rw [← h2.len]
  have := h1.1
  omega
theorem Lst.base (h : Lst B w v k L) {B' : Nat} (hb : B' ≤ B) : Lst B' w v k L := by
  obtain ⟨vs, h1, h2⟩ := h
  exact ⟨vs, own_base h1 hb, h2⟩
theorem Lst.off (h : Lst B w v k L) {A : Option Addr} {xs : List UInt8} {B' : Nat} (hn : New B' A xs) (hb : w.heap.size ≤ B') : Off none v.ownBlock A xs := by
  obtain ⟨vs, h1, h2⟩ := h
  exact hn.off (fun k hk => by cases hk) (fun k hk => by have := (h1.lt k hk).2; omega)
theorem Lst.lit (w : World) (B : Nat) (hB : B ≤ w.heap.size) {vs : List Value} (h : Sl2 w vs L) (n : Nat) (hn : n = vs.length) (hm : n ≤ maxLen) :
    Lst B (w.alloc (.cells vs.toArray 33)) (.slice (some ⟨w.heap.size, 0, none⟩) n n) n L := by
  subst hn
  refine ⟨vs, ⟨by simp, .inr ⟨w.heap.size, vs.length, _, rfl, hB, heap_alloc_new w _, Nat.le_refl _, hm, by simp, by rw [Nat.mul_one]; exact List.take_of_length_le (by simp)⟩⟩, h.len, fun j v hj => ?_⟩
  obtain ⟨A, n, c, h1, h2⟩ := h.at_ j v hj
  refine ⟨A, n, c, h1, h2.ext (Ext.alloc _ _), ?_⟩
  rcases h2.lt with h3 | ⟨a, h3, h4⟩
  · exact .inl h3
  · refine .inr ⟨a, h3, by simp, fun e => ?_⟩
    simp [Value.ownBlock] at e
    omega
end
/-- append of one slice of bytes that was made behind the row. -/
theorem wp_append_lst {w : World} {o : Oper} {a : Act} {K : Act → World → Prop} {Q : Exit → Act → World → Prop} (s x : Operand)
    (ho : o.op = .call { callee := .builtin .append, args := #[s, x], argTypes := #[57, 57] })
    (B : Nat) (v : Value) (k : Nat) (L : List (List UInt8)) (hs : a.eval s = v) (hl : Lst B w v k L)
    (g : Nat) (A : Option Addr) (n c : Nat) (xs : List UInt8) (hx : a.eval x = .slice (some ⟨g, 0, none⟩) 1 1) (hc : w.cell? ⟨g, 0, none⟩ = some (.slice A n c)) (hsl : Sl w A n c xs) (hoff : Off none v.ownBlock A xs)
    (hbytes : (k + 1) * 24 ≤ 140737488355328) (hbase : B ≤ w.heap.size)
    (h : ∀ A' c' w', Lst B w' (.slice A' (k + 1) c') (k + 1) (L ++ [xs]) → Below B w w' → K (a.put o.dst (.slice A' (k + 1) c')) w') : o.wp Try.prog a w K Q := by
  obtain ⟨vs, hown, hvs⟩ := hl
  obtain ⟨i0, hi, hz0, hz1, hz2⟩ := info_parts Try.infoRow
  refine wp_append_cells s x 57 ho B 33 i0 (.slice none 0 0) 24 Try.underlying57 hi hz0 hz1 hz2 rfl v k vs hs hown (some ⟨g, 0, none⟩) 1 1 [.slice A n c] hx rfl ?_ ?_ (by simp [maxLen]; omega) hbytes hbase ?_
  · refine .inr ⟨g, 0, rfl, fun j u' hj => ?_⟩
    rcases j with _ | j
    · simp at hj; subst hj; exact hc
    · simp at hj
  · intro u' hu
    simp at hu
    subst hu
    rfl
  · intro v' w' h1 h2 h3
    obtain ⟨A', c', rfl⟩ := own_form h1
    exact h A' c' w' ⟨_, h1, (hvs.snoc hsl hoff).grownR h2 h3⟩ ((Below.refl B w).grown h2 hbase (fun k hk => (hown.lt k hk).1))
theorem append_lst {w : World} {ops : Array Oper} {rest : List Oper} {o : Oper} {a : Act} {Q : Exit → Act → World → Prop} (hgd : o.guard = none) (s x : Operand)
    (ho : o.op = .call { callee := .builtin .append, args := #[s, x], argTypes := #[57, 57] })
    (B : Nat) (v : Value) (k : Nat) (L : List (List UInt8)) (hs : a.eval s = v) (hl : Lst B w v k L)
    (g : Nat) (A : Option Addr) (n c : Nat) (xs : List UInt8) (hx : a.eval x = .slice (some ⟨g, 0, none⟩) 1 1) (hc : w.cell? ⟨g, 0, none⟩ = some (.slice A n c)) (hsl : Sl w A n c xs) (hoff : Off none v.ownBlock A xs)
    (hbytes : (k + 1) * 24 ≤ 140737488355328) (hbase : B ≤ w.heap.size)
    (h : ∀ A' c' w', Lst B w' (.slice A' (k + 1) c') (k + 1) (L ++ [xs]) → Below B w w' → wpList Try.prog ops Q rest (a.put o.dst (.slice A' (k + 1) c')) w') : wpList Try.prog ops Q (o :: rest) a w :=
  wpList_plain hgd fun _ hK => wp_append_lst s x ho B v k L hs hl g A n c xs hx hc hsl hoff hbytes hbase fun A' c' w' h1 h2 => hK _ _ (h A' c' w' h1 h2)
theorem lits1_wp {w : World} {o : Oper} {a : Act} {K : Act → World → Prop} {Q : Exit → Act → World → Prop} (x0 : Operand) (ho : o.op = .buildSlice 57 1 #[(0, x0)]) {A0 : Option Addr} {n0 c0 : Nat} (e0 : a.eval x0 = .slice A0 n0 c0) {L : List (List UInt8)} (hl : Sl2 w [.slice A0 n0 c0] L)
    (h : ∀ w', Ext w w' → Lst w.heap.size w' (.slice (some ⟨w.heap.size, 0, none⟩) 1 1) 1 L → K (a.put o.dst (.slice (some ⟨w.heap.size, 0, none⟩) 1 1)) w') : o.wp Try.prog a w K Q := by
  have hr : (execOp a.eval o).run Try.prog w = .ok (.value (.slice (some ⟨w.heap.size, 0, none⟩) 1 1)) (w.alloc (.cells #[.slice A0 n0 c0] 33)) := by
    unfold execOp
    simp only [ho, List.map_toArray, List.map_cons, List.map_nil, e0]
    kernel_rfl
  unfold Oper.wp
  rw [hr]
  exact h _ (Ext.alloc _ _) (Lst.lit w _ (Nat.le_refl _) hl 1 rfl (by decide))
theorem lits2_wp {w : World} {o : Oper} {a : Act} {K : Act → World → Prop} {Q : Exit → Act → World → Prop} (x0 x1 : Operand) (ho : o.op = .buildSlice 57 2 #[(0, x0), (1, x1)]) {A0 A1 : Option Addr} {n0 c0 n1 c1 : Nat} (e0 : a.eval x0 = .slice A0 n0 c0) (e1 : a.eval x1 = .slice A1 n1 c1) {L : List (List UInt8)} (hl : Sl2 w [.slice A0 n0 c0, .slice A1 n1 c1] L)
    (h : ∀ w', Ext w w' → Lst w.heap.size w' (.slice (some ⟨w.heap.size, 0, none⟩) 2 2) 2 L → K (a.put o.dst (.slice (some ⟨w.heap.size, 0, none⟩) 2 2)) w') : o.wp Try.prog a w K Q := by
  have hr : (execOp a.eval o).run Try.prog w = .ok (.value (.slice (some ⟨w.heap.size, 0, none⟩) 2 2)) (w.alloc (.cells #[.slice A0 n0 c0, .slice A1 n1 c1] 33)) := by
    unfold execOp
    simp only [ho, List.map_toArray, List.map_cons, List.map_nil, e0, e1]
    kernel_rfl
  unfold Oper.wp
  rw [hr]
  exact h _ (Ext.alloc _ _) (Lst.lit w _ (Nat.le_refl _) hl 2 rfl (by decide))
theorem lits3_wp {w : World} {o : Oper} {a : Act} {K : Act → World → Prop} {Q : Exit → Act → World → Prop} (x0 x1 x2 : Operand) (ho : o.op = .buildSlice 57 3 #[(0, x0), (1, x1), (2, x2)]) {A0 A1 A2 : Option Addr} {n0 c0 n1 c1 n2 c2 : Nat} (e0 : a.eval x0 = .slice A0 n0 c0) (e1 : a.eval x1 = .slice A1 n1 c1) (e2 : a.eval x2 = .slice A2 n2 c2) {L : List (List UInt8)} (hl : Sl2 w [.slice A0 n0 c0, .slice A1 n1 c1, .slice A2 n2 c2] L)
    (h : ∀ w', Ext w w' → Lst w.heap.size w' (.slice (some ⟨w.heap.size, 0, none⟩) 3 3) 3 L → K (a.put o.dst (.slice (some ⟨w.heap.size, 0, none⟩) 3 3)) w') : o.wp Try.prog a w K Q := by
  have hr : (execOp a.eval o).run Try.prog w = .ok (.value (.slice (some ⟨w.heap.size, 0, none⟩) 3 3)) (w.alloc (.cells #[.slice A0 n0 c0, .slice A1 n1 c1, .slice A2 n2 c2] 33)) := by
    unfold execOp
    simp only [ho, List.map_toArray, List.map_cons, List.map_nil, e0, e1, e2]
    kernel_rfl
  unfold Oper.wp
  rw [hr]
  exact h _ (Ext.alloc _ _) (Lst.lit w _ (Nat.le_refl _) hl 3 rfl (by decide))
theorem lits8_wp {w : World} {o : Oper} {a : Act} {K : Act → World → Prop} {Q : Exit → Act → World → Prop} (x0 x1 x2 x3 x4 x5 x6 x7 : Operand) (ho : o.op = .buildSlice 57 8 #[(0, x0), (1, x1), (2, x2), (3, x3), (4, x4), (5, x5), (6, x6), (7, x7)]) {A0 A1 A2 A3 A4 A5 A6 A7 : Option Addr} {n0 c0 n1 c1 n2 c2 n3 c3 n4 c4 n5 c5 n6 c6 n7 c7 : Nat} (e0 : a.eval x0 = .slice A0 n0 c0) (e1 : a.eval x1 = .slice A1 n1 c1) (e2 : a.eval x2 = .slice A2 n2 c2) (e3 : a.eval x3 = .slice A3 n3 c3) (e4 : a.eval x4 = .slice A4 n4 c4) (e5 : a.eval x5 = .slice A5 n5 c5) (e6 : a.eval x6 = .slice A6 n6 c6) (e7 : a.eval x7 = .slice A7 n7 c7) {L : List (List UInt8)} (hl : Sl2 w [.slice A0 n0 c0, .slice A1 n1 c1, .slice A2 n2 c2, .slice A3 n3 c3, .slice A4 n4 c4, .slice A5 n5 c5, .slice A6 n6 c6, .slice A7 n7 c7] L)
    (h : ∀ w', Ext w w' → Lst w.heap.size w' (.slice (some ⟨w.heap.size, 0, none⟩) 8 8) 8 L → K (a.put o.dst (.slice (some ⟨w.heap.size, 0, none⟩) 8 8)) w') : o.wp Try.prog a w K Q := by
  have hr : (execOp a.eval o).run Try.prog w = .ok (.value (.slice (some ⟨w.heap.size, 0, none⟩) 8 8)) (w.alloc (.cells #[.slice A0 n0 c0, .slice A1 n1 c1, .slice A2 n2 c2, .slice A3 n3 c3, .slice A4 n4 c4, .slice A5 n5 c5, .slice A6 n6 c6, .slice A7 n7 c7] 33)) := by
    unfold execOp
    simp only [ho, List.map_toArray, List.map_cons, List.map_nil, e0, e1, e2, e3, e4, e5, e6, e7]
    kernel_rfl
  unfold Oper.wp
  rw [hr]
  exact h _ (Ext.alloc _ _) (Lst.lit w _ (Nat.le_refl _) hl 8 rfl (by decide))
/-- A literal of one slice of bytes, at the walk. -/
theorem lits1_arm {w : World} {ops : Array Oper} {rest : List Oper} {o : Oper} {a : Act} {Q : Exit → Act → World → Prop} (hgd : o.guard = none) (x0 : Operand) (ho : o.op = .buildSlice 57 1 #[(0, x0)]) {A0 : Option Addr} {n0 c0 : Nat} (e0 : a.eval x0 = .slice A0 n0 c0)
    (h : ∀ w', Ext w w' → w'.cell? ⟨w.heap.size, 0, none⟩ = some (.slice A0 n0 c0) → (∀ xs B, Sl w A0 n0 c0 xs → B ≤ w.heap.size → Lst B w' (.slice (some ⟨w.heap.size, 0, none⟩) 1 1) 1 [xs]) → wpList Try.prog ops Q rest (a.put o.dst (.slice (some ⟨w.heap.size, 0, none⟩) 1 1)) w') : wpList Try.prog ops Q (o :: rest) a w :=
  wpList_plain hgd fun _ hK => by
    have hr : (execOp a.eval o).run Try.prog w = .ok (.value (.slice (some ⟨w.heap.size, 0, none⟩) 1 1)) (w.alloc (.cells #[.slice A0 n0 c0] 33)) := by
      unfold execOp
      simp only [ho, List.map_toArray, List.map_cons, List.map_nil, e0]
      kernel_rfl
    unfold Oper.wp
    rw [hr]
    exact hK _ _ (h _ (Ext.alloc _ _) (cell_new _ _ _) fun xs B hs hB => Lst.lit w B hB (.cons hs .nil) 1 rfl (by decide))
end Go.Proofs.Ytabaeiolpbdjnaa
