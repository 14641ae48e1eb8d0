/- The walks of the two functions that write a length. -/
import Derived.Test.YtabaeiolpbdjnaaMem
import Derived.Test.YtabaeiolpbdjnaaBerP
import Derived.Test.YtabaeiolpbdjnaaBerR
import Derived.Laws.BitsLemmas
namespace Go.Proofs.Ytabaeiolpbdjnaa
open Go.RowKit
set_option maxRecDepth 100000

theorem length_none (n : Int) (w : World) (h : n < 0 ∨ 2147483647 < n) :
    Calls Try.prog 45 #[.int .i64 n] w fun e w' => e = .returned (.slice none 0 0) ∧ w = w' := by
  rcases h with h | h
  · go_enter Try.func45, Try.ntmps45
    go_wp2
    go_ret
    exact ⟨rfl, rfl⟩
  · have h' : ¬ n < 0 := by omega
    go_enter Try.func45, Try.ntmps45
    go_wp2
    go_ret
    exact ⟨rfl, rfl⟩
theorem length_short (n : Int) (w : World) (h0 : 0 ≤ n) (h : n < 128) :
    Calls Try.prog 45 #[.int .i64 n] w fun e w' => e = .returned (.slice (some ⟨w.heap.size, 0, none⟩) 1 1) ∧ w.alloc (.cells #[.int .u8 n] 5) = w' := by
  have h' : ¬ n < 0 := by omega
  have h'' : ¬ 2147483647 < n := by omega
  go_enter Try.func45, Try.ntmps45
  go_wp2
  go_ret
  exact ⟨rfl, rfl⟩
set_option maxHeartbeats 400000 in
theorem length_long (n : Int) (w : World) (h0 : 128 ≤ n) (h : n ≤ 2147483647) :
    Calls Try.prog 45 #[.int .i64 n] w fun e w' => ∃ A m c, e = .returned (.slice A m c) ∧ Sl w' A m c (lenB n) ∧ Below w.heap.size w w' := by
  have h1 : ¬ n < 0 := by omega
  have h2 : ¬ 2147483647 < n := by omega
  have h3 : ¬ n < 128 := by omega
  obtain ⟨k, rfl⟩ := Int.eq_ofNat_of_zero_le (show 0 ≤ n by omega)
  obtain ⟨i0, hi, hz0, hz1, hz2⟩ := info_parts Try.infoByte
  go_enter Try.func45, Try.ntmps45
  go_wp2
  go_loopw [0, 3] (fun i v wr => ∃ (m : Nat) (ys : List UInt8), m ≤ k ∧ i = .int .i64 m ∧ Hid (ys ++ le m = le k) ∧ ys.length ≤ 4 ∧ wr.ownsRow w.heap.size 5 1 v ys.length (ys.map bv) ∧ Below w.heap.size w wr) (fun i _ _ => (intOf i).toNat)
  case atStart => exact ⟨k, [], by omega, rfl, rfl, by simp, World.ownsRow_nil _ _ _ _, Below.refl _ _⟩
  case round =>
    obtain ⟨m, ys, hm, rfl, hys, hy4, ho, hb⟩ := hrel
    by_cases hp : 0 < m
    · go_wp2_with (at_builtin; refine append_bytes rfl _ _ rfl w.heap.size u3 _ ys rfl (ho.alloc _) _ 1 1 _ rfl (sl_one _ _ (by omega)) (by omega) (by have := hb.size; simp; omega) ?_; intro v' w1 ho1 hg1 _ _)
      have hz : ys ++ [UInt8.ofNat ((m : Int) % 256).toNat] ++ le (m / 256) = le k := by
        rw [← hys.out, le_pos hp, List.append_assoc, List.singleton_append]
        congr 2
        rw [show ((m : Int) % 256).toNat = m % 256 by omega]
        exact (UInt8.ofNat_mod_size (x := m))
      refine ⟨⟨m / 256, ys ++ [UInt8.ofNat ((m : Int) % 256).toNat], by omega, by go_num, hz, ?_, by simpa using ho1, (hb.alloc hb.size _).trans hg1⟩, by simp [intOf]; omega⟩
      have hl := congrArg List.length hz
      have := le_len k (by omega)
      simp at hl ⊢
      omega
    · have hm0 : m = 0 := by omega
      subst hm0
      have hys' : Hid (ys = le k) := by have := hys.out; rw [le_zero, List.append_nil] at this; exact this
      clear hys
      obtain ⟨A3, c3, rfl⟩ := own_form ho
      go_wp2_with (first | (go_at_call 75; (with_reducible refine (reverse_any w.heap.size _ _ ys _ ho).mono ?_); rintro e w2 ⟨rfl, ho2, hg2⟩) | (at_builtin; refine append_bytes rfl _ _ rfl w.heap.size _ 1 _ rfl (own_one _ _ (by omega) _ (by have := hb.size; have := hg2.size; omega)) _ _ _ _ rfl (Sl.of_own (ho2.alloc _)) (by omega) (by have := hb.size; have := hg2.size; simp; omega) ?_; intro v' w3 ho3 hg3 _ _))
      go_ret
      have hb2 := hb.grown hg2 hb.size (fun k hk => (ho.lt k hk).1)
      obtain ⟨A4, c4, hv, hs⟩ := Sl.of_row ho3
      refine ⟨A4, _, c4, congrArg Ending.returned hv, ?_, (hb2.alloc hb2.size _).trans hg3⟩
      · rw [lenB_long h0 h]
        have e : [UInt8.ofNat (128 + (ys.length : Int)).toNat] ++ ys.reverse = UInt8.ofNat (128 + (le (k : Int).toNat).length) :: (le (k : Int).toNat).reverse := by
          rw [show (128 + (ys.length : Int)).toNat = 128 + ys.length by omega, hys'.out, Int.toNat_natCast]; rfl
        rw [← e]
        exact hs
theorem length_any (n : Int) (w : World) :
    Calls Try.prog 45 #[.int .i64 n] w fun e w' => ∃ A m c, e = .returned (.slice A m c) ∧ Sl w' A m c (lenB n) ∧ Below w.heap.size w w' := by
  by_cases h : n < 0 ∨ 2147483647 < n
  · refine (length_none n w h).mono ?_
    rintro e w' ⟨rfl, rfl⟩
    exact ⟨_, _, _, rfl, by rw [lenB_none h]; exact Sl.nil w, Below.refl _ _⟩
  by_cases h1 : n < 128
  · refine (length_short n w (by omega) h1).mono ?_
    rintro e w' ⟨rfl, rfl⟩
    exact ⟨_, _, _, rfl, by rw [lenB_short (by omega) h1]; exact sl_one w n (by omega), (Below.refl _ _).alloc (Nat.le_refl _) _⟩
  exact length_long n w (by omega) (by omega)
end Go.Proofs.Ytabaeiolpbdjnaa
