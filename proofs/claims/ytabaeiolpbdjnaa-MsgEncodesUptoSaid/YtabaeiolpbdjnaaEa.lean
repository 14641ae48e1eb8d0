/- The walks of msg's integer, tag, sequence, text, plainText, boolean. -/
import Derived.Test.YtabaeiolpbdjnaaBerF
import Derived.Test.YtabaeiolpbdjnaaBerK
namespace Go.Proofs.Ytabaeiolpbdjnaa
open Go.RowKit
set_option maxRecDepth 100000

theorem intB_length (n : Int) : (intB n).length ≤ 8 := by
  unfold intB
  rw [ibe_length]
  exact (minK_bd n).2
theorem integer_any (t : UInt8) (n : Int) (w : World) (h0 : -9223372036854775808 ≤ n) (h1 : n ≤ 9223372036854775807) :
    Calls Try.prog 14 #[.int .u8 (t.toNat : Int), .int .i64 n] w fun e w' => ∃ A m c, e = .returned (.slice A m c) ∧ Sl w' A m c (fieldB t (intB n)) ∧ Ext w w' := by
  go_enter Try.func14, Try.ntmps14
  go_wp2_with (first
    | (go_at_call 44; (with_reducible refine (int_any _ _ h0 h1).mono ?_); rintro e w1 ⟨A1, m1, c1, rfl, hs1, hx1⟩; have HS1 := hid hs1; have X1 := hid hx1; clear hs1 hx1)
    | (go_at_call 15; (with_reducible refine (field_any t _ _ _ _ _ HS1.out (by rw [HS1.out.len]; exact Nat.le_trans (intB_length n) (by decide))).mono ?_); rintro e w2 ⟨A2, m2, c2, rfl, hs2, hx2⟩; have HS2 := hid hs2; have X2 := hid hx2; clear hs2 hx2))
  go_ret
  exact ⟨_, _, _, rfl, HS2.out, X1.out.trans X2.out⟩
theorem field_at (tag : UInt8) (k : Int) (hk : (tag.toNat : Int) = k) (A : Option Addr) (n c : Nat) (xs : List UInt8) (w : World) (h : Sl w A n c xs) (hm : n ≤ 140737488351232) :
    Calls Try.prog 15 #[.int .u8 k, .slice A n c] w fun e w' => ∃ A' n' c', e = .returned (.slice A' n' c') ∧ Sl w' A' n' c' (fieldB tag xs) ∧ Ext w w' := by
  subst hk
  exact field_any tag A n c xs w h hm
theorem integer_at (t : UInt8) (k : Int) (hk : (t.toNat : Int) = k) (n : Int) (w : World) (h0 : -9223372036854775808 ≤ n) (h1 : n ≤ 9223372036854775807) :
    Calls Try.prog 14 #[.int .u8 k, .int .i64 n] w fun e w' => ∃ A m c, e = .returned (.slice A m c) ∧ Sl w' A m c (fieldB t (intB n)) ∧ Ext w w' := by
  subst hk
  exact integer_any t n w h0 h1
theorem sequence_any {A : Option Addr} {n c : Nat} {xss : List (List UInt8)} {w : World} (h : Sls w A n c xss) (ht : xss.flatten.length ≤ 140737488351232) :
    Calls Try.prog 21 #[.slice A n c] w fun e w' => ∃ A m c, e = .returned (.slice A m c) ∧ Sl w' A m c (fieldB 48 xss.flatten) ∧ Ext w w' := by
  go_enter Try.func21, Try.ntmps21
  go_wp2_with (first
    | (go_at_call 17; (with_reducible refine (concat_any _ _ _ _ _ h (Nat.le_trans ht (by decide))).mono ?_); rintro e w1 ⟨A1, m1, c1, rfl, hs1, hx1⟩; have HS1 := hid hs1; have X1 := hid hx1; clear hs1 hx1)
    | (go_at_call 15; (with_reducible refine (field_at 48 48 rfl _ _ _ _ _ HS1.out (by rw [HS1.out.len]; exact ht)).mono ?_); rintro e w2 ⟨A2, m2, c2, rfl, hs2, hx2⟩; have HS2 := hid hs2; have X2 := hid hx2; clear hs2 hx2))
  go_ret
  exact ⟨_, _, _, rfl, HS2.out, X1.out.trans X2.out⟩
/-- An operation's tag. -/
def tagB (k : Int) : UInt8 := if k = 2 ∨ k = 10 ∨ k = 16 then UInt8.ofNat (64 + k).toNat else UInt8.ofNat (96 + k).toNat
theorem tag_any (k : Int) (w : World) (h0 : 0 ≤ k) (h1 : k ≤ 24) : Calls Try.prog 16 #[.int .i64 k] w fun e w' => e = .returned (.int .u8 ((tagB k).toNat : Int)) ∧ w = w' := by
  have hk : k = 0 ∨ k = 1 ∨ k = 2 ∨ k = 3 ∨ k = 4 ∨ k = 5 ∨ k = 6 ∨ k = 7 ∨ k = 8 ∨ k = 9 ∨ k = 10 ∨ k = 11 ∨ k = 12 ∨ k = 13 ∨ k = 14 ∨ k = 15 ∨ k = 16 ∨ k = 17 ∨ k = 18 ∨ k = 19 ∨ k = 20 ∨ k = 21 ∨ k = 22 ∨ k = 23 ∨ k = 24 := by omega
  rcases hk with rfl | rfl | rfl | rfl | rfl | rfl | rfl | rfl | rfl | rfl | rfl | rfl | rfl | rfl | rfl | rfl | rfl | rfl | rfl | rfl | rfl | rfl | rfl | rfl | rfl <;>
    (go_enter Try.func16, Try.ntmps16
     go_wp2
     go_ret
     exact ⟨rfl, rfl⟩)
end Go.Proofs.Ytabaeiolpbdjnaa
