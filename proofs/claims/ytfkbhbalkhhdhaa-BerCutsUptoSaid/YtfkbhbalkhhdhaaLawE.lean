/- BerBack and BerCuts: the walks of the laws, where what comes in is at most 1048576 bytes long. -/
import Derived.Test.YtfkbhbalkhhdhaaBerB
import Derived.Test.YtfkbhbalkhhdhaaBerT
import Derived.Test.YtfkbhbalkhhdhaaLawD
namespace Go.Proofs.Ytfkbhbalkhhdhaa
open Go.RowKit
set_option maxRecDepth 100000

set_option maxHeartbeats 1000000 in
theorem berBack_walk (t : Int) (A : Option Addr) (n c : Nat) (xs : List UInt8) (B : Option Addr) (m d : Nat) (ys : List UInt8) (w : World) (ht : (Lit.int .u8 t).wf = true)
    (h : Sl w A n c xs) (hm : c ≤ 1048576) (k : Sl w B m d ys) (km : d ≤ 1048576) :
    Calls Try.prog 10 #[.int .u8 t, .slice A n c, .slice B m d] w fun e w' => e = .returned (.bool true) ∧ Below w.heap.size w w' := by
  obtain ⟨tag, rfl⟩ := tag_of_wf ht
  clear ht
  have hn : n ≤ 1048576 := by have := h.cap; omega
  have hk : m ≤ 1048576 := by have := k.cap; omega
  have hl := hid h.len
  have htag : (tag.toNat : Int) < 256 := by have := tag.toNat_lt; omega
  have hfl := hid (fieldB_length tag xs)
  have hF := hid (takeP_field tag xs ys)
  have hB := hid (takeP_bad tag (lenB xs.length ++ xs ++ ys))
  have hnil : Hid (∀ z : List UInt8, [] ++ z = z) := hid (fun z => rfl)
  go_enter Try.func10, Try.ntmps10
  go_wp2_with (first | (go_at_call 28; (with_reducible refine (field_any _ _ _ _ _ _ h (by omega)).mono ?_); rintro e w1 ⟨A1, n1, c1, rfl, h1, hx1⟩) | (at_builtin; refine append_bytes rfl (.tmp 16) (.tmp 17) rfl w1.heap.size _ 0 [] rfl (own_none w1 _ (Nat.le_refl _)) _ _ _ _ rfl (h1.ext (Ext.alloc _ _)) (by have := h1.len; have := hfl.out; have := hl.out; omega) (by simp) ?_; intro v2 w2 ho2 hg2 _ _) | (at_builtin; refine append_bytes rfl (.tmp 18) (.tmp 19) rfl w1.heap.size _ _ _ rfl ho2 _ _ _ _ rfl ((k.ext hx1).below (Below.trans (Ext.alloc _ _) hg2)) (by have := h1.len; have := hfl.out; have := hl.out; omega) (by have := hg2.size; simp at this; omega) ?_; intro v3 w3 ho3 hg3 _ _; obtain ⟨A4, c4, rfl, h4⟩ := Sl.of_row ho3))
  have hx3 : Ext w w3 := Ext.trans hx1 (Below.trans (Ext.alloc w1 _) (Below.trans hg2 hg3))
  rw [Nat.zero_add, List.nil_append] at h4
  have hT := take_any _ _ _ _ _ h4 (by have := h1.len; have := hfl.out; have := hl.out; omega)
  by_cases hb : tag.toNat % 32 = 31
  · have e1 : takeP (fieldB tag xs ++ ys) = (0, [], [], 2) := by
      have := hB.out hb
      simpa [fieldB] using this
    rw [e1] at hT
    have t0 : ((tag.toNat : Int) % 32 == 31) = true := by rw [beq_iff_eq]; omega
    clear hb e1
    (with_reducible refine hT.mono ?_)
    rintro e w4 ⟨A5, n5, c5, A6, n6, c6, rfl, h5, h6, hx4⟩
    have l5 : n5 = 0 := h5.len
    have l6 : n6 = 0 := h6.len
    subst l5 l6
    simp only []
    go_wp2
    go_ret
    exact ⟨rfl, hx3.trans hx4⟩
  · have e1 := hF.out hb (by have := hl.out; omega)
    rw [e1] at hT
    have t0 : ((tag.toNat : Int) % 32 == 31) = false := by rw [beq_eq_false_iff_ne]; omega
    clear hb e1
    (with_reducible refine hT.mono ?_)
    rintro e w4 ⟨A5, n5, c5, A6, n6, c6, rfl, h5, h6, hx4⟩
    have g1 := h5.conv w4 (Ext.refl _)
    have g2 := h6.conv w4 (Ext.refl _)
    have g3 := (h.ext (hx3.trans hx4)).conv w4 (Ext.refl _)
    have g4 := (k.ext (hx3.trans hx4)).conv w4 (Ext.refl _)
    simp only [] at g1 g2 ⊢
    go_wp2
    go_ret
    exact ⟨rfl, hx3.trans hx4⟩

/-- What is left behind the field is laid: the cut, the take, the answer. -/
theorem cuts_bound {n1 p : Nat} (h : 2 ≤ n1) : p % n1 < n1 := Nat.mod_lt _ (by omega)
set_option maxHeartbeats 2000000 in
theorem berCuts_walk (t : Int) (A : Option Addr) (n c : Nat) (xs : List UInt8) (at_ : Int) (w : World) (ht : (Lit.int .u8 t).wf = true)
    (h : Sl w A n c xs) (hm : c ≤ 1048576) (hat : (Lit.int .u64 at_).wf = true) :
    Calls Try.prog 11 #[.int .u8 t, .slice A n c, .int .u64 at_] w fun e w' => e = .returned (.bool true) ∧ Below w.heap.size w w' := by
  obtain ⟨tag, rfl⟩ := tag_of_wf ht
  clear ht
  simp [Lit.wf, IntKind.min, IntKind.max, IntKind.signed, IntKind.bits] at hat
  obtain ⟨p, rfl⟩ := Int.eq_ofNat_of_zero_le hat.1
  have hp : p < 18446744073709551616 := by omega
  clear hat
  have hn : n ≤ 1048576 := by have := h.cap; omega
  have hl := hid h.len
  have htag : (tag.toNat : Int) < 256 := by have := tag.toNat_lt; omega
  obtain ⟨g, z, hz, hg, hgt⟩ : ∃ (g : UInt8) (z : Int), z = (g.toNat : Int) ∧ ¬ g.toNat % 32 = 31 ∧ ((tag.toNat % 32 = 31 ∧ z = 48) ∨ (¬ tag.toNat % 32 = 31 ∧ z = (tag.toNat : Int))) := by
    by_cases hb : tag.toNat % 32 = 31
    · exact ⟨48, 48, rfl, by decide, .inl ⟨hb, rfl⟩⟩
    · exact ⟨tag, _, rfl, hb, .inr ⟨hb, rfl⟩⟩
  have hfl := hid (fieldB_length g xs)
  have hfl2 : Hid (2 ≤ (fieldB g xs).length) := by
    show 2 ≤ _
    have := lenB_pos (n := xs.length) (by omega) (by have := hl.out; omega)
    simp [fieldB]; omega
  have hC := hid (takeP_cut g xs hg (by have := hl.out; omega))
  have hFd := field_any g A n c xs w h (by omega)
  rw [← hz] at hFd
  have hN : ∀ (w1 : World) (A1 : Option Addr) (n1 c1 : Nat), Sl w1 A1 n1 c1 (fieldB g xs) → 2 ≤ n1 ∧ n1 ≤ 1048582 ∧ n1 ≤ c1 := fun w1 A1 n1 c1 h1 => by
    have := h1.len; have := hfl2.out; have := hfl.out; have := hl.out; have := h1.cap; omega
  have HN := hid hN
  clear hN hz hg
  rcases hgt with ⟨hb, rfl⟩ | ⟨hb, rfl⟩
  · have t0 : ((tag.toNat : Int) % 32 == 31) = true := by rw [beq_iff_eq]; omega
    clear hb
    go_enter Try.func11, Try.ntmps11
    go_wp2_with fail
    (with_reducible refine hFd.mono ?_)
    rintro e w1 ⟨A1, n1, c1, rfl, h1, hx1⟩
    obtain ⟨q1, q2, q3⟩ := HN.out _ _ _ _ h1
    have u0 : ¬ (n1 : Int) < 2 := by omega
    have u1 : p % n1 < n1 := cuts_bound q1
    have s1 := slice_hk .u64 A1 n1 c1 (p % n1) (by omega) ((p : Int) % n1) rfl
    have hT := take_any _ _ _ _ _ (h1.head (k := p % n1) (by omega)) (by omega)
    rw [hC.out _ (by rw [← h1.len]; exact u1)] at hT
    go_wp2_with fail
    (with_reducible refine hT.mono ?_)
    rintro e w4 ⟨A5, n5, c5, A6, n6, c6, rfl, h5, h6, hx4⟩
    have l5 : n5 = 0 := h5.len
    have l6 : n6 = 0 := h6.len
    subst l5 l6
    simp only []
    go_wp2
    go_ret
    exact ⟨rfl, hx1.trans hx4⟩
  · have t0 : ((tag.toNat : Int) % 32 == 31) = false := by rw [beq_eq_false_iff_ne]; omega
    clear hb
    go_enter Try.func11, Try.ntmps11
    go_wp2_with fail
    (with_reducible refine hFd.mono ?_)
    rintro e w1 ⟨A1, n1, c1, rfl, h1, hx1⟩
    obtain ⟨q1, q2, q3⟩ := HN.out _ _ _ _ h1
    have u0 : ¬ (n1 : Int) < 2 := by omega
    have u1 : p % n1 < n1 := cuts_bound q1
    have s1 := slice_hk .u64 A1 n1 c1 (p % n1) (by omega) ((p : Int) % n1) rfl
    have hT := take_any _ _ _ _ _ (h1.head (k := p % n1) (by omega)) (by omega)
    rw [hC.out _ (by rw [← h1.len]; exact u1)] at hT
    go_wp2_with fail
    (with_reducible refine hT.mono ?_)
    rintro e w4 ⟨A5, n5, c5, A6, n6, c6, rfl, h5, h6, hx4⟩
    have l5 : n5 = 0 := h5.len
    have l6 : n6 = 0 := h6.len
    subst l5 l6
    simp only []
    go_wp2
    go_ret
    exact ⟨rfl, hx1.trans hx4⟩
end Go.Proofs.Ytfkbhbalkhhdhaa
