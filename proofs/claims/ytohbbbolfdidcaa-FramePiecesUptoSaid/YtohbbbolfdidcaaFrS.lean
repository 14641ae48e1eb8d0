/- Values that read as slices of bytes in old memory; append of rows onto a row; the walk of the law's cut. -/
import Derived.Test.YtohbbbolfdidcaaLawJ
import Derived.Test.YtohbbbolfdidcaaFrR
namespace Go.Proofs.Ytohbbbolfdidcaa
open Go.RowKit
set_option maxRecDepth 100000

/-- The values vs are slices that read as L. -/
def Reads (w : World) (vs : List Value) (L : List (List UInt8)) : Prop :=
  vs.length = L.length ∧ ∀ (j : Nat) (v : Value), vs[j]? = some v → ∃ A n c, v = Value.slice A n c ∧ Sl w A n c (L[j]?.getD [])
theorem Reads.nil (w : World) : Reads w [] [] := ⟨rfl, fun j v h => by simp at h⟩
theorem Reads.snoc {w : World} {vs : List Value} {L : List (List UInt8)} (h : Reads w vs L) {A : Option Addr} {n c : Nat} {xs : List UInt8} (hs : Sl w A n c xs) : Reads w (vs ++ [.slice A n c]) (L ++ [xs]) := by
  obtain ⟨hl, he⟩ := h
  refine ⟨by simp [hl], fun j v hj => ?_⟩
  rcases Nat.lt_or_ge j vs.length with hlt | hge
  · rw [List.getElem?_append_left hlt] at hj
    rw [List.getElem?_append_left (by rw [← hl]; exact hlt)]
    exact he j v hj
  · rw [List.getElem?_append_right hge] at hj
    rw [List.getElem?_append_right (by rw [← hl]; exact hge)]
    have hj0 : j - vs.length = 0 := by
      have := (List.getElem?_eq_some_iff.1 hj).1
      simp at this
      omega
    rw [hj0] at hj
    rw [← hl, hj0]
    simp at hj ⊢
    exact ⟨A, n, c, hj.symm, hs⟩
theorem Reads.sls {w wr : World} {base : Nat} {e : TypeId} {v : Value} {n : Nat} {vs : List Value} {L : List (List UInt8)} (h : Reads w vs L) (ho : wr.ownsRow base e 1 v n vs) (hx : Ext w wr) : ∃ A c, v = .slice A n c ∧ Sls wr A n c L := by
  obtain ⟨A, c, rfl⟩ := own_form ho
  have hn : vs.length = n := by simpa using ho.1
  obtain ⟨hl, he⟩ := h
  refine ⟨A, c, rfl, by rw [← hn, hl], (own_cap ho).1, (own_cap ho).2, vs, hn, Cells.of_own ho, fun j v hj => ?_⟩
  obtain ⟨A, n, c, h1, h2⟩ := he j v hj
  exact ⟨A, n, c, h1, h2.ext hx⟩

theorem own_block {w : World} {base n c : Nat} {e : TypeId} {A : Option Addr} {vs : List Value} (h : w.ownsRow base e 1 (.slice A n c) n vs) {a : Addr} (ha : A = some a) : base ≤ a.block := by
  rcases h.2 with ⟨hv, _⟩ | ⟨g, cap, cur, hv, hb, _⟩
  · injection hv with hA
    rw [hA] at ha; cases ha
  · injection hv with hA
    rw [hA] at ha
    injection ha with ha
    subst ha
    exact hb
theorem u8_nonneg (b : UInt8) : (0 : Int) ≤ (b.toNat : Int) ∧ (b.toNat : Int) < 256 := by have := b.toNat_lt; omega

set_option maxHeartbeats 2000000 in
theorem cut_any (A : Option Addr) (n c : Nat) (xs : List UInt8) (B : Option Addr) (m d : Nat) (ts : List UInt8) (w : World) (h : Sl w A n c xs) (k : Sl w B m d ts) (hm : m ≤ 300) :
    Calls Try.prog 14 #[.slice A n c, .slice B m d] w fun e w' => ∃ B' m' d' L, e = .returned (.slice B' m' d') ∧ Sls w' B' m' d' L ∧ L.flatten = xs ∧ (∀ a, B' = some a → w.heap.size ≤ a.block) ∧ Ext w w' := by
  go_enter Try.func14, Try.ntmps14
  go_wp2
  go_loopw [0, 5, 10] (fun u v i wr => ∃ (q : Nat) (A1 : Option Addr) (n1 c1 : Nat) (ys : List UInt8) (vs : List Value) (L : List (List UInt8)), q ≤ m ∧ i = .int .i64 q ∧ u = .slice A1 n1 c1 ∧ Hid (Sl w A1 n1 c1 ys) ∧ Hid (L.flatten ++ ys = xs) ∧ Hid (wr.ownsRow w.heap.size 24 1 v q vs) ∧ Hid (Reads w vs L) ∧ Hid (Ext w wr)) (fun _ _ i _ => m - (intOf i).toNat)
  case atStart => exact ⟨0, A, n, c, xs, [], [], by omega, rfl, rfl, h, by simp [Hid], World.ownsRow_nil _ _ _ _, Reads.nil w, Ext.refl w⟩
  case round =>
    obtain ⟨q, A1, n1, c1, ys, vs, L, hq, rfl, rfl, HS, HL, HO, HR, HX⟩ := hrel
    have hncap := HS.out.cap
    have hnl := hid HS.out.len
    have hsz := ext_size HX.out
    by_cases hlt : q < m
    · obtain ⟨b1, o1, rfl, hc⟩ := (k.ext HX.out).at_ (by omega)
      have e1 := hc q hlt
      clear hc
      have hB := u8_nonneg (ts[q]?.getD 0)
      generalize ts[q]?.getD 0 = t at *
      by_cases hle : t.toNat ≤ n1
      · have hle' : (t.toNat : Int) ≤ (n1 : Int) := by omega
        have s1 := slice_h A1 n1 c1 t.toNat (by omega) (t.toNat : Int) rfl
        have s2 := slice_l A1 n1 c1 t.toNat hle (t.toNat : Int) rfl
        go_wp2_with (at_builtin; refine append_row rfl _ _ rfl w.heap.size u5 q vs rfl (own_ext HO.out (Ext.alloc _ _)) wr.heap.size _ rfl (cell_new _ _ _) rfl (by omega) (by simp; omega) ?_; intro v' w3 ho3 hb3 hg3 hv3)
        refine ⟨⟨q + 1, _, _, _, ys.drop t.toNat, vs ++ [_], L ++ [ys.take t.toNat], by omega, by go_num, rfl, HS.out.tail hle, ?_, ho3, HR.out.snoc (HS.out.head hle), ?_⟩, by simp [intOf]; omega⟩
        · show _ = _
          rw [← HL.out]; simp
        · exact Below.trans HX.out (Below.trans (Below.mono (Ext.alloc _ _) hsz) hb3)
      · have hle' : ¬ (t.toNat : Int) ≤ (n1 : Int) := by omega
        have s1 := slice_h A1 n1 c1 n1 (by omega) (n1 : Int) rfl
        have s2 := slice_l A1 n1 c1 n1 (Nat.le_refl _) (n1 : Int) rfl
        go_wp2_with (at_builtin; refine append_row rfl _ _ rfl w.heap.size u5 q vs rfl (own_ext HO.out (Ext.alloc _ _)) wr.heap.size _ rfl (cell_new _ _ _) rfl (by omega) (by simp; omega) ?_; intro v' w3 ho3 hb3 hg3 hv3)
        refine ⟨⟨q + 1, _, _, _, ys.drop n1, vs ++ [_], L ++ [ys.take n1], by omega, by go_num, rfl, (by have := HS.out.tail (Nat.le_refl n1); rwa [Nat.sub_self] at this), ?_, ho3, HR.out.snoc (HS.out.head (Nat.le_refl _)), ?_⟩, by simp [intOf]; omega⟩
        · show _ = _
          rw [← HL.out]; simp
        · exact Below.trans HX.out (Below.trans (Below.mono (Ext.alloc _ _) hsz) hb3)
    · obtain rfl : q = m := by omega
      go_wp2_with (at_builtin; refine append_row rfl _ _ rfl w.heap.size u5 q vs rfl (own_ext HO.out (Ext.alloc _ _)) wr.heap.size _ rfl (cell_new _ _ _) rfl (by omega) (by simp; omega) ?_; intro v' w3 ho3 hb3 hg3 hv3)
      go_ret
      obtain ⟨B', d', rfl, hs⟩ := (HR.out.snoc HS.out).sls ho3 (Below.trans HX.out (Below.trans (Below.mono (Ext.alloc _ _) hsz) hb3))
      exact ⟨B', _, d', _, rfl, hs, by rw [← HL.out]; simp, fun a ha => own_block ho3 ha, Below.trans HX.out (Below.trans (Below.mono (Ext.alloc _ _) hsz) hb3)⟩
end Go.Proofs.Ytohbbbolfdidcaa
