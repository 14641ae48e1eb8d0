/- The walk of the reference's List. -/
import Derived.Test.YtfkbhbalkhhdhaaBerY
namespace Go.Proofs.Ytfkbhbalkhhdhaa
open Go.RowKit
set_option maxRecDepth 100000

theorem off_none {w : World} {A : Option Addr} {n c : Nat} {xs : List UInt8} (h : Sl w A n c xs) : Off none none A xs := by
  rcases h.lt with h | ⟨a, h1, _⟩
  · exact .inl h
  · exact .inr ⟨a, h1, by simp, by simp⟩
theorem takeP_err0 (xs : List UInt8) (h : (takeP xs).2.2.2 ≠ 0) : (takeP xs).2.2.2 ≤ 5 := by
  have := headP_err xs
  unfold takeP at h ⊢
  repeat' split
  all_goals first | omega | simp_all

set_option maxHeartbeats 1000000 in
theorem rlist_any {A : Option Addr} {n c : Nat} {xs : List UInt8} {w : World} (h : Sl w A n c xs) (hn : n ≤ 4398046511104) :
    Calls Try.prog 22 #[.slice A n c] w (LstR (listP xs) w) := by
  have hl := hid h.len
  go_enter Try.func22, Try.ntmps22
  go_wp2
  go_loopw [0, 5, 6] (fun v v2 v3 wr => ∃ A m c ys T L vs, v = .slice A m c ∧ Hid (Sl wr A m c ys ∧ Off v2.ownBlock v3.ownBlock A ys) ∧ Two w wr v2 v3 T T.length L vs ∧ T.length + m ≤ n ∧ Hid (listP xs = glue T L (listP ys))) (fun v _ _ _ => match v with | .slice _ k _ => k | _ => 0)
  case atStart => exact ⟨A, n, c, xs, [], [], [], rfl, ⟨h, off_none h⟩, Two.start w, by simp, glue_start xs⟩
  case round =>
    obtain ⟨A, m, c, ys, T, L, vs, rfl, Hs, hI, hk, Hlaw⟩ := hrel
    have hl2 := hid Hs.out.1.len
    have hcap := Hs.out.1.cap
    by_cases hp : 0 < m
    · have hT := rtake_new _ _ _ _ _ Hs.out.1 (by omega)
      have HI := hid hI
      have hp' := hid (show 0 < ys.length by rw [← hl2.out]; exact hp)
      by_cases h0 : (takeP ys).2.2.2 = 0
      · have hsh := hid (takeP_short ys h0)
        have HP := hid (show listP xs = glue (T ++ [(takeP ys).1]) (L ++ [(takeP ys).2.1]) (listP (takeP ys).2.2.1) by
          rw [Hlaw.out, listP_ok hp'.out h0]; exact glue_glue _ _ _ _ _)
        rcases hq : takeP ys with ⟨t, cs, rs, E⟩
        rw [hq] at HP h0 hT hsh
        simp only [] at h0
        subst h0
        clear hq hI
        have hBl := t.toNat_lt
        generalize hTl : T.length = k at *
        have HTl := hid hTl
        clear hTl
        go_wp2_with fail
        refine hT.mono ?_
        rintro e w1 ⟨A1, n1, c1, A2, n2, c2, rfl, ⟨h1, hn1⟩, ⟨h2, hn2⟩, hx1⟩
        have I1 := hid (HI.out.ext hx1)
        have O1 := hid (HI.out.off hn1 (Nat.le_refl _))
        have O2 := hid (HI.out.off hn2 (Nat.le_refl _))
        simp only []
        go_wp2_with (first
          | (at_builtin; refine append_bytes rfl _ _ rfl w.heap.size u5 _ T rfl (I1.out.alloc _).tags _ 1 1 _ rfl (sl_one _ _ (by omega)) (by have := HTl.out; omega) (ext_size (I1.out.alloc _).far) ?_; intro v2' w2 ho2 hb2 hg2 hv2; have I2 := hid ((I1.out.alloc _).tag ho2 hg2 hv2); have S1 := hid ((h1.ext (Ext.alloc _ _)).grown O1.out hg2); have P1 := hid (O1.out.grown (h1.ext (Ext.alloc _ _)) hv2); have S2 := hid ((h2.ext (Ext.alloc _ _)).grown O2.out hg2); have P2 := hid (O2.out.grown (h2.ext (Ext.alloc _ _)) hv2))
          | (at_builtin; refine append_row rfl _ _ rfl w.heap.size u6 k vs rfl (I2.out.alloc _).rows w2.heap.size _ rfl (cell_new _ _ _) rfl (by omega) (ext_size (I2.out.alloc _).far) ?_; intro v3' w4 ho4 hb4 hg4 hv4; have I4 := hid ((I2.out.alloc _).row ho4 hg4 hv4 (S1.out.ext (Ext.alloc _ _)) P1.out); have S4 := hid ((S2.out.ext (Ext.alloc _ _)).grown P2.out.swap hg4); have P4 := hid (P2.out.swap.grown (S2.out.ext (Ext.alloc _ _)) hv4).swap))
        have ht : UInt8.ofNat ((t.toNat : Int)).toNat = t := by simp
        have hI4 := I4.out
        rw [ht] at hI4
        have hl3 := S4.out.len
        simp only [] at hl3
        have e1 := hsh.out
        have e2 := hl2.out
        refine ⟨⟨A2, n2, c2, rs, T ++ [t], L ++ [cs], vs ++ [.slice A1 n1 c1], rfl, ⟨S4.out, P4.out⟩, ?_, ?_, HP.out⟩, ?_⟩
        · rw [List.length_append, HTl.out]; exact hI4
        · rw [List.length_append, HTl.out]; simp only [List.length_cons, List.length_nil]; omega
        · show n2 < m
          omega
      · have h5 := takeP_err0 ys h0
        have HP := hid (show listP xs = ([], [], (takeP ys).2.2.2) by rw [Hlaw.out, listP_err hp'.out h0]; exact glue_err h0)
        rcases hq : takeP ys with ⟨t, cs, rs, E⟩
        rw [hq] at HP h0 hT h5
        simp only [] at h0 h5
        clear hq hI
        have t1 : ((E : Int) != 0) = true := by rw [bne_iff_ne]; omega
        go_wp2_with fail
        refine hT.mono ?_
        rintro e w1 ⟨A1, n1, c1, A2, n2, c2, rfl, ⟨h1, hn1⟩, ⟨h2, hn2⟩, hx1⟩
        simp only []
        go_wp2
        go_ret3
        exact LstR.of_err E (HI.out.far.trans hx1) HP.out
    · obtain rfl : m = 0 := by omega
      have hy : ys = [] := List.eq_nil_of_length_eq_zero hl2.out.symm
      subst hy
      have HI := hid hI
      clear hI
      go_wp2
      go_ret3
      exact LstR.of_two HI.out (by rw [Hlaw.out, listP_nil]; simp [glue])
end Go.Proofs.Ytfkbhbalkhhdhaa
