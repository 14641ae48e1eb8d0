/- The walk of ber.List. -/
import Derived.Test.YtfkbhbalkhhdhaaBerNL
import Derived.Test.YtfkbhbalkhhdhaaBerX
namespace Go.Proofs.Ytfkbhbalkhhdhaa
open Go.RowKit
set_option maxRecDepth 100000

/-- What List leaves: the values, and what they read as. -/
def LstR (p : List UInt8 × List (List UInt8) × Nat) (w : World) (e : Ending) (w' : World) : Prop :=
  ∃ A1 n1 c1 A2 n2 c2, e = .returned (.tuple #[.slice A1 n1 c1, .slice A2 n2 c2, .int .i64 (p.2.2 : Int)]) ∧ Sl w' A1 n1 c1 p.1 ∧ Sls w' A2 n2 c2 p.2.1 ∧ Ext w w'
theorem LstR.of_two {w wr : World} {v2 v3 : Value} {T : List UInt8} {k : Nat} {L : List (List UInt8)} {vs : List Value} {p : List UInt8 × List (List UInt8) × Nat}
    (h : Two w wr v2 v3 T k L vs) (hp : p = (T, L, 0)) : LstR p w (.returned (.tuple #[v2, v3, .int .i64 0])) wr := by
  subst hp
  obtain ⟨A2, c2, rfl, h2⟩ := Sl.of_row h.tags
  obtain ⟨A3, c3, rfl, h3⟩ := h.read.sls h.rows
  exact ⟨_, _, _, _, _, _, rfl, h2, h3, h.far⟩
theorem LstR.of_err {w wr : World} {p : List UInt8 × List (List UInt8) × Nat} (E : Nat) (hx : Ext w wr) (hp : p = ([], [], E)) :
    LstR p w (.returned (.tuple #[.slice none 0 0, .slice none 0 0, .int .i64 (E : Int)])) wr := by
  subst hp
  exact ⟨_, _, _, _, _, _, rfl, Sl.nil _, Sls.nil _, hx⟩
theorem glue_err {T : List UInt8} {L : List (List UInt8)} {p : List UInt8 × List (List UInt8) × Nat} (h : p.2.2 ≠ 0) : glue T L p = ([], [], p.2.2) := by unfold glue; rw [if_pos h]

set_option maxHeartbeats 1000000 in
theorem list_any {A : Option Addr} {n c : Nat} {xs : List UInt8} {w : World} (h : Sl w A n c xs) (hn : n ≤ 4398046511104) :
    Calls Try.prog 21 #[.slice A n c] w (LstR (listP xs) w) := by
  have hl := hid h.len
  go_enter Try.func21, Try.ntmps21
  go_wp2
  go_loopw [0, 2, 3] (fun v v2 v3 wr => ∃ A m c ys T L vs, v = .slice A m c ∧ Hid (Sl w A m c ys) ∧ Two w wr v2 v3 T T.length L vs ∧ T.length + m ≤ n ∧ Hid (listP xs = glue T L (listP ys))) (fun v _ _ _ => match v with | .slice _ k _ => k | _ => 0)
  case atStart => exact ⟨A, n, c, xs, [], [], [], rfl, h, Two.start w, by simp, glue_start xs⟩
  case round =>
    obtain ⟨A, m, c, ys, T, L, vs, rfl, Hs, hI, hk, Hlaw⟩ := hrel
    have hl2 := hid Hs.out.len
    have hcap := Hs.out.cap
    by_cases hp : 0 < m
    · have hok := headP_ok ys
      have her := headP_err ys
      have hh := head_any (Hs.out.ext hI.far)
      rcases hq : headP ys with ⟨H, N, E⟩
      have hP : takeP ys = if E ≠ 0 then (0, [], [], E) else if ys.length - H < N then (0, [], [], 5) else (ys[0]?.getD 0, (ys.drop H).take N, ys.drop (H + N), 0) := by unfold takeP; rw [hq]
      rw [hq] at hok her hh
      clear hq
      simp only [] at hok her
      rw [headV_def] at hh
      have hE := her.1
      have HI := hid hI
      have hp' := hid (show 0 < ys.length by rw [← hl2.out]; exact hp)
      by_cases h0 : E = 0
      · subst h0
        obtain ⟨k1, k2, k3, k4⟩ := hok rfl
        rw [if_neg (by simp)] at hP
        have k3' : H ≤ m := by rw [hl2.out]; exact k3
        clear hok her k3
        by_cases hf : m - H < N
        · rw [if_pos (by rw [← hl2.out]; exact hf)] at hP
          have HP := hid (show listP xs = ([], [], 5) by rw [Hlaw.out, listP_err hp'.out (by rw [hP]; simp), hP]; rfl)
          have t1 : (m : Int) - H < N := by omega
          clear hP hI
          go_wp2_with (go_at_call 31; (with_reducible refine hh.mono ?_); rintro e w1 ⟨rfl, hx1⟩)
          go_ret3
          exact LstR.of_err 5 (HI.out.far.trans hx1) HP.out
        · rw [if_neg (by rw [← hl2.out]; exact hf)] at hP
          have HP := hid (show listP xs = glue (T ++ [ys[0]?.getD 0]) (L ++ [(ys.drop H).take N]) (listP (ys.drop (H + N))) by
            rw [Hlaw.out, listP_ok hp'.out (by rw [hP]), hP]; exact glue_glue _ _ _ _ _)
          clear hP hI
          have t1 : ¬ (m : Int) - H < N := by omega
          obtain ⟨b, off, rfl, hc⟩ := (Hs.out.ext HI.out.far).at_ hp
          have c0 := hc 0 hp
          rw [Nat.add_zero] at c0
          clear hc
          have hBl := (ys[0]?.getD 0).toNat_lt
          have s1 := slice_lh (some ⟨b, off, none⟩) m c H N (by omega) (H : Int) ((H : Int) + N) rfl (by omega)
          have s2 := slice_l (some ⟨b, off, none⟩) m c (H + N) (by omega) ((H : Int) + N) (by omega)
          have hT : T.length = vs.length := by have := HI.out.rows.1; omega
          generalize hTl : T.length = k at *
          have HTl := hid hTl
          clear hTl
          go_wp2_with (first
            | (go_at_call 31; (with_reducible refine hh.mono ?_); rintro e w1 ⟨rfl, hx1⟩; have c1 := cell_later c0 w1 hx1; have I1 := hid (HI.out.ext hx1))
            | (go_at_call 32; (with_reducible refine (clone_new _ _ _ _ _ ((Hs.out.ext I2.out.far).mid (l := H) (k := N) (by omega)) (by omega)).mono ?_); rintro e w3 ⟨A3, n3, c3, rfl, h3, hn3, hx3⟩; have I3 := hid (I2.out.ext hx3))
            | (at_builtin; refine append_bytes rfl _ _ rfl w.heap.size u2 _ T rfl (I1.out.alloc _).tags _ 1 1 _ rfl (sl_one _ _ (by omega)) (by have := HTl.out; omega) (ext_size (I1.out.alloc _).far) ?_; intro v2' w2 ho2 hb2 hg2 hv2; have I2 := hid ((I1.out.alloc _).tag ho2 hg2 hv2))
            | (at_builtin; refine append_row rfl _ _ rfl w.heap.size u3 k vs rfl (I3.out.alloc _).rows w3.heap.size _ rfl (cell_new _ _ _) rfl (by omega) (ext_size (I3.out.alloc _).far) ?_; intro v3' w4 ho4 hb4 hg4 hv4; have I4 := hid ((I3.out.alloc _).row ho4 hg4 hv4 (h3.ext (Ext.alloc _ _)) (I2.out.off hn3 (Nat.le_refl _)))))
          have ht : UInt8.ofNat (((ys[0]?.getD 0).toNat : Int)).toNat = ys[0]?.getD 0 := by simp
          have hI4 := I4.out
          rw [ht] at hI4
          refine ⟨⟨_, _, _, ys.drop (H + N), _, _, vs ++ [.slice A3 n3 c3], rfl, Hs.out.tail (by omega), ?_, ?_, HP.out⟩, ?_⟩
          · rw [List.length_append, HTl.out]; exact hI4
          · rw [List.length_append, HTl.out]; simp; omega
          · show m - (H + N) < m
            omega
      · rw [if_pos h0] at hP
        have HP := hid (show listP xs = ([], [], E) by rw [Hlaw.out, listP_err hp'.out (by rw [hP]; exact h0), hP]; exact glue_err h0)
        clear hP hI
        have t0 : ((E : Int) == 0) = false := by rw [beq_eq_false_iff_ne]; omega
        have t1 : ((E : Int) != 0) = true := by rw [bne_iff_ne]; omega
        clear hok her
        go_wp2_with (go_at_call 31; (with_reducible refine hh.mono ?_); rintro e w1 ⟨rfl, hx1⟩)
        go_ret3
        exact LstR.of_err E (HI.out.far.trans hx1) HP.out
    · obtain rfl : m = 0 := by omega
      have hy : ys = [] := List.eq_nil_of_length_eq_zero hl2.out.symm
      subst hy
      have HI := hid hI
      clear hI
      go_wp2
      go_ret3
      exact LstR.of_two HI.out (by rw [Hlaw.out, listP_nil]; simp [glue])
end Go.Proofs.Ytfkbhbalkhhdhaa
