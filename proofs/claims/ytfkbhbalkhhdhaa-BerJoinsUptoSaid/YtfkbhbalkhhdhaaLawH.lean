/- BerJoins: the walk of the law. -/
import Derived.Test.YtfkbhbalkhhdhaaLawG
import Derived.Test.YtfkbhbalkhhdhaaThree
namespace Go.Proofs.Ytfkbhbalkhhdhaa
open Go.RowKit
set_option maxRecDepth 100000

/-- Fields, one behind the other. -/
def allB (ps : List (UInt8 × List UInt8)) : List UInt8 := (ps.map fun p => fieldB p.1 p.2).flatten
def okP (p : UInt8 × List UInt8) : Prop := ¬ p.1.toNat % 32 = 31 ∧ p.2.length ≤ 1048576
theorem listP_allB : ∀ ps : List (UInt8 × List UInt8), (∀ p ∈ ps, okP p) → listP (allB ps) = (ps.map (·.1), ps.map (·.2), 0)
  | [], _ => rfl
  | p :: ps, h => by
    have ih := listP_allB ps fun q hq => h q (List.mem_cons_of_mem _ hq)
    have hp := h p List.mem_cons_self
    have e : allB (p :: ps) = fieldB p.1 p.2 ++ allB ps := by simp [allB]
    have ht := takeP_field p.1 p.2 (allB ps) hp.1 (by have := hp.2; omega)
    rw [e, listP_ok (by simp [fieldB]) (by rw [ht]), ht]
    simp only [ih, glue]
    simp
theorem allB_snoc (ps : List (UInt8 × List UInt8)) (t : UInt8) (xs : List UInt8) : allB (ps ++ [(t, xs)]) = allB ps ++ fieldB t xs := by simp [allB]
theorem fieldB_short (t : UInt8) (xs : List UInt8) (h : xs.length ≤ 1048576) : (fieldB t xs).length ≤ 1048586 := by
  have := fieldB_length t xs
  omega
/-- The pairs before k. -/
def prs (ts : List UInt8) (xss : List (List UInt8)) (k : Nat) : List (UInt8 × List UInt8) := (ts.zip xss).take k
theorem prs_succ (ts : List UInt8) (xss : List (List UInt8)) (k : Nat) (h1 : k < ts.length) (h2 : k < xss.length) : prs ts xss (k + 1) = prs ts xss k ++ [(ts[k]?.getD 0, xss[k]?.getD [])] := by
  unfold prs
  rw [List.take_succ_eq_append_getElem (by simp; omega), List.getElem_zip]
  simp [h1, h2]
theorem prs_length (ts : List UInt8) (xss : List (List UInt8)) (k : Nat) (h1 : k ≤ ts.length) (h2 : k ≤ xss.length) : (prs ts xss k).length = k := by
  unfold prs; simp; omega

/-- The values are slices that read as L. -/
def Reads (w : World) (vs : List Value) (L : List (List UInt8)) : Prop :=
  vs.length = L.length ∧ ∀ (j : Nat) (v : Value), vs[j]? = some v → ∃ A n c, v = Value.slice A n c ∧ Sl w A n c (L[j]?.getD [])
theorem Reads.snoc {w : World} {vs : List Value} {L : List (List UInt8)} (h : Reads w vs L) {A : Option Addr} {n c : Nat} {xs : List UInt8} (hs : Sl w A n c xs) : Reads w (vs ++ [.slice A n c]) (L ++ [xs]) := by
  refine ⟨by simp [h.1], fun j v hj => ?_⟩
  rcases Nat.lt_or_ge j vs.length with hlt | hge
  · rw [List.getElem?_append_left hlt] at hj
    rw [List.getElem?_append_left (by rw [← h.1]; exact hlt)]
    exact h.2 j v hj
  · rw [List.getElem?_append_right hge] at hj
    rw [List.getElem?_append_right (by rw [← h.1]; exact hge)]
    have hj0 : j - vs.length = 0 := by
      have := (List.getElem?_eq_some_iff.1 hj).1
      simp at this
      omega
    rw [hj0] at hj
    rw [← h.1, hj0]
    simp at hj ⊢
    exact ⟨A, n, c, hj.symm, hs⟩
theorem Reads.sls {w wr : World} {base : Nat} {e : TypeId} {v : Value} {n : Nat} {vs : List Value} {L : List (List UInt8)} (h : Reads w vs L) (ho : wr.ownsRow base e 1 v n vs) (hx : Ext w wr) : ∃ A c, v = .slice A n c ∧ Sls wr A n c L := by
  obtain ⟨A, c, rfl⟩ := own_form ho
  have hn : vs.length = n := by simpa using ho.1
  refine ⟨A, c, rfl, by rw [← hn, h.1], (own_cap ho).1, (own_cap ho).2, vs, hn, Cells.of_own ho, fun j v hj => ?_⟩
  obtain ⟨A, n, c, h1, h2⟩ := h.2 j v hj
  exact ⟨A, n, c, h1, h2.ext hx⟩

set_option maxHeartbeats 1000000 in
theorem berJoins_walk (A : Option Addr) (m c : Nat) (xss : List (List UInt8)) (B : Option Addr) (n d : Nat) (ts : List UInt8) (w : World)
    (h : Sls w A m c xss) (hm : m ≤ 1048576 ∧ ∀ j : Nat, (xss[j]?.getD []).length ≤ 1048576) (k : Sl w B n d ts) (hd : d ≤ 1048576) :
    Calls Try.prog 12 #[.slice A m c, .slice B n d] w fun e w' => e = .returned (.bool true) ∧ Below w.heap.size w w' := by
  have hl := hid h.len
  have kl := hid k.len
  have hm1 := hm.1
  have Hm := hid hm.2
  clear hm
  have hn1 : n ≤ 1048576 := by have := k.cap; omega
  go_enter Try.func12, Try.ntmps12
  go_wp2
  go_loopw [5, 6, 7, 14] (fun v5 v6 v7 i wr => ∃ (q : Nat) (vs : List Value) (al T : List UInt8), q ≤ n ∧ q ≤ m ∧ i = .int .i64 q ∧ Hid (al = allB (prs ts xss q) ∧ T = (prs ts xss q).map (·.1)) ∧ Three w wr v5 v6 v7 al T q vs ∧ al.length ≤ q * 1048586 ∧ Hid (Reads w vs ((prs ts xss q).map (·.2))) ∧ Hid (∀ p ∈ prs ts xss q, okP p)) (fun _ _ _ i _ => n - (intOf i).toNat)
  case atStart => exact ⟨0, [], [], [], by omega, by omega, rfl, ⟨rfl, rfl⟩, Three.start w, by simp, ⟨rfl, fun j v h => by simp at h⟩, by simp [prs, Hid]⟩
  case round =>
    obtain ⟨q, vs, al, T, hq1, hq2, rfl, HE, hI, hal, HR, HO⟩ := hrel
    have I := hid hI
    clear hI
    by_cases hgo : q < n ∧ q < m ∧ ¬ (ts[q]?.getD 0).toNat % 32 = 31
    · obtain ⟨g1, g2, g3⟩ := hgo
      have hs0 := prs_succ ts xss q (by rw [← kl.out]; exact g1) (by rw [← hl.out]; exact g2)
      have Hs := hid hs0
      have hx0 := Hm.out q
      obtain ⟨b1, o1, rfl, c1⟩ := h.at_ (by omega)
      obtain ⟨b2, o2, rfl, c2⟩ := k.at_ (by omega)
      obtain ⟨Aq, nq, cq, e1, s1⟩ := c1 q g2
      have e2 := c2 q g1
      clear c1 c2 hs0
      have hBl := (ts[q]?.getD 0).toNat_lt
      have hnq : nq ≤ 1048576 := by rw [s1.len]; exact hx0
      have hfs := hid (fieldB_short (ts[q]?.getD 0) _ hx0)
      generalize ts[q]?.getD 0 = t at *
      generalize xss[q]?.getD [] = xs at *
      have f1 := cell_laterB e1 rfl I.out.far _ (Below.refl _ _)
      have f2 := cell_laterB e2 rfl I.out.far _ (Below.refl _ _)
      have t1 : ((t.toNat : Int) % 32 == 31) = false := by rw [beq_eq_false_iff_ne]; omega
      go_wp2
      refine wp_region_planB w.heap.size (.read 0 (.read 1 (.read 2 (.read 3 (.read 4 (.read 5 (.read 6 (.read 7 (.read 8 (.main 9 (.main 10 (.read 11 .done)))))))))))) (by kernel_rfl) (by kernel_rfl) ?_
      intro wD hxD
      have I1 := hid (I.out.ext hxD)
      have p1 := cell_laterB e1 rfl I1.out.far
      have p2 := cell_laterB e2 rfl I1.out.far
      repeat' (first
        | (refine walksB_move rfl rfl ?_; simp only [Act.put, Act.eval, List.setIfInBounds_toArray, List.set_cons_zero, List.set_cons_succ, Array.getD_eq_getD_getElem?, List.getElem?_toArray, List.getElem?_cons_zero, List.getElem?_cons_succ, Option.getD_some])
        | (refine walksB_assign rfl rfl ?_; simp only [Act.put, Act.eval, List.setIfInBounds_toArray, List.set_cons_zero, List.set_cons_succ, Array.getD_eq_getD_getElem?, List.getElem?_toArray, List.getElem?_cons_zero, List.getElem?_cons_succ, Option.getD_some])
        | (refine walksB_skip rfl rfl ?_; simp only [Act.put, List.setIfInBounds_toArray, List.set_cons_zero, List.set_cons_succ])
        | (refine walksB_unwanted rfl rfl ?_; simp only [Act.put, List.setIfInBounds_toArray, List.set_cons_zero, List.set_cons_succ])
        | (refine walksB_read (v := ?_) rfl rfl (fun w' hE => ?_) ?_; rotate_left 1; (· (go_simp; (try go_bits); with_reducible rfl)); simp only [Act.put, List.setIfInBounds_toArray, List.set_cons_zero, List.set_cons_succ])
        | (refine walksB_main rfl rfl (fun K hK => ?_); (first | (refine own_wp _ _ rfl w.heap.size u5 al.length al rfl I2.out.r5 _ _ _ _ rfl h2 (by have e9 := h2.len; have e8 := hfs.out; omega) I2.out.far.size ?_; intro v5' w3 ho3 hb3 hg3 hv3; have I3 := hid (I2.out.g5 ho3 hg3 hv3))); refine hK _ _ (by first | assumption | exact Below.refl _ _) ?_; clear hK K; try simp only [Act.put, List.setIfInBounds_toArray, List.set_cons_zero, List.set_cons_succ])
        | (refine walksB_alt ?_ ?_)
        | (refine walksB_main rfl rfl (fun K hK => ?_); go_wp2_with ((go_at_call 28; (with_reducible refine (field_any t _ _ _ _ _ (s1.ext I1.out.far) (by omega)).mono ?_); rintro e w2 ⟨A2, n2, c2, rfl, h2, hx2⟩; have hB2 := Below.mono hx2 I1.out.far.size; have I2 := hid (I1.out.ext hx2))); refine hK _ _ (by first | assumption | exact Below.refl _ _) ?_; clear hK K; try simp only [Act.put, List.setIfInBounds_toArray, List.set_cons_zero, List.set_cons_succ]))
      refine walksB_done ?_
      go_wp2
      have hTq : Hid (T.length = q) := by
        show T.length = q
        rw [HE.out.2, List.length_map, prs_length _ _ _ (by rw [← kl.out]; exact hq1) (by rw [← hl.out]; exact hq2)]
      refine wp_region_planB w.heap.size (.read 0 (.read 1 (.read 2 (.read 3 (.read 4 (.read 7 (.read 8 (.read 9 (.read 10 (.read 11 (.alt 5 (.alt 6 (.main 12 (.main 13 (.read 14 (.read 15 .done)))) (.main 12 (.main 6 (.main 13 (.read 14 (.read 15 .done)))))) (.main 12 (.main 5 (.main 6 (.main 13 (.read 14 (.read 15 .done))))))))))))))))) (by kernel_rfl) (by kernel_rfl) ?_
      intro wD hxD
      have J := hid (I3.out.ext hxD)
      have p3 := cell_laterB e1 rfl J.out.far
      have p4 := cell_laterB e2 rfl J.out.far
      repeat' (first
        | (refine walksB_move rfl rfl ?_; simp only [Act.put, Act.eval, List.setIfInBounds_toArray, List.set_cons_zero, List.set_cons_succ, Array.getD_eq_getD_getElem?, List.getElem?_toArray, List.getElem?_cons_zero, List.getElem?_cons_succ, Option.getD_some])
        | (refine walksB_assign rfl rfl ?_; simp only [Act.put, Act.eval, List.setIfInBounds_toArray, List.set_cons_zero, List.set_cons_succ, Array.getD_eq_getD_getElem?, List.getElem?_toArray, List.getElem?_cons_zero, List.getElem?_cons_succ, Option.getD_some])
        | (refine walksB_skip rfl rfl ?_; simp only [Act.put, List.setIfInBounds_toArray, List.set_cons_zero, List.set_cons_succ])
        | (refine walksB_unwanted rfl rfl ?_; simp only [Act.put, List.setIfInBounds_toArray, List.set_cons_zero, List.set_cons_succ])
        | (refine walksB_read (v := ?_) rfl rfl (fun w' hE => ?_) ?_; rotate_left 1; (· (go_simp; (try go_bits); with_reducible rfl)); simp only [Act.put, List.setIfInBounds_toArray, List.set_cons_zero, List.set_cons_succ])
        | (refine walksB_main rfl rfl (fun K hK => ?_); (first | (refine lit1_wp _ rfl _ rfl (by omega) ?_; intro Aa wa hxa hla; have hba := Below.mono hxa J.out.far.size; have J := hid (J.out.ext hxa); (try have Lb := hid (cell_later Lb.out _ hxa))) | (refine litR_wp _ rfl _ _ _ rfl ?_; intro gb wb hxb hgb Lb; have Hgb := hid hgb; clear hgb; have hbb := Below.mono hxb J.out.far.size; have Nb := hid J.out.r6.lt; have Lb := hid Lb; have J := hid (J.out.ext hxb); (try have hla := hla.ext hxb)) | (refine own_wp _ _ rfl w.heap.size u6 T.length T rfl J.out.r6 _ _ _ _ rfl hla (by have := hTq.out; omega) J.out.far.size ?_; intro v6' w5 ho5 hb5 hg5 hv5; (try have Lb := hid (hg5.cell Lb.out (fun e7 => by have h8 := (Nb.out gb e7.symm).2; have h9 := Hgb.out; omega))); have J := hid (J.out.g6 ho5 hg5 hv5)) | (refine ownR_wp _ _ rfl w.heap.size u7 q vs rfl J.out.r7 gb _ rfl Lb.out rfl (by omega) J.out.far.size ?_; intro v7' w6 ho6 hb6 hg6 hv6; have J := hid (J.out.g7 ho6 hg6 hv6))); refine hK _ _ (by first | assumption | exact Below.refl _ _) ?_; clear hK K; try simp only [Act.put, List.setIfInBounds_toArray, List.set_cons_zero, List.set_cons_succ])
        | (refine walksB_alt ?_ ?_)
        | (refine walksB_main rfl rfl (fun K hK => ?_); go_wp2_with (fail); refine hK _ _ (by first | assumption | exact Below.refl _ _) ?_; clear hK K; try simp only [Act.put, List.setIfInBounds_toArray, List.set_cons_zero, List.set_cons_succ]))
      all_goals
        refine walksB_done ?_
        go_wp2
        have ht : UInt8.ofNat ((t.toNat : Int)).toNat = t := by simp
        have hJ := J.out
        rw [ht] at hJ
        refine ⟨⟨q + 1, vs ++ [.slice Aq nq cq], _, _, by omega, by omega, by go_num, ?_, hJ, ?_, ?_, ?_⟩, by simp [intOf]; omega⟩
        · refine And.intro ?_ ?_
          · rw [Hs.out, allB_snoc, HE.out.1]
          · rw [Hs.out, List.map_append, HE.out.2]; rfl
        · rw [List.length_append]; have := hfs.out; omega
        · show Reads _ _ _
          rw [Hs.out, List.map_append]
          exact HR.out.snoc s1
        · show ∀ p ∈ _, okP p
          rw [Hs.out]
          intro p hp
          rcases List.mem_append.1 hp with hp | hp
          · exact HO.out p hp
          · rw [List.mem_singleton.1 hp]
            exact ⟨g3, hx0⟩
    · have HP := hid (show listP al = (T, (prs ts xss q).map (·.2), 0) by rw [HE.out.1, listP_allB _ HO.out, HE.out.2])
      have h5 := lenB_short (n := 5) (by omega) (by omega)
      obtain ⟨A5, c5, rfl, hs5⟩ := Sl.of_row I.out.r5
      obtain ⟨A6, c6, rfl, hs6⟩ := Sl.of_row I.out.r6
      obtain ⟨A7, c7, rfl, hs7⟩ := HR.out.sls I.out.r7 I.out.far
      have hL := list_any hs5 (by omega)
      rw [HP.out] at hL
      have HL := hid hL
      have H6 := hid hs6
      have H7 := hid hs7
      generalize (prs ts xss q).map (·.2) = L at *
      have hLL : (L == L) = true := beq_self_eq_true L
      have arms : (¬ q < n) ∨ (q < n ∧ m ≤ q) ∨ (q < n ∧ q < m ∧ (ts[q]?.getD 0).toNat % 32 = 31) := by
        rcases Decidable.em (q < n) with h1 | h1
        · rcases Decidable.em (q < m) with h2 | h2
          · rcases Decidable.em ((ts[q]?.getD 0).toNat % 32 = 31) with h3 | h3
            · exact .inr (.inr ⟨h1, h2, h3⟩)
            · exact absurd ⟨h1, h2, h3⟩ hgo
          · exact .inr (.inl ⟨h1, by omega⟩)
        · exact .inl h1
      clear hgo HE HO HR hL hs5 hs6 hs7 hal
      have h5' := hid h5
      clear h5
      rcases arms with g1 | ⟨g1, g2⟩ | ⟨g1, g2, g3⟩
      case inr.inr =>
        obtain ⟨b2, o2, rfl, c2⟩ := k.at_ (by omega)
        have e2 := c2 q g1
        clear c2
        have hBl := (ts[q]?.getD 0).toNat_lt
        generalize ts[q]?.getD 0 = t at *
        have f2 := cell_laterB e2 rfl I.out.far _ (Below.refl _ _)
        have t1 : ((t.toNat : Int) % 32 == 31) = true := by rw [beq_iff_eq]; omega
        go_wp2_with fail
        refine HL.out.mono ?_
        rintro e w1 ⟨A1, n1, c1, A2, n2, c2, rfl, h1, h2, hx1⟩
        simp only []
        have v1 := h1.conv w1 (Ext.refl _)
        have v2 := (H6.out.ext hx1).conv w1 (Ext.refl _)
        go_wp2_with (first | (go_at_call 23; (with_reducible refine (same_any h2 (H7.out.ext hx1)).mono ?_); rintro e w4 ⟨rfl, hx4⟩) | (go_at_call 17; (with_reducible refine (length_any _ _).mono ?_); rintro e w5 ⟨A8, n8, c8, rfl, h8, hx8⟩; have hn8 : n8 = 1 := (by rw [h8.len, h5'.out]; rfl); subst hn8))
        go_ret
        exact ⟨rfl, I.out.far.trans (hx1.trans (hx4.trans hx8))⟩
      all_goals
        go_wp2_with fail
        refine HL.out.mono ?_
        rintro e w1 ⟨A1, n1, c1, A2, n2, c2, rfl, h1, h2, hx1⟩
        simp only []
        have v1 := h1.conv w1 (Ext.refl _)
        have v2 := (H6.out.ext hx1).conv w1 (Ext.refl _)
        go_wp2_with (first | (go_at_call 23; (with_reducible refine (same_any h2 (H7.out.ext hx1)).mono ?_); rintro e w4 ⟨rfl, hx4⟩) | (go_at_call 17; (with_reducible refine (length_any _ _).mono ?_); rintro e w5 ⟨A8, n8, c8, rfl, h8, hx8⟩; have hn8 : n8 = 1 := (by rw [h8.len, h5'.out]; rfl); subst hn8))
        go_ret
        exact ⟨rfl, I.out.far.trans (hx1.trans (hx4.trans hx8))⟩
end Go.Proofs.Ytfkbhbalkhhdhaa
