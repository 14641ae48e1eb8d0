import Derived.Test.YtlckfnchabfcaaaGreatDoorZ41
/- The walk of route's Nearer. -/
namespace Go.Proofs.YtlckfnchabfcaaaGreatDoor
open Go.RowKit
set_option maxRecDepth 100000
set_option linter.unusedSimpArgs false
set_option linter.unusedVariables false

theorem find_cases {s : List (List Cxt)} {t : List CutR} {k : Nat} {l : List Cxt} {nm : List UInt8} (hc : codeR (partsB nm) = 0) (hk : s[k]? = some l) :
    findF (rtOf s t) (k : Int) nm = (-1, -1) ∨ ∃ (q : Nat) (x : Cxt), l[q]? = some x ∧ findF (rtOf s t) (k : Int) nm = ((q : Int), deepF x.subs nm) := by
  have hlt := (List.getElem?_eq_some_iff.1 hk).1
  have hlen : (rtOf s t).servers.length = s.length := by simp [rtOf]
  have hb : ¬ (codeR (partsB nm) ≠ 0 ∨ (k : Int) < 0 ∨ ((rtOf s t).servers.length : Int) ≤ (k : Int)) := by
    rw [hlen]
    rintro (h | h | h)
    · exact h hc
    · omega
    · omega
  by_cases hd : deepF (cutsOf l) nm < 0
  · exact .inl (find_none (by rw [cuts_of hk]; exact hd))
  · right
    have hr := deepF_range (cutsOf l) nm
    have hcl : (cutsOf l).length = l.length := by simp [cutsOf]
    obtain ⟨q, hq⟩ : ∃ q : Nat, deepF (cutsOf l) nm = (q : Int) := ⟨(deepF (cutsOf l) nm).toNat, by omega⟩
    have hql : q < l.length := by omega
    refine ⟨q, l[q], List.getElem?_eq_getElem hql, ?_⟩
    rw [find_some hb (by rw [cuts_of hk]; exact hd), cuts_of hk, hq]
    simp only [Int.toNat_natCast]
    rw [subs_of hk (List.getElem?_eq_getElem hql)]
def NearSays (w : World) (r : Int × Bool) (e : Ending) (w' : World) : Prop := e = .returned (.tuple #[.int .i64 r.1, .bool r.2]) ∧ Ext w w'
theorem near_bad {c : RtC} {s : Int} {nm : List UInt8} (h : codeR (partsB nm) ≠ 0 ∨ s < 0 ∨ (c.servers.length : Int) ≤ s) : nearF c s nm = (0, false) := by unfold nearF; rw [if_pos h]
theorem near_good {c : RtC} {s : Int} {nm : List UInt8} (h : ¬ (codeR (partsB nm) ≠ 0 ∨ s < 0 ∨ (c.servers.length : Int) ≤ s)) : nearF c s nm =
    if 0 ≤ (findF c s nm).2 then ((((((srvAt c s)[(findF c s nm).1.toNat]?.map (·.2)).getD [])[(findF c s nm).2.toNat]?).map (·.server)).getD 0, true)
    else if 0 ≤ (findF c s nm).1 then (0, false) else if s ≠ 0 then (0, true)
    else if 0 ≤ deepF c.top nm then (((c.top[(deepF c.top nm).toNat]?).map (·.server)).getD 0, true) else (0, false) := by unfold nearF; rw [if_neg h]
set_option maxHeartbeats 4000000 in
theorem nearer_any {S : Nat → Prop} {w : World} {A : Option Addr} {n c : Nat} {B : Option Addr} {m d : Nat} {s : List (List Cxt)} {t : List CutR} (h : CfgAt S w A n c B m d s t) (hG : Gl w) (server : Int) (name : ByteArray) (hs : ∀ l ∈ s, l.length ≤ 4000000) :
    Calls Tryz.prog 9 #[.agg #[.slice A n c, .slice B m d], .int .i64 server, .string name] w (NearSays w (nearF (rtOf s t) server (bys name))) := by
  have HG := hid hG
  have HR := hid h.srv
  have HT := hid h.top
  have hn : n ≤ 9223372036854775807 := by have := h.srv.cap; have := h.srv.most; simp only [maxLen] at this; omega
  have HN : ∀ w, Gl w → Calls Tryz.prog 20 #[.string name] w (NormalSays w (bys name)) := fun w hG => dnnormal_any name w hG
  have HFI : ∀ w', Ext w w' → Calls Tryz.prog 25 #[.agg #[.slice A n c, .slice B m d], .int .i64 server, .string name] w' (FindSays w' (findF (rtOf s t) server (bys name))) := fun w' hx => find_route_any (h.ext hx) (hG.ext hx) server name hs
  have HTP : ∀ w', Ext w w' → Calls Tryz.prog 26 #[.slice B m d, .string name] w' fun e w'' => e = .returned (.int .i64 (deepF t (bys name))) ∧ Ext w' w'' := fun w' hx => deepest_any (h.top.ext hx) name (hG.ext hx)
  have HB0 := hid (Bx.make (Ext.refl w) #[.slice A n c, .slice B m d] 34)
  have HCL : Hid ((rtOf s t).servers.length = n) := by show _ = _; rw [h.srv.len]; simp [rtOf]
  unfold NormalSays at HN
  unfold FindSays at HFI
  clear hG h hs
  by_cases hc : codeR (partsB (bys name)) = 0
  case neg =>
    have HF := hid (near_bad (c := rtOf s t) (s := server) (nm := bys name) (.inl hc))
    have e0 : (codeR (partsB (bys name)) != 0) = true := by rw [bne_iff_ne]; exact hc
    unfold NearSays
    rw [HF.out]
    clear hc
    generalize codeR (partsB (bys name)) = cd at *
    go_enter Tryz.func9, Tryz.ntmps9
    go_wp2_with
      (go_at_call 20; (with_reducible refine (HN _ (HG.out.ext (Ext.alloc _ _))).mono ?_); rintro e w1 ⟨rfl, hx1⟩; have HB1 := hid (HB0.out.later hx1); have a0 := HB1.out.cell (i := 0) rfl; have a1 := HB1.out.cell (i := 1) rfl; clear hx1)
    go_ret2
    exact ⟨rfl, HB1.out.ext⟩
  have HCD := hid hc
  have e0 : (codeR (partsB (bys name)) != 0) = false := by rw [hc]; rfl
  by_cases hneg : server < 0
  · have HF := hid (near_bad (c := rtOf s t) (s := server) (nm := bys name) (.inr (.inl hneg)))
    unfold NearSays
    rw [HF.out]
    clear hc HCD
    generalize codeR (partsB (bys name)) = cd at *
    go_enter Tryz.func9, Tryz.ntmps9
    go_wp2_with
      (go_at_call 20; (with_reducible refine (HN _ (HG.out.ext (Ext.alloc _ _))).mono ?_); rintro e w1 ⟨rfl, hx1⟩; have HB1 := hid (HB0.out.later hx1); have a0 := HB1.out.cell (i := 0) rfl; have a1 := HB1.out.cell (i := 1) rfl; clear hx1)
    go_ret2
    exact ⟨rfl, HB1.out.ext⟩
  obtain ⟨k, rfl⟩ : ∃ k : Nat, server = (k : Int) := ⟨server.toNat, by omega⟩
  by_cases hge : n ≤ k
  · have hge' : (n : Int) ≤ (k : Int) := by omega
    have HF := hid (near_bad (c := rtOf s t) (s := (k : Int)) (nm := bys name) (.inr (.inr (by rw [HCL.out]; exact hge'))))
    unfold NearSays
    rw [HF.out]
    clear hc HCD hge
    generalize codeR (partsB (bys name)) = cd at *
    go_enter Tryz.func9, Tryz.ntmps9
    go_wp2_with
      (go_at_call 20; (with_reducible refine (HN _ (HG.out.ext (Ext.alloc _ _))).mono ?_); rintro e w1 ⟨rfl, hx1⟩; have HB1 := hid (HB0.out.later hx1); have a0 := HB1.out.cell (i := 0) rfl; have a1 := HB1.out.cell (i := 1) rfl; clear hx1)
    go_ret2
    exact ⟨rfl, HB1.out.ext⟩
  have hlt : k < n := by omega
  have hge' : ¬ (n : Int) ≤ (k : Int) := by omega
  have hk0 : decide ((k : Int) < 0) = false := decide_eq_false (by omega)
  have hk1 : decide (n ≤ k) = false := decide_eq_false (by omega)
  obtain ⟨b1, o1, v1, x1, rfl, g1, -, ⟨A1, n1, c1, rfl, r1⟩, q1⟩ := HR.out.at_ hlt
  have HF := hid (near_good (c := rtOf s t) (s := (k : Int)) (nm := bys name) (by rw [HCL.out]; rintro (h | h | h); exact h hc; omega; omega))
  have E1 := hid (q1 0 _ rfl)
  have R1 := hid r1
  have Hg1 := hid g1
  have hn1 : n1 ≤ 9223372036854775807 := by have := r1.cap; have := r1.most; simp only [maxLen] at this; omega
  rw [show (rtOf s t).top = t from rfl] at HF
  have hdt := deepF_range t (bys name)
  rw [← HT.out.len] at hdt
  unfold NearSays
  rcases find_cases (t := t) hc g1 with hf | ⟨q, x, hx, hf⟩
  · rw [hf] at HFI HF
    rw [if_neg (by decide), if_neg (by decide)] at HF
    by_cases hk : k = 0
    · subst hk
      rw [if_neg (by simp)] at HF
      rw [show ((0 : Nat) : Int) = 0 from rfl] at HFI
      by_cases hd : 0 ≤ deepF t (bys name)
      · obtain ⟨q, hq⟩ : ∃ q : Nat, deepF t (bys name) = (q : Int) := ⟨(deepF t (bys name)).toNat, by omega⟩
        have hqm : q < m := by omega
        rw [if_pos hd, hq] at HF
        rw [hq] at HTP
        obtain ⟨b5, o5, v5, x5, rfl, g5, -, r5, q5⟩ := HT.out.at_ hqm
        have E5 := hid (q5 1 (.int .i64 x5.server) (by rw [show v5 = x5.cells from r5]; rfl))
        simp only [Int.toNat_natCast, g5, Option.map_some, Option.getD_some] at HF
        rw [HF.out]
        have tq : (0 : Int) ≤ (q : Int) := by omega
        have hm9 : m ≤ 9223372036854775807 := by have := HT.out.cap; have := HT.out.most; simp only [maxLen] at this; omega
        clear hc HCD hge hd hq hdt g5 r5 q5 g1 r1 q1 hf hneg
        generalize codeR (partsB (bys name)) = cd at *
        generalize x5.server = sv at *
        go_enter Tryz.func9, Tryz.ntmps9
        go_wp2_with
          (first
            | (go_at_call 20; (with_reducible refine (HN _ (HG.out.ext (Ext.alloc _ _))).mono ?_); rintro e w1 ⟨rfl, hx1⟩; have HB1 := hid (HB0.out.later hx1); have a0 := HB1.out.cell (i := 0) rfl; have a1 := HB1.out.cell (i := 1) rfl; clear hx1)
            | (go_at_call 25; (with_reducible refine (HFI _ HB1.out.ext).mono ?_); rintro e w2 ⟨rfl, hx2⟩; have HB2 := hid (HB1.out.later hx2); have b0 := HB2.out.cell (i := 0) rfl; have b1' := HB2.out.cell (i := 1) rfl; skip; clear hx2 a0 a1)
            | (go_at_call 26; (with_reducible refine (HTP _ HB2.out.ext).mono ?_); rintro e w3 ⟨rfl, hx3⟩; have HB3 := hid (HB2.out.later hx3); have d0 := HB3.out.cell (i := 0) rfl; have d1 := HB3.out.cell (i := 1) rfl; have d5 := cell_later E5.out _ HB3.out.ext; simp only [Elem.cut] at d5; clear hx3 b0 b1'))
        go_ret2
        exact ⟨rfl, HB3.out.ext⟩
      · rw [if_neg hd] at HF
        rw [HF.out]
        clear hc HCD hge hdt g1 r1 q1 hf hneg
        generalize codeR (partsB (bys name)) = cd at *
        generalize deepF t (bys name) = dt at *
        go_enter Tryz.func9, Tryz.ntmps9
        go_wp2_with
          (first
            | (go_at_call 20; (with_reducible refine (HN _ (HG.out.ext (Ext.alloc _ _))).mono ?_); rintro e w1 ⟨rfl, hx1⟩; have HB1 := hid (HB0.out.later hx1); have a0 := HB1.out.cell (i := 0) rfl; have a1 := HB1.out.cell (i := 1) rfl; clear hx1)
            | (go_at_call 25; (with_reducible refine (HFI _ HB1.out.ext).mono ?_); rintro e w2 ⟨rfl, hx2⟩; have HB2 := hid (HB1.out.later hx2); have b0 := HB2.out.cell (i := 0) rfl; have b1' := HB2.out.cell (i := 1) rfl; skip; clear hx2 a0 a1)
            | (go_at_call 26; (with_reducible refine (HTP _ HB2.out.ext).mono ?_); rintro e w3 ⟨rfl, hx3⟩; have HB3 := hid (HB2.out.later hx3); have d0 := HB3.out.cell (i := 0) rfl; have d1 := HB3.out.cell (i := 1) rfl; skip; clear hx3 b0 b1'))
        go_ret2
        exact ⟨rfl, HB3.out.ext⟩
    · rw [if_pos (by omega)] at HF
      rw [HF.out]
      have hk9 : ((k : Int) != 0) = true := by rw [bne_iff_ne]; omega
      clear hc HCD hge hdt g1 r1 q1 hf hneg hk
      generalize codeR (partsB (bys name)) = cd at *
      go_enter Tryz.func9, Tryz.ntmps9
      go_wp2_with
        (first
          | (go_at_call 20; (with_reducible refine (HN _ (HG.out.ext (Ext.alloc _ _))).mono ?_); rintro e w1 ⟨rfl, hx1⟩; have HB1 := hid (HB0.out.later hx1); have a0 := HB1.out.cell (i := 0) rfl; have a1 := HB1.out.cell (i := 1) rfl; clear hx1)
          | (go_at_call 25; (with_reducible refine (HFI _ HB1.out.ext).mono ?_); rintro e w2 ⟨rfl, hx2⟩; have HB2 := hid (HB1.out.later hx2); have b0 := HB2.out.cell (i := 0) rfl; have b1' := HB2.out.cell (i := 1) rfl; skip; clear hx2 a0 a1)
          | (go_at_call 26; (with_reducible refine (HTP _ HB2.out.ext).mono ?_); rintro e w3 ⟨rfl, hx3⟩; have HB3 := hid (HB2.out.later hx3); have d0 := HB3.out.cell (i := 0) rfl; have d1 := HB3.out.cell (i := 1) rfl; skip; clear hx3 b0 b1'))
      go_ret2
      exact ⟨rfl, HB2.out.ext⟩
  · rw [hf] at HFI HF
    simp only [Int.toNat_natCast] at HF
    rw [subs_of g1 hx] at HF
    have tq : (0 : Int) ≤ (q : Int) := by omega
    by_cases hd : 0 ≤ deepF x.subs (bys name)
    · obtain ⟨r, hr⟩ : ∃ r : Nat, deepF x.subs (bys name) = (r : Int) := ⟨(deepF x.subs (bys name)).toNat, by omega⟩
      have hdr := deepF_range x.subs (bys name)
      have hqn : q < n1 := by rw [r1.len]; exact (List.getElem?_eq_some_iff.1 hx).1
      obtain ⟨b5, o5, v5, x5, rfl, g5, -, ⟨A5, n5, c5, B5, m5, d5, rfl, r5, s5⟩, q5⟩ := R1.out.at_ hqn
      obtain rfl : x5 = x := by rw [hx] at g5; injection g5 with g5; exact g5.symm
      have hrm : r < m5 := by rw [s5.len]; omega
      obtain ⟨b6, o6, v6, x6, rfl, g6, -, r6, q6⟩ := s5.at_ hrm
      have E5 := hid (q5 2 _ rfl)
      have E6 := hid (q6 1 (.int .i64 x6.server) (by rw [show v6 = x6.cells from r6]; rfl))
      rw [if_pos hd, hr] at HF
      rw [hr] at HFI
      simp only [Int.toNat_natCast, g6, Option.map_some, Option.getD_some] at HF
      rw [HF.out]
      have tr : (0 : Int) ≤ (r : Int) := by omega
      have hm9 : m5 ≤ 9223372036854775807 := by have := s5.cap; have := s5.most; simp only [maxLen] at this; omega
      clear hc HCD hge hd hr hdt hdr g5 r5 q5 g6 r6 q6 g1 r1 q1 hf hneg hx s5
      generalize codeR (partsB (bys name)) = cd at *
      generalize x6.server = sv at *
      go_enter Tryz.func9, Tryz.ntmps9
      go_wp2_with
        (first
          | (go_at_call 20; (with_reducible refine (HN _ (HG.out.ext (Ext.alloc _ _))).mono ?_); rintro e w1 ⟨rfl, hx1⟩; have HB1 := hid (HB0.out.later hx1); have a0 := HB1.out.cell (i := 0) rfl; have a1 := HB1.out.cell (i := 1) rfl; clear hx1)
          | (go_at_call 25; (with_reducible refine (HFI _ HB1.out.ext).mono ?_); rintro e w2 ⟨rfl, hx2⟩; have HB2 := hid (HB1.out.later hx2); have b0 := HB2.out.cell (i := 0) rfl; have b1' := HB2.out.cell (i := 1) rfl; have c1' := cell_later E1.out _ HB2.out.ext; have c5' := cell_later E5.out _ HB2.out.ext; have c6' := cell_later E6.out _ HB2.out.ext; simp only [Elem.srw, Elem.slc, Elem.cxt, Elem.cut, Nat.add_zero, Nat.mul_one] at c1' c5' c6'; clear hx2 a0 a1)
          | (go_at_call 26; (with_reducible refine (HTP _ HB2.out.ext).mono ?_); rintro e w3 ⟨rfl, hx3⟩; have HB3 := hid (HB2.out.later hx3); have d0 := HB3.out.cell (i := 0) rfl; have d1 := HB3.out.cell (i := 1) rfl; skip; clear hx3 b0 b1'))
      go_ret2
      exact ⟨rfl, HB2.out.ext⟩
    · rw [if_neg hd, if_pos tq] at HF
      rw [HF.out]
      clear hc HCD hge hdt g1 r1 q1 hf hneg hx
      generalize codeR (partsB (bys name)) = cd at *
      generalize deepF x.subs (bys name) = dt at *
      go_enter Tryz.func9, Tryz.ntmps9
      go_wp2_with
        (first
          | (go_at_call 20; (with_reducible refine (HN _ (HG.out.ext (Ext.alloc _ _))).mono ?_); rintro e w1 ⟨rfl, hx1⟩; have HB1 := hid (HB0.out.later hx1); have a0 := HB1.out.cell (i := 0) rfl; have a1 := HB1.out.cell (i := 1) rfl; clear hx1)
          | (go_at_call 25; (with_reducible refine (HFI _ HB1.out.ext).mono ?_); rintro e w2 ⟨rfl, hx2⟩; have HB2 := hid (HB1.out.later hx2); have b0 := HB2.out.cell (i := 0) rfl; have b1' := HB2.out.cell (i := 1) rfl; skip; clear hx2 a0 a1)
          | (go_at_call 26; (with_reducible refine (HTP _ HB2.out.ext).mono ?_); rintro e w3 ⟨rfl, hx3⟩; have HB3 := hid (HB2.out.later hx3); have d0 := HB3.out.cell (i := 0) rfl; have d1 := HB3.out.cell (i := 1) rfl; skip; clear hx3 b0 b1'))
      go_ret2
      exact ⟨rfl, HB2.out.ext⟩
end Go.Proofs.YtlckfnchabfcaaaGreatDoor
