/- The walk of the law's feed. -/
import Derived.Test.YtohbbbolfdidcaaFrS
namespace Go.Proofs.Ytohbbbolfdidcaa
open Go.RowKit
set_option maxRecDepth 100000

/-- append of slices of bytes onto a row of such, at the walk. -/
theorem append_rows {w : World} {ops : Array Oper} {rest : List Oper} {o : Oper} {a : Act} {Q : Exit → Act → World → Prop} (hgd : o.guard = none) (s x : Operand)
    (ho : o.op = .call { callee := .builtin .append, args := #[s, x], argTypes := #[26, 26] })
    (base : Nat) (v : Value) (n : Nat) (vs : List Value) (hs : a.eval s = v) (hown : w.ownsRow base 24 1 v n vs)
    (A : Option Addr) (m c : Nat) (us : List Value) (hx : a.eval x = .slice A m c) (hm : m = us.length) (hc : Cells w A us) (h1 : ∀ u ∈ us, u.oneCell' = true)
    (hbytes : (n + m) * 24 ≤ 140737488355328) (hbase : base ≤ w.heap.size)
    (h : ∀ v' w', w'.ownsRow base 24 1 v' (n + m) (vs ++ us) → Below base w w' → w.grownBy w' v.ownBlock → (v'.ownBlock = v.ownBlock ∨ v'.ownBlock = some w.heap.size) → wpList Try.prog ops Q rest (a.put o.dst v') w') : wpList Try.prog ops Q (o :: rest) a w := by
  obtain ⟨i0, hi, hz0, hz1, hz2⟩ := info_parts Try.infoRow
  refine wpList_append_cells hgd s x 26 ho base 24 i0 (.slice none 0 0) 24 Try.underlying26 hi hz0 hz1 hz2 rfl v n vs hs hown A m c us hx hm hc h1 (by simp [maxLen]; omega) hbytes hbase ?_
  intro v' w' h1 h2 h3
  exact h v' w' h1 ((Below.refl base w).grown h2 hbase (fun k hk => (hown.lt k hk).1)) h2 h3
theorem Vs.append {w : World} {T L : Option Nat} {vs us : List Value} {xss yss : List (List UInt8)} (h : Vs w T L vs xss) (k : Vs w T L us yss) : Vs w T L (vs ++ us) (xss ++ yss) := by
  refine ⟨by simp [h.len, k.len], fun j v hj => ?_⟩
  rcases Nat.lt_or_ge j vs.length with hlt | hge
  · rw [List.getElem?_append_left hlt] at hj
    rw [List.getElem?_append_left (by rw [← h.len]; exact hlt)]
    exact h.each j v hj
  · rw [List.getElem?_append_right hge] at hj
    rw [List.getElem?_append_right (by rw [← h.len]; exact hge), ← h.len]
    exact k.each _ v hj
/-- What Feed made lies off an elder row's block. -/
theorem FI.fromOld {w wr : World} {g M n c q k : Nat} {A : Option Addr} {ys : List UInt8} {ov : Bool} {v4 v : Value} {vs us : List Value} {L : List (List UInt8)} (h : FI w wr g M A n c ys ov v4 q vs L)
    {base : Nat} {e : TypeId} (ho : w.ownsRow base e 1 v k us) : Vs wr (some g) v.ownBlock vs L := by
  refine ⟨h.read.len, fun j u hj => ?_⟩
  obtain ⟨A1, n1, c1, rfl, hs, _⟩ := h.read.each j u hj
  refine ⟨A1, n1, c1, rfl, hs, ?_⟩
  obtain ⟨A2, n2, c2, e2, h2⟩ := h.fresh _ (List.mem_of_getElem? hj)
  injection e2 with eA en ec
  subst eA en ec
  rcases h2 with h2 | ⟨a, ha, hb⟩
  · exact .inl (List.eq_nil_of_length_eq_zero (by rw [← hs.len]; exact h2))
  · refine .inr ⟨a, ha, ?_, ?_⟩
    · intro e
      injection e with e
      have := h.low
      omega
    · intro e
      have := (ho.lt _ e.symm).2
      omega
theorem Sls.grownC {w w' : World} {g M n c : Nat} {A : Option Addr} {ws : List UInt8} {ov : Bool} {B : Option Addr} {m d : Nat} {L : List (List UInt8)} (h : Sls w B m d L) (hC : Cut w g M A n c ws ov)
    (hB : ∀ a, B = some a → a.block ≠ g) (hg : w.grownBy w' (some g)) : Sls w' B m d L := by
  obtain ⟨h1, h2, h3, vs, h4, h5, h6⟩ := h
  refine ⟨h1, h2, h3, vs, h4, ?_, fun j v hj => ?_⟩
  · rcases h5 with h5 | ⟨b, off, hA, hc⟩
    · exact .inl h5
    · refine .inr ⟨b, off, hA, fun j u hj => hg.cell (hc j u hj) ?_⟩
      intro e
      injection e with e
      exact hB _ hA e
  · obtain ⟨Aj, nj, cj, hv, hs⟩ := h6 j v hj
    exact ⟨Aj, nj, cj, hv, hs.grown (hC.off hs) hg⟩

/-- What the law's feed answers. -/
def FeedAll (w : World) (g : Nat) (p : List (List UInt8) × List UInt8 × Nat) (e : Ending) (w' : World) : Prop :=
  ∃ B d A n c M, e = .returned (.tuple #[.slice B p.1.length d, .int .i64 (p.2.2 : Int)]) ∧ Sls w' B p.1.length d p.1 ∧ Cut w' g M A n c p.2.1 (p.2.2 != 0) ∧ w.grownBy w' (some g)

set_option maxHeartbeats 4000000 in
theorem feedall_any {g M n c : Nat} {A : Option Addr} {w : World} (h : Cut w g M A n c [] false) (hM : M ≤ 16384) {M' : Nat} (hM' : M' = if M = 0 then 16384 else M) {B : Option Addr} {m d : Nat} {L : List (List UInt8)}
    (k : Sls w B m d L) (hB : ∀ a, B = some a → a.block ≠ g) (hlen : L.flatten.length ≤ 1048576) :
    Calls Try.prog 13 #[.pointer (some ⟨g, 0, none⟩), .slice B m d] w (FeedAll w g (streamP M' L.flatten)) := by
  have HB := hid hB
  have kl := hid k.len
  have HM := hid hM'
  have hglt := h.lt
  have hmm : m ≤ 9223372036854775807 := by have := k.cap; have := k.most; simp only [maxLen] at this; omega
  clear hB hM'
  go_enter Try.func13, Try.ntmps13
  go_wp2
  go_loopw [6, 12] (fun v i wr => ∃ (q M1 n1 c1 k1 : Nat) (A1 : Option Addr) (ws : List UInt8) (vs : List Value) (LL : List (List UInt8)), q ≤ m ∧ i = .int .i64 q ∧ M1 ≤ 16384 ∧ Hid (M' = if M1 = 0 then 16384 else M1) ∧ Hid (Cut wr g M1 A1 n1 c1 ws false) ∧ Hid (wr.ownsRow w.heap.size 24 1 v k1 vs) ∧ Hid (Vs wr (some g) v.ownBlock vs LL) ∧ Hid (streamP M' (L.take q).flatten = (LL, ws, 0)) ∧ Hid (w.grownBy wr (some g))) (fun _ i _ => m - (intOf i).toNat)
  case atStart => exact ⟨0, M, n, c, 0, A, [], [], [], by omega, rfl, hM, HM, h, World.ownsRow_nil _ _ _ _, Vs.nil _ _ _, by simp [streamP_nil, Hid], World.grownBy.refl w _⟩
  case round =>
    obtain ⟨q, M1, n1, c1, k1, A1, ws, vs, LL, hq, rfl, hM1, HM1, HC, HO, HV, HS, HG⟩ := hrel
    have hsz : w.heap.size ≤ wr.heap.size := HG.out.size
    have hleft := streamP_left M' _ (L.take q).flatten (Nat.le_refl _)
    rw [HS.out] at hleft
    have hfl := flatten_take_le L q
    have hws : ws.length ≤ 1048576 := by have := hleft.2.1; simp only [] at this; omega
    have hLL : LL.length ≤ 1048576 := by have := hleft.2.2; simp only [] at this; omega
    have hk1 : k1 ≤ 1048576 := by have e1 := HV.out.len; have e2 := HO.out.1; simp only [Nat.mul_one] at e2; omega
    clear hleft hfl
    by_cases hlt : q < m
    · have hP := hid (k.grownC h HB.out HG.out)
      obtain ⟨b1, o1, rfl, hc⟩ := hP.out.at_ (by omega)
      obtain ⟨Aq, nq, cq, e1, s1⟩ := hc q hlt
      clear hc
      have hts := flatten_take_succ L q (by rw [← kl.out]; exact hlt)
      have hx : L[q]?.getD [] = L[q]'(by rw [← kl.out]; exact hlt) := by simp [List.getElem?_eq_getElem (show q < L.length by rw [← kl.out]; exact hlt)]
      rw [← hx] at hts
      have hfl := flatten_take_le L (q + 1)
      have hxl : (L[q]?.getD []).length ≤ 1048576 := by rw [hts, List.length_append] at hfl; omega
      have hF := feed_new HC.out hM1 HM1.out s1 (by omega)
      have hst := streamP_append M' _ (L.take q).flatten (L[q]?.getD []) (Nat.le_refl _)
      rw [HS.out, if_neg (by simp), ← hts] at hst
      simp only [] at hst
      have HX := hid hx
      clear hts hx hfl
      generalize hp : streamP M' (ws ++ L[q]?.getD []) = p at *
      have Hp := hid hp
      have Hst := hid hst
      have HF := hid hF
      obtain ⟨PL, PR, PE⟩ := p
      have hpl : PL.length ≤ 1048576 := by
        have e1 := streamP_left M' _ (ws ++ L[q]?.getD []) (Nat.le_refl _)
        rw [Hp.out] at e1
        have e2 := e1.2.2
        simp only [List.length_append] at e2
        omega
      clear hp hst hF s1
      have K : ∀ (e : Ending) (w2 : World), FeedN wr g M' (PL, PR, PE) e w2 → ∃ A4 q4 c4 vs4 A2 n2 c2, e = .returned (.tuple #[.slice A4 q4 c4, .int .i64 (PE : Int)]) ∧ q4 = vs4.length ∧ q4 ≤ 1048576 ∧ Hid (Cells w2 A4 vs4) ∧ Hid (∀ u ∈ vs4, u.oneCell' = true) ∧
          w.heap.size ≤ w2.heap.size ∧ Hid (w2.ownsRow w.heap.size 24 1 u6 k1 vs) ∧ ∀ v' w3, w3.ownsRow w.heap.size 24 1 v' (k1 + q4) (vs ++ vs4) → w2.grownBy w3 u6.ownBlock → (v'.ownBlock = u6.ownBlock ∨ v'.ownBlock = some w2.heap.size) →
            Cut w3 g M' A2 n2 c2 PR (PE != 0) ∧ Vs w3 (some g) v'.ownBlock (vs ++ vs4) (LL ++ PL) ∧ w.grownBy w3 (some g) := by
        rintro e w2 ⟨v4, q4, vs4, A2, n2, c2, rfl, hI, hN⟩
        obtain ⟨A4, c4, rfl⟩ := own_form hI.own
        have hq4 : vs4.length = q4 := by simpa using hI.own.1
        have hne : u6.ownBlock ≠ some g := fun e => by have := (HO.out.lt _ e).1; omega
        refine ⟨A4, q4, c4, vs4, A2, n2, c2, rfl, hq4.symm, by have := hI.read.len; simp only [] at this; omega, Cells.of_own hI.own, ?_, Nat.le_trans hsz hI.gr.size, HO.out.kept hI.gr (.inr hne), ?_⟩
        · intro u hu
          obtain ⟨_, _, _, rfl, _⟩ := hI.fresh u hu
          rfl
        · intro v' w3 ho3 hg3 hv3
          refine ⟨hI.cut.grown hg3 (Ne.symm hne) (hN.off (fun k hk => (HO.out.lt k hk).2) (fun k hk => by cases hk)), ((HV.out.grown hI.gr (.inl rfl)).append (hI.fromOld HO.out)).grownR hg3 hv3, ?_⟩
          exact grown_step (grown_step HG.out hI.gr (fun j hj => by injection hj with hj; exact .inr hj.symm)) hg3 (fun j hj => .inl (HO.out.lt j hj).1)
      have HK := hid K
      clear K
      by_cases he : PE = 0
      · subst he
        go_wp2_with fail
        refine HF.out.mono ?_
        intro e w2 hF
        obtain ⟨A4, q4, c4, vs4, A2, n2, c2, rfl, hq4, hq4b, hcl, h1, hsz2, ho2, hfin⟩ := HK.out e w2 hF
        have HQ := hid hq4
        have HFin := hid hfin
        clear hF hq4 hfin
        simp only []
        go_wp2_with (at_builtin; refine append_rows rfl _ _ rfl w.heap.size u6 k1 vs rfl ho2.out A4 q4 c4 vs4 rfl HQ.out hcl.out h1.out (by omega) hsz2 ?_; intro v' w3 ho3 hb3 hg3 hv3; have HR := hid (HFin.out _ _ ho3 hg3 hv3); have HO3 := hid ho3; clear ho3 hb3 hg3 hv3)
        refine ⟨⟨q + 1, M', n2, c2, k1 + q4, A2, PR, vs ++ vs4, LL ++ PL, by omega, by go_num, ?_, ?_, HR.out.1, HO3, HR.out.2.1, ?_, HR.out.2.2⟩, by simp [intOf]; omega⟩
        · rw [HM.out]; split <;> omega
        · show _ = _
          have hne : ¬ M' = 0 := by rw [HM.out]; split <;> omega
          rw [if_neg hne]
        · show _ = _
          rw [Hst.out]; rfl
      · have t1 : ((PE : Int) != 0) = true := by rw [bne_iff_ne]; omega
        have He := hid he
        have hfin2 : Hid (streamP M' L.flatten = (LL ++ PL, PR, PE)) := by
          show _ = _
          have e1 := streamP_append M' _ (L.take (q + 1)).flatten (L.drop (q + 1)).flatten (Nat.le_refl _)
          rw [← List.flatten_append, List.take_append_drop, Hst.out] at e1
          rw [e1, if_pos (by simpa [glueS] using he)]
          rfl
        clear he
        go_wp2_with fail
        refine HF.out.mono ?_
        intro e w2 hF
        obtain ⟨A4, q4, c4, vs4, A2, n2, c2, rfl, hq4, hq4b, hcl, h1, hsz2, ho2, hfin⟩ := HK.out e w2 hF
        have HQ := hid hq4
        have HFin := hid hfin
        clear hF hq4 hfin
        simp only []
        go_wp2_with (at_builtin; refine append_rows rfl _ _ rfl w.heap.size u6 k1 vs rfl ho2.out A4 q4 c4 vs4 rfl HQ.out hcl.out h1.out (by omega) hsz2 ?_; intro v' w3 ho3 hb3 hg3 hv3; have HR := hid (HFin.out _ _ ho3 hg3 hv3); have HO3 := hid ho3; clear ho3 hb3 hg3 hv3)
        obtain ⟨B', d', rfl, hs⟩ := HR.out.2.1.sls HO3.out
        go_ret2
        rw [hfin2.out]
        have := hs.len
        rw [this] at hs ⊢
        exact ⟨B', d', A2, n2, c2, M', rfl, hs, HR.out.1, HR.out.2.2⟩
    · obtain rfl : q = m := by omega
      rw [List.take_of_length_le (by rw [← kl.out]; omega)] at HS
      obtain ⟨B', d', rfl, hs⟩ := HV.out.sls HO.out
      go_wp2
      go_ret2
      rw [HS.out]
      have := hs.len
      subst this
      exact ⟨B', d', A1, n1, c1, M1, rfl, hs, HC.out, HG.out⟩
end Go.Proofs.Ytohbbbolfdidcaa
