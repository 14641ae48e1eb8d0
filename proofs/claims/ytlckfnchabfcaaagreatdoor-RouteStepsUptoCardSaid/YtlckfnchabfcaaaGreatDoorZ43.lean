import Derived.Test.YtlckfnchabfcaaaGreatDoorZ42
/- The walks of slices.Index and Contains at ints, and of route's Path. -/
namespace Go.Proofs.YtlckfnchabfcaaaGreatDoor
open Go.RowKit
set_option maxRecDepth 100000
set_option linter.unusedSimpArgs false
set_option linter.unusedVariables false

def Elem.i64 : Elem Int := ⟨1, by decide, fun _ _ v x => v = [.int .i64 x], fun h => by rw [h]; rfl, fun h _ => h, fun h _ => h⟩
theorem Row.int_cell {S : Nat → Prop} {w : World} {A : Option Addr} {n c : Nat} {l : List Int} (h : Row Elem.i64 S w A n c l) {i : Nat} (hi : i < n) : ∃ b off x, A = some ⟨b, off, none⟩ ∧ l[i]? = some x ∧ w.cell? ⟨b, off + i, none⟩ = some (.int .i64 x) := by
  obtain ⟨b, off, v, x, hA, hx, _, hR, hc⟩ := h.at_ hi
  have hv : v = [.int .i64 x] := hR
  subst hv
  exact ⟨b, off, x, hA, hx, by simpa [Elem.i64] using hc 0 _ rfl⟩
set_option maxHeartbeats 1000000 in
theorem indexint_any {S : Nat → Prop} {A : Option Addr} {n c : Nat} {l : List Int} {w : World} (h : Row Elem.i64 S w A n c l) (y : Int) :
    Calls Tryz.prog 45 #[.slice A n c, .int .i64 y] w fun e w' => ∃ r : Int, e = .returned (.int .i64 r) ∧ decide (0 ≤ r) = decide (y ∈ l) ∧ Ext w w' := by
  have HR := hid h
  have hl := hid h.len
  have hnl : n ≤ 9223372036854775807 := by have := h.cap; have := h.most; simp only [maxLen] at this; omega
  clear h
  go_enter Tryz.func45, Tryz.ntmps45
  go_wp2
  go_loopw [8] (fun i wr => ∃ j : Nat, j ≤ n ∧ i = .int .i64 j ∧ Hid (y ∉ l.take j) ∧ Hid (Ext w wr)) (fun i _ => n - (intOf i).toNat)
  case atStart => exact ⟨0, by omega, rfl, by simp [Hid], Ext.refl w⟩
  case round =>
    obtain ⟨j, hj, rfl, Htk, hx⟩ := hrel
    by_cases hlt : j < n
    · obtain ⟨b1, o1, x1, rfl, g1, e1⟩ := (HR.out.ext hx.out).int_cell hlt
      have Hg := hid g1
      clear g1
      by_cases he : y = x1
      · have He := hid he
        have hb : (y == x1) = true := beq_iff_eq.2 he
        clear he
        go_wp2
        go_ret
        exact ⟨_, rfl, by rw [decide_eq_true (show y ∈ l by rw [He.out]; exact List.mem_of_getElem? Hg.out)]; exact decide_eq_true (by omega), hx.out⟩
      · have He := hid he
        have hb : (y == x1) = false := beq_eq_false_iff_ne.2 he
        clear he
        go_wp2
        exact ⟨⟨j + 1, by omega, by go_num, by (show ¬ y ∈ l.take (j + 1)); rw [List.take_add_one, Hg.out]; intro hm; rcases List.mem_append.1 hm with hm | hm; exact Htk.out hm; simp at hm; exact He.out hm, hx.out⟩, by simp [intOf]; omega⟩
    · obtain rfl : j = n := by omega
      go_wp2
      go_ret
      have h9 := Htk.out
      rw [List.take_of_length_le (Nat.le_of_eq hl.out.symm)] at h9
      exact ⟨_, rfl, by rw [decide_eq_false h9]; rfl, hx.out⟩
theorem containsint_any {S : Nat → Prop} {A : Option Addr} {n c : Nat} {l : List Int} {w : World} (h : Row Elem.i64 S w A n c l) (y : Int) :
    Calls Tryz.prog 22 #[.slice A n c, .int .i64 y] w fun e w' => e = .returned (.bool (decide (y ∈ l))) ∧ Ext w w' := by
  have HI := indexint_any h y
  cases hb : decide (y ∈ l)
  all_goals
    have Hb := hid hb
    clear hb
    go_enter Tryz.func22, Tryz.ntmps22
    go_wp2_with (go_at_call 45; (with_reducible refine HI.mono ?_); rintro e w1 ⟨r, rfl, hr, hx1⟩; rw [Hb.out] at hr; have Hr := hid hr; clear hr)
    go_ret
    refine ⟨?_, hx1⟩
    have h9 := Hr.out
    simpa using h9
theorem infoI64 : (Tryz.prog.info? 3).map (fun i => (i.zero, i.size, i.bytes)) = some (some (.int .i64 0), Elem.i64.k, 8) := by kernel_rfl
/-- A row of one, made by a literal, is the call's own. -/
theorem GrowR.lit1 (w : World) (y : Int) (T : TypeId) : GrowR Elem.i64 T none w (w.alloc (.cells #[.int .i64 y] T)) (.slice (some ⟨w.heap.size, 0, none⟩) 1 1) [y] :=
  ⟨⟨[[.int .i64 y]], rfl, ⟨by rfl, .inr ⟨w.heap.size, 1, _, rfl, Nat.le_refl _, heap_alloc_new w _, Nat.le_refl _, by simp [maxLen], by rfl, by rfl⟩⟩, fun i u x hi hx => by
    cases i with
    | zero => simp at hi hx; subst hi hx; rfl
    | succ i => simp at hi⟩, Ext.alloc _ _, fun g hg => by cases hg⟩
def lenOf : Value → Nat
  | .slice _ n _ => n
  | _ => 0
theorem nodup_len {n : Nat} {l : List Int} (hd : l.Nodup) (hr : ∀ x ∈ l, 0 ≤ x ∧ x < n) : l.length ≤ n := by
  have hsub : l.map Int.toNat ⊆ List.range n := by
    intro x hx
    obtain ⟨y, hy, rfl⟩ := List.mem_map.1 hx
    have := hr y hy
    rw [List.mem_range]
    omega
  have hnd : (l.map Int.toNat).Nodup := by
    unfold List.Nodup at hd ⊢
    rw [List.pairwise_map]
    exact List.Pairwise.imp_of_mem (fun ha hb hab e => hab (by have := hr _ ha; have := hr _ hb; omega)) hd
  have h2 := List.Nodup.length_le_of_subset hnd hsub
  rwa [List.length_map, List.length_range] at h2
def PathSays (w : World) (r : List Int × Int) (e : Ending) (w' : World) : Prop := ∃ A n c, e = .returned (.tuple #[.slice A n c, .int .i64 r.2]) ∧ Row Elem.i64 (fun b => w.heap.size ≤ b) w' A n c r.1 ∧ Ext w w'
set_option maxHeartbeats 4000000 in
theorem path_any {S : Nat → Prop} {w : World} {A : Option Addr} {n c : Nat} {B : Option Addr} {m d : Nat} {s : List (List Cxt)} {t : List CutR} (h : CfgAt S w A n c B m d s t) (hG : Gl w) (server : Int) (name : ByteArray) (hs : ∀ l ∈ s, l.length ≤ 4000000) (hn4 : s.length ≤ 2000000) :
    Calls Tryz.prog 7 #[.agg #[.slice A n c, .slice B m d], .int .i64 server, .string name] w (PathSays w (pathF (rtOf s t) server (bys name))) := by
  have HG := hid hG
  have hn : n ≤ 9223372036854775807 := by have := h.srv.cap; have := h.srv.most; simp only [maxLen] at this; omega
  have HN4 : Hid (n ≤ 2000000) := by show _ ≤ _; rw [h.srv.len]; exact hn4
  have HN : ∀ w, Gl w → Calls Tryz.prog 20 #[.string name] w (NormalSays w (bys name)) := fun w hG => dnnormal_any name w hG
  have HHL : ∀ (k : Int) w', Ext w w' → Calls Tryz.prog 21 #[.agg #[.slice A n c, .slice B m d], .int .i64 k, .string name] w' (HeldSays w' (heldF (rtOf s t) k (bys name))) := fun k w' hx => held_any (h.ext hx) (hG.ext hx) k name hs
  have HNL : ∀ (k : Int) w', Ext w w' → Calls Tryz.prog 9 #[.agg #[.slice A n c, .slice B m d], .int .i64 k, .string name] w' (NearSays w' (nearF (rtOf s t) k (bys name))) := fun k w' hx => nearer_any (h.ext hx) (hG.ext hx) k name hs
  have HB0 := hid (Bx.make (Ext.refl w) #[.slice A n c, .slice B m d] 34)
  have HCL : Hid ((rtOf s t).servers.length = n) := by show _ = _; rw [h.srv.len]; simp [rtOf]
  unfold NormalSays at HN
  unfold HeldSays at HHL
  unfold NearSays at HNL
  clear hG h hs hn4
  by_cases hc : codeR (partsB (bys name)) = 0
  case neg =>
    have HF : Hid (pathF (rtOf s t) server (bys name) = ([], 34)) := by show _ = _; unfold pathF; rw [if_pos hc]
    have e0 : (codeR (partsB (bys name)) != 0) = true := by rw [bne_iff_ne]; exact hc
    show Calls _ _ _ _ (fun e w' => PathSays w (pathF (rtOf s t) server (bys name)) e w')
    unfold PathSays
    rw [HF.out]
    clear hc
    generalize codeR (partsB (bys name)) = cd at *
    go_enter Tryz.func7, Tryz.ntmps7
    go_wp2_with
      (go_at_call 20; (with_reducible refine (HN _ (HG.out.ext (Ext.alloc _ _))).mono ?_); rintro e w1 ⟨rfl, hx1⟩; have HB1 := hid (HB0.out.later hx1); have a0 := HB1.out.cell (i := 0) rfl; clear hx1)
    go_ret2
    exact ⟨none, 0, 0, rfl, Row.nil _ _ _, HB1.out.ext⟩
  have e0 : (codeR (partsB (bys name)) != 0) = false := by rw [hc]; rfl
  by_cases hneg : server < 0
  · have HF : Hid (pathF (rtOf s t) server (bys name) = ([], 1)) := by show _ = _; unfold pathF; rw [if_neg (by rw [hc]; simp), if_pos (.inl hneg)]
    show Calls _ _ _ _ (fun e w' => PathSays w (pathF (rtOf s t) server (bys name)) e w')
    unfold PathSays
    rw [HF.out]
    clear hc
    generalize codeR (partsB (bys name)) = cd at *
    go_enter Tryz.func7, Tryz.ntmps7
    go_wp2_with
      (go_at_call 20; (with_reducible refine (HN _ (HG.out.ext (Ext.alloc _ _))).mono ?_); rintro e w1 ⟨rfl, hx1⟩; have HB1 := hid (HB0.out.later hx1); have a0 := HB1.out.cell (i := 0) rfl; clear hx1)
    go_ret2
    exact ⟨none, 0, 0, rfl, Row.nil _ _ _, HB1.out.ext⟩
  obtain ⟨k0, rfl⟩ : ∃ k : Nat, server = (k : Int) := ⟨server.toNat, by omega⟩
  by_cases hge : n ≤ k0
  · have hge' : (n : Int) ≤ (k0 : Int) := by omega
    have HF : Hid (pathF (rtOf s t) (k0 : Int) (bys name) = ([], 1)) := by show _ = _; unfold pathF; rw [if_neg (by rw [hc]; simp), if_pos (.inr (by rw [HCL.out]; exact hge'))]
    show Calls _ _ _ _ (fun e w' => PathSays w (pathF (rtOf s t) (k0 : Int) (bys name)) e w')
    unfold PathSays
    rw [HF.out]
    clear hc hge
    generalize codeR (partsB (bys name)) = cd at *
    go_enter Tryz.func7, Tryz.ntmps7
    go_wp2_with
      (go_at_call 20; (with_reducible refine (HN _ (HG.out.ext (Ext.alloc _ _))).mono ?_); rintro e w1 ⟨rfl, hx1⟩; have HB1 := hid (HB0.out.later hx1); have a0 := HB1.out.cell (i := 0) rfl; clear hx1)
    go_ret2
    exact ⟨none, 0, 0, rfl, Row.nil _ _ _, HB1.out.ext⟩
  have hlt : k0 < n := by omega
  have hge' : ¬ (n : Int) ≤ (k0 : Int) := by omega
  have hk0 : decide ((k0 : Int) < 0) = false := decide_eq_false (by omega)
  have hk1 : decide (n ≤ k0) = false := decide_eq_false (by omega)
  have HPF : Hid (pathF (rtOf s t) (k0 : Int) (bys name) = walkF (fun s' => (heldF (rtOf s t) s' (bys name)).2) (fun s' => nearF (rtOf s t) s' (bys name)) n (n + 1) [(k0 : Int)] (k0 : Int)) := by
    show _ = _
    unfold pathF
    rw [if_neg (by rw [hc]; simp), if_neg (by rw [HCL.out]; rintro (h | h); omega; omega), HCL.out]
  show Calls _ _ _ _ (fun e w' => PathSays w (pathF (rtOf s t) (k0 : Int) (bys name)) e w')
  unfold PathSays
  rw [HPF.out]
  clear HPF hc hge hneg HCL
  obtain ⟨held, hheld⟩ : ∃ f, f = fun s' => (heldF (rtOf s t) s' (bys name)).2 := ⟨_, rfl⟩
  obtain ⟨near, hnear⟩ : ∃ f, f = fun s' => nearF (rtOf s t) s' (bys name) := ⟨_, rfl⟩
  have HHH : ∀ k : Int, Hid ((heldF (rtOf s t) k (bys name)).2 = held k) := fun k => by rw [hheld]; rfl
  have HNN : ∀ k : Int, Hid (nearF (rtOf s t) k (bys name) = near k) := fun k => by rw [hnear]; rfl
  rw [← hheld, ← hnear]
  clear hheld hnear
  generalize codeR (partsB (bys name)) = cd at *
  generalize hR : walkF held near n (n + 1) [(k0 : Int)] (k0 : Int) = R at *
  go_enter Tryz.func7, Tryz.ntmps7
  go_wp2_with
    (go_at_call 20; (with_reducible refine (HN _ (HG.out.ext (Ext.alloc _ _))).mono ?_); rintro e w1 ⟨rfl, hx1⟩; have HB1 := hid (HB0.out.later hx1); have a0 := HB1.out.cell (i := 0) rfl; clear hx1)
  clear a0 HN
  have HWK0 := hid hR
  clear hR
  go_loopw [1, 10] (fun sv pv wr => ∃ (path pre : List Int) (k f : Nat), sv = .int .i64 k ∧ k < n ∧ Hid (path = pre ++ [(k : Int)]) ∧ Hid (path.Nodup) ∧ Hid (∀ x ∈ path, 0 ≤ x ∧ x < n) ∧ Hid (f + path.length = n + 2) ∧ Hid (walkF held near n f path k = R) ∧ lenOf pv = path.length ∧ Hid (GrowR Elem.i64 3 none w1 wr pv path)) (fun _ pv _ => n + 1 - lenOf pv)
  case atStart => exact ⟨[(k0 : Int)], [], k0, n + 1, rfl, hlt, rfl, by simp [Hid], by simp [Hid]; omega, by (show _ = _); simp, HWK0.out, rfl, GrowR.lit1 w1 _ _⟩
  case round =>
    obtain ⟨path, pre, k, f, rfl, hkn, HPE, HND, HRG, HFU, HWK, hlen, HGR⟩ := hrel
    have HLE : Hid (path.length ≤ n) := nodup_len HND.out HRG.out
    obtain ⟨f, rfl⟩ : ∃ g, f = g + 1 := ⟨f - 1, by have := HLE.out; have := HFU.out; omega⟩
    have HBR := hid (HB1.out.later HGR.out.ext)
    have a0 := HBR.out.cell (i := 0) rfl
    have a1 := HBR.out.cell (i := 1) rfl
    have HZ := hid (ext_sz HB1.out.ext)
    have HHE := HHL (k : Int)
    have HNE := HNL (k : Int)
    rw [(HNN (k : Int)).out] at HNE
    rw [(HHH (k : Int)).out] at HHE
    obtain ⟨A5, c5, rfl, hr5⟩ := HGR.out.row
    have HR5 := hid hr5
    clear hr5 HHL HNL HHH HNN
    cases hh : held (k : Int)
    case true =>
      rw [hh] at HHE
      have HF := hid (HWK.out.symm.trans (walkF_inl (show stepF held near n path (k : Int) = .inl 0 by (unfold stepF; rw [if_pos hh]))))
      clear hh
      go_wp2_with
        (first
          | (go_at_call 21; (with_reducible refine (HHE _ HBR.out.ext).mono ?_); rintro e w2 ⟨rfl, hx2⟩; have HB2 := hid (HBR.out.later hx2); have HXE := hid hx2; have b0 := HB2.out.cell (i := 0) rfl; have b1 := HB2.out.cell (i := 1) rfl; clear hx2 a0 a1)
          | (go_at_call 9; (with_reducible refine (HNE _ HB2.out.ext).mono ?_); rintro e w3 ⟨rfl, hx3⟩; have HB3 := hid (HB2.out.later hx3); have HXE' := hid (HXE.out.trans hx3); clear HXE; have HXE := HXE'; clear HXE'; have d0 := HB3.out.cell (i := 0) rfl; have d1 := HB3.out.cell (i := 1) rfl; clear hx3 b0 b1)
          | (go_at_call 22; (with_reducible refine (HCO _ _ _ _ _ (HR5.out.ext HXE.out)).mono ?_); rintro e w4 ⟨rfl, hx4⟩; have HXE' := hid (HXE.out.trans hx4); clear HXE; have HXE := HXE'; clear HXE'; clear hx4))
      go_ret2
      exact ⟨A5, _, c5, by rw [HF.out]; (try rfl), by rw [HF.out]; exact (HR5.out.ext HXE.out).mono fun b _ hb => Nat.le_trans HZ.out hb, HBR.out.ext.trans HXE.out⟩
    rw [hh] at HHE
    rcases hnk : near (k : Int) with ⟨nx, ok⟩
    rw [hnk] at HNE
    simp only at HNE
    have HCO := fun (T : Nat → Prop) B1 m1 d1 w' (hr : Row Elem.i64 T w' B1 m1 d1 path) => containsint_any hr nx
    cases ok
    case false =>
      have HF := hid (HWK.out.symm.trans (walkF_inl (show stepF held near n path (k : Int) = .inl 32 by (unfold stepF; rw [if_neg (by rw [hh]; decide), if_pos (by rw [hnk])]))))
      clear hh hnk HCO
      go_wp2_with
        (first
          | (go_at_call 21; (with_reducible refine (HHE _ HBR.out.ext).mono ?_); rintro e w2 ⟨rfl, hx2⟩; have HB2 := hid (HBR.out.later hx2); have HXE := hid hx2; have b0 := HB2.out.cell (i := 0) rfl; have b1 := HB2.out.cell (i := 1) rfl; clear hx2 a0 a1)
          | (go_at_call 9; (with_reducible refine (HNE _ HB2.out.ext).mono ?_); rintro e w3 ⟨rfl, hx3⟩; have HB3 := hid (HB2.out.later hx3); have HXE' := hid (HXE.out.trans hx3); clear HXE; have HXE := HXE'; clear HXE'; have d0 := HB3.out.cell (i := 0) rfl; have d1 := HB3.out.cell (i := 1) rfl; clear hx3 b0 b1)
          | (go_at_call 22; (with_reducible refine (HCO _ _ _ _ _ (HR5.out.ext HXE.out)).mono ?_); rintro e w4 ⟨rfl, hx4⟩; have HXE' := hid (HXE.out.trans hx4); clear HXE; have HXE := HXE'; clear HXE'; clear hx4))
      go_ret2
      exact ⟨A5, _, c5, by rw [HF.out]; (try rfl), by rw [HF.out]; exact (HR5.out.ext HXE.out).mono fun b _ hb => Nat.le_trans HZ.out hb, HBR.out.ext.trans HXE.out⟩
    by_cases hneg : nx < 0
    · have HF := hid (HWK.out.symm.trans (walkF_inl (show stepF held near n path (k : Int) = .inl 52 by (unfold stepF; rw [if_neg (by rw [hh]; decide), if_neg (by rw [hnk]; simp), if_pos (by rw [hnk]; exact .inl hneg)]))))
      clear hh hnk HCO
      go_wp2_with
        (first
          | (go_at_call 21; (with_reducible refine (HHE _ HBR.out.ext).mono ?_); rintro e w2 ⟨rfl, hx2⟩; have HB2 := hid (HBR.out.later hx2); have HXE := hid hx2; have b0 := HB2.out.cell (i := 0) rfl; have b1 := HB2.out.cell (i := 1) rfl; clear hx2 a0 a1)
          | (go_at_call 9; (with_reducible refine (HNE _ HB2.out.ext).mono ?_); rintro e w3 ⟨rfl, hx3⟩; have HB3 := hid (HB2.out.later hx3); have HXE' := hid (HXE.out.trans hx3); clear HXE; have HXE := HXE'; clear HXE'; have d0 := HB3.out.cell (i := 0) rfl; have d1 := HB3.out.cell (i := 1) rfl; clear hx3 b0 b1)
          | (go_at_call 22; (with_reducible refine (HCO _ _ _ _ _ (HR5.out.ext HXE.out)).mono ?_); rintro e w4 ⟨rfl, hx4⟩; have HXE' := hid (HXE.out.trans hx4); clear HXE; have HXE := HXE'; clear HXE'; clear hx4))
      go_ret2
      exact ⟨A5, _, c5, by rw [HF.out]; (try rfl), by rw [HF.out]; exact (HR5.out.ext HXE.out).mono fun b _ hb => Nat.le_trans HZ.out hb, HBR.out.ext.trans HXE.out⟩
    by_cases hbig : (n : Int) ≤ nx
    · have HF := hid (HWK.out.symm.trans (walkF_inl (show stepF held near n path (k : Int) = .inl 52 by (unfold stepF; rw [if_neg (by rw [hh]; decide), if_neg (by rw [hnk]; simp), if_pos (by rw [hnk]; exact .inr hbig)]))))
      clear hh hnk HCO
      go_wp2_with
        (first
          | (go_at_call 21; (with_reducible refine (HHE _ HBR.out.ext).mono ?_); rintro e w2 ⟨rfl, hx2⟩; have HB2 := hid (HBR.out.later hx2); have HXE := hid hx2; have b0 := HB2.out.cell (i := 0) rfl; have b1 := HB2.out.cell (i := 1) rfl; clear hx2 a0 a1)
          | (go_at_call 9; (with_reducible refine (HNE _ HB2.out.ext).mono ?_); rintro e w3 ⟨rfl, hx3⟩; have HB3 := hid (HB2.out.later hx3); have HXE' := hid (HXE.out.trans hx3); clear HXE; have HXE := HXE'; clear HXE'; have d0 := HB3.out.cell (i := 0) rfl; have d1 := HB3.out.cell (i := 1) rfl; clear hx3 b0 b1)
          | (go_at_call 22; (with_reducible refine (HCO _ _ _ _ _ (HR5.out.ext HXE.out)).mono ?_); rintro e w4 ⟨rfl, hx4⟩; have HXE' := hid (HXE.out.trans hx4); clear HXE; have HXE := HXE'; clear HXE'; clear hx4))
      go_ret2
      exact ⟨A5, _, c5, by rw [HF.out]; (try rfl), by rw [HF.out]; exact (HR5.out.ext HXE.out).mono fun b _ hb => Nat.le_trans HZ.out hb, HBR.out.ext.trans HXE.out⟩
    by_cases hm : nx ∈ path
    · rw [decide_eq_true hm] at HCO
      have HF := hid (HWK.out.symm.trans (walkF_inl (show stepF held near n path (k : Int) = .inl 54 by (unfold stepF; rw [if_neg (by rw [hh]; decide), if_neg (by rw [hnk]; simp), if_neg (by rw [hnk]; rintro (h | h); exact hneg h; exact hbig h), if_pos (by rw [hnk]; exact hm)]))))
      clear hh hnk hm
      go_wp2_with
        (first
          | (go_at_call 21; (with_reducible refine (HHE _ HBR.out.ext).mono ?_); rintro e w2 ⟨rfl, hx2⟩; have HB2 := hid (HBR.out.later hx2); have HXE := hid hx2; have b0 := HB2.out.cell (i := 0) rfl; have b1 := HB2.out.cell (i := 1) rfl; clear hx2 a0 a1)
          | (go_at_call 9; (with_reducible refine (HNE _ HB2.out.ext).mono ?_); rintro e w3 ⟨rfl, hx3⟩; have HB3 := hid (HB2.out.later hx3); have HXE' := hid (HXE.out.trans hx3); clear HXE; have HXE := HXE'; clear HXE'; have d0 := HB3.out.cell (i := 0) rfl; have d1 := HB3.out.cell (i := 1) rfl; clear hx3 b0 b1)
          | (go_at_call 22; (with_reducible refine (HCO _ _ _ _ _ (HR5.out.ext HXE.out)).mono ?_); rintro e w4 ⟨rfl, hx4⟩; have HXE' := hid (HXE.out.trans hx4); clear HXE; have HXE := HXE'; clear HXE'; clear hx4))
      go_ret2
      exact ⟨A5, _, c5, by rw [HF.out]; (try rfl), by rw [HF.out]; exact (HR5.out.ext HXE.out).mono fun b _ hb => Nat.le_trans HZ.out hb, HBR.out.ext.trans HXE.out⟩
    rw [decide_eq_false hm] at HCO
    have HST : Hid (stepF held near n path (k : Int) = .inr nx) := by
      show _ = _
      unfold stepF
      rw [if_neg (by rw [hh]; decide), if_neg (by rw [hnk]; simp), if_neg (by rw [hnk]; rintro (h | h); exact hneg h; exact hbig h), if_neg (by rw [hnk]; exact hm), hnk]
    have HWN := hid ((walkF_inr HST.out).symm.trans HWK.out)
    obtain ⟨k2, rfl⟩ : ∃ k2 : Nat, nx = (k2 : Int) := ⟨nx.toNat, by omega⟩
    have hk2 : k2 < n := by omega
    have HND2 : Hid ((path ++ [(k2 : Int)]).Nodup) := by
      show _
      rw [List.nodup_append]
      exact ⟨HND.out, by simp, fun a ha b hb => by simp at hb; subst hb; rintro rfl; exact hm ha⟩
    have HRG2 : Hid (∀ x ∈ path ++ [(k2 : Int)], 0 ≤ x ∧ x < n) := by
      intro x hx
      rcases List.mem_append.1 hx with hx | hx
      · exact HRG.out x hx
      · simp at hx; subst hx; omega
    have HFU2 : Hid (f + (path ++ [(k2 : Int)]).length = n + 2) := by show _ = _; have := HFU.out; simp; omega
    have tk0 : decide ((k2 : Int) < 0) = false := decide_eq_false (by omega)
    have tk1 : decide (n ≤ k2) = false := decide_eq_false (by omega)
    clear hh hnk hm hneg HST
    go_wp2_with (first
      | (go_at_call 21; (with_reducible refine (HHE _ HBR.out.ext).mono ?_); rintro e w2 ⟨rfl, hx2⟩; have HB2 := hid (HBR.out.later hx2); have HXE := hid hx2; have b0 := HB2.out.cell (i := 0) rfl; have b1 := HB2.out.cell (i := 1) rfl; clear hx2 a0 a1)
      | (go_at_call 9; (with_reducible refine (HNE _ HB2.out.ext).mono ?_); rintro e w3 ⟨rfl, hx3⟩; have HB3 := hid (HB2.out.later hx3); have HXE' := hid (HXE.out.trans hx3); clear HXE; have HXE := HXE'; clear HXE'; have d0 := HB3.out.cell (i := 0) rfl; have d1 := HB3.out.cell (i := 1) rfl; clear hx3 b0 b1)
      | (go_at_call 22; (with_reducible refine (HCO _ _ _ _ _ (HR5.out.ext HXE.out)).mono ?_); rintro e w4 ⟨rfl, hx4⟩; have HXE' := hid (HXE.out.trans hx4); clear HXE; have HXE := HXE'; clear HXE'; clear hx4)
      | (at_builtin; refine append_el Tryz.underlying28 infoI64 rfl (by decide) rfl _ _ rfl _ _ rfl (HGR.out.later HXE.out) (u := [.int .i64 (k2 : Int)]) (k2 : Int) rfl (by intro c hc; simp at hc; subst hc; rfl) rfl rfl (by have := HLE.out; have := HN4.out; omega) ?_; intro v' w5 hg5 _ _; obtain ⟨A6, c6, rfl, -⟩ := hg5.row; simp only [List.length_append, List.length_cons, List.length_nil, Nat.zero_add] at hg5; have HG5 := hid hg5; clear hg5))
    exact ⟨⟨path ++ [(k2 : Int)], path, k2, f, rfl, hk2, rfl, HND2, HRG2, HFU2, HWN, by simp [lenOf], HG5⟩, by simp [lenOf]; have := HLE.out; omega⟩
end Go.Proofs.YtlckfnchabfcaaaGreatDoor
