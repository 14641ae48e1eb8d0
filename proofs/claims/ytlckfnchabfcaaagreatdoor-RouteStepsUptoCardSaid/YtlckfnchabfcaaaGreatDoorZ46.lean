import Derived.Test.YtlckfnchabfcaaaGreatDoorZ44
import Derived.Test.YtlckfnchabfcaaaGreatDoorZ45
import Derived.Test.YtlckfnchabfcaaaGreatDoorZ35
/- The walk of vergerlaw15's Theirs: a config, as the package has it. -/
namespace Go.Proofs.YtlckfnchabfcaaaGreatDoor
open Go.RowKit
set_option maxRecDepth 100000
set_option linter.unusedSimpArgs false
set_option linter.unusedVariables false

theorem infoCxt : (Tryz.prog.info? 67).map (fun i => (i.zero, i.size, i.bytes)) = some (some (.agg #[.string ByteArray.empty, .slice none 0 0, .slice none 0 0]), Elem.cxt.k, 64) := by kernel_rfl
theorem infoSrv : (Tryz.prog.info? 65).map (fun i => (i.zero, i.size, i.bytes)) = some (some (.agg #[.slice none 0 0]), Elem.srw.k, 24) := by kernel_rfl
def TheirsSays (w : World) (s : List (List Cxt)) (t : List CutR) (e : Ending) (w' : World) : Prop :=
  ∃ A n c B m d, e = .returned (.agg #[.slice A n c, .slice B m d]) ∧ CfgAt (fun b => w.heap.size ≤ b) w' A n c B m d s t ∧ Ext w w'
set_option maxHeartbeats 8000000 in
theorem theirs15_any {S : Nat → Prop} {w : World} {A : Option Addr} {n c : Nat} {B : Option Addr} {m d : Nat} {s : List (List Cxt)} {t : List CutR} (h : CfgAt S w A n c B m d s t)
    (hs : s.length ≤ 2000000 ∧ ∀ l ∈ s, SrvOk l) (ht : t.length ≤ 2000000) :
    Calls Tryz.prog 8 #[.agg #[.slice A n c, .slice B m d]] w (TheirsSays w s t) := by
  have HR := hid h.srv
  have HLN := hid h.srv.len
  have HS := hid hs
  have hn : n ≤ 9223372036854775807 := by have := h.srv.cap; have := h.srv.most; simp only [maxLen] at this; omega
  have HCT : ∀ w', Ext w w' → Calls Tryz.prog 23 #[.slice B m d] w' fun e w'' => ∃ A' n' c', e = .returned (.slice A' n' c') ∧ Row Elem.cut (fun b => w'.heap.size ≤ b) w'' A' n' c' t ∧ Ext w' w'' := fun w' hx => cuts15_any (h.top.ext hx) ht
  have HB0 := hid (((Bx.make (Ext.refl w) #[.slice A n c, .slice B m d] 25).later (Ext.alloc _ (.cells #[.slice none 0 0, .slice none 0 0] 34))))
  have HB1 := hid (Bx.make (Ext.alloc w (.cells #[.slice A n c, .slice B m d] 25)) #[.slice none 0 0, .slice none 0 0] 34)
  rw [show (w.alloc (.cells #[.slice A n c, .slice B m d] 25)).heap.size = w.heap.size + 1 by simp] at HB1
  unfold TheirsSays
  clear h hs ht
  go_enter Tryz.func8, Tryz.ntmps8
  go_wp2_with (go_at_call 23; (with_reducible refine (HCT _ HB0.out.ext).mono ?_); rintro e w1 ⟨B2, m2, d2, rfl, hr1, hx1⟩; have HB2 := hid (HB0.out.later hx1); have HB3 := hid (HB1.out.later hx1); have HT1 := hid (hr1.mono (T := fun b => w.heap.size + 2 ≤ b) fun b _ hb => by have h2 := hb; simp at h2; omega); have p0 := cell_later (HB2.out.cell (i := 0) rfl) _ (Ext.alloc w1 (.cells #[.slice none 0 0, .slice B2 m2 d2] 34)); clear hx1 hr1)
  have HX1 := hid HB2.out.ext
  have P0 := hid (HB2.out.cell (i := 0) rfl)
  go_loopw [15] (fun i wr => ∃ (j : Nat) (v : Value), j ≤ n ∧ i = .int .i64 j ∧ Hid (GrowR Elem.srw 65 (some w1.heap.size) w1 wr v (s.take j)) ∧ Hid (Bx w1 wr w1.heap.size 34 #[v, .slice B2 m2 d2])) (fun i _ => n - (intOf i).toNat)
  case atStart => exact ⟨0, _, by omega, rfl, GrowR.nil (Ext.alloc _ _) (fun g hg => by injection hg with hg; subst hg; simp), Bx.make (Ext.refl w1) _ _⟩
  case round =>
    obtain ⟨j, v, hj, rfl, HGR, HBN⟩ := hrel
    obtain ⟨wo, hwo⟩ : ∃ x, x = wr := ⟨_, rfl⟩
    subst hwo
    have HXR := hid HGR.out.ext
    have p0' := cell_later P0.out _ HXR.out
    by_cases hlt : j < n
    · obtain ⟨b1, o1, v1, x1, rfl, g1, -, ⟨A1, n1, c1, rfl, r1⟩, q1⟩ := HR.out.at_ hlt
      have E1 := hid (cell_later (cell_later (q1 0 _ rfl) _ HX1.out) _ HXR.out)
      have e1 := E1.out
      simp only [Elem.srw, Elem.slc, Nat.add_zero, Nat.mul_one] at e1
      have R1 := hid (r1.ext (HX1.out.trans HXR.out))
      have hn1 : n1 ≤ 9223372036854775807 := by have := r1.cap; have := r1.most; simp only [maxLen] at this; omega
      have HSX := hid (HS.out.2 x1 (List.mem_of_getElem? g1))
      have HL1 : Hid (n1 = x1.length) := r1.len
      have HTK : Hid (s.take (j + 1) = s.take j ++ [x1]) := by show _ = _; rw [List.take_add_one, g1]; rfl
      have HNB := hid (HGR.out.apart _ rfl).1
      have HLT : Hid ((s.take j).length ≤ 4000000) := by show _ ≤ _; rw [List.length_take]; have := HLN.out; have := HS.out.1; omega
      have p0a := cell_later p0' _ (Ext.alloc wo (.cells #[.slice none 0 0] 65))
      have e1a := cell_later e1 _ (Ext.alloc wo (.cells #[.slice none 0 0] 65))
      clear q1 g1 r1
      go_wp2
      clear p0a e1a
      go_loopw [25] (fun i wr => ∃ (k : Nat) (vc : Value), k ≤ n1 ∧ i = .int .i64 k ∧ Hid (GrowR Elem.cxt 67 (some wo.heap.size) wo wr vc (x1.take k)) ∧ Hid (Bx wo wr wo.heap.size 65 #[vc])) (fun i _ => n1 - (intOf i).toNat)
      case atStart => exact ⟨0, _, by omega, rfl, GrowR.nil (Ext.alloc _ _) (fun g hg => by injection hg with hg; subst hg; simp), Bx.make (Ext.refl wo) _ _⟩
      case round =>
        obtain ⟨k, vc, hk, rfl, HI, HBI⟩ := hrel
        have HXI := hid HI.out.ext
        have p1 := cell_later p0' _ HXI.out
        have e2 := cell_later e1 _ HXI.out
        by_cases hlt2 : k < n1
        · obtain ⟨b2, o2, v2, x2, rfl, g2, -, ⟨A2, n2, c2, B3, m3, d3, rfl, r2, s2⟩, q2⟩ := (R1.out.ext HXI.out).at_ hlt2
          have e20 := q2 0 _ rfl
          have e21 := q2 1 _ rfl
          have e22 := q2 2 _ rfl
          simp only [Elem.cxt, Nat.add_zero] at e20 e21 e22
          have hok := HSX.out.2 x2 (List.mem_of_getElem? g2)
          have HTK2 : Hid (x1.take (k + 1) = x1.take k ++ [x2]) := by show _ = _; rw [List.take_add_one, g2]; rfl
          have HLT2 : Hid ((x1.take k).length ≤ 4000000) := by show _ ≤ _; rw [List.length_take]; have := HL1.out; have := HSX.out.1; omega
          have HCA : ∀ w', Ext wr w' → Calls Tryz.prog 24 #[.slice A2 n2 c2] w' fun e w'' => ∃ A' n' c', e = .returned (.slice A' n' c') ∧ Row Elem.ent (fun b => w'.heap.size ≤ b) w'' A' n' c' x2.ents ∧ Ext w' w'' :=
            fun w' hx => rcopyall_any (r2.ext hx) (by have := hok.2.1.1; omega) (fun e he => ⟨by have := (hok.2.1.2 e he).2.1; omega, fun a ha => by have := ((hok.2.1.2 e he).2.2 a ha).2.1; omega⟩)
          have HCU : ∀ w', Ext wr w' → Calls Tryz.prog 23 #[.slice B3 m3 d3] w' fun e w'' => ∃ A' n' c', e = .returned (.slice A' n' c') ∧ Row Elem.cut (fun b => w'.heap.size ≤ b) w'' A' n' c' x2.subs ∧ Ext w' w'' :=
            fun w' hx => cuts15_any (s2.ext hx) (by have := hok.2.2.1; omega)
          have HNB2 := hid (HI.out.apart _ rfl).1
          have HB7 := hid (Bx.make (Ext.refl wr) #[.string x2.name, .slice A2 n2 c2, .slice B3 m3 d3] 80)
          have hvc : ∀ b, vc.ownBlock = some b → b < wr.heap.size ∧ b ≠ wr.heap.size := fun b hb => by
            obtain ⟨⟨vss, -, ho, -⟩, -, -⟩ := HI.out
            have := (ho.lt b hb).2
            exact ⟨this, by omega⟩
          obtain ⟨S9, hS9⟩ : ∃ S : Nat → Prop, S = fun b => b < wr.heap.size + 1 ∧ b ≠ wo.heap.size ∧ some b ≠ vc.ownBlock := ⟨_, rfl⟩
          have HSI : Hid (∀ b, S9 b → b < wr.heap.size + 1) := fun b hb => by rw [hS9] at hb; exact hb.1
          have HNE : Hid (∀ b, S9 b → b ≠ wo.heap.size) := fun b hb => by rw [hS9] at hb; exact hb.2.1
          have HNO : Hid (∀ b, S9 b → some b ≠ vc.ownBlock) := fun b hb => by rw [hS9] at hb; exact hb.2.2
          have hg7 : wo.heap.size < wr.heap.size := HBI.out.lt
          have HS7 : Hid (S9 wr.heap.size) := by
            show S9 _
            rw [hS9]
            exact ⟨by omega, by omega, fun e => (hvc _ e.symm).2 rfl⟩
          clear q2 g2 r2 s2 hok hS9 hvc hg7
          go_wp2
          obtain ⟨PR, hPR⟩ : ∃ p, p = Pre.same S9 := ⟨_, rfl⟩
          have HPS : Hid (∀ w w', Same S9 w w' → PR.r w w') := fun w w' h => by rw [hPR]; exact h
          have HPT : Hid (∀ w w', PR.r w w' → Same S9 w w') := fun w w' h => by rw [hPR] at h; exact h
          clear hPR
          refine wp_region_planR PR (.read 0 (.read 2 (.read 3 (.read 4 (.read 5 (.read 7 (.read 8 (.alt 1 (.main 6 (.main 9 (.read 10 (.main 11 (.main 12 (.read 13 (.main 14 .done))))))) (.main 6 (.alt 1 (.main 9 (.read 10 (.main 11 (.main 12 (.read 13 (.main 14 .done)))))) (.main 9 (.read 10 (.alt 1 (.main 11 (.main 12 (.read 13 (.main 14 .done)))) (.main 11 (.main 1 (.main 12 (.read 13 (.main 14 .done)))))))))))))))))) (by kernel_rfl) (by kernel_rfl) ?_
          intro wD hxD
          have XR : Hid (PR.r wD wD) := PR.refl _
          have HXD := hid ((Ext.alloc wr (.cells #[.string x2.name, .slice A2 n2 c2, .slice B3 m3 d3] 80)).trans hxD)
          have HI' := hid (HI.out.later HXD.out)
          have HI0 := HI'
          have HBI' := hid (HBI.out.later HXD.out)
          have HSR : Hid (∀ b, S9 b → b < wD.heap.size) := fun b hb => by have h1 := HSI.out b hb; have h2 := ext_sz hxD; simp only [World.alloc, Array.size_push] at h2; omega
          have HX9 := hid (Ext.refl wD)
          have c0 : ∀ w', PR.r wD w' → w'.cell? ⟨wr.heap.size, 0, none⟩ = some (.string x2.name) := fun w' hk => by rw [World.cell?_of_block (HPT.out _ _ hk _ HS7.out)]; exact (HB7.out.later hxD).cell (i := 0) rfl
          have c1' : ∀ w', PR.r wD w' → w'.cell? ⟨wr.heap.size, 1, none⟩ = some (.slice A2 n2 c2) := fun w' hk => by rw [World.cell?_of_block (HPT.out _ _ hk _ HS7.out)]; exact (HB7.out.later hxD).cell (i := 1) rfl
          have c2' : ∀ w', PR.r wD w' → w'.cell? ⟨wr.heap.size, 2, none⟩ = some (.slice B3 m3 d3) := fun w' hk => by rw [World.cell?_of_block (HPT.out _ _ hk _ HS7.out)]; exact (HB7.out.later hxD).cell (i := 2) rfl
          repeat' (first
            | (refine walksR_move rfl rfl ?_; simp only [Act.put, Act.eval, List.setIfInBounds_toArray, List.set_cons_zero, List.set_cons_succ, Array.getD_eq_getD_getElem?, List.getElem?_toArray, List.getElem?_cons_zero, List.getElem?_cons_succ, Option.getD_some])
            | (refine walksR_assign rfl rfl ?_; simp only [Act.put, Act.eval, List.setIfInBounds_toArray, List.set_cons_zero, List.set_cons_succ, Array.getD_eq_getD_getElem?, List.getElem?_toArray, List.getElem?_cons_zero, List.getElem?_cons_succ, Option.getD_some])
            | (refine walksR_skip rfl rfl ?_; simp only [Act.put, List.setIfInBounds_toArray, List.set_cons_zero, List.set_cons_succ])
            | (refine walksR_unwanted rfl rfl ?_; simp only [Act.put, List.setIfInBounds_toArray, List.set_cons_zero, List.set_cons_succ])
            | (refine walksR_read (v := ?_) rfl rfl (fun w' hE => ?_) ?_; rotate_left 1; (· ((try (have hEx := Pre.trans _ (Hid.out XR) hE)); go_simp; (try go_bits); with_reducible rfl)); simp only [Act.put, List.setIfInBounds_toArray, List.set_cons_zero, List.set_cons_succ])
            | (refine walksR_main rfl rfl (fun K hK => ?_); (first | (refine wp_load_cell 63 (.tmp 37) rfl ⟨wo.heap.size, 0, none⟩ rfl vc (by first | exact HBI'.out.cell (i := 0) rfl | exact cell_later (HBI'.out.cell (i := 0) rfl) _ (Ext.alloc _ _)) (fun _ => by kernel_rfl) ?_) | (refine append_el_wp Tryz.underlying63 infoCxt rfl (by decide) (.tmp 38) (.tmp 48) rfl vc (x1.take k) rfl HI'.out (u := [.string x2.name, .slice A7 n7 c7, .slice A8 n8 c8]) x2 HE9.out (by intro c hc; simp at hc; rcases hc with rfl | rfl | rfl <;> rfl) rfl rfl HLT2.out ?_; intro v' w9 k1 k2 k3; have hs9 : PR.r _ w9 := HPS.out _ _ (fun b hb => k2.block b (by have := HSR.out b hb; simp only [World.alloc, Array.size_push]; omega) (HNO.out b hb)); obtain ⟨A6, c6, rfl, -⟩ := k1.row; simp only [List.length_append, List.length_cons, List.length_nil, Nat.zero_add] at k1; have HG9 := hid k1; have HB9 := hid ((HBI'.out.later (Ext.alloc _ _)).grown k2 HNB2.out k3); have n1' := HB9.out.cell (i := 0) rfl; have f1 := HB9.out.frozen 0; clear k1 k2 k3)); refine hK _ _ (by first | assumption | exact Pre.refl _ _ | exact Hid.out HPS _ _ (Same.alloc_of (Hid.out HSR) _) | exact Hid.out HPS _ _ (Same.set_of (Hid.out HNE) _)) ?_; clear hK K; try simp only [Act.put, List.setIfInBounds_toArray, List.set_cons_zero, List.set_cons_succ])
            | (refine walksR_alt ?_ ?_)
            | (refine walksR_main rfl rfl (fun K hK => ?_); go_wp2_with (first | (go_at_call 24; (with_reducible refine (HCA _ (HXD.out.trans HX9.out)).mono ?_); rintro e w7 ⟨A7, n7, c7, rfl, hr7, hx7⟩; have HR7 := hid (hr7.mono (T := fun b => wD.heap.size ≤ b) fun b _ hb => Nat.le_trans (ext_sz HX9.out) hb); have hs7 : PR.r _ w7 := HPS.out _ _ (fun b hb => hx7.block b (HSR.out b hb)); have HX9' := hid (HX9.out.trans hx7); clear HX9 HSR HI' HBI'; have HX9 := HX9'; clear HX9'; have HI' := hid (HI0.out.later HX9.out); have HBI' := hid (HBI.out.later (HXD.out.trans HX9.out)); have HSR : Hid (∀ b, S9 b → b < w7.heap.size) := (fun b hb => by have h1 := HSI.out b hb; have h2 := ext_sz (hxD.trans HX9.out); simp only [World.alloc, Array.size_push] at h2; omega); clear hr7 hx7; have XR' := hid (Pre.trans _ (Hid.out XR) hs7); clear XR; have XR := XR'; clear XR') | (go_at_call 23; (with_reducible refine (HCU _ (HXD.out.trans HX9.out)).mono ?_); rintro e w8 ⟨A8, n8, c8, rfl, hr8, hx8⟩; have HR8 := hid (hr8.mono (T := fun b => wD.heap.size ≤ b) fun b _ hb => Nat.le_trans (ext_sz HX9.out) hb); have HR7' := hid (HR7.out.ext hx8); have hs8 : PR.r _ w8 := HPS.out _ _ (fun b hb => hx8.block b (HSR.out b hb)); have HX9' := hid (HX9.out.trans hx8); clear HX9 HSR HI' HBI'; have HX9 := HX9'; clear HX9'; have HI' := hid (HI0.out.later HX9.out); have HBI' := hid (HBI.out.later (HXD.out.trans HX9.out)); have HSR : Hid (∀ b, S9 b → b < w8.heap.size) := (fun b hb => by have h1 := HSI.out b hb; have h2 := ext_sz (hxD.trans HX9.out); simp only [World.alloc, Array.size_push] at h2; omega); have HE9 := hid (HI0.out.fresh (Ext.refl _) (Nat.le_refl _) (u := [.string x2.name, .slice A7 n7 c7, .slice A8 n8 c8]) (x := x2) ⟨A7, n7, c7, A8, n8, c8, rfl, HR7'.out, HR8.out⟩); clear hr8 hx8; have XR' := hid (Pre.trans _ (Hid.out XR) hs8); clear XR; have XR := XR'; clear XR')); refine hK _ _ (by first | assumption | exact Pre.refl _ _ | exact Hid.out HPS _ _ (Same.alloc_of (Hid.out HSR) _) | exact Hid.out HPS _ _ (Same.set_of (Hid.out HNE) _)) ?_; clear hK K; try simp only [Act.put, List.setIfInBounds_toArray, List.set_cons_zero, List.set_cons_succ]))
          all_goals
            refine walksR_done ?_
            go_wp2
            refine ⟨⟨k + 1, _, by omega, by go_num, ?_, HB9.out.setS _⟩, by simp [intOf]; omega⟩
            rw [HTK2.out]
            have h9 := HG9.out.setL 0 (.slice A6 ((x1.take k).length + 1) c6)
            simp only [List.length_take] at h9
            exact h9
        · obtain rfl : k = n1 := by omega
          have hgi := HI.out
          rw [List.take_of_length_le (Nat.le_of_eq HL1.out.symm)] at hgi
          obtain ⟨A5, c5, rfl, hr5⟩ := hgi.row
          have HGO := hid (HGR.out.later HXI.out)
          have HBO := hid (HBN.out.later HXI.out)
          have HE5 := hid (HGR.out.fresh HXI.out (Nat.le_refl _) (u := [.slice A5 x1.length c5]) (x := x1) ⟨A5, _, c5, rfl, hr5⟩)
          have n0 := HBO.out.cell (i := 0) rfl
          have n5 := HBI.out.cell (i := 0) rfl
          clear hgi hr5 HI
          go_wp2_with (at_builtin; refine append_el Tryz.underlying31 infoSrv rfl (by decide) rfl _ _ rfl _ _ rfl HGO.out (u := [.slice A5 x1.length c5]) x1 HE5.out (by intro c hc; simp at hc; subst hc; rfl) rfl rfl HLT.out ?_; intro v' w3 hg3 k2 k3; obtain ⟨A6, c6, rfl, -⟩ := hg3.row; simp only [List.length_append, List.length_cons, List.length_nil, Nat.zero_add] at hg3; have HG3 := hid hg3; have HB9 := hid ((HBO.out.later (Ext.alloc _ _)).grown k2 HNB.out k3); have n1' := HB9.out.cell (i := 0) rfl; have f1 := HB9.out.frozen 0; clear hg3 k2 k3)
          refine ⟨⟨j + 1, _, by omega, by go_num, ?_, HB9.out.set0 _⟩, by simp [intOf]; omega⟩
          rw [HTK.out]
          have h9 := HG3.out.setL 0 (.slice A6 ((s.take j).length + 1) c6)
          simp only [List.length_take] at h9
          exact h9
    · obtain rfl : j = n := by omega
      have hgr := HGR.out
      rw [List.take_of_length_le (Nat.le_of_eq HLN.out.symm)] at hgr
      obtain ⟨A2, c2, rfl, hr2⟩ := hgr.row
      have HR2 := hid hr2
      have n0 := HBN.out.cell (i := 0) rfl
      have n1 := HBN.out.cell (i := 1) rfl
      have HB := HB3.out.later HGR.out.ext
      have r0 := HB.cell (i := 0) rfl
      have r1 := HB.cell (i := 1) rfl
      have f0 := HB.frozen 0
      have f1 := HB.frozen 1
      have HBY := hid HB
      have HT2 := hid (HT1.out.ext HXR.out)
      have hlt0 : Hid (w.heap.size + 1 < w1.heap.size) := HB3.out.lt
      clear HB hr2 hgr
      go_wp2
      (try simp only [Exit.inBlock, Exit.then])
      refine ret_cell1 _ rfl rfl ((HBY.out.set0 (.slice A2 s.length c2)).set1 (.slice B2 m2 d2)) Tryz.underlying34 rfl (by kernel_rfl) rfl ?_
      refine ⟨A2, s.length, c2, B2, m2, d2, rfl, ⟨?_, ?_⟩, ((HBY.out.set0 (.slice A2 s.length c2)).set1 (.slice B2 m2 d2)).ext⟩
      · refine (HR2.out.same (w' := _) fun b hb => ?_).mono fun b _ hb => ?_
        · have hb' : w1.heap.size ≤ b := hb
          have h0 := hlt0.out
          have hne : b ≠ w.heap.size + 1 := by omega
          rw [heap_setCell_other _ _ _ _ hne, heap_setCell_other _ _ _ _ hne]
        · have hb' : w1.heap.size ≤ b := hb
          have h0 := hlt0.out
          show w.heap.size ≤ b
          omega
      · refine (HT2.out.same (w' := _) fun b hb => ?_).mono fun b _ hb => ?_
        · have hb' : w.heap.size + 2 ≤ b := hb
          have hne : b ≠ w.heap.size + 1 := by omega
          rw [heap_setCell_other _ _ _ _ hne, heap_setCell_other _ _ _ _ hne]
        · have hb' : w.heap.size + 2 ≤ b := hb
          show w.heap.size ≤ b
          omega
end Go.Proofs.YtlckfnchabfcaaaGreatDoor
