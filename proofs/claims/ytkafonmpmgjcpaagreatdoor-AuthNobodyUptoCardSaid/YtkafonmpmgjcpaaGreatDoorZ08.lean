import Derived.Test.YtkafonmpmgjcpaaGreatDoorZ06
import Derived.Test.YtkafonmpmgjcpaaGreatDoorZ07
import Derived.Test.YtkafonmpmgjcpaaGreatDoorZ03
import Derived.RegionTactic
import Derived.Deep.Cut
import Derived.Deep.DeepCutAuto
/- The walk of auth.Controls. -/
namespace Go.Proofs.YtkafonmpmgjcpaaGreatDoor
open Go.RowKit
set_option maxRecDepth 100000
set_option linter.unusedSimpArgs false
set_option linter.unusedVariables false

def manB : ByteArray := ⟨#[50, 46, 49, 54, 46, 56, 52, 48, 46, 49, 46, 49, 49, 51, 55, 51, 48, 46, 51, 46, 52, 46, 50]⟩
def proxB : ByteArray := ⟨#[50, 46, 49, 54, 46, 56, 52, 48, 46, 49, 46, 49, 49, 51, 55, 51, 48, 46, 51, 46, 52, 46, 49, 56]⟩
structure Wsh where
  man : Bool
  has : Bool
  prox : ByteArray
def wsh0 : Wsh := ⟨false, false, ByteArray.empty⟩
/-- One control's doing. -/
def stepC (b : Bool) (seen : List ByteArray) (c : Ctl) (v : Wsh) : Except Int Wsh :=
  if seen.any (fun t => decide (t = c.oid)) then .error 2
  else if c.oid = manB then (if c.has then .error 2 else if b && c.crit then .error 12 else .ok ⟨!b, v.has, v.prox⟩)
  else if c.oid = proxB then (if !c.crit || !c.has then .error 2 else if b then .error 12 else .ok ⟨v.man, true, c.val⟩)
  else if c.crit then .error 12 else .ok v
def runC (b : Bool) : List ByteArray → List Ctl → Wsh → Wsh × Int
  | _, [], v => (v, 0)
  | seen, c :: l, v => match stepC b seen c v with | .error e => (wsh0, e) | .ok v' => runC b (seen ++ [c.oid]) l v'
def noneK (k : Int) : Bool := k == 0 || k == 2 || k == 16
def CtlSays (w : World) (R : Wsh × Int) (e : Ending) (w' : World) : Prop := e = .returned (.tuple #[.agg #[.bool R.1.man, .bool R.1.has, .string R.1.prox], .int .i64 R.2]) ∧ Ext w w'
theorem none_cases (k : Int) : (k == 0) = true ∧ Hid (noneK k = true) ∨ (k == 0) = false ∧ (k == 2) = true ∧ Hid (noneK k = true) ∨ (k == 0) = false ∧ (k == 2) = false ∧ (k == 16) = true ∧ Hid (noneK k = true) ∨ (k == 0) = false ∧ (k == 2) = false ∧ (k == 16) = false ∧ Hid (noneK k = false) := by
  unfold noneK
  by_cases h0 : (k == 0) = true
  · exact .inl ⟨h0, by show _ = _; rw [h0]; rfl⟩
  · have h0 := Bool.eq_false_iff.2 h0
    by_cases h1 : (k == 2) = true
    · exact .inr (.inl ⟨h0, h1, by show _ = _; rw [h0, h1]; rfl⟩)
    · have h1 := Bool.eq_false_iff.2 h1
      by_cases h2 : (k == 16) = true
      · exact .inr (.inr (.inl ⟨h0, h1, h2, by show _ = _; rw [h0, h1, h2]; rfl⟩))
      · have h2 := Bool.eq_false_iff.2 h2
        exact .inr (.inr (.inr ⟨h0, h1, h2, by show _ = _; rw [h0, h1, h2]; rfl⟩))
theorem lit_ne {s : ByteArray} {a : Array UInt8} (h : ¬ s = ⟨a⟩) : ¬ s.toList = a.toList := fun e => h (ByteArray.ext (Array.ext' (by rw [← ByteArray.toList_eq]; exact e)))
theorem stepC_mk (b : Bool) (seen : List ByteArray) (oid : ByteArray) (crit has : Bool) (val : ByteArray) (v : Wsh) : stepC b seen ⟨oid, crit, has, val⟩ v =
    if seen.any (fun t => decide (t = oid)) then .error 2
    else if oid = manB then (if has then .error 2 else if b && crit then .error 12 else .ok ⟨!b, v.has, v.prox⟩)
    else if oid = proxB then (if !crit || !has then .error 2 else if b then .error 12 else .ok ⟨v.man, true, val⟩)
    else if crit then .error 12 else .ok v := rfl
theorem cell_grown {w w' : World} {g B i : Nat} {cs : Array Value} {T : TypeId} {v : Value} (hg : w.grownBy w' (some B)) (hb : w.heap[g]? = some (.cells cs T (0, 0))) (hne : g ≠ B) (hi : cs[i]? = some v) : w'.cell? ⟨g, i, none⟩ = some v := by
  have hlt : g < w.heap.size := (Array.getElem?_eq_some_iff.1 hb).1
  rw [cell_of_row w' g i cs T (0, 0) ((hg.block g hlt (fun e => hne (by injection e))).trans hb)]
  exact hi
theorem Bx.set012 {w wr : World} {g : Nat} {T : TypeId} {x y z : Value} (h : Bx w wr g T #[x, y, z]) (a b c : Value) : Bx w (((wr.setCell ⟨g, 0, none⟩ a).setCell ⟨g, 1, none⟩ b).setCell ⟨g, 2, none⟩ c) g T #[a, b, c] := ((h.set 0 a).set 1 b).set 2 c
theorem MSet.setCell {w : World} {B n g i : Nat} {l : List ByteArray} (h : MSet w B n l) (hne : g ≠ B) (v : Value) : MSet (w.setCell ⟨g, i, none⟩ v) B n l := by
  obtain ⟨D, ⟨es, clock, hb, F, h4⟩, h2, h3⟩ := h
  exact ⟨D, ⟨es, clock, by rw [heap_setCell_other _ _ _ _ (fun e => hne e.symm)]; exact hb, F, h4⟩, h2, h3⟩
theorem MSet.drew {w : World} {B n : Nat} {l : List ByteArray} (h : MSet w B n l) : MSet w.drew B n l := by
  obtain ⟨D, h1, h2, h3⟩ := h
  exact ⟨D, h1.drew, h2, h3⟩
theorem wsh_error {w0 w : World} {g : Nat} {R : Wsh × Int} {c : Int} (hb : Bx w0 w g 29 #[.bool false, .bool false, .string ByteArray.empty]) (hR : R = (wsh0, c)) : CtlSays w0 R (.returned (.tuple #[.agg #[.bool false, .bool false, .string ByteArray.empty], .int .i64 c])) w := by
  subst hR
  exact ⟨rfl, hb.ext⟩
theorem run_step {b : Bool} {l : List Ctl} {j : Nat} {x : Ctl} {v : Wsh} (hx : l[j]? = some x) {R : Wsh × Int} (h : runC b ((l.take j).map (·.oid)) (l.drop j) v = R) :
    (match stepC b ((l.take j).map (·.oid)) x v with | .error e => (wsh0, e) | .ok v' => runC b ((l.take (j + 1)).map (·.oid)) (l.drop (j + 1)) v') = R := by
  obtain ⟨hj, he⟩ := List.getElem?_eq_some_iff.1 hx
  rw [List.drop_eq_getElem_cons hj, he] at h
  rw [List.take_add_one, hx]
  simpa [runC] using h
set_option maxHeartbeats 4000000 in
theorem controls_any {S : Nat → Prop} {A : Option Addr} {n c : Nat} {l : List Ctl} {w : World} (h : Row Elem.ctl S w A n c l) (kind : Int) (hs : ∀ x ∈ l, x.oid.size ≤ maxLen) :
    Calls Tryz.prog 7 #[.int .i64 kind, .slice A n c] w (CtlSays w (runC (noneK kind) [] l wsh0)) := by
  have HR := hid h
  have HS := hid hs
  have HLN := hid h.len
  have hn : n ≤ 9223372036854775807 := by have := h.cap; have := h.most; simp only [maxLen] at this; omega
  have HNM : Hid (n ≤ maxLen) := Nat.le_trans h.cap h.most
  have hmm := @run_makeMap Tryz.prog
  have HB0 := hid (Bx.make (Ext.refl w) #[.bool false, .bool false, .string ByteArray.empty] 29)
  clear h hs
  obtain ⟨R, HRD⟩ : ∃ R, Hid (runC (noneK kind) [] l wsh0 = R) := ⟨_, rfl⟩
  rw [HRD.out]
  obtain ⟨b, HBN⟩ : ∃ b, Hid (noneK kind = b) := ⟨_, rfl⟩
  have HK0 := none_cases kind
  rw [HBN.out] at HRD HK0
  go_enter Tryz.func7, Tryz.ntmps7
  go_upto_region 1 with fail
  go_cut [6] (fun c wx => c = .bool b ∧ Hid (Bx w wx w.heap.size 29 #[.bool false, .bool false, .string ByteArray.empty]))
  case first =>
    as_aux_lemma =>
      rcases HK0 with ⟨k0, HK⟩ | ⟨k0, k1, HK⟩ | ⟨k0, k1, k2, HK⟩ | ⟨k0, k1, k2, HK⟩
      all_goals
        go_wp2
        go_meet
        exact ⟨by rw [HK.out], HB0⟩
  case' rest =>
    obtain ⟨rfl, HBX⟩ := hcut
    clear HK0 HBN
    cases b
    · go_wp2
      go_loopw [23] (fun i wr => ∃ (j : Nat) (v : Wsh), j ≤ n ∧ i = .int .i64 j ∧ Hid (Bx w wr w.heap.size 29 #[.bool v.man, .bool v.has, .string v.prox]) ∧ Hid (MSet wr wc.heap.size j ((l.take j).map (·.oid))) ∧ Hid (runC false ((l.take j).map (·.oid)) (l.drop j) v = R)) (fun i _ => n - (intOf i).toNat)
      case atStart => exact ⟨0, wsh0, by omega, rfl, HBX.out.later (Ext.alloc _ _), MSet.made wc, HRD⟩
      case round =>
        obtain ⟨j, v, hj, rfl, HB, HM, HRJ⟩ := hrel
        by_cases hlt : j < n
        · obtain ⟨b1, o1, v1, x1, rfl, g1, -, r1, q1⟩ := HR.out.at_ hlt
          obtain ⟨oid, crit, has, val⟩ := x1
          cases r1
          have e10 := cell_later (q1 0 _ rfl) _ HB.out.ext
          have e11 := cell_later (q1 1 _ rfl) _ HB.out.ext
          have e12 := cell_later (q1 2 _ rfl) _ HB.out.ext
          have e13 := cell_later (q1 3 _ rfl) _ HB.out.ext
          simp only [Elem.ctl, Nat.add_zero] at e10 e11 e12 e13
          clear q1
          have Hg := hid g1
          have HSZ : Hid (oid.size ≤ maxLen) := HS.out _ (List.mem_of_getElem? g1)
          have HTK : Hid ((l.take (j + 1)).map (·.oid) = (l.take j).map (·.oid) ++ [oid]) := by show _ = _; rw [List.take_add_one, g1]; simp
          clear g1
          have HST := hid (run_step Hg.out HRJ.out)
          have HSE := hid (stepC_mk false ((l.take j).map (·.oid)) oid crit has val v)
          have HNE : Hid (wr.heap.size ≠ wc.heap.size) := by have := HM.out.lt; show _ ≠ _; omega
          have HNG : Hid (some wc.heap.size ≠ some w.heap.size) := by have := HBX.out.lt; show _ ≠ _; intro e; injection e with e; omega
          have HNB : Hid (w.heap.size ≤ wc.heap.size) := by have := HBX.out.lt; show _ ≤ _; omega
          have HNB2 : Hid (w.heap.size ≠ wc.heap.size) := by have := HBX.out.lt; show _ ≠ _; omega
          have HM1 := hid (HM.out.kept (World.grownBy_alloc wr (.cells #[.string oid, .bool crit, .bool has, .string val] 27) none) (by simp))
          have HC9 := hid (heap_alloc_new wr (.cells #[.string oid, .bool crit, .bool has, .string val] 27))
          have HB1 := HB.out.later (Ext.alloc wr (.cells #[.string oid, .bool crit, .bool has, .string val] 27))
          have HSZB : Hid (w.heap.size ≤ (wr.alloc (.cells #[.string oid, .bool crit, .bool has, .string val] 27)).heap.size) := ext_sz HB1.ext
          have r0 := HB1.cell (i := 0) rfl
          have r1 := HB1.cell (i := 1) rfl
          have r2 := HB1.cell (i := 2) rfl
          have f0 := HB1.frozen 0
          have f1 := HB1.frozen 1
          have f2 := HB1.frozen 2
          have HB2 := hid HB1
          clear HB1
          cases hsn : (((l.take j).map (·.oid)).any (fun t => decide (t = oid))) with
          | true =>
            have HSN := hid hsn
            clear hsn
            have HSTEP := hid (HSE.out.trans (show _ = (Except.error 2 : Except Int Wsh) by (rw [if_pos HSN.out])))
            have HF : Hid (R = (wsh0, 2)) := by show _ = _; rw [← HST.out, HSTEP.out]
            go_wp2_with (at_lookup; refine mset_look rfl _ _ rfl HM1.out rfl _ HSZ.out rfl ?_; rw [HSN.out])
            (try simp only [Exit.inBlock, Exit.then])
            refine ret_cell_tmp _ rfl rfl (HB2.out.set012 _ _ _) Tryz.underlying29 rfl (by kernel_rfl) rfl ?_
            exact wsh_error (HB2.out.set012 _ _ _) HF.out
          | false =>
            have HSN := hid hsn
            have HSE2 := HSE.out
            rw [hsn, if_neg (by simp)] at HSE2
            have HSE := hid HSE2
            clear hsn HSE2
            by_cases hm : oid = manB
            · have HM9 := hid hm
              unfold manB at hm
              subst hm
              cases has with
              | true =>
                have HSTEP := hid (HSE.out.trans (show _ = (Except.error 2 : Except Int Wsh) by (rw [if_pos HM9.out]; rfl)))
                have HF : Hid (R = (wsh0, 2)) := by show _ = _; rw [← HST.out, HSTEP.out]
                go_wp2_with (at_lookup; refine mset_look rfl _ _ rfl HM1.out rfl _ HSZ.out rfl ?_; rw [HSN.out])
                (try simp only [Exit.inBlock, Exit.then])
                refine ret_cell_tmp _ rfl rfl (HB2.out.set012 _ _ _) Tryz.underlying29 rfl (by kernel_rfl) rfl ?_
                exact wsh_error (HB2.out.set012 _ _ _) HF.out
              | false =>
                cases crit with
                | true =>
                  have HSTEP := hid (HSE.out.trans (show _ = (Except.ok ⟨true, v.has, v.prox⟩ : Except Int Wsh) by (rw [if_pos HM9.out]; rfl)))
                  have HRN0 := HST.out
                  rw [HSTEP.out] at HRN0
                  have HRN := hid HRN0
                  clear HRN0
                  go_wp2_with (first
                    | (at_lookup; refine mset_look rfl _ _ rfl HM1.out rfl _ HSZ.out rfl ?_; rw [HSN.out])
                    | (at_mapUpdate; refine mset_put rfl _ _ _ rfl HM1.out (by have := HNM.out; omega) rfl _ HSZ.out rfl rfl ?_; intro w2 hm2 hg2; have c0 := cell_grown hg2 HC9.out HNE.out (i := 0) rfl; have c3 := cell_grown hg2 HC9.out HNE.out (i := 3) rfl; have HB4 := HB2.out.grown hg2 HNG.out (below_stored hg2 HSZB.out HNB.out); have q0 := HB4.cell (i := 0) rfl; have q1 := HB4.cell (i := 1) rfl; have q2 := HB4.cell (i := 2) rfl; have p0 := HB4.frozen 0; have p1 := HB4.frozen 1; have p2 := HB4.frozen 2; have HB3 := hid HB4; have HM2 := hid hm2; clear hm2 hg2 HB4))
                  exact ⟨⟨j + 1, ⟨true, v.has, v.prox⟩, by omega, by go_num, HB3.out.set 0 _, by rw [HTK.out]; exact HM2.out.setCell HNB2.out _, HRN⟩, by simp [intOf]; omega⟩
                | false =>
                  have HSTEP := hid (HSE.out.trans (show _ = (Except.ok ⟨true, v.has, v.prox⟩ : Except Int Wsh) by (rw [if_pos HM9.out]; rfl)))
                  have HRN0 := HST.out
                  rw [HSTEP.out] at HRN0
                  have HRN := hid HRN0
                  clear HRN0
                  go_wp2_with (first
                    | (at_lookup; refine mset_look rfl _ _ rfl HM1.out rfl _ HSZ.out rfl ?_; rw [HSN.out])
                    | (at_mapUpdate; refine mset_put rfl _ _ _ rfl HM1.out (by have := HNM.out; omega) rfl _ HSZ.out rfl rfl ?_; intro w2 hm2 hg2; have c0 := cell_grown hg2 HC9.out HNE.out (i := 0) rfl; have c3 := cell_grown hg2 HC9.out HNE.out (i := 3) rfl; have HB4 := HB2.out.grown hg2 HNG.out (below_stored hg2 HSZB.out HNB.out); have q0 := HB4.cell (i := 0) rfl; have q1 := HB4.cell (i := 1) rfl; have q2 := HB4.cell (i := 2) rfl; have p0 := HB4.frozen 0; have p1 := HB4.frozen 1; have p2 := HB4.frozen 2; have HB3 := hid HB4; have HM2 := hid hm2; clear hm2 hg2 HB4))
                  exact ⟨⟨j + 1, ⟨true, v.has, v.prox⟩, by omega, by go_num, HB3.out.set 0 _, by rw [HTK.out]; exact HM2.out.setCell HNB2.out _, HRN⟩, by simp [intOf]; omega⟩
            · have HNM9 := hid hm
              unfold manB at hm
              have s1 : ¬ oid.toList = [50, 46, 49, 54, 46, 56, 52, 48, 46, 49, 46, 49, 49, 51, 55, 51, 48, 46, 51, 46, 52, 46, 50] := lit_ne hm
              have s1b := beq_eq_false_iff_ne.2 s1
              by_cases hp : oid = proxB
              · have HP9 := hid hp
                unfold proxB at hp
                subst hp
                clear s1 s1b hm
                cases crit with
                | false =>
                  have HSTEP := hid (HSE.out.trans (show _ = (Except.error 2 : Except Int Wsh) by (rw [if_neg HNM9.out, if_pos HP9.out]; rfl)))
                  have HF : Hid (R = (wsh0, 2)) := by show _ = _; rw [← HST.out, HSTEP.out]
                  go_wp2_with (at_lookup; refine mset_look rfl _ _ rfl HM1.out rfl _ HSZ.out rfl ?_; rw [HSN.out])
                  (try simp only [Exit.inBlock, Exit.then])
                  refine ret_cell_tmp _ rfl rfl (HB2.out.set012 _ _ _) Tryz.underlying29 rfl (by kernel_rfl) rfl ?_
                  exact wsh_error (HB2.out.set012 _ _ _) HF.out
                | true =>
                  cases has with
                  | false =>
                    have HSTEP := hid (HSE.out.trans (show _ = (Except.error 2 : Except Int Wsh) by (rw [if_neg HNM9.out, if_pos HP9.out]; rfl)))
                    have HF : Hid (R = (wsh0, 2)) := by show _ = _; rw [← HST.out, HSTEP.out]
                    go_wp2_with (at_lookup; refine mset_look rfl _ _ rfl HM1.out rfl _ HSZ.out rfl ?_; rw [HSN.out])
                    (try simp only [Exit.inBlock, Exit.then])
                    refine ret_cell_tmp _ rfl rfl (HB2.out.set012 _ _ _) Tryz.underlying29 rfl (by kernel_rfl) rfl ?_
                    exact wsh_error (HB2.out.set012 _ _ _) HF.out
                  | true =>
                    have HSTEP := hid (HSE.out.trans (show _ = (Except.ok ⟨v.man, true, val⟩ : Except Int Wsh) by (rw [if_neg HNM9.out, if_pos HP9.out]; rfl)))
                    have HRN0 := HST.out
                    rw [HSTEP.out] at HRN0
                    have HRN := hid HRN0
                    clear HRN0
                    go_wp2_with (first
                      | (at_lookup; refine mset_look rfl _ _ rfl HM1.out rfl _ HSZ.out rfl ?_; rw [HSN.out])
                      | (at_mapUpdate; refine mset_put rfl _ _ _ rfl HM1.out (by have := HNM.out; omega) rfl _ HSZ.out rfl rfl ?_; intro w2 hm2 hg2; have c0 := cell_grown hg2 HC9.out HNE.out (i := 0) rfl; have c3 := cell_grown hg2 HC9.out HNE.out (i := 3) rfl; have HB4 := HB2.out.grown hg2 HNG.out (below_stored hg2 HSZB.out HNB.out); have q0 := HB4.cell (i := 0) rfl; have q1 := HB4.cell (i := 1) rfl; have q2 := HB4.cell (i := 2) rfl; have p0 := HB4.frozen 0; have p1 := HB4.frozen 1; have p2 := HB4.frozen 2; have HB3 := hid HB4; have HM2 := hid hm2; clear hm2 hg2 HB4))
                    go_region
                    go_wp2
                    exact ⟨⟨j + 1, ⟨v.man, true, val⟩, by omega, by go_num, ((HB3.out.set 1 _).set 2 _).later (Ext.drew _), by rw [HTK.out]; exact ((HM2.out.setCell HNB2.out _).setCell HNB2.out _).drew, HRN⟩, by simp [intOf]; omega⟩
              · have HNP9 := hid hp
                unfold proxB at hp
                have s2 : ¬ oid.toList = [50, 46, 49, 54, 46, 56, 52, 48, 46, 49, 46, 49, 49, 51, 55, 51, 48, 46, 51, 46, 52, 46, 49, 56] := lit_ne hp
                have s2b := beq_eq_false_iff_ne.2 s2
                clear hm hp
                cases crit with
                | true =>
                  have HSTEP := hid (HSE.out.trans (show _ = (Except.error 12 : Except Int Wsh) by (rw [if_neg HNM9.out, if_neg HNP9.out]; rfl)))
                  have HF : Hid (R = (wsh0, 12)) := by show _ = _; rw [← HST.out, HSTEP.out]
                  go_wp2_with (at_lookup; refine mset_look rfl _ _ rfl HM1.out rfl _ HSZ.out rfl ?_; rw [HSN.out])
                  (try simp only [Exit.inBlock, Exit.then])
                  refine ret_cell_tmp _ rfl rfl (HB2.out.set012 _ _ _) Tryz.underlying29 rfl (by kernel_rfl) rfl ?_
                  exact wsh_error (HB2.out.set012 _ _ _) HF.out
                | false =>
                  have HSTEP := hid (HSE.out.trans (show _ = (Except.ok v : Except Int Wsh) by (rw [if_neg HNM9.out, if_neg HNP9.out]; rfl)))
                  have HRN0 := HST.out
                  rw [HSTEP.out] at HRN0
                  have HRN := hid HRN0
                  clear HRN0
                  go_wp2_with (first
                    | (at_lookup; refine mset_look rfl _ _ rfl HM1.out rfl _ HSZ.out rfl ?_; rw [HSN.out])
                    | (at_mapUpdate; refine mset_put rfl _ _ _ rfl HM1.out (by have := HNM.out; omega) rfl _ HSZ.out rfl rfl ?_; intro w2 hm2 hg2; have c0 := cell_grown hg2 HC9.out HNE.out (i := 0) rfl; have c3 := cell_grown hg2 HC9.out HNE.out (i := 3) rfl; have HB4 := HB2.out.grown hg2 HNG.out (below_stored hg2 HSZB.out HNB.out); have q0 := HB4.cell (i := 0) rfl; have q1 := HB4.cell (i := 1) rfl; have q2 := HB4.cell (i := 2) rfl; have p0 := HB4.frozen 0; have p1 := HB4.frozen 1; have p2 := HB4.frozen 2; have HB3 := hid HB4; have HM2 := hid hm2; clear hm2 hg2 HB4))
                  exact ⟨⟨j + 1, v, by omega, by go_num, HB3, by rw [HTK.out]; exact HM2, HRN⟩, by simp [intOf]; omega⟩
        · obtain rfl : j = n := by omega
          have HF : Hid (R = (v, 0)) := by
            show _ = _
            have := HRJ.out
            rw [List.drop_eq_nil_of_le (Nat.le_of_eq HLN.out.symm)] at this
            exact this.symm
          have r0 := HB.out.cell (i := 0) rfl
          have r1 := HB.out.cell (i := 1) rfl
          have r2 := HB.out.cell (i := 2) rfl
          have f0 := HB.out.frozen 0
          have f1 := HB.out.frozen 1
          have f2 := HB.out.frozen 2
          go_wp2
          (try simp only [Exit.inBlock, Exit.then])
          refine ret_cell_tmp _ rfl rfl (HB.out.set012 _ _ _) Tryz.underlying29 rfl (by kernel_rfl) rfl ?_
          rw [HF.out]
          exact ⟨rfl, (HB.out.set012 _ _ _).ext⟩
    · go_wp2
      go_loopw [23] (fun i wr => ∃ (j : Nat) (v : Wsh), j ≤ n ∧ i = .int .i64 j ∧ Hid (Bx w wr w.heap.size 29 #[.bool v.man, .bool v.has, .string v.prox]) ∧ Hid (MSet wr wc.heap.size j ((l.take j).map (·.oid))) ∧ Hid (runC true ((l.take j).map (·.oid)) (l.drop j) v = R)) (fun i _ => n - (intOf i).toNat)
      case atStart => exact ⟨0, wsh0, by omega, rfl, HBX.out.later (Ext.alloc _ _), MSet.made wc, HRD⟩
      case round =>
        obtain ⟨j, v, hj, rfl, HB, HM, HRJ⟩ := hrel
        by_cases hlt : j < n
        · obtain ⟨b1, o1, v1, x1, rfl, g1, -, r1, q1⟩ := HR.out.at_ hlt
          obtain ⟨oid, crit, has, val⟩ := x1
          cases r1
          have e10 := cell_later (q1 0 _ rfl) _ HB.out.ext
          have e11 := cell_later (q1 1 _ rfl) _ HB.out.ext
          have e12 := cell_later (q1 2 _ rfl) _ HB.out.ext
          have e13 := cell_later (q1 3 _ rfl) _ HB.out.ext
          simp only [Elem.ctl, Nat.add_zero] at e10 e11 e12 e13
          clear q1
          have Hg := hid g1
          have HSZ : Hid (oid.size ≤ maxLen) := HS.out _ (List.mem_of_getElem? g1)
          have HTK : Hid ((l.take (j + 1)).map (·.oid) = (l.take j).map (·.oid) ++ [oid]) := by show _ = _; rw [List.take_add_one, g1]; simp
          clear g1
          have HST := hid (run_step Hg.out HRJ.out)
          have HSE := hid (stepC_mk true ((l.take j).map (·.oid)) oid crit has val v)
          have HNE : Hid (wr.heap.size ≠ wc.heap.size) := by have := HM.out.lt; show _ ≠ _; omega
          have HNG : Hid (some wc.heap.size ≠ some w.heap.size) := by have := HBX.out.lt; show _ ≠ _; intro e; injection e with e; omega
          have HNB : Hid (w.heap.size ≤ wc.heap.size) := by have := HBX.out.lt; show _ ≤ _; omega
          have HNB2 : Hid (w.heap.size ≠ wc.heap.size) := by have := HBX.out.lt; show _ ≠ _; omega
          have HM1 := hid (HM.out.kept (World.grownBy_alloc wr (.cells #[.string oid, .bool crit, .bool has, .string val] 27) none) (by simp))
          have HC9 := hid (heap_alloc_new wr (.cells #[.string oid, .bool crit, .bool has, .string val] 27))
          have HB1 := HB.out.later (Ext.alloc wr (.cells #[.string oid, .bool crit, .bool has, .string val] 27))
          have HSZB : Hid (w.heap.size ≤ (wr.alloc (.cells #[.string oid, .bool crit, .bool has, .string val] 27)).heap.size) := ext_sz HB1.ext
          have r0 := HB1.cell (i := 0) rfl
          have r1 := HB1.cell (i := 1) rfl
          have r2 := HB1.cell (i := 2) rfl
          have f0 := HB1.frozen 0
          have f1 := HB1.frozen 1
          have f2 := HB1.frozen 2
          have HB2 := hid HB1
          clear HB1
          cases hsn : (((l.take j).map (·.oid)).any (fun t => decide (t = oid))) with
          | true =>
            have HSN := hid hsn
            clear hsn
            have HSTEP := hid (HSE.out.trans (show _ = (Except.error 2 : Except Int Wsh) by (rw [if_pos HSN.out])))
            have HF : Hid (R = (wsh0, 2)) := by show _ = _; rw [← HST.out, HSTEP.out]
            go_wp2_with (at_lookup; refine mset_look rfl _ _ rfl HM1.out rfl _ HSZ.out rfl ?_; rw [HSN.out])
            (try simp only [Exit.inBlock, Exit.then])
            refine ret_cell_tmp _ rfl rfl (HB2.out.set012 _ _ _) Tryz.underlying29 rfl (by kernel_rfl) rfl ?_
            exact wsh_error (HB2.out.set012 _ _ _) HF.out
          | false =>
            have HSN := hid hsn
            have HSE2 := HSE.out
            rw [hsn, if_neg (by simp)] at HSE2
            have HSE := hid HSE2
            clear hsn HSE2
            by_cases hm : oid = manB
            · have HM9 := hid hm
              unfold manB at hm
              subst hm
              cases has with
              | true =>
                have HSTEP := hid (HSE.out.trans (show _ = (Except.error 2 : Except Int Wsh) by (rw [if_pos HM9.out]; rfl)))
                have HF : Hid (R = (wsh0, 2)) := by show _ = _; rw [← HST.out, HSTEP.out]
                go_wp2_with (at_lookup; refine mset_look rfl _ _ rfl HM1.out rfl _ HSZ.out rfl ?_; rw [HSN.out])
                (try simp only [Exit.inBlock, Exit.then])
                refine ret_cell_tmp _ rfl rfl (HB2.out.set012 _ _ _) Tryz.underlying29 rfl (by kernel_rfl) rfl ?_
                exact wsh_error (HB2.out.set012 _ _ _) HF.out
              | false =>
                cases crit with
                | true =>
                  have HSTEP := hid (HSE.out.trans (show _ = (Except.error 12 : Except Int Wsh) by (rw [if_pos HM9.out]; rfl)))
                  have HF : Hid (R = (wsh0, 12)) := by show _ = _; rw [← HST.out, HSTEP.out]
                  go_wp2_with (at_lookup; refine mset_look rfl _ _ rfl HM1.out rfl _ HSZ.out rfl ?_; rw [HSN.out])
                  (try simp only [Exit.inBlock, Exit.then])
                  refine ret_cell_tmp _ rfl rfl (HB2.out.set012 _ _ _) Tryz.underlying29 rfl (by kernel_rfl) rfl ?_
                  exact wsh_error (HB2.out.set012 _ _ _) HF.out
                | false =>
                  have HSTEP := hid (HSE.out.trans (show _ = (Except.ok ⟨false, v.has, v.prox⟩ : Except Int Wsh) by (rw [if_pos HM9.out]; rfl)))
                  have HRN0 := HST.out
                  rw [HSTEP.out] at HRN0
                  have HRN := hid HRN0
                  clear HRN0
                  go_wp2_with (first
                    | (at_lookup; refine mset_look rfl _ _ rfl HM1.out rfl _ HSZ.out rfl ?_; rw [HSN.out])
                    | (at_mapUpdate; refine mset_put rfl _ _ _ rfl HM1.out (by have := HNM.out; omega) rfl _ HSZ.out rfl rfl ?_; intro w2 hm2 hg2; have c0 := cell_grown hg2 HC9.out HNE.out (i := 0) rfl; have c3 := cell_grown hg2 HC9.out HNE.out (i := 3) rfl; have HB4 := HB2.out.grown hg2 HNG.out (below_stored hg2 HSZB.out HNB.out); have q0 := HB4.cell (i := 0) rfl; have q1 := HB4.cell (i := 1) rfl; have q2 := HB4.cell (i := 2) rfl; have p0 := HB4.frozen 0; have p1 := HB4.frozen 1; have p2 := HB4.frozen 2; have HB3 := hid HB4; have HM2 := hid hm2; clear hm2 hg2 HB4))
                  exact ⟨⟨j + 1, ⟨false, v.has, v.prox⟩, by omega, by go_num, HB3.out.set 0 _, by rw [HTK.out]; exact HM2.out.setCell HNB2.out _, HRN⟩, by simp [intOf]; omega⟩
            · have HNM9 := hid hm
              unfold manB at hm
              have s1 : ¬ oid.toList = [50, 46, 49, 54, 46, 56, 52, 48, 46, 49, 46, 49, 49, 51, 55, 51, 48, 46, 51, 46, 52, 46, 50] := lit_ne hm
              have s1b := beq_eq_false_iff_ne.2 s1
              by_cases hp : oid = proxB
              · have HP9 := hid hp
                unfold proxB at hp
                subst hp
                clear s1 s1b hm
                cases crit with
                | false =>
                  have HSTEP := hid (HSE.out.trans (show _ = (Except.error 2 : Except Int Wsh) by (rw [if_neg HNM9.out, if_pos HP9.out]; rfl)))
                  have HF : Hid (R = (wsh0, 2)) := by show _ = _; rw [← HST.out, HSTEP.out]
                  go_wp2_with (at_lookup; refine mset_look rfl _ _ rfl HM1.out rfl _ HSZ.out rfl ?_; rw [HSN.out])
                  (try simp only [Exit.inBlock, Exit.then])
                  refine ret_cell_tmp _ rfl rfl (HB2.out.set012 _ _ _) Tryz.underlying29 rfl (by kernel_rfl) rfl ?_
                  exact wsh_error (HB2.out.set012 _ _ _) HF.out
                | true =>
                  cases has with
                  | false =>
                    have HSTEP := hid (HSE.out.trans (show _ = (Except.error 2 : Except Int Wsh) by (rw [if_neg HNM9.out, if_pos HP9.out]; rfl)))
                    have HF : Hid (R = (wsh0, 2)) := by show _ = _; rw [← HST.out, HSTEP.out]
                    go_wp2_with (at_lookup; refine mset_look rfl _ _ rfl HM1.out rfl _ HSZ.out rfl ?_; rw [HSN.out])
                    (try simp only [Exit.inBlock, Exit.then])
                    refine ret_cell_tmp _ rfl rfl (HB2.out.set012 _ _ _) Tryz.underlying29 rfl (by kernel_rfl) rfl ?_
                    exact wsh_error (HB2.out.set012 _ _ _) HF.out
                  | true =>
                    have HSTEP := hid (HSE.out.trans (show _ = (Except.error 12 : Except Int Wsh) by (rw [if_neg HNM9.out, if_pos HP9.out]; rfl)))
                    have HF : Hid (R = (wsh0, 12)) := by show _ = _; rw [← HST.out, HSTEP.out]
                    go_wp2_with (at_lookup; refine mset_look rfl _ _ rfl HM1.out rfl _ HSZ.out rfl ?_; rw [HSN.out])
                    (try simp only [Exit.inBlock, Exit.then])
                    refine ret_cell_tmp _ rfl rfl (HB2.out.set012 _ _ _) Tryz.underlying29 rfl (by kernel_rfl) rfl ?_
                    exact wsh_error (HB2.out.set012 _ _ _) HF.out
              · have HNP9 := hid hp
                unfold proxB at hp
                have s2 : ¬ oid.toList = [50, 46, 49, 54, 46, 56, 52, 48, 46, 49, 46, 49, 49, 51, 55, 51, 48, 46, 51, 46, 52, 46, 49, 56] := lit_ne hp
                have s2b := beq_eq_false_iff_ne.2 s2
                clear hm hp
                cases crit with
                | true =>
                  have HSTEP := hid (HSE.out.trans (show _ = (Except.error 12 : Except Int Wsh) by (rw [if_neg HNM9.out, if_neg HNP9.out]; rfl)))
                  have HF : Hid (R = (wsh0, 12)) := by show _ = _; rw [← HST.out, HSTEP.out]
                  go_wp2_with (at_lookup; refine mset_look rfl _ _ rfl HM1.out rfl _ HSZ.out rfl ?_; rw [HSN.out])
                  (try simp only [Exit.inBlock, Exit.then])
                  refine ret_cell_tmp _ rfl rfl (HB2.out.set012 _ _ _) Tryz.underlying29 rfl (by kernel_rfl) rfl ?_
                  exact wsh_error (HB2.out.set012 _ _ _) HF.out
                | false =>
                  have HSTEP := hid (HSE.out.trans (show _ = (Except.ok v : Except Int Wsh) by (rw [if_neg HNM9.out, if_neg HNP9.out]; rfl)))
                  have HRN0 := HST.out
                  rw [HSTEP.out] at HRN0
                  have HRN := hid HRN0
                  clear HRN0
                  go_wp2_with (first
                    | (at_lookup; refine mset_look rfl _ _ rfl HM1.out rfl _ HSZ.out rfl ?_; rw [HSN.out])
                    | (at_mapUpdate; refine mset_put rfl _ _ _ rfl HM1.out (by have := HNM.out; omega) rfl _ HSZ.out rfl rfl ?_; intro w2 hm2 hg2; have c0 := cell_grown hg2 HC9.out HNE.out (i := 0) rfl; have c3 := cell_grown hg2 HC9.out HNE.out (i := 3) rfl; have HB4 := HB2.out.grown hg2 HNG.out (below_stored hg2 HSZB.out HNB.out); have q0 := HB4.cell (i := 0) rfl; have q1 := HB4.cell (i := 1) rfl; have q2 := HB4.cell (i := 2) rfl; have p0 := HB4.frozen 0; have p1 := HB4.frozen 1; have p2 := HB4.frozen 2; have HB3 := hid HB4; have HM2 := hid hm2; clear hm2 hg2 HB4))
                  exact ⟨⟨j + 1, v, by omega, by go_num, HB3, by rw [HTK.out]; exact HM2, HRN⟩, by simp [intOf]; omega⟩
        · obtain rfl : j = n := by omega
          have HF : Hid (R = (v, 0)) := by
            show _ = _
            have := HRJ.out
            rw [List.drop_eq_nil_of_le (Nat.le_of_eq HLN.out.symm)] at this
            exact this.symm
          have r0 := HB.out.cell (i := 0) rfl
          have r1 := HB.out.cell (i := 1) rfl
          have r2 := HB.out.cell (i := 2) rfl
          have f0 := HB.out.frozen 0
          have f1 := HB.out.frozen 1
          have f2 := HB.out.frozen 2
          go_wp2
          (try simp only [Exit.inBlock, Exit.then])
          refine ret_cell_tmp _ rfl rfl (HB.out.set012 _ _ _) Tryz.underlying29 rfl (by kernel_rfl) rfl ?_
          rw [HF.out]
          exact ⟨rfl, (HB.out.set012 _ _ _).ext⟩
end Go.Proofs.YtkafonmpmgjcpaaGreatDoor
