import Derived.Test.YtencmdpjiafnaaaGreatDoorZ29
import Derived.Test.YtencmdpjiafnaaaGreatDoorZ19
/- The walks of the reference's pair and ParsePart. -/
namespace Go.Proofs.YtencmdpjiafnaaaGreatDoor
open Go.RowKit
set_option maxRecDepth 100000
set_option linter.unusedSimpArgs false
set_option linter.unusedVariables false

def PairSays (w : World) (p : List UInt8) (e : Ending) (w' : World) : Prop :=
  ∃ x : Ava, e = .returned (.tuple #[avaV x, .bool (avaB p).isSome]) ∧ (∀ y, avaB p = some y → x = y) ∧ Ext w w'
theorem cutEq_step {p : List UInt8} {j : Nat} {x : UInt8} (h : p[j]? = some x) (hne : x ≠ 61) : cutEq (p.drop j) = (cutEq (p.drop (j + 1))).map fun q => (x :: q.1, q.2) := by
  obtain ⟨h1, h2⟩ := List.getElem?_eq_some_iff.1 h
  rw [List.drop_eq_getElem_cons h1, h2, cutEq, if_neg hne]
/-- The place of the first '=' so far: none of those ahead is one. -/
theorem cutEq_at {p : List UInt8} {j : Nat} (hn : ∀ i, i < j → p[i]? ≠ some 61) (h : p[j]? = some 61) : cutEq p = some (p.take j, p.drop (j + 1)) := by
  have h1 : p = p.take j ++ 61 :: p.drop (j + 1) := by
    obtain ⟨h1, h2⟩ := List.getElem?_eq_some_iff.1 h
    have := List.take_append_drop j p
    rw [List.drop_eq_getElem_cons h1, h2] at this
    exact this.symm
  have h2 : (61 : UInt8) ∉ p.take j := by
    intro hm
    obtain ⟨i, hi, he⟩ := List.mem_iff_getElem.1 hm
    rw [List.length_take] at hi
    refine hn i (by omega) ?_
    rw [List.getElem_take] at he
    rw [List.getElem?_eq_getElem (by omega), he]
  conv => lhs; rw [h1]
  exact cutEq_hit _ _ h2
theorem cutEq_not {p : List UInt8} (hn : ∀ i, i < p.length → p[i]? ≠ some 61) : cutEq p = none := by
  refine cutEq_none p fun hm => ?_
  obtain ⟨i, hi, he⟩ := List.mem_iff_getElem.1 hm
  exact hn i hi (by rw [List.getElem?_eq_getElem hi, he])
set_option maxHeartbeats 2000000 in
theorem pair_any (s : ByteArray) (w : World) (hs : s.size ≤ 1000000) :
    Calls Tryz.prog 146 #[.string s] w (PairSays w (bys s)) := by
  have Hs := hid hs
  go_enter Tryz.func146, Tryz.ntmps146
  go_wp2
  go_loop [4] (fun i => ∃ j : Nat, j ≤ s.size ∧ i = .int .i64 j ∧ Hid (∀ i, i < j → (bys s)[i]? ≠ some 61)) (fun i => s.size - (intOf i).toNat)
  case atStart => exact ⟨0, by omega, rfl, fun i hi => by omega⟩
  case round =>
    obtain ⟨j, hj, rfl, HN⟩ := hrel
    by_cases hlt : j < s.size
    · have hlt' : (j : Int) < (s.size : Int) := by omega
      obtain ⟨x, hx⟩ := at_some hlt
      have gx := bys_get hx hlt
      by_cases h61 : x = 61
      · have t1 : ((x.toNat : Int) != 61) = false := by rw [h61]; rfl
        have HC : Hid (cutEq (bys s) = some ((bys s).take j, (bys s).drop (j + 1))) := cutEq_at HN.out (by rw [hx, h61])
        have tj : ((j : Int) == (s.size : Int)) = false := by rw [beq_eq_false_iff_ne]; omega
        obtain ⟨a, ha⟩ : ∃ a, a = (bys s).take j := ⟨_, rfl⟩
        obtain ⟨r, hr⟩ : ∃ r, r = (bys s).drop (j + 1) := ⟨_, rfl⟩
        have hs1 : s.extract 0 j = str a := by rw [ha, ← str_bys (s.extract 0 j), bys_ext]; rfl
        have hs2 : s.extract (j + 1) s.size = str r := by rw [hr, ← str_bys (s.extract (j + 1) s.size), ext_drop]
        have hal : a.length ≤ 1000000 := by rw [ha, List.length_take, bys_len]; omega
        have hrl : r.length ≤ 1000000 := by rw [hr, List.length_drop, bys_len]; omega
        have z1 : ((j : Int) + 1).toNat = j + 1 := by omega
        have z2 : (j : Int) + 1 ≤ (s.size : Int) := by omega
        have z3 : (j : Int) ≤ (s.size : Int) := by omega
        rw [← ha, ← hr] at HC
        have HAV : Hid (avaB (bys s) = if (typeB a).2 = 0 then none else (valueB r).map fun v => ⟨(typeB a).1, v⟩) := by show _ = _; unfold avaB; rw [HC.out]
        have HT : ∀ w, Calls Tryz.prog 111 #[.string (str a)] w (TypeSays w a) := fun w => by
          have := rtype_any (str a) w (by rw [str_size]; simp only [maxLen]; omega)
          rwa [bys_str] at this
        have HV : ∀ w, Calls Tryz.prog 185 #[.string (str r)] w (ValSays w (valueB r)) := fun w => by
          have := read_any (str r) w (by rw [str_size]; omega)
          rwa [bys_str] at this
        unfold TypeSays at HT
        unfold ValSays at HV
        generalize typeB a = tk at *
        obtain ⟨t, k⟩ := tk
        generalize valueB r = vo at *
        simp only at HT HAV
        have tk0 : ((k : Int) != 0) = !decide (k = 0) := by
          by_cases h : k = 0
          · simp [h]
          · rw [decide_eq_false h]; rw [bne_iff_ne.2 (by omega)]; rfl
        have HRES : Hid (∃ x : Ava, x = ⟨t, vo.getD []⟩ ∧ ((vo.isSome && !decide (k = 0)) = (avaB (bys s)).isSome) ∧ ∀ y, avaB (bys s) = some y → x = y) := by
          refine ⟨_, rfl, ?_, ?_⟩
          · rw [HAV.out]
            by_cases h : k = 0
            · simp [h]
            · cases vo <;> simp [h]
          · intro y hy
            rw [HAV.out] at hy
            by_cases h : k = 0
            · rw [if_pos h] at hy; cases hy
            · rw [if_neg h] at hy
              cases vo with
              | none => cases hy
              | some v => cases hy; rfl
        clear hx h61 ha hr HC HAV HN
        cases hv : vo.isSome
        all_goals
          rw [hv] at HRES
          have HRS := hid (HRES.out)
          go_wp2_with (first
            | (go_at_call 111; (with_reducible refine (HT _).mono ?_); rintro e w3 ⟨rfl, hx3⟩; have HX3 := hid hx3; clear hx3)
            | (go_at_call 185; (with_reducible refine (HV _).mono ?_); rintro e w4 ⟨he4, hx4⟩; rw [hv] at he4; subst he4; have HB := (Bx.make (Ext.refl w) #[.string ByteArray.empty, .string ByteArray.empty] 153).later (HX3.out.trans hx4); have c0 := HB.cell (i := 0) rfl; have c1 := HB.cell (i := 1) rfl; have f0 := HB.frozen 0; have f1 := HB.frozen 1; have HBX := hid HB; clear hx4 HB))
          (try simp only [Exit.inBlock, Exit.then])
          refine ret_cell_tmp _ rfl rfl ((HBX.out.set0 (.string (str t))).set1 (.string (str (vo.getD [])))) Tryz.underlying153 rfl (by kernel_rfl) rfl ?_
          obtain ⟨x', rfl, hb, hu⟩ := HRS.out
          refine ⟨_, ?_, hu, ((HBX.out.set0 (.string (str t))).set1 (.string (str (vo.getD [])))).ext⟩
          rw [← hb]
          rfl
      · have t1 : ((x.toNat : Int) != 61) = true := by
          have h : ((x.toNat : Int) == 61) = false := byte_isnt (k := 61) h61
          rw [bne, h]; rfl
        have HN2 : Hid (∀ i, i < j + 1 → (bys s)[i]? ≠ some 61) := by
          intro i hi
          by_cases hij : i = j
          · subst hij; rw [hx]; intro e; injection e with e; exact h61 e
          · exact HN.out i (by omega)
        clear hx h61
        go_wp2
        exact ⟨⟨j + 1, by omega, by go_num, HN2⟩, by simp [intOf]; omega⟩
    · obtain rfl : j = s.size := by omega
      have HF : Hid (avaB (bys s) = none) := by
        show _ = _
        unfold avaB
        rw [cutEq_not (fun i hi => HN.out i (by rw [bys_len] at hi; exact hi))]
      have HBX := hid (Bx.make (Ext.refl w) #[.string ByteArray.empty, .string ByteArray.empty] 153)
      clear HN
      go_wp2
      (try simp only [Exit.inBlock, Exit.then])
      refine ret_cell_tmp _ rfl rfl HBX.out Tryz.underlying153 rfl (by kernel_rfl) rfl ?_
      refine ⟨⟨[], []⟩, ?_, ?_, HBX.out.ext⟩
      · rw [HF.out]; rfl
      · intro y hy; rw [HF.out] at hy; cases hy
/-! '[l:]', '[:h]' of pairs. -/
theorem elem_ravas : Tryz.prog.underlying 115 = some (.slice (Tryz.prog.elem 115)) := by kernel_rfl
theorem size_rava (w : World) : (sizeOf (Tryz.prog.elem 115)).run Tryz.prog w = .ok 2 w := by kernel_rfl
theorem rslice_l (A : Option Addr) (n c l : Nat) (hlk : l ≤ n) :
    ∀ w, (Instr.sliceAt 115 (.slice A n c) (some (.int .i64 (l : Int))) none none).run Tryz.prog w = .ok (.slice (cutA A l c 2) (n - l) (c - l)) w := fun w => by
  have h1 : (l : Int) ≤ (n : Int) := by omega
  have := run_slice_l (P := Tryz.prog) w 115 A n c elem_ravas .i64 (l : Int) (by omega) h1
  rw [run_sliceAt_slice w 115 _ _ _ _ elem_ravas, this, size_rava]
  simp only [sliced, cutA, Result.andThen, Int.toNat_natCast]
theorem rslice_h (A : Option Addr) (n c k : Nat) (hlk : k ≤ c) :
    ∀ w, (Instr.sliceAt 115 (.slice A n c) none (some (.int .i64 (k : Int))) none).run Tryz.prog w = .ok (.slice (cutA A 0 c 2) k c) w := fun w => by
  have h2 : (k : Int) ≤ (c : Int) := by omega
  have := run_slice_h (P := Tryz.prog) w 115 A n c elem_ravas .i64 (k : Int) (by omega) h2
  rw [run_sliceAt_slice w 115 _ _ _ _ elem_ravas, this, size_rava]
  simp only [sliced, cutA, Result.andThen, Int.toNat_natCast, Nat.sub_zero]
theorem Cells.cut2 {w : World} {A : Option Addr} {vs : List Value} (h : Cells w A vs) {k cap : Nat} (hc : vs.length ≤ cap * 2) : Cells w (cutA A k cap 2) (vs.drop (k * 2)) := by
  unfold cutA
  split
  · subst_vars; exact .inl (List.drop_eq_nil_of_le hc)
  · exact h.drop (k * 2)
theorem flat_drop : ∀ (l : List Ava) (k : Nat), ((l.drop k).map avaCells).flatten = (l.map avaCells).flatten.drop (k * 2)
  | [], k => by simp
  | a :: l, 0 => by simp
  | a :: l, k + 1 => by
    rw [List.drop_succ_cons, flat_drop l k, Nat.succ_mul]
    rfl
theorem flat_take : ∀ (l : List Ava) (k : Nat), ((l.take k).map avaCells).flatten = (l.map avaCells).flatten.take (k * 2)
  | [], k => by simp
  | a :: l, 0 => by simp
  | a :: l, k + 1 => by
    rw [List.take_succ_cons, List.map_cons, List.flatten_cons, flat_take l k, Nat.succ_mul]
    rfl
theorem cells_drop {S : Nat → Prop} {w : World} {A : Option Addr} {n c : Nat} {l : List Ava} (h : Row Elem.ava S w A n c l) (k : Nat) : Cells w (cutA A k c 2) ((l.drop k).map avaCells).flatten := by
  rw [flat_drop]
  exact (row_cells h).cut2 (by rw [avaCells_len, ← h.len]; have := h.cap; omega)
theorem cells_take {S : Nat → Prop} {w : World} {A : Option Addr} {n c : Nat} {l : List Ava} (h : Row Elem.ava S w A n c l) (k : Nat) : Cells w (cutA A 0 c 2) ((l.take k).map avaCells).flatten := by
  rw [flat_take]
  have := ((row_cells h).cut2 (k := 0) (cap := c) (by rw [avaCells_len, ← h.len]; have := h.cap; omega)).take (k * 2)
  simpa using this
theorem insA_at {a : Ava} : ∀ {o : List Ava} {k : Nat}, k ≤ o.length → (∀ i y, i < k → o[i]? = some y → ltB y.type a.type = true) → (∀ y, o[k]? = some y → ltB y.type a.type = false) → insA a o = o.take k ++ a :: o.drop k
  | [], k, h, _, _ => by simp at h; subst h; rfl
  | b :: t, 0, _, _, h2 => by
    have := h2 b rfl
    simp [insA, this]
  | b :: t, k + 1, h, h1, h2 => by
    have hb := h1 0 b (by omega) rfl
    have ih := insA_at (a := a) (o := t) (k := k) (by simpa using h) (fun i y hi hy => h1 (i + 1) y (by omega) (by simpa using hy)) (fun y hy => h2 y (by simpa using hy))
    simp [insA, hb, ih]
theorem sortA_snoc (l : List Ava) (a : Ava) : sortA (l ++ [a]) = insA a (sortA l) := by simp [sortA]
end Go.Proofs.YtencmdpjiafnaaaGreatDoor
/- The walk of the reference's ParsePart. -/
namespace Go.Proofs.YtencmdpjiafnaaaGreatDoor
open Go.RowKit
set_option maxRecDepth 100000
set_option linter.unusedSimpArgs false
set_option linter.unusedVariables false

set_option maxHeartbeats 4000000 in
theorem parsepart_any (s : ByteArray) (w : World) (hG : Gl w) (hs : s.size ≤ 1000000) :
    Calls Tryz.prog 86 #[.string s] w (PartSays w (bys s)) := by
  have HG := hid hG
  have Hs := hid hs
  have HSP : ∀ w, Calls Tryz.prog 145 #[.string s, .int .u8 43] w fun e w' => ∃ v, e = .returned v ∧ GrowS w w' v (strs (splitF 43 [] (bys s))) := fun w => rsplit_any s 43 (by decide) w (by omega)
  have HPL : Hid (∀ p ∈ splitF 43 [] (bys s), p.length ≤ 1000000) := fun p hp => by have := piece_le hp; rw [bys_len] at this; omega
  have HPF : Hid (3 < (splitF 43 [] (bys s)).length → partB (bys s) = none) := part_few _
  have HPB : Hid ((splitF 43 [] (bys s)).mapM avaB = none → partB (bys s) = none) := by intro h; unfold partB; rw [h]
  have HPY : Hid (∀ l, (splitF 43 [] (bys s)).mapM avaB = some l → partB (bys s) = if formedA (sortA l) then some (sortA l) else none) := by intro l h; unfold partB; rw [h]
  clear hG hs
  generalize splitF 43 [] (bys s) = P at *
  by_cases h3 : 3 < P.length
  · have HF := hid (HPF.out h3)
    have h3' : 3 < (P.length : Int) := by omega
    clear h3
    go_enter Tryz.func86, Tryz.ntmps86
    go_wp2_with (go_at_call 145; (with_reducible refine (HSP _).mono ?_); rintro e w1 ⟨v1, rfl, hg1⟩; obtain ⟨A1, c1, rfl, hr1⟩ := hg1.row; have HX1 := hid hg1.ext; clear hg1 hr1)
    go_ret2
    exact ⟨none, 0, 0, by rw [HF.out]; rfl, by rw [HF.out]; exact Row.nil _ _ _, HX1.out⟩
  · have h3' : ¬ 3 < (P.length : Int) := by omega
    go_enter Tryz.func86, Tryz.ntmps86
    go_wp2_with (go_at_call 145; (with_reducible refine (HSP _).mono ?_); rintro e w1 ⟨v1, rfl, hg1⟩; obtain ⟨A1, c1, rfl, hr1⟩ := hg1.row; have HR1 := hid hr1; have HX1 := hid hg1.ext; clear hg1 hr1)
    rw [List.length_map] at HR1
    have hn1 : P.length ≤ 3 := by omega
    clear h3 h3'
    go_loopw [4, 18] (fun v i wr => ∃ (j : Nat) (l0 : List Ava), j ≤ P.length ∧ i = .int .i64 j ∧ Hid (GrowA 153 w1 wr v (sortA l0)) ∧ Hid ((P.take j).mapM avaB = some l0) ∧ Hid (l0.length = j)) (fun _ i _ => P.length - (intOf i).toNat)
    case atStart => exact ⟨0, [], by omega, rfl, GrowA.nil (Ext.refl _), by simp [Hid], rfl⟩
    case round =>
      obtain ⟨j, l0, hj, rfl, HGR, HM, HLN⟩ := hrel
      by_cases hlt : j < P.length
      · have hlt' : (j : Int) < (P.length : Int) := by omega
        obtain ⟨b, o, p, rfl, hp, e1⟩ := strs_row (HR1.out.ext HGR.out.ext) hlt
        have hpl := HPL.out p (List.mem_of_getElem? hp)
        have HPA : ∀ w, Calls Tryz.prog 146 #[.string (str p)] w (PairSays w p) := fun w => by
          have := pair_any (str p) w (by rw [str_size]; omega)
          rwa [bys_str] at this
        unfold PairSays at HPA
        have HNO : Hid (avaB p = none → partB (bys s) = none) := fun h => HPB.out (mapM_none (List.mem_of_getElem? hp) h)
        have HYES : Hid (∀ y, avaB p = some y → (P.take (j + 1)).mapM avaB = some (l0 ++ [y])) := fun y h => mapM_take HM.out hp h
        clear hp
        cases hav : avaB p with
        | none =>
          rw [hav] at HPA
          have HF := hid (HNO.out hav)
          clear HNO HYES hav
          go_wp2_with (go_at_call 146; (with_reducible refine (HPA _).mono ?_); rintro e w2 ⟨x, rfl, -, hx2⟩; have HX2 := hid hx2; clear hx2)
          go_ret2
          exact ⟨none, 0, 0, by rw [HF.out]; rfl, by rw [HF.out]; exact Row.nil _ _ _, HX1.out.trans (HGR.out.ext.trans (HX2.out.trans (Ext.alloc _ _)))⟩
        | some y =>
          have HY := hid (HYES.out y hav)
          rw [hav] at HPA
          clear HNO HYES hav
          have hm3 : (sortA l0).length ≤ 3 := by have := HLN.out; rw [sortA_length]; omega
          have HSN := hid (sortA_snoc l0 y)
          have HL2 : Hid ((l0 ++ [y]).length = j + 1) := by show _ = _; rw [List.length_append, HLN.out]; rfl
          obtain ⟨A4, c4, rfl, hr4⟩ := HGR.out.row
          have HR4 := hid hr4
          have hcap := hr4.cap
          generalize sortA l0 = so at *
          clear hr4
          go_wp2_with (go_at_call 146; (with_reducible refine (HPA _).mono ?_); rintro e w2 ⟨x, rfl, hxy, hx2⟩; obtain rfl := hxy y rfl; have HX2 := hid hx2; clear hx2 hxy)
          have HB := hid (Bx.make (Ext.refl w2) #[.string (str x.type), .string (str x.val)] 153)
          go_loopw [9] (fun u wq => ∃ k : Nat, k ≤ so.length ∧ u = .int .i64 k ∧ Hid (∀ (i : Nat) (y : Ava), i < k → so[i]? = some y → ltB y.type x.type = true) ∧ Hid (Ext (w2.alloc (.cells #[.string (str x.type), .string (str x.val)] 153)) wq)) (fun u _ => so.length - (intOf u).toNat)
          case atStart => exact ⟨0, by omega, rfl, fun i y hi => by omega, Ext.refl _⟩
          case round =>
            obtain ⟨k, hk, rfl, HLT, HXQ⟩ := hrel
            have HXW := hid (HX2.out.trans ((Ext.alloc _ _).trans HXQ.out))
            have a0 := (HB.later HXQ.out).cell (i := 0) rfl
            have a1 := (HB.later HXQ.out).cell (i := 1) rfl
            by_cases hks : k < so.length
            · have hks' : (k : Int) < (so.length : Int) := by omega
              obtain ⟨b5, o5, y, rfl, hy, y0, -⟩ := ava_at (HR4.out.ext HXW.out) hks
              cases hlb : ltB y.type x.type with
              | true =>
                have q1 : Op.bytesLess y.type x.type = true := geq_no hlb
                have HL5 : Hid (∀ (i : Nat) (z : Ava), i < k + 1 → so[i]? = some z → ltB z.type x.type = true) := by
                  intro i z hi hz
                  by_cases hik : i = k
                  · subst hik; rw [hy] at hz; injection hz with hz; rw [← hz]; exact hlb
                  · exact HLT.out i z (by omega) hz
                clear hy hlb
                go_wp2
                refine wp_region_plan (.read 0 (.read 1 (.read 2 (.read 3 (.read 4 (.read 5 (.read 6 (.read 7 (.read 8 (.read 9 (.read 10 (.read 11 (.read 12 (.read 13 .done)))))))))))))) (by kernel_rfl) (by kernel_rfl) ?_
                intro wD hxD
                have XE : Hid (Ext wD wD) := Ext.refl _
                have p0 := cell_later (cell_later y0 _ hxD)
                have pa := cell_later (cell_later a0 _ hxD)
                repeat' (first
                  | (refine walks_move rfl rfl ?_; simp only [Act.put, Act.eval, List.setIfInBounds_toArray, List.set_cons_zero, List.set_cons_succ, Array.getD_eq_getD_getElem?, List.getElem?_toArray, List.getElem?_cons_zero, List.getElem?_cons_succ, Option.getD_some])
                  | (refine walks_assign rfl rfl ?_; simp only [Act.put, Act.eval, List.setIfInBounds_toArray, List.set_cons_zero, List.set_cons_succ, Array.getD_eq_getD_getElem?, List.getElem?_toArray, List.getElem?_cons_zero, List.getElem?_cons_succ, Option.getD_some])
                  | (refine walks_skip rfl rfl ?_; simp only [Act.put, List.setIfInBounds_toArray, List.set_cons_zero, List.set_cons_succ])
                  | (refine walks_unwanted rfl rfl ?_; simp only [Act.put, List.setIfInBounds_toArray, List.set_cons_zero, List.set_cons_succ])
                  | (refine walks_read (v := ?_) rfl rfl (fun w' hE => ?_) ?_; rotate_left 1; (· ((try (have hEx := Ext.trans (Hid.out XE) hE)); go_simp; (try go_bits); with_reducible rfl)); simp only [Act.put, List.setIfInBounds_toArray, List.set_cons_zero, List.set_cons_succ])
                  | (refine walks_alt ?_ ?_)
                  | (refine walks_main rfl rfl (fun K hK => ?_); go_wp2_with (fail); refine hK _ _ (by first | assumption | exact Ext.alloc _ _ | exact Ext.refl _) ?_; clear hK K; try simp only [Act.put, List.setIfInBounds_toArray, List.set_cons_zero, List.set_cons_succ]))
                refine walks_done ?_
                go_wp2
                exact ⟨⟨k + 1, by omega, by go_num, HL5, HXQ.out.trans (hxD.trans XE.out)⟩, by simp [intOf]; omega⟩
              | false =>
                have q1 : Op.bytesLess y.type x.type = false := geq_yes hlb
                have HIN : Hid (insA x so = so.take k ++ x :: so.drop k) := insA_at hk HLT.out (fun z hz => by rw [hy] at hz; injection hz with hz; rw [← hz]; exact hlb)
                clear hy hlb
                go_wp2
                refine wp_region_plan (.read 0 (.read 1 (.read 2 (.read 3 (.read 4 (.read 5 (.read 6 (.read 7 (.read 8 (.read 9 (.read 10 (.read 11 (.read 12 (.read 13 .done)))))))))))))) (by kernel_rfl) (by kernel_rfl) ?_
                intro wD hxD
                have XE : Hid (Ext wD wD) := Ext.refl _
                have p0 := cell_later (cell_later y0 _ hxD)
                have pa := cell_later (cell_later a0 _ hxD)
                repeat' (first
                  | (refine walks_move rfl rfl ?_; simp only [Act.put, Act.eval, List.setIfInBounds_toArray, List.set_cons_zero, List.set_cons_succ, Array.getD_eq_getD_getElem?, List.getElem?_toArray, List.getElem?_cons_zero, List.getElem?_cons_succ, Option.getD_some])
                  | (refine walks_assign rfl rfl ?_; simp only [Act.put, Act.eval, List.setIfInBounds_toArray, List.set_cons_zero, List.set_cons_succ, Array.getD_eq_getD_getElem?, List.getElem?_toArray, List.getElem?_cons_zero, List.getElem?_cons_succ, Option.getD_some])
                  | (refine walks_skip rfl rfl ?_; simp only [Act.put, List.setIfInBounds_toArray, List.set_cons_zero, List.set_cons_succ])
                  | (refine walks_unwanted rfl rfl ?_; simp only [Act.put, List.setIfInBounds_toArray, List.set_cons_zero, List.set_cons_succ])
                  | (refine walks_read (v := ?_) rfl rfl (fun w' hE => ?_) ?_; rotate_left 1; (· ((try (have hEx := Ext.trans (Hid.out XE) hE)); go_simp; (try go_bits); with_reducible rfl)); simp only [Act.put, List.setIfInBounds_toArray, List.set_cons_zero, List.set_cons_succ])
                  | (refine walks_alt ?_ ?_)
                  | (refine walks_main rfl rfl (fun K hK => ?_); go_wp2_with (fail); refine hK _ _ (by first | assumption | exact Ext.alloc _ _ | exact Ext.refl _) ?_; clear hK K; try simp only [Act.put, List.setIfInBounds_toArray, List.set_cons_zero, List.set_cons_succ]))
                refine walks_done ?_
                have HXQ2 := hid (HXQ.out.trans (hxD.trans XE.out))
                have HXW2 := hid (HXW.out.trans (hxD.trans XE.out))
                have a0' := pa _ XE.out
                have a1' := cell_later a1 _ (hxD.trans XE.out)
                clear a0 a1 p0 pa y0
                have hsh := rslice_h (some ⟨b5, o5, none⟩) so.length c4 k (by omega)
                have hsl := rslice_l (some ⟨b5, o5, none⟩) so.length c4 k (by omega)
                have HRQ := hid (HR4.out.ext HXW2.out)
                have HCT := hid (cells_take HRQ.out k)
                have HCD := hid (cells_drop HRQ.out k)
                go_wp2_with (at_builtin; first
                  | (refine rappend_avas rfl _ _ rfl _ _ rfl HG6.out _ _ _ (so.drop k) rfl (by (try simp only [List.length_drop]); (try omega)) (HCD.out.below HG6.out.ext) (by simp only [List.nil_append, List.length_append, List.length_take, List.length_cons, List.length_nil]; omega) ?_; intro v7 w7 hg7; have HG7 := hid hg7; clear hg7)
                  | (refine rappend_avas rfl _ _ rfl _ _ rfl (HG5.out.later (Ext.alloc _ _)) _ 1 1 [x] rfl rfl (lit_ava1 _ x _) (by simp only [List.nil_append, List.length_append, List.length_take, List.length_cons, List.length_nil]; omega) ?_; intro v6 w6 hg6; have HG6 := hid hg6; clear hg6)
                  | (refine rappend_avas rfl _ _ rfl _ [] rfl (GrowA.nil (Ext.refl _)) _ _ _ (so.take k) rfl (by rw [List.length_take]; omega) HCT.out (by rw [List.length_nil]; omega) ?_; intro v5 w5 hg5; have HG5 := hid hg5; have a0'' := cell_later a0' _ hg5.ext; have a1'' := cell_later a1' _ hg5.ext; clear hg5 a0' a1'))
                refine ⟨⟨j + 1, _, by omega, by go_num, ?_, HY, HL2⟩, by simp [intOf]; omega⟩
                rw [HSN.out, HIN.out]
                show GrowA 153 w1 w7 v7 _
                have := HG7.out.base (HGR.out.ext.trans HXW2.out)
                rwa [List.nil_append, List.append_assoc, List.singleton_append] at this
            · obtain rfl : k = so.length := by omega
              have hks' : decide ((so.length : Int) < (so.length : Int)) = false := by rw [decide_eq_false_iff_not]; omega
              have HIN : Hid (insA x so = so.take so.length ++ x :: so.drop so.length) := insA_at hk HLT.out (fun z hz => by rw [List.getElem?_eq_none (Nat.le_refl _)] at hz; cases hz)
              go_wp2
              refine wp_region_plan (.read 0 (.read 1 (.read 2 (.read 3 (.read 4 (.read 5 (.read 6 (.read 7 (.read 8 (.read 9 (.read 10 (.read 11 (.read 12 (.read 13 .done)))))))))))))) (by kernel_rfl) (by kernel_rfl) ?_
              intro wD hxD
              have XE : Hid (Ext wD wD) := Ext.refl _
              repeat' (first
                | (refine walks_move rfl rfl ?_; simp only [Act.put, Act.eval, List.setIfInBounds_toArray, List.set_cons_zero, List.set_cons_succ, Array.getD_eq_getD_getElem?, List.getElem?_toArray, List.getElem?_cons_zero, List.getElem?_cons_succ, Option.getD_some])
                | (refine walks_assign rfl rfl ?_; simp only [Act.put, Act.eval, List.setIfInBounds_toArray, List.set_cons_zero, List.set_cons_succ, Array.getD_eq_getD_getElem?, List.getElem?_toArray, List.getElem?_cons_zero, List.getElem?_cons_succ, Option.getD_some])
                | (refine walks_skip rfl rfl ?_; simp only [Act.put, List.setIfInBounds_toArray, List.set_cons_zero, List.set_cons_succ])
                | (refine walks_unwanted rfl rfl ?_; simp only [Act.put, List.setIfInBounds_toArray, List.set_cons_zero, List.set_cons_succ])
                | (refine walks_read (v := ?_) rfl rfl (fun w' hE => ?_) ?_; rotate_left 1; (· ((try (have hEx := Ext.trans (Hid.out XE) hE)); go_simp; (try go_bits); with_reducible rfl)); simp only [Act.put, List.setIfInBounds_toArray, List.set_cons_zero, List.set_cons_succ])
                | (refine walks_alt ?_ ?_)
                | (refine walks_main rfl rfl (fun K hK => ?_); go_wp2_with (fail); refine hK _ _ (by first | assumption | exact Ext.alloc _ _ | exact Ext.refl _) ?_; clear hK K; try simp only [Act.put, List.setIfInBounds_toArray, List.set_cons_zero, List.set_cons_succ]))
              refine walks_done ?_
              have HXQ2 := hid (HXQ.out.trans (hxD.trans XE.out))
              have HXW2 := hid (HXW.out.trans (hxD.trans XE.out))
              have a0' := cell_later a0 _ (hxD.trans XE.out)
              have a1' := cell_later a1 _ (hxD.trans XE.out)
              clear a0 a1 hks hks'
              have hsh := rslice_h A4 so.length c4 so.length (by omega)
              have hsl := rslice_l A4 so.length c4 so.length (by omega)
              have HRQ := hid (HR4.out.ext HXW2.out)
              have HCT := hid (cells_take HRQ.out so.length)
              have HCD := hid (cells_drop HRQ.out so.length)
              go_wp2_with (at_builtin; first
                | (refine rappend_avas rfl _ _ rfl _ _ rfl HG6.out _ _ _ (so.drop so.length) rfl (by (try simp only [List.length_drop]); (try omega)) (HCD.out.below HG6.out.ext) (by simp only [List.nil_append, List.length_append, List.length_take, List.length_cons, List.length_nil]; omega) ?_; intro v7 w7 hg7; have HG7 := hid hg7; clear hg7)
                | (refine rappend_avas rfl _ _ rfl _ _ rfl (HG5.out.later (Ext.alloc _ _)) _ 1 1 [x] rfl rfl (lit_ava1 _ x _) (by simp only [List.nil_append, List.length_append, List.length_take, List.length_cons, List.length_nil]; omega) ?_; intro v6 w6 hg6; have HG6 := hid hg6; clear hg6)
                | (refine rappend_avas rfl _ _ rfl _ [] rfl (GrowA.nil (Ext.refl _)) _ _ _ (so.take so.length) rfl (by rw [List.length_take]; omega) HCT.out (by rw [List.length_nil]; omega) ?_; intro v5 w5 hg5; have HG5 := hid hg5; have a0'' := cell_later a0' _ hg5.ext; have a1'' := cell_later a1' _ hg5.ext; clear hg5 a0' a1'))
              refine ⟨⟨j + 1, _, by omega, by go_num, ?_, HY, HL2⟩, by simp [intOf]; omega⟩
              rw [HSN.out, HIN.out]
              show GrowA 153 w1 w7 v7 _
              have := HG7.out.base (HGR.out.ext.trans HXW2.out)
              rwa [List.nil_append, List.append_assoc, List.singleton_append] at this
      · obtain rfl : j = P.length := by omega
        have HMA : Hid (P.mapM avaB = some l0) := by show _ = _; rw [← HM.out, List.take_length]
        have HPA := hid (HPY.out l0 HMA.out)
        have HTY : Hid (∀ a ∈ sortA l0, a.type.length ≤ 17) := by
          have h1 : ∀ (l o : List Ava) a, a ∈ l.foldl (fun o a => insA a o) o → a ∈ o ∨ a ∈ l := by
            intro l
            induction l with
            | nil => intro o a h; exact .inl h
            | cons b t ih =>
              intro o a h
              rcases ih _ _ h with h | h
              · have h2 : ∀ (o : List Ava), a ∈ insA b o → a = b ∨ a ∈ o := by
                  intro o
                  induction o with
                  | nil => intro h; simpa [insA] using h
                  | cons c t ih2 =>
                    intro h
                    unfold insA at h
                    split at h
                    · rcases List.mem_cons.1 h with h | h
                      · exact .inr (by simp [h])
                      · rcases ih2 h with h | h
                        · exact .inl h
                        · exact .inr (by simp [h])
                    · simpa using h
                rcases h2 o h with h | h
                · exact .inr (by simp [h])
                · exact .inl h
              · exact .inr (by simp [h])
          intro a ha
          rcases h1 l0 [] a ha with h | h
          · cases h
          · obtain ⟨q, _, hq⟩ := mapM_mem HMA.out a h
            exact avaB_type hq
        obtain ⟨A2, c2, rfl, hr2⟩ := HGR.out.row
        have HR2 := hid hr2
        have HFM := rformed_any (HG.out.ext (HX1.out.trans HGR.out.ext)) HR2.out (fun a ha => by have := HTY.out a ha; omega)
        clear hr2 HMA HM
        generalize sortA l0 = so at *
        cases hf : formedA so with
        | true =>
          rw [hf] at HFM
          have HE : Hid (partB (bys s) = some so) := by show _ = _; rw [HPA.out, hf]; rfl
          clear hf
          go_wp2_with (go_at_call 147; (with_reducible refine HFM.mono ?_); rintro e w3 ⟨rfl, hx3⟩; have HX3 := hid hx3; clear hx3)
          go_ret2
          refine ⟨A2, so.length, c2, by rw [HE.out]; rfl, ?_, HX1.out.trans (HGR.out.ext.trans HX3.out)⟩
          rw [HE.out]
          exact (HR2.out.ext HX3.out).mono fun _ _ h => Nat.le_trans (ext_sz HX1.out) h
        | false =>
          rw [hf] at HFM
          have HE : Hid (partB (bys s) = none) := by show _ = _; rw [HPA.out, hf]; rfl
          clear hf
          go_wp2_with (go_at_call 147; (with_reducible refine HFM.mono ?_); rintro e w3 ⟨rfl, hx3⟩; have HX3 := hid hx3; clear hx3)
          go_ret2
          exact ⟨none, 0, 0, by rw [HE.out]; rfl, by rw [HE.out]; exact Row.nil _ _ _, HX1.out.trans (HGR.out.ext.trans HX3.out)⟩
end Go.Proofs.YtencmdpjiafnaaaGreatDoor
