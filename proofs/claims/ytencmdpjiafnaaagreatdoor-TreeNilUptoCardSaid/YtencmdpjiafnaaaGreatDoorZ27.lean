import Derived.Test.YtencmdpjiafnaaaGreatDoorZ09
import Derived.Test.YtencmdpjiafnaaaGreatDoorZ26
import Derived.Lib.AppendZeros
import Derived.Test.YtencmdpjiafnaaaGreatDoorZ15
/- The walks of a part's normal values: rdn's Normal, the reference's NormalPart. -/
namespace Go.Proofs.YtencmdpjiafnaaaGreatDoor
open Go.RowKit
set_option maxRecDepth 100000
set_option linter.unusedSimpArgs false
set_option linter.unusedVariables false

theorem GrowA.empty (w : World) (T : TypeId) : GrowA T w (w.alloc (.cells #[] T)) (.slice (some ⟨w.heap.size, 0, none⟩) 0 0) [] :=
  ⟨own_empty w _ (Nat.le_refl _) _ _, Ext.alloc _ _⟩
set_option maxHeartbeats 1000000 in
theorem cloneA_any {S : Nat → Prop} {A : Option Addr} {n c : Nat} {l : List Ava} {w : World} (h : Row Elem.ava S w A n c l) (hl : l.length ≤ 4000000) :
    Calls Tryz.prog 160 #[.slice A n c] w fun e w' => ∃ v, e = .returned v ∧ GrowA 129 w w' v l := by
  have HR := hid h
  have HL := hid hl
  have HN := hid h.len
  clear h hl
  rcases A with _ | ⟨b, o, sp⟩
  · have hnil : l = [] := by
      rcases Nat.eq_zero_or_pos n with h0 | h0
      · exact HR.out.nil_iff.1 h0
      · obtain ⟨b, off, v, x, hA, _⟩ := HR.out.at_ h0
        cases hA
    have HNL := hid hnil
    clear hnil
    have hz := fun W => Lib.run_eql_slice_nil (P := Tryz.prog) W 109 129 none n c 0 0 Tryz.underlying109
    go_enter Tryz.func160, Tryz.ntmps160
    go_wp2
    go_ret
    exact ⟨_, rfl, by rw [HNL.out]; exact GrowA.nil (Ext.refl _)⟩
  · have hz := fun W => Lib.run_eql_slice_nil (P := Tryz.prog) W 109 129 (some ⟨b, o, sp⟩) n c 0 0 Tryz.underlying109
    go_enter Tryz.func160, Tryz.ntmps160
    go_wp2_with (at_builtin; refine append_avas rfl _ _ rfl _ [] rfl (GrowA.empty w 129) _ n c l rfl HN.out ((row_cells HR.out).below (Ext.alloc _ _)) (by have := HN.out; have := HL.out; simp; omega) ?_; intro v' w3 hg3; have HG3 := hid hg3; clear hg3)
    go_ret
    exact ⟨_, rfl, by simpa using HG3.out⟩
/-- The pairs whose values are normal up to a place. -/
def mixA (j : Nat) (l : List Ava) : List Ava := normA (l.take j) ++ l.drop j
theorem mixA_zero (l : List Ava) : mixA 0 l = l := by simp [mixA, normA]
theorem mixA_all (l : List Ava) : mixA l.length l = normA l := by simp [mixA]
theorem mixA_len (j : Nat) (l : List Ava) : (mixA j l).length = l.length := by simp [mixA, normA]; omega
theorem mixA_at {j : Nat} {l : List Ava} {x : Ava} (h : l[j]? = some x) : (mixA j l)[j]? = some x := by
  have hl := (List.getElem?_eq_some_iff.1 h).1
  unfold mixA
  rw [List.getElem?_append_right (by simp [normA]; omega)]
  have : j - (normA (l.take j)).length = 0 := by simp [normA]; omega
  rw [this, List.getElem?_drop]
  simpa using h
theorem mixA_step {j : Nat} {l : List Ava} {x : Ava} (h : l[j]? = some x) : (mixA j l).set j ⟨x.type, (normB (typeB x.type).2 x.val).getD []⟩ = mixA (j + 1) l := by
  obtain ⟨h1, h2⟩ := List.getElem?_eq_some_iff.1 h
  have hj : (normA (l.take j)).length = j := by simp [normA]; omega
  unfold mixA
  rw [List.set_append_right _ _ (by omega), hj, Nat.sub_self, List.drop_eq_getElem_cons h1, List.set_cons_zero, List.take_add_one, h]
  simp [normA]
/-- The normal form of a formed pair's value. -/
theorem norm_val {a : Ava} (h : avaOk a = true) : (normE a.type a.val).1 = (normB (typeB a.type).2 a.val).getD [] ∧ (normZ a.type a.val).1 = (normB (typeB a.type).2 a.val).getD [] := by
  unfold avaOk at h
  simp only [Bool.and_eq_true, Bool.or_eq_true, decide_eq_true_eq] at h
  have hz : normZ a.type a.val = normE a.type a.val := by unfold normZ; rw [if_neg (by omega)]
  rw [hz]
  have hE : (normE a.type a.val).1 = (normB (typeB a.type).2 a.val).getD [] := by
    have hs := h.2
    unfold normE normB at *
    rw [if_neg (by omega), if_neg (by omega)]
    by_cases hv : a.val = [] ∨ 200 < a.val.length
    · rw [if_pos hv] at hs; cases hs
    · rw [if_neg hv] at hs
      rw [if_neg hv, if_neg hv]
      rcases h.1.2 with h1 | h1
      · rw [h1] at hs ⊢
        simp only [normP, textN, if_true] at hs ⊢
        by_cases ht : joinSp (wordsB (lowerB a.val)) = [] ∨ (0 : UInt8) ∈ joinSp (wordsB (lowerB a.val))
        · rw [if_pos ht] at hs; cases hs
        · have h2 : joinSp (wordsB (lowerB a.val)) ≠ [] ∧ (0 : UInt8) ∉ joinSp (wordsB (lowerB a.val)) := ⟨fun e => ht (.inl e), fun e => ht (.inr e)⟩
          simp [h2]
      · rw [h1] at hs ⊢
        cases hb : intB a.val with
        | false => simp [hb] at hs
        | true => simp [normP, hb]
  exact ⟨hE, hE⟩
def NPSays (w : World) (l : List Ava) (e : Ending) (w' : World) : Prop :=
  ∃ A n c, e = .returned (.tuple #[.slice A n c, .int .i64 (if formedA l then 0 else 1)]) ∧ Row Elem.ava (fun b => w.heap.size ≤ b) w' A n c (if formedA l then normA l else []) ∧ Ext w w'
set_option maxHeartbeats 2000000 in
theorem nparts_any {S : Nat → Prop} {A : Option Addr} {n c : Nat} {l : List Ava} {w : World} (hG : Gl w) (h : Row Elem.ava S w A n c l) (hb : ∀ a ∈ l, a.type.length ≤ 4000000) :
    Calls Tryz.prog 105 #[.slice A n c] w (NPSays w l) := by
  have HG := hid hG
  have HR := hid h
  have HF := hid (fun w' hx => formed_any (hG.ext hx) (h.ext hx) hb : ∀ w', Ext w w' → Calls Tryz.prog 140 #[.slice A n c] w' fun e w'' => e = .returned (.bool (formedA l)) ∧ Ext w' w'')
  clear hG h hb
  cases hf : formedA l with
  | false =>
    have HE : Hid (formedA l = false) := hf
    rw [hf] at HF
    clear hf
    go_enter Tryz.func105, Tryz.ntmps105
    go_wp2_with (go_at_call 140; (with_reducible refine (HF.out _ (Ext.refl _)).mono ?_); rintro e w1 ⟨rfl, hx1⟩; have HX1 := hid hx1; clear hx1)
    go_ret2
    exact ⟨none, 0, 0, by rw [HE.out]; rfl, by rw [HE.out]; exact Row.nil _ _ _, HX1.out⟩
  | true =>
    have HE : Hid (formedA l = true) := hf
    have HO := hid (formed_ok hf)
    have hl3 := formed_len hf
    have hn3 : n ≤ 3 := by rw [HR.out.len]; exact hl3
    have HLN := hid HR.out.len
    have hne : 0 < l.length := by
      unfold formedA at hf
      simp only [Bool.and_eq_true, decide_eq_true_eq] at hf
      exact hf.1.1.1
    rw [hf] at HF
    have HL3 := hid hl3
    have HNE := hid hne
    clear hf hl3 hne
    go_enter Tryz.func105, Tryz.ntmps105
    go_wp2_with (first
      | (go_at_call 140; (with_reducible refine (HF.out _ (Ext.refl _)).mono ?_); rintro e w1 ⟨rfl, hx1⟩; have HX1 := hid hx1; clear hx1)
      | (go_at_call 160; (with_reducible refine (cloneA_any (HR.out.ext HX1.out) (by have := HL3.out; omega)).mono ?_); rintro e w2 ⟨v2, rfl, hg2⟩; obtain ⟨g, cap, rfl, hc1, hc2⟩ := hg2.form HNE.out; have HG2 := hid hg2; clear hg2))
    have hl4 : l.length ≤ 3 := HL3.out
    go_loopw [14] (fun i wr => ∃ (j : Nat), j ≤ l.length ∧ i = .int .i64 j ∧ Hid (GrowA 129 w1 wr (.slice (some ⟨g, 0, none⟩) l.length cap) (mixA j l))) (fun i _ => l.length - (intOf i).toNat)
    case atStart => exact ⟨0, by omega, rfl, by rw [mixA_zero]; exact HG2⟩
    case round =>
      obtain ⟨j, hj, rfl, HGR⟩ := hrel
      by_cases hlt : j < l.length
      · obtain ⟨x, hx⟩ : ∃ x, l[j]? = some x := ⟨_, List.getElem?_eq_getElem hlt⟩
        have e1 := HGR.out.at0 (mixA_at hx)
        have e2 := HGR.out.at1 (mixA_at hx)
        have hox := HO.out x (List.mem_of_getElem? hx)
        have hxs := ok_small hox
        have HST := hid (mixA_step hx)
        have HMX := hid (mixA_at hx)
        have HNC : ∀ w, Gl w → Calls Tryz.prog 153 #[.string (str x.type), .string (str x.val)] w (NormSays w x.type x.val) := fun w hG => by
          have h4 : (typeB x.type).2 ≠ 4 := by
            unfold avaOk at hox
            simp only [Bool.and_eq_true, Bool.or_eq_true, decide_eq_true_eq] at hox
            omega
          have := normal_any (str x.type) (str x.val) w hG (by rw [str_size]; omega) (by rw [bys_str]; exact h4)
          rwa [bys_str, bys_str] at this
        have HNV := hid (norm_val hox).1
        unfold NormSays at HNC
        generalize normE x.type x.val = q at *
        obtain ⟨nv, ne⟩ := q
        simp only at HNC HNV
        clear hx hox
        go_wp2_with (first
          | (go_at_call 153; (with_reducible refine (HNC _ (HG.out.ext (HX1.out.trans (HGR.out.ext.trans (Ext.alloc _ _))))).mono ?_); rintro e w3 ⟨rfl, hx3⟩; have HG4 := hid ((HGR.out.later (Ext.alloc _ _)).later hx3); have e3 := HG4.out.at1 HMX.out; have e4 := HG4.out.thaw (j * 2 + 1); clear hx3))
        refine ⟨⟨j + 1, by omega, by go_num, ?_⟩, by simp [intOf]; omega⟩
        have := HG4.out.set1 HMX.out nv
        rw [← HST.out, ← HNV.out]
        exact this
      · obtain rfl : j = l.length := by omega
        rw [mixA_all] at HGR
        obtain ⟨A', c', hv, hr⟩ := HGR.out.row
        injection hv with hv1 hv2 hv3
        subst hv1 hv3
        have HRR := hid hr
        have HNL : Hid (l.length = (normA l).length) := by show _ = _; simp [normA]
        clear hr hv2
        go_wp2
        go_ret2
        refine ⟨some ⟨g, 0, none⟩, l.length, cap, by rw [HE.out]; rfl, ?_, HX1.out.trans HGR.out.ext⟩
        rw [HE.out, if_pos rfl, HNL.out]
        exact HRR.out.mono fun _ _ hs => Nat.le_trans (ext_sz HX1.out) hs
set_option maxHeartbeats 2000000 in
theorem rnparts_any {S : Nat → Prop} {A : Option Addr} {n c : Nat} {l : List Ava} {w : World} (hG : Gl w) (h : Row Elem.ava S w A n c l) (hb : ∀ a ∈ l, a.type.length ≤ 4000000) :
    Calls Tryz.prog 114 #[.slice A n c] w (NPSays w l) := by
  have HG := hid hG
  have HR := hid h
  have HF := hid (fun w' hx => rformed_any (hG.ext hx) (h.ext hx) hb : ∀ w', Ext w w' → Calls Tryz.prog 147 #[.slice A n c] w' fun e w'' => e = .returned (.bool (formedA l)) ∧ Ext w' w'')
  clear hG h hb
  cases hf : formedA l with
  | false =>
    have HE : Hid (formedA l = false) := hf
    rw [hf] at HF
    clear hf
    go_enter Tryz.func114, Tryz.ntmps114
    go_wp2_with (go_at_call 147; (with_reducible refine (HF.out _ (Ext.refl _)).mono ?_); rintro e w1 ⟨rfl, hx1⟩; have HX1 := hid hx1; clear hx1)
    go_ret2
    exact ⟨none, 0, 0, by rw [HE.out]; rfl, by rw [HE.out]; exact Row.nil _ _ _, HX1.out⟩
  | true =>
    have HE : Hid (formedA l = true) := hf
    have HO := hid (formed_ok hf)
    have hl3 := formed_len hf
    have hn3 : n ≤ 3 := by rw [HR.out.len]; exact hl3
    have HL3 := hid hl3
    rw [hf] at HF
    clear hf hl3
    go_enter Tryz.func114, Tryz.ntmps114
    go_wp2_with (first
      | (go_at_call 147; (with_reducible refine (HF.out _ (Ext.refl _)).mono ?_); rintro e w1 ⟨rfl, hx1⟩; have HX1 := hid hx1; clear hx1))
    go_loopw [4, 13] (fun v i wr => ∃ (j : Nat), j ≤ n ∧ i = .int .i64 j ∧ Hid (GrowA 153 w1 wr v (normA (l.take j)))) (fun _ i _ => n - (intOf i).toNat)
    case atStart => exact ⟨0, by omega, rfl, GrowA.nil (Ext.refl _)⟩
    case round =>
      obtain ⟨j, hj, rfl, HGR⟩ := hrel
      by_cases hlt : j < n
      · have hlt' : (j : Int) < (n : Int) := by omega
        obtain ⟨b, o, x, rfl, hx, e1, e2⟩ := ava_at (HR.out.ext (HX1.out.trans HGR.out.ext)) hlt
        have hox := HO.out x (List.mem_of_getElem? hx)
        have hxs := ok_small hox
        have HNC : ∀ w, Gl w → Calls Tryz.prog 117 #[.string (str x.type), .string (str x.val)] w (NormZSays w x.type x.val) := fun w hG => by
          have := rnormal_any (str x.type) (str x.val) w hG (by rw [str_size]; omega)
          rwa [bys_str, bys_str] at this
        have HNV := hid (norm_val hox).2
        have HST : Hid (normA (l.take (j + 1)) = normA (l.take j) ++ [⟨x.type, (normB (typeB x.type).2 x.val).getD []⟩]) := by show _ = _; unfold normA; rw [List.take_add_one, hx]; simp
        unfold NormZSays at HNC
        generalize normZ x.type x.val = q at *
        obtain ⟨nv, ne⟩ := q
        simp only at HNC HNV
        rw [← HNV.out] at HST
        clear hx hox HNV
        go_wp2
        refine wp_region_plan (.read 0 (.read 1 (.read 2 (.read 3 (.read 4 (.read 5 (.read 6 (.read 7 (.read 8 (.read 9 (.main 10 (.read 11 (.read 12 (.read 13 (.read 14 (.read 15 .done)))))))))))))))) (by kernel_rfl) (by kernel_rfl) ?_
        intro wD hxD
        have XE : Hid (Ext wD wD) := Ext.refl _
        have HGD := hid (HGR.out.later hxD)
        have p1 := cell_later (cell_later e1 _ hxD)
        have p2 := cell_later (cell_later e2 _ hxD)
        repeat' (first
          | (refine walks_move rfl rfl ?_; simp only [Act.put, Act.eval, List.setIfInBounds_toArray, List.set_cons_zero, List.set_cons_succ, Array.getD_eq_getD_getElem?, List.getElem?_toArray, List.getElem?_cons_zero, List.getElem?_cons_succ, Option.getD_some])
          | (refine walks_assign rfl rfl ?_; simp only [Act.put, Act.eval, List.setIfInBounds_toArray, List.set_cons_zero, List.set_cons_succ, Array.getD_eq_getD_getElem?, List.getElem?_toArray, List.getElem?_cons_zero, List.getElem?_cons_succ, Option.getD_some])
          | (refine walks_skip rfl rfl ?_; simp only [Act.put, List.setIfInBounds_toArray, List.set_cons_zero, List.set_cons_succ])
          | (refine walks_unwanted rfl rfl ?_; simp only [Act.put, List.setIfInBounds_toArray, List.set_cons_zero, List.set_cons_succ])
          | (refine walks_read (v := ?_) rfl rfl (fun w' hE => ?_) ?_; rotate_left 1; (· ((try (have hEx := Ext.trans (Hid.out XE) hE)); go_simp; (try go_bits); with_reducible rfl)); simp only [Act.put, List.setIfInBounds_toArray, List.set_cons_zero, List.set_cons_succ])
          | (refine walks_alt ?_ ?_)
          | (refine walks_main rfl rfl (fun K hK => ?_); go_wp2_with ((go_at_call 117; (with_reducible refine (HNC _ (HG.out.ext (HX1.out.trans (HGD.out.ext.trans XE.out)))).mono ?_); rintro e w2 ⟨rfl, hx2⟩; have XE' := hid (Ext.trans (Hid.out XE) hx2); clear XE; have XE := XE'; clear XE')); refine hK _ _ (by first | assumption | exact Ext.alloc _ _ | exact Ext.refl _) ?_; clear hK K; try simp only [Act.put, List.setIfInBounds_toArray, List.set_cons_zero, List.set_cons_succ]))
        refine walks_done ?_
        have q1 := p1 _ XE.out
        have HG2 := hid (HGD.out.later XE.out)
        clear p1 p2
        go_wp2_with (at_builtin; refine rappend_avas rfl _ _ rfl _ _ rfl (HG2.out.later (Ext.alloc _ _)) _ 1 1 [⟨x.type, nv⟩] rfl rfl (lit_ava1 _ ⟨x.type, nv⟩ _) (by have := List.length_take_le j l; have := HL3.out; simp [normA]; omega) ?_; intro v' w5 hg5; have HG5 := hid hg5; clear hg5)
        refine ⟨⟨j + 1, by omega, by go_num, ?_⟩, by simp [intOf]; omega⟩
        rw [HST.out]
        exact HG5
      · obtain rfl : j = n := by omega
        have HT : Hid (normA (l.take j) = normA l) := by show _ = _; rw [List.take_of_length_le (Nat.le_of_eq HR.out.len.symm)]
        rw [HT.out] at HGR
        obtain ⟨A', c', rfl, hr⟩ := HGR.out.row
        have HRR := hid hr
        clear hr
        go_wp2
        go_ret2
        refine ⟨_, _, c', by rw [HE.out]; rfl, ?_, HX1.out.trans HGR.out.ext⟩
        rw [HE.out, if_pos rfl]
        exact HRR.out.mono fun _ _ hs => Nat.le_trans (ext_sz HX1.out) hs
end Go.Proofs.YtencmdpjiafnaaaGreatDoor
/- Plain: parts out of a text, step by step; the insertion sort of three at most is the plain one. No program in sight. -/
namespace Go.Proofs.YtencmdpjiafnaaaGreatDoor
open Go.RowKit
set_option maxRecDepth 100000
set_option linter.unusedSimpArgs false
set_option linter.unusedVariables false

section
variable {α β : Type} {f : α → Option β}
theorem mapM_nil : ([] : List α).mapM f = some [] := by simp
theorem mapM_cons {x : α} {t : List α} : (x :: t).mapM f = (f x).bind fun y => (t.mapM f).bind fun l => some (y :: l) := by
  rw [List.mapM_cons]; rfl
theorem mapM_app : ∀ {a b : List α} {u v : List β}, a.mapM f = some u → b.mapM f = some v → (a ++ b).mapM f = some (u ++ v)
  | [], b, u, v, h, k => by simp at h; subst h; simpa using k
  | x :: a, b, u, v, h, k => by
    rw [mapM_cons] at h
    cases hx : f x with
    | none => rw [hx] at h; cases h
    | some y =>
      rw [hx] at h
      cases ha : a.mapM f with
      | none => rw [ha] at h; cases h
      | some u' =>
        rw [ha] at h
        cases h
        rw [List.cons_append, mapM_cons, hx, mapM_app ha k]
        rfl
theorem mapM_none : ∀ {l : List α} {x : α}, x ∈ l → f x = none → l.mapM f = none
  | [], x, h, _ => by cases h
  | y :: t, x, h, k => by
    rw [mapM_cons]
    rcases List.mem_cons.1 h with rfl | h
    · rw [k]; rfl
    · rw [mapM_none h k]
      cases f y <;> rfl
theorem mapM_take {l : List α} {j : Nat} {x : α} {y : β} {u : List β} (h : (l.take j).mapM f = some u) (hx : l[j]? = some x) (hy : f x = some y) : (l.take (j + 1)).mapM f = some (u ++ [y]) := by
  rw [List.take_add_one, hx]
  exact mapM_app h (by rw [Option.toList_some, mapM_cons, hy]; simp)
theorem mapM_len : ∀ {l : List α} {u : List β}, l.mapM f = some u → u.length = l.length
  | [], u, h => by simp at h; subst h; rfl
  | x :: t, u, h => by
    rw [mapM_cons] at h
    cases hx : f x with
    | none => rw [hx] at h; cases h
    | some y =>
      rw [hx] at h
      cases ha : t.mapM f with
      | none => rw [ha] at h; cases h
      | some u' =>
        rw [ha] at h
        cases h
        simp [mapM_len ha]
theorem mapM_mem : ∀ {l : List α} {u : List β}, l.mapM f = some u → ∀ y ∈ u, ∃ x ∈ l, f x = some y
  | [], u, h, y, hy => by simp at h; subst h; cases hy
  | x :: t, u, h, y, hy => by
    rw [mapM_cons] at h
    cases hx : f x with
    | none => rw [hx] at h; cases h
    | some y' =>
      rw [hx] at h
      cases ha : t.mapM f with
      | none => rw [ha] at h; cases h
      | some u' =>
        rw [ha] at h
        cases h
        rcases List.mem_cons.1 hy with rfl | hy
        · exact ⟨x, by simp, hx⟩
        · obtain ⟨x', h1, h2⟩ := mapM_mem ha y hy
          exact ⟨x', by simp [h1], h2⟩
end
theorem avaB_type {p : List UInt8} {a : Ava} (h : avaB p = some a) : a.type.length ≤ 17 := by
  unfold avaB at h
  cases hc : cutEq p with
  | none => rw [hc] at h; cases h
  | some q =>
    obtain ⟨u, v⟩ := q
    rw [hc] at h
    simp only at h
    split at h
    · cases h
    · cases hv : valueB v with
      | none => rw [hv] at h; cases h
      | some z =>
        rw [hv] at h
        cases h
        exact type_small u
theorem sink_yes {l : List Ava} {j : Nat} (h : ltO l (j + 1) j = true) : sinkF 0 (j + 1) l = sinkF 0 j (swapL l (j + 1) j) := by rw [sinkF, if_pos ⟨by omega, h⟩]
theorem sink_no {l : List Ava} {j : Nat} (h : ltO l (j + 1) j = false) : sinkF 0 (j + 1) l = l := by rw [sinkF, if_neg (fun k => by rw [h] at k; cases k.2)]
theorem insF_sortP (l : List Ava) (h : l.length ≤ 3) : insF 0 (l.length - 1) l = sortP l := by
  match l, h with
  | [], _ => rfl
  | [a], _ => rfl
  | [a, b], _ =>
    show sinkF 0 1 [a, b] = if ltB b.type a.type then [b, a] else [a, b]
    cases h1 : ltB b.type a.type with
    | true => rw [sink_yes (show ltO [a, b] 1 0 = true from h1)]; rfl
    | false => rw [sink_no (show ltO [a, b] 1 0 = false from h1)]; rfl
  | [a, b, c], _ =>
    show sinkF 0 2 (sinkF 0 1 [a, b, c]) = _
    have e2 : ∀ x y z : Ava, sinkF 0 2 [x, y, z] = if ltB z.type y.type then (if ltB z.type x.type then [z, x, y] else [x, z, y]) else [x, y, z] := by
      intro x y z
      cases h1 : ltB z.type y.type with
      | true =>
        rw [sink_yes (show ltO [x, y, z] 2 1 = true from h1)]
        show sinkF 0 1 [x, z, y] = if ltB z.type x.type then [z, x, y] else [x, z, y]
        cases h2 : ltB z.type x.type with
        | true => rw [sink_yes (show ltO [x, z, y] 1 0 = true from h2)]; rfl
        | false => rw [sink_no (show ltO [x, z, y] 1 0 = false from h2)]; rfl
      | false => rw [sink_no (show ltO [x, y, z] 2 1 = false from h1)]; rfl
    show _ = if ltB b.type a.type then (if ltB c.type a.type then (if ltB c.type b.type then [c, b, a] else [b, c, a]) else [b, a, c]) else (if ltB c.type b.type then (if ltB c.type a.type then [c, a, b] else [a, c, b]) else [a, b, c])
    cases h1 : ltB b.type a.type with
    | true => rw [sink_yes (show ltO [a, b, c] 1 0 = true from h1)]; exact e2 b a c
    | false => rw [sink_no (show ltO [a, b, c] 1 0 = false from h1)]; exact e2 a b c
/-- A part of so many pairs, behind the program's sort. -/
theorem part_sorted {s : List UInt8} {l l' : List Ava} (h : (splitF 43 [] s).mapM avaB = some l) (hs : Sub l l') (he : l.length < 20 → l' = insF 0 (l.length - 1) l) :
    partB s = if formedA l' then some l' else none := by
  unfold partB
  rw [h]
  simp only
  by_cases h3 : l.length ≤ 3
  · have h4 := sortP_same l h3
    rw [he (by omega), insF_sortP l h3]
    unfold behindF at h4
    exact h4.symm
  · have h5 : formedA l' = false := by
      unfold formedA
      rw [decide_eq_false (show ¬ l'.length ≤ 3 by rw [hs.1]; exact h3)]
      simp
    have h6 : formedA (sortA l) = false := by
      unfold formedA
      rw [decide_eq_false (show ¬ (sortA l).length ≤ 3 by rw [sortA_length]; exact h3)]
      simp
    rw [h5, h6]
    rfl
end Go.Proofs.YtencmdpjiafnaaaGreatDoor
