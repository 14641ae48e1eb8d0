import Derived.Test.YtkafonmpmgjcpaaGreatDoorQ01
import Derived.Test.YtkafonmpmgjcpaaGreatDoorZ47
import Derived.Test.YtkafonmpmgjcpaaGreatDoorZ49
/- The walks of vergerlaw11's Theirs and Few, of auth.Proxy and of the reference's. -/
namespace Go.Proofs.YtkafonmpmgjcpaaGreatDoor
open Go.RowKit
set_option maxRecDepth 100000
set_option linter.unusedSimpArgs false
set_option linter.unusedVariables false

/-- A row of rules of the call's own, as the package has them. -/
structure GrowU (w wr : World) (v : Value) (l : List Rul) : Prop where
  own : wr.ownsRow w.heap.size 71 5 v l.length (l.map Rul.cells).flatten
  ext : Ext w wr
theorem GrowU.row {w wr : World} {v : Value} {l : List Rul} (h : GrowU w wr v l) : ∃ A c, v = .slice A l.length c ∧ Row Elem.rul (fun b => w.heap.size ≤ b) wr A l.length c l := by
  have ho := h.own
  obtain ⟨A, c, rfl⟩ : ∃ A c, v = .slice A l.length c := by
    rcases ho.2 with ⟨rfl, h0⟩ | ⟨g, cap, cur, rfl, _⟩
    · exact ⟨none, 0, by rw [h0]⟩
    · exact ⟨_, _, rfl⟩
  refine ⟨A, c, rfl, own_rows (E := Elem.rul) ho rfl (by simp) (fun g hg => (ho.lt g hg).1) fun i u x hi hl => ?_⟩
  rw [List.getElem?_map, hl] at hi
  injection hi with hi
  exact hi.symm
theorem GrowU.later {w wr w' : World} {v : Value} {l : List Rul} (h : GrowU w wr v l) (hx : Ext wr w') : GrowU w w' v l := ⟨own_ext h.own hx, h.ext.trans hx⟩
theorem infoRul : (Tryz.prog.info? 71).map (fun i => (i.zero, i.size, i.bytes)) = some (some (.agg #[.string ByteArray.empty, .string ByteArray.empty, .string ByteArray.empty, .int .i64 0, .bool false]), 5, 64) := by kernel_rfl
theorem append_rul {w w0 : World} {ops : Array Oper} {rest : List Oper} {o : Oper} {a : Act} {Q : Exit → Act → World → Prop} (hgd : o.guard = none) (s x : Operand)
    (ho : o.op = .call { callee := .builtin .append, args := #[s, x], argTypes := #[40, 40] }) (v : Value) (l : List Rul) (hs : a.eval s = v) (hg : GrowU w0 w v l)
    {t : TypeId} (y : Rul) (hx : a.eval x = .slice (some ⟨w.heap.size, 0, none⟩) 1 1) (hb : l.length ≤ 4000000)
    (h : ∀ v' w', GrowU w0 w' v' (l ++ [y]) → wpList Tryz.prog ops Q rest (a.put o.dst v') w') :
    wpList Tryz.prog ops Q (o :: rest) a (w.alloc (.cells #[.string y.who, .string y.target, .string y.attr, .int .i64 y.rights, .bool y.allow] t)) := by
  have hg' := hg.later (Ext.alloc w (.cells #[.string y.who, .string y.target, .string y.attr, .int .i64 y.rights, .bool y.allow] t))
  refine wpList_plain hgd fun _ hK => ?_
  refine wp_append_sz s x 40 ho w0.heap.size 71 _ 5 64 Tryz.underlying40 infoRul rfl (by decide) v l.length (l.map Rul.cells).flatten hs hg'.own _ 1 1 y.cells hx rfl (.inr ⟨_, 0, rfl, fun j u hj => by rw [Nat.zero_add, box_a]; unfold Rul.cells at hj; simpa using hj⟩)
    (fun u hu => by simp [Rul.cells] at hu; rcases hu with rfl | rfl | rfl | rfl | rfl <;> rfl) (by simp [maxLen]; omega) (by omega) (ext_sz hg'.ext) ?_
  intro v' w' q1 q2 q3
  refine hK _ _ (h v' w' ⟨?_, Below.trans hg'.ext (below_grown hg'.own q2 (ext_sz hg'.ext) (Nat.le_refl _))⟩)
  rw [List.length_append, List.map_append, List.flatten_append]
  simpa using q1
set_option maxHeartbeats 1000000 in
theorem theirs11_any {S : Nat → Prop} {A : Option Addr} {n c : Nat} {l : List Rul} {w : World} (h : Row Elem.rul S w A n c l) (hm : l.length ≤ 1000000) :
    Calls Tryz.prog 11 #[.slice A n c] w fun e w' => ∃ A' c', e = .returned (.slice A' l.length c') ∧ Row Elem.rul (fun b => w.heap.size ≤ b) w' A' l.length c' l ∧ Ext w w' := by
  have HR := hid h
  have HLN := hid h.len
  have HM := hid hm
  have hn : n ≤ 9223372036854775807 := by have := h.cap; have := h.most; simp only [maxLen] at this; omega
  clear h hm
  go_enter Tryz.func11, Tryz.ntmps11
  go_wp2
  go_loopw [3, 7] (fun v i wr => ∃ j : Nat, j ≤ n ∧ i = .int .i64 j ∧ Hid (GrowU w wr v (l.take j))) (fun _ i _ => n - (intOf i).toNat)
  case atStart => exact ⟨0, by omega, rfl, ⟨World.ownsRow_nil _ _ _ _, Ext.refl _⟩⟩
  case round =>
    obtain ⟨j, hj, rfl, HGR⟩ := hrel
    by_cases hlt : j < n
    · obtain ⟨b1, o1, v1, x1, rfl, g1, -, r1, q1⟩ := (HR.out.ext HGR.out.ext).at_ hlt
      obtain ⟨who, target, attr, rights, allow⟩ := x1
      cases r1
      have e10 := q1 0 _ rfl
      have e11 := q1 1 _ rfl
      have e12 := q1 2 _ rfl
      have e13 := q1 3 _ rfl
      have e14 := q1 4 _ rfl
      simp only [Elem.rul, Nat.add_zero] at e10 e11 e12 e13 e14
      clear q1
      have Hg := hid g1
      clear g1
      have HLT : Hid ((l.take j).length ≤ 4000000) := by show _ ≤ _; rw [List.length_take]; have := HLN.out; have := HM.out; omega
      go_wp2_with (at_builtin; refine append_rul rfl _ _ rfl _ (l.take j) rfl HGR.out ⟨who, target, attr, rights, allow⟩ rfl HLT.out ?_; intro v' w3 hg3; have HG3 := hid hg3; clear hg3)
      exact ⟨⟨j + 1, by omega, by go_num, by (have e : l.take (j + 1) = l.take j ++ [⟨who, target, attr, rights, allow⟩] := by (rw [List.take_add_one, Hg.out]; rfl)); rw [e]; exact HG3⟩, by simp [intOf]; omega⟩
    · obtain rfl : j = n := by omega
      have hgr := HGR.out
      rw [List.take_of_length_le (Nat.le_of_eq HLN.out.symm)] at hgr
      obtain ⟨A2, c2, rfl, hr2⟩ := hgr.row
      have HR2 := hid hr2
      have HX := hid hgr.ext
      clear hgr hr2 HGR
      go_wp2
      go_ret
      exact ⟨A2, c2, rfl, HR2.out, HX.out⟩
/-- Are rules few enough? -/
def fewR (r : Rul) : Bool := decide (r.who.size + r.target.size + r.attr.size ≤ 3000)
def fewL (l : List Rul) : Bool := decide (l.length ≤ 100) && l.all fewR
set_option maxHeartbeats 1000000 in
theorem few11_any {S : Nat → Prop} {A : Option Addr} {n c : Nat} {l : List Rul} {w : World} (h : Row Elem.rul S w A n c l) (hs : ∀ r ∈ l, r.who.size ≤ 4000000 ∧ r.target.size ≤ 4000000 ∧ r.attr.size ≤ 4000000) :
    Calls Tryz.prog 9 #[.slice A n c] w fun e w' => e = .returned (.bool (fewL l)) ∧ Ext w w' := by
  have HR := hid h
  have HLN := hid h.len
  have HS := hid hs
  have hn : n ≤ 9223372036854775807 := by have := h.cap; have := h.most; simp only [maxLen] at this; omega
  clear h hs
  go_enter Tryz.func9, Tryz.ntmps9
  go_wp2
  go_loopw [6] (fun i wr => ∃ j : Nat, j ≤ n ∧ j ≤ 100 ∧ i = .int .i64 j ∧ Hid ((l.take j).all fewR = true) ∧ Hid (Ext w wr)) (fun i _ => n - (intOf i).toNat)
  case atStart => exact ⟨0, by omega, by omega, rfl, by simp [Hid], Ext.refl _⟩
  case round =>
    obtain ⟨j, hj, hj1, rfl, Htk, hx⟩ := hrel
    by_cases hlt : j < n
    · by_cases h100 : 100 ≤ j
      · have t1 : decide ((100 : Int) ≤ (j : Int)) = true := decide_eq_true (by omega)
        have HF : Hid (fewL l = false) := by show _ = _; unfold fewL; rw [decide_eq_false (by have := HLN.out; omega), Bool.false_and]
        clear h100
        go_wp2
        refine wp_region_plan (.read 0 (.read 1 (.read 2 (.read 3 (.read 4 (.read 5 (.read 6 (.read 7 (.read 8 (.read 9 (.read 10 (.read 11 (.read 12 (.read 13 (.read 14 (.read 15 (.read 16 (.read 17 (.read 18 (.read 19 (.read 20 (.read 21 (.read 22 (.read 23 (.read 24 .done))))))))))))))))))))))))) (by kernel_rfl) (by kernel_rfl) ?_
        intro wD hxD
        repeat' (first
          | (refine walks_move rfl rfl ?_; simp only [Act.put, Act.eval, List.setIfInBounds_toArray, List.set_cons_zero, List.set_cons_succ, Array.getD_eq_getD_getElem?, List.getElem?_toArray, List.getElem?_cons_zero, List.getElem?_cons_succ, Option.getD_some])
          | (refine walks_assign rfl rfl ?_; simp only [Act.put, Act.eval, List.setIfInBounds_toArray, List.set_cons_zero, List.set_cons_succ, Array.getD_eq_getD_getElem?, List.getElem?_toArray, List.getElem?_cons_zero, List.getElem?_cons_succ, Option.getD_some])
          | (refine walks_skip rfl rfl ?_; simp only [Act.put, List.setIfInBounds_toArray, List.set_cons_zero, List.set_cons_succ])
          | (refine walks_unwanted rfl rfl ?_; simp only [Act.put, List.setIfInBounds_toArray, List.set_cons_zero, List.set_cons_succ])
          | (refine walks_read (v := ?_) rfl rfl (fun w' hE => ?_) ?_; rotate_left 1; (· ((try (have hEx := Ext.trans (Hid.out XE) hE)); go_simp; (try go_bits); with_reducible rfl)); simp only [Act.put, List.setIfInBounds_toArray, List.set_cons_zero, List.set_cons_succ])
          | (refine walks_alt ?_ ?_)
          | (refine walks_main rfl rfl (fun K hK => ?_); go_wp2_with (fail); refine hK _ _ (by first | assumption | exact Ext.alloc _ _ | exact Ext.refl _) ?_; clear hK K; try simp only [Act.put, List.setIfInBounds_toArray, List.set_cons_zero, List.set_cons_succ]))
        refine walks_done ?_
        go_wp2
        go_ret
        exact ⟨by rw [HF.out]; (try rfl), hx.out.trans hxD⟩
      have t1 : decide ((100 : Int) ≤ (j : Int)) = false := decide_eq_false (by omega)
      obtain ⟨b1, o1, v1, x1, rfl, g1, -, r1, q1⟩ := (HR.out.ext hx.out).at_ hlt
      have Hg := hid g1
      have hsz := HS.out x1 (List.mem_of_getElem? g1)
      clear g1
      obtain ⟨who, target, attr, rights, allow⟩ := x1
      cases r1
      have e10 := q1 0 _ rfl
      have e11 := q1 1 _ rfl
      have e12 := q1 2 _ rfl
      simp only [Elem.rul, Nat.add_zero] at e10 e11 e12
      clear q1
      obtain ⟨z0, z1, z2⟩ := hsz
      simp only at z0 z1 z2
      by_cases hbig : 3000 < who.size + target.size + attr.size
      · have hb : decide ((3000 : Int) < (who.size : Int) + (target.size : Int) + (attr.size : Int)) = true := decide_eq_true (by omega)
        have HF : Hid (fewL l = false) := by
          show _ = _
          unfold fewL
          rw [all_at Hg.out (p := fewR) (by unfold fewR; exact decide_eq_false (by simp only; omega)), Bool.and_false]
        clear hbig
        go_wp2
        refine wp_region_plan (.read 0 (.read 1 (.read 2 (.read 3 (.read 4 (.read 5 (.read 6 (.read 7 (.read 8 (.read 9 (.read 10 (.read 11 (.read 12 (.read 13 (.read 14 (.read 15 (.read 16 (.read 17 (.read 18 (.read 19 (.read 20 (.read 21 (.read 22 (.read 23 (.read 24 .done))))))))))))))))))))))))) (by kernel_rfl) (by kernel_rfl) ?_
        intro wD hxD
        have XE : Hid (Ext wD wD) := Ext.refl _
        have c0 := cell_later (cell_later e10 _ hxD)
        have c1 := cell_later (cell_later e11 _ hxD)
        have c2 := cell_later (cell_later e12 _ hxD)
        repeat' (first
          | (refine walks_move rfl rfl ?_; simp only [Act.put, Act.eval, List.setIfInBounds_toArray, List.set_cons_zero, List.set_cons_succ, Array.getD_eq_getD_getElem?, List.getElem?_toArray, List.getElem?_cons_zero, List.getElem?_cons_succ, Option.getD_some])
          | (refine walks_assign rfl rfl ?_; simp only [Act.put, Act.eval, List.setIfInBounds_toArray, List.set_cons_zero, List.set_cons_succ, Array.getD_eq_getD_getElem?, List.getElem?_toArray, List.getElem?_cons_zero, List.getElem?_cons_succ, Option.getD_some])
          | (refine walks_skip rfl rfl ?_; simp only [Act.put, List.setIfInBounds_toArray, List.set_cons_zero, List.set_cons_succ])
          | (refine walks_unwanted rfl rfl ?_; simp only [Act.put, List.setIfInBounds_toArray, List.set_cons_zero, List.set_cons_succ])
          | (refine walks_read (v := ?_) rfl rfl (fun w' hE => ?_) ?_; rotate_left 1; (· ((try (have hEx := Ext.trans (Hid.out XE) hE)); go_simp; (try go_bits); with_reducible rfl)); simp only [Act.put, List.setIfInBounds_toArray, List.set_cons_zero, List.set_cons_succ])
          | (refine walks_alt ?_ ?_)
          | (refine walks_main rfl rfl (fun K hK => ?_); go_wp2_with (fail); refine hK _ _ (by first | assumption | exact Ext.alloc _ _ | exact Ext.refl _) ?_; clear hK K; try simp only [Act.put, List.setIfInBounds_toArray, List.set_cons_zero, List.set_cons_succ]))
        refine walks_done ?_
        go_wp2
        go_ret
        exact ⟨by rw [HF.out]; (try rfl), hx.out.trans hxD⟩
      · have hb : decide ((3000 : Int) < (who.size : Int) + (target.size : Int) + (attr.size : Int)) = false := decide_eq_false (by omega)
        have HY := hid (all_take Htk.out Hg.out (p := fewR) (by unfold fewR; exact decide_eq_true (by simp only; omega)))
        clear hbig
        go_wp2
        refine wp_region_plan (.read 0 (.read 1 (.read 2 (.read 3 (.read 4 (.read 5 (.read 6 (.read 7 (.read 8 (.read 9 (.read 10 (.read 11 (.read 12 (.read 13 (.read 14 (.read 15 (.read 16 (.read 17 (.read 18 (.read 19 (.read 20 (.read 21 (.read 22 (.read 23 (.read 24 .done))))))))))))))))))))))))) (by kernel_rfl) (by kernel_rfl) ?_
        intro wD hxD
        have XE : Hid (Ext wD wD) := Ext.refl _
        have c0 := cell_later (cell_later e10 _ hxD)
        have c1 := cell_later (cell_later e11 _ hxD)
        have c2 := cell_later (cell_later e12 _ hxD)
        repeat' (first
          | (refine walks_move rfl rfl ?_; simp only [Act.put, Act.eval, List.setIfInBounds_toArray, List.set_cons_zero, List.set_cons_succ, Array.getD_eq_getD_getElem?, List.getElem?_toArray, List.getElem?_cons_zero, List.getElem?_cons_succ, Option.getD_some])
          | (refine walks_assign rfl rfl ?_; simp only [Act.put, Act.eval, List.setIfInBounds_toArray, List.set_cons_zero, List.set_cons_succ, Array.getD_eq_getD_getElem?, List.getElem?_toArray, List.getElem?_cons_zero, List.getElem?_cons_succ, Option.getD_some])
          | (refine walks_skip rfl rfl ?_; simp only [Act.put, List.setIfInBounds_toArray, List.set_cons_zero, List.set_cons_succ])
          | (refine walks_unwanted rfl rfl ?_; simp only [Act.put, List.setIfInBounds_toArray, List.set_cons_zero, List.set_cons_succ])
          | (refine walks_read (v := ?_) rfl rfl (fun w' hE => ?_) ?_; rotate_left 1; (· ((try (have hEx := Ext.trans (Hid.out XE) hE)); go_simp; (try go_bits); with_reducible rfl)); simp only [Act.put, List.setIfInBounds_toArray, List.set_cons_zero, List.set_cons_succ])
          | (refine walks_alt ?_ ?_)
          | (refine walks_main rfl rfl (fun K hK => ?_); go_wp2_with (fail); refine hK _ _ (by first | assumption | exact Ext.alloc _ _ | exact Ext.refl _) ?_; clear hK K; try simp only [Act.put, List.setIfInBounds_toArray, List.set_cons_zero, List.set_cons_succ]))
        refine walks_done ?_
        go_wp2
        exact ⟨⟨j + 1, by omega, by omega, by go_num, HY, hx.out.trans hxD⟩, by simp [intOf]; omega⟩
    · obtain rfl : j = n := by omega
      have h9 := Htk.out
      rw [List.take_of_length_le (Nat.le_of_eq HLN.out.symm)] at h9
      have HF : Hid (fewL l = true) := by show _ = _; unfold fewL; rw [decide_eq_true (by have := HLN.out; omega), h9]; rfl
      clear h9
      go_wp2
      go_ret
      exact ⟨by rw [HF.out]; (try rfl), hx.out⟩
end Go.Proofs.YtkafonmpmgjcpaaGreatDoor
/- The walks of auth.Proxy and of the reference's Proxy. -/
namespace Go.Proofs.YtkafonmpmgjcpaaGreatDoor
open Go.RowKit
set_option maxRecDepth 100000
set_option linter.unusedSimpArgs false
set_option linter.unusedVariables false

/-- For whom a subject speaks, and the code. -/
def proxyF (l : List Rul) (subject wish : List UInt8) : List UInt8 × Int :=
  if (Lib.hasPrefix wish [100, 110, 58] || decide (wish = [])) && (codeR (partsB (Lib.trimPrefix wish [100, 110, 58])) == 0 && decideF l subject 32 (normalS (Lib.trimPrefix wish [100, 110, 58])) []) then (normalS (Lib.trimPrefix wish [100, 110, 58]), 0) else ([], 123)
def ProxySays (w : World) (r : List UInt8 × Int) (e : Ending) (w' : World) : Prop := e = .returned (.tuple #[.string (str r.1), .int .i64 r.2]) ∧ Ext w w'
set_option maxHeartbeats 2000000 in
theorem proxy_any {S : Nat → Prop} {A : Option Addr} {n c : Nat} {l : List Rul} {w : World} (h : Row Elem.rul S w A n c l) (hG : Gl w) (ha : ∀ r ∈ l, r.attr.size ≤ 4000000) (subject wish : ByteArray) :
    Calls Tryz.prog 10 #[.slice A n c, .string subject, .string wish] w (ProxySays w (proxyF l (bys subject) (bys wish))) := by
  have HG := hid hG
  have HCP : ∀ w, Calls Tryz.prog 15 #[.string wish, .string ⟨#[100, 110, 58]⟩] w fun e w' => e = .returned (.tuple #[.string (str (Lib.trimPrefix (bys wish) [100, 110, 58])), .bool (Lib.hasPrefix (bys wish) [100, 110, 58])]) ∧ w' = w := fun w => cutpre_any wish ⟨#[100, 110, 58]⟩ w
  have HN : ∀ w, Gl w → Calls Tryz.prog 16 #[.string (str (Lib.trimPrefix (bys wish) [100, 110, 58]))] w (NormalSays w (bys (str (Lib.trimPrefix (bys wish) [100, 110, 58])))) := fun w hG => dnnormal_any _ w hG
  have HD : ∀ w', Ext w w' → Calls Tryz.prog 17 #[.slice A n c, .string subject, .int .i64 32, .string (str (normalS (Lib.trimPrefix (bys wish) [100, 110, 58]))), .string ⟨#[]⟩] w' fun e w'' => e = .returned (.bool (decideF l (bys subject) 32 (bys (str (normalS (Lib.trimPrefix (bys wish) [100, 110, 58])))) (bys ⟨#[]⟩))) ∧ Ext w' w'' :=
    fun w' hx => decide_any (h.ext hx) (hG.ext hx) ha subject _ ⟨#[]⟩ 32 (by decide) (by decide)
  rw [bys_str (normalS (Lib.trimPrefix (bys wish) [100, 110, 58])), show bys ⟨#[]⟩ = [] from rfl] at HD
  rw [bys_str (Lib.trimPrefix (bys wish) [100, 110, 58])] at HN
  unfold NormalSays at HN
  have HDF : Hid (proxyF l (bys subject) (bys wish) = if (Lib.hasPrefix (bys wish) [100, 110, 58] || decide (bys wish = [])) && (codeR (partsB (Lib.trimPrefix (bys wish) [100, 110, 58])) == 0 && decideF l (bys subject) 32 (normalS (Lib.trimPrefix (bys wish) [100, 110, 58])) []) then (normalS (Lib.trimPrefix (bys wish) [100, 110, 58]), 0) else ([], 123)) := rfl
  clear hG h ha
  unfold ProxySays
  generalize proxyF l (bys subject) (bys wish) = R at *
  generalize codeR (partsB (Lib.trimPrefix (bys wish) [100, 110, 58])) = c0 at *
  generalize normalS (Lib.trimPrefix (bys wish) [100, 110, 58]) = nm at *
  generalize str (Lib.trimPrefix (bys wish) [100, 110, 58]) = tw at *
  generalize decideF l (bys subject) 32 nm [] = dd at *
  cases hp : Lib.hasPrefix (bys wish) [100, 110, 58]
  · rw [hp] at HCP
    rw [hp, Bool.false_or] at HDF
    clear hp
    by_cases h0 : wish.size = 0
    · have e0 := emp_yes h0
      rw [decide_eq_true ((empt _).1 h0), Bool.true_and] at HDF
      clear h0
      have kc : (c0 == 0) = true ∨ (c0 == 0) = false := by cases c0 == 0 <;> simp
      rcases kc with kc | kc
      · rw [kc, Bool.true_and] at HDF
        have kc' : (c0 != 0) = false := by rw [bne, kc]; rfl
        cases dd
        · rw [if_neg (by decide)] at HDF
          go_enter Tryz.func10, Tryz.ntmps10
          go_wp2_with
            (first
              | (go_at_call 15; (with_reducible refine (HCP _).mono ?_); rintro e w1 ⟨rfl, rfl⟩)
              | (go_at_call 16; (with_reducible refine (HN _ HG.out).mono ?_); rintro e w2 ⟨rfl, hx2⟩; have HX2 := hid hx2; clear hx2)
              | (go_at_call 17; (with_reducible refine (HD _ HX2.out).mono ?_); rintro e w3 ⟨rfl, hx3⟩; have HX3 := hid (HX2.out.trans hx3); clear hx3))
          go_ret2
          exact ⟨by rw [HDF.out]; rfl, HX3.out⟩
        · rw [if_pos rfl] at HDF
          go_enter Tryz.func10, Tryz.ntmps10
          go_wp2_with
            (first
              | (go_at_call 15; (with_reducible refine (HCP _).mono ?_); rintro e w1 ⟨rfl, rfl⟩)
              | (go_at_call 16; (with_reducible refine (HN _ HG.out).mono ?_); rintro e w2 ⟨rfl, hx2⟩; have HX2 := hid hx2; clear hx2)
              | (go_at_call 17; (with_reducible refine (HD _ HX2.out).mono ?_); rintro e w3 ⟨rfl, hx3⟩; have HX3 := hid (HX2.out.trans hx3); clear hx3))
          go_ret2
          exact ⟨by rw [HDF.out]; (try rfl), HX3.out⟩
      · rw [kc, Bool.false_and, if_neg (by decide)] at HDF
        have kc' : (c0 != 0) = true := by rw [bne, kc]; rfl
        go_enter Tryz.func10, Tryz.ntmps10
        go_wp2_with
          (first
            | (go_at_call 15; (with_reducible refine (HCP _).mono ?_); rintro e w1 ⟨rfl, rfl⟩)
            | (go_at_call 16; (with_reducible refine (HN _ HG.out).mono ?_); rintro e w2 ⟨rfl, hx2⟩; have HX2 := hid hx2; clear hx2)
            | (go_at_call 17; (with_reducible refine (HD _ HX2.out).mono ?_); rintro e w3 ⟨rfl, hx3⟩; have HX3 := hid (HX2.out.trans hx3); clear hx3))
        go_ret2
        exact ⟨by rw [HDF.out]; rfl, HX2.out⟩
    · have e0 := emp_nb h0
      rw [decide_eq_false (fun e => h0 ((empt _).2 e)), Bool.false_and, if_neg (by decide)] at HDF
      clear h0
      go_enter Tryz.func10, Tryz.ntmps10
      go_wp2_with
        (first
          | (go_at_call 15; (with_reducible refine (HCP _).mono ?_); rintro e w1 ⟨rfl, rfl⟩)
          | (go_at_call 16; (with_reducible refine (HN _ HG.out).mono ?_); rintro e w2 ⟨rfl, hx2⟩; have HX2 := hid hx2; clear hx2)
          | (go_at_call 17; (with_reducible refine (HD _ HX2.out).mono ?_); rintro e w3 ⟨rfl, hx3⟩; have HX3 := hid (HX2.out.trans hx3); clear hx3))
      go_ret2
      exact ⟨by rw [HDF.out]; rfl, HX2.out⟩
  · rw [hp] at HCP
    rw [hp, Bool.true_or, Bool.true_and] at HDF
    clear hp
    have kc : (c0 == 0) = true ∨ (c0 == 0) = false := by cases c0 == 0 <;> simp
    rcases kc with kc | kc
    · rw [kc, Bool.true_and] at HDF
      have kc' : (c0 != 0) = false := by rw [bne, kc]; rfl
      cases dd
      · rw [if_neg (by decide)] at HDF
        go_enter Tryz.func10, Tryz.ntmps10
        go_wp2_with
          (first
            | (go_at_call 15; (with_reducible refine (HCP _).mono ?_); rintro e w1 ⟨rfl, rfl⟩)
            | (go_at_call 16; (with_reducible refine (HN _ HG.out).mono ?_); rintro e w2 ⟨rfl, hx2⟩; have HX2 := hid hx2; clear hx2)
            | (go_at_call 17; (with_reducible refine (HD _ HX2.out).mono ?_); rintro e w3 ⟨rfl, hx3⟩; have HX3 := hid (HX2.out.trans hx3); clear hx3))
        go_ret2
        exact ⟨by rw [HDF.out]; rfl, HX3.out⟩
      · rw [if_pos rfl] at HDF
        go_enter Tryz.func10, Tryz.ntmps10
        go_wp2_with
          (first
            | (go_at_call 15; (with_reducible refine (HCP _).mono ?_); rintro e w1 ⟨rfl, rfl⟩)
            | (go_at_call 16; (with_reducible refine (HN _ HG.out).mono ?_); rintro e w2 ⟨rfl, hx2⟩; have HX2 := hid hx2; clear hx2)
            | (go_at_call 17; (with_reducible refine (HD _ HX2.out).mono ?_); rintro e w3 ⟨rfl, hx3⟩; have HX3 := hid (HX2.out.trans hx3); clear hx3))
        go_ret2
        exact ⟨by rw [HDF.out]; (try rfl), HX3.out⟩
    · rw [kc, Bool.false_and, if_neg (by decide)] at HDF
      have kc' : (c0 != 0) = true := by rw [bne, kc]; rfl
      go_enter Tryz.func10, Tryz.ntmps10
      go_wp2_with
        (first
          | (go_at_call 15; (with_reducible refine (HCP _).mono ?_); rintro e w1 ⟨rfl, rfl⟩)
          | (go_at_call 16; (with_reducible refine (HN _ HG.out).mono ?_); rintro e w2 ⟨rfl, hx2⟩; have HX2 := hid hx2; clear hx2)
          | (go_at_call 17; (with_reducible refine (HD _ HX2.out).mono ?_); rintro e w3 ⟨rfl, hx3⟩; have HX3 := hid (HX2.out.trans hx3); clear hx3))
      go_ret2
      exact ⟨by rw [HDF.out]; rfl, HX2.out⟩
theorem pre_len {s p : List UInt8} (h : s.length < p.length) : Lib.hasPrefix s p = false := by
  cases hb : Lib.hasPrefix s p with
  | false => rfl
  | true =>
    unfold Lib.hasPrefix at hb
    have := (List.isPrefixOf_iff_prefix.1 hb).length_le
    omega
theorem pre_take (s p : List UInt8) : Lib.hasPrefix s p = decide (s.take p.length = p) := by
  rw [Bool.eq_iff_iff, decide_eq_true_eq]
  unfold Lib.hasPrefix
  rw [List.isPrefixOf_iff_prefix, List.prefix_iff_eq_take]
  exact ⟨fun h => h.symm, fun h => h.symm⟩
set_option maxHeartbeats 2000000 in
theorem rproxy_any {S : Nat → Prop} {A : Option Addr} {n c : Nat} {l : List Rul} {w : World} (h : Row Elem.rul S w A n c l) (hG : Gl w) (ha : ∀ r ∈ l, r.attr.size ≤ 4000000) (subject wish : ByteArray) :
    Calls Tryz.prog 12 #[.slice A n c, .string subject, .string wish] w (ProxySays w (proxyF l (bys subject) (bys wish))) := by
  have HG := hid hG
  have HNA : ∀ (s : ByteArray) w, Gl w → Calls Tryz.prog 13 #[.string s] w (NormalSays w (bys s)) := fun s w hG => rnormal06_any s w hG
  have HD : ∀ w', Ext w w' → Calls Tryz.prog 18 #[.slice A n c, .string subject, .int .i64 32, .string (str (normalS (Lib.trimPrefix (bys wish) [100, 110, 58]))), .string ⟨#[]⟩] w' fun e w'' => e = .returned (.bool (decideF l (bys subject) 32 (bys (str (normalS (Lib.trimPrefix (bys wish) [100, 110, 58])))) (bys ⟨#[]⟩))) ∧ Ext w' w'' :=
    fun w' hx => refdecide_any (h.ext hx) (hG.ext hx) ha subject _ ⟨#[]⟩ 32 (by decide) (by decide)
  rw [bys_str (normalS (Lib.trimPrefix (bys wish) [100, 110, 58])), show bys ⟨#[]⟩ = [] from rfl] at HD
  unfold NormalSays at HNA
  have HDF : Hid (proxyF l (bys subject) (bys wish) = if (Lib.hasPrefix (bys wish) [100, 110, 58] || decide (bys wish = [])) && (codeR (partsB (Lib.trimPrefix (bys wish) [100, 110, 58])) == 0 && decideF l (bys subject) 32 (normalS (Lib.trimPrefix (bys wish) [100, 110, 58])) []) then (normalS (Lib.trimPrefix (bys wish) [100, 110, 58]), 0) else ([], 123)) := rfl
  clear hG h ha
  unfold ProxySays
  by_cases h0 : wish.size = 0
  · have e0 := emp_yes h0
    have hw0 := (empt _).1 h0
    have HN := HNA ⟨#[]⟩
    rw [show bys ⟨#[]⟩ = Lib.trimPrefix (bys wish) [100, 110, 58] by rw [hw0]; rfl] at HN
    rw [decide_eq_true hw0, Bool.or_true, Bool.true_and] at HDF
    clear h0 HNA
    generalize proxyF l (bys subject) (bys wish) = R at *
    generalize codeR (partsB (Lib.trimPrefix (bys wish) [100, 110, 58])) = c0 at *
    generalize normalS (Lib.trimPrefix (bys wish) [100, 110, 58]) = nm at *
    generalize decideF l (bys subject) 32 nm [] = dd at *
    clear hw0
    have kc : (c0 == 0) = true ∨ (c0 == 0) = false := by cases c0 == 0 <;> simp
    rcases kc with kc | kc
    · rw [kc, Bool.true_and] at HDF
      have kc' : (c0 != 0) = false := by rw [bne, kc]; rfl
      cases dd
      · rw [if_neg (by decide)] at HDF
        go_enter Tryz.func12, Tryz.ntmps12
        go_wp2_with
          (first
            | (go_at_call 13; (with_reducible refine (HN _ HG.out).mono ?_); rintro e w2 ⟨rfl, hx2⟩; have HX2 := hid hx2; clear hx2)
            | (go_at_call 18; (with_reducible refine (HD _ HX2.out).mono ?_); rintro e w3 ⟨rfl, hx3⟩; have HX3 := hid (HX2.out.trans hx3); clear hx3))
        go_ret2
        exact ⟨by rw [HDF.out]; rfl, HX3.out⟩
      · rw [if_pos rfl] at HDF
        go_enter Tryz.func12, Tryz.ntmps12
        go_wp2_with
          (first
            | (go_at_call 13; (with_reducible refine (HN _ HG.out).mono ?_); rintro e w2 ⟨rfl, hx2⟩; have HX2 := hid hx2; clear hx2)
            | (go_at_call 18; (with_reducible refine (HD _ HX2.out).mono ?_); rintro e w3 ⟨rfl, hx3⟩; have HX3 := hid (HX2.out.trans hx3); clear hx3))
        go_ret2
        exact ⟨by rw [HDF.out]; (try rfl), HX3.out⟩
    · rw [kc, Bool.false_and, if_neg (by decide)] at HDF
      have kc' : (c0 != 0) = true := by rw [bne, kc]; rfl
      go_enter Tryz.func12, Tryz.ntmps12
      go_wp2_with
        (first
          | (go_at_call 13; (with_reducible refine (HN _ HG.out).mono ?_); rintro e w2 ⟨rfl, hx2⟩; have HX2 := hid hx2; clear hx2)
          | (go_at_call 18; (with_reducible refine (HD _ HX2.out).mono ?_); rintro e w3 ⟨rfl, hx3⟩; have HX3 := hid (HX2.out.trans hx3); clear hx3))
      go_ret2
      exact ⟨by rw [HDF.out]; rfl, HX2.out⟩
  have e0 := emp_nb h0
  rw [decide_eq_false (fun e => h0 ((empt _).2 e)), Bool.or_false] at HDF
  by_cases h3 : wish.size < 3
  · have t3 : (wish.size : Int) < 3 := by omega
    rw [pre_len (by rw [bys_len]; exact h3), Bool.false_and, if_neg (by decide)] at HDF
    clear h0 h3 HNA HD
    go_enter Tryz.func12, Tryz.ntmps12
    go_wp2
    go_ret2
    exact ⟨by rw [HDF.out]; rfl, Ext.refl _⟩
  have t3 : ¬ (wish.size : Int) < 3 := by omega
  have t3' : (3 : Int) ≤ (wish.size : Int) := by omega
  obtain ⟨p3, hp3⟩ : ∃ p, wish.extract 0 3 = p := ⟨_, rfl⟩
  obtain ⟨d3, hd3⟩ : ∃ p, wish.extract 3 wish.size = p := ⟨_, rfl⟩
  have hb3 : bys p3 = (bys wish).take 3 := by rw [← hp3, bys_ext]; rfl
  by_cases he : bys p3 = [100, 110, 58]
  · have e3 := lst_yes he
    have hpre : Lib.hasPrefix (bys wish) [100, 110, 58] = true := by rw [pre_take]; exact decide_eq_true (hb3.symm.trans he)
    have HN := HNA d3
    rw [show bys d3 = Lib.trimPrefix (bys wish) [100, 110, 58] by unfold Lib.trimPrefix; rw [hpre, if_pos rfl, ← hd3, ext_drop]; rfl] at HN
    rw [hpre, Bool.true_and] at HDF
    clear h0 h3 HNA he hb3 hpre
    generalize proxyF l (bys subject) (bys wish) = R at *
    generalize codeR (partsB (Lib.trimPrefix (bys wish) [100, 110, 58])) = c0 at *
    generalize normalS (Lib.trimPrefix (bys wish) [100, 110, 58]) = nm at *
    generalize decideF l (bys subject) 32 nm [] = dd at *
    have kc : (c0 == 0) = true ∨ (c0 == 0) = false := by cases c0 == 0 <;> simp
    rcases kc with kc | kc
    · rw [kc, Bool.true_and] at HDF
      have kc' : (c0 != 0) = false := by rw [bne, kc]; rfl
      cases dd
      · rw [if_neg (by decide)] at HDF
        go_enter Tryz.func12, Tryz.ntmps12
        go_wp2_with
          (first
            | (go_at_call 13; (with_reducible refine (HN _ HG.out).mono ?_); rintro e w2 ⟨rfl, hx2⟩; have HX2 := hid hx2; clear hx2)
            | (go_at_call 18; (with_reducible refine (HD _ HX2.out).mono ?_); rintro e w3 ⟨rfl, hx3⟩; have HX3 := hid (HX2.out.trans hx3); clear hx3))
        go_ret2
        exact ⟨by rw [HDF.out]; rfl, HX3.out⟩
      · rw [if_pos rfl] at HDF
        go_enter Tryz.func12, Tryz.ntmps12
        go_wp2_with
          (first
            | (go_at_call 13; (with_reducible refine (HN _ HG.out).mono ?_); rintro e w2 ⟨rfl, hx2⟩; have HX2 := hid hx2; clear hx2)
            | (go_at_call 18; (with_reducible refine (HD _ HX2.out).mono ?_); rintro e w3 ⟨rfl, hx3⟩; have HX3 := hid (HX2.out.trans hx3); clear hx3))
        go_ret2
        exact ⟨by rw [HDF.out]; (try rfl), HX3.out⟩
    · rw [kc, Bool.false_and, if_neg (by decide)] at HDF
      have kc' : (c0 != 0) = true := by rw [bne, kc]; rfl
      go_enter Tryz.func12, Tryz.ntmps12
      go_wp2_with
        (first
          | (go_at_call 13; (with_reducible refine (HN _ HG.out).mono ?_); rintro e w2 ⟨rfl, hx2⟩; have HX2 := hid hx2; clear hx2)
          | (go_at_call 18; (with_reducible refine (HD _ HX2.out).mono ?_); rintro e w3 ⟨rfl, hx3⟩; have HX3 := hid (HX2.out.trans hx3); clear hx3))
      go_ret2
      exact ⟨by rw [HDF.out]; rfl, HX2.out⟩
  · have e3 := lst_no he
    have hpre : Lib.hasPrefix (bys wish) [100, 110, 58] = false := by rw [pre_take]; exact decide_eq_false (fun e => he (by rw [hb3]; exact e))
    rw [hpre, Bool.false_and, if_neg (by decide)] at HDF
    clear h0 h3 HNA he hb3 hpre HD
    go_enter Tryz.func12, Tryz.ntmps12
    go_wp2
    go_ret2
    exact ⟨by rw [HDF.out]; rfl, Ext.refl _⟩
end Go.Proofs.YtkafonmpmgjcpaaGreatDoor
/- The walk of AuthProxies. -/
namespace Go.Proofs.YtkafonmpmgjcpaaGreatDoor
open Go.RowKit
set_option maxRecDepth 100000
set_option linter.unusedSimpArgs false
set_option linter.unusedVariables false

theorem proxy_code (l : List Rul) (s w : List UInt8) : (proxyF l s w).2 = 0 ∨ (proxyF l s w).2 = 123 := by
  unfold proxyF
  split
  · exact .inl rfl
  · exact .inr rfl
set_option maxHeartbeats 2000000 in
theorem proxieslaw_any {S : Nat → Prop} {A : Option Addr} {n c : Nat} {l : List Rul} {w : World} (hG : Gl w) (h : Row Elem.rul S w A n c l) (subject wish : ByteArray) (hz : subject.size ≤ 4000000) (hy : wish.size ≤ 4000000)
    (hs : ∀ r ∈ l, r.who.size ≤ 4000000 ∧ r.target.size ≤ 4000000 ∧ r.attr.size ≤ 4000000) :
    Calls Tryz.prog 4 #[.slice A n c, .string subject, .string wish] w fun e w' => e = .returned (.bool true) ∧ Ext w w' := by
  have HG := hid hG
  have HAW : ∀ w, Gl w → Calls Tryz.prog 6 #[] w fun e w' => e = .returned (.bool true) ∧ Ext w w' := fun w hG => awake_any w hG
  have HFE : ∀ w', Ext w w' → Calls Tryz.prog 9 #[.slice A n c] w' fun e w'' => e = .returned (.bool (fewL l)) ∧ Ext w' w'' := fun w' hx => few11_any (h.ext hx) hs
  cases hf : fewL l
  · rw [hf] at HFE
    clear h hG hs hf
    go_enter Tryz.func4, Tryz.ntmps4
    go_wp2_with
      (first
        | (go_at_call 6; first
            | ((with_reducible refine (HAW _ HG.out).mono ?_); rintro e w1 ⟨rfl, hx1⟩; have HX1 := hid hx1; have HGN := hid (HG.out.ext hx1); clear hx1 HG)
            | ((with_reducible refine (HAW _ HGW.out).mono ?_); rintro e w8 ⟨rfl, hx8⟩; have HX8 := hid (HX2.out.trans hx8); clear hx8))
        | (go_at_call 9; (with_reducible refine (HFE _ HX1.out).mono ?_); rintro e w2 ⟨rfl, hx2⟩; have HX2 := hid (HX1.out.trans hx2); have HGW := hid (HGN.out.ext hx2); clear hx2)
        | (go_at_call 11; (with_reducible refine (HTH _ HX2.out).mono ?_); rintro e w3 ⟨A3, c3, rfl, hr3, hx3⟩; have HR3 := hid hr3; have HX3 := hid (HX2.out.trans hx3); clear hx3 hr3)
        | (go_at_call 10; (with_reducible refine (HP1 _ _ _ _ _ HX3.out HR3.out).mono ?_); rintro e w4 ⟨rfl, hx4⟩; have HX4 := hid (HX3.out.trans hx4); clear hx4)
        | (go_at_call 12; (with_reducible refine (HP2 _ HX4.out).mono ?_); rintro e w5 ⟨rfl, hx5⟩; have HX5 := hid (HX4.out.trans hx5); clear hx5))
    go_ret
    exact ⟨rfl, HX8.out⟩
  rw [hf] at HFE
  by_cases hbig : 3000 < subject.size + wish.size
  · have hb : (3000 : Int) < (subject.size : Int) + (wish.size : Int) := by omega
    clear h hG hs hf hbig
    go_enter Tryz.func4, Tryz.ntmps4
    go_wp2_with
      (first
        | (go_at_call 6; first
            | ((with_reducible refine (HAW _ HG.out).mono ?_); rintro e w1 ⟨rfl, hx1⟩; have HX1 := hid hx1; have HGN := hid (HG.out.ext hx1); clear hx1 HG)
            | ((with_reducible refine (HAW _ HGW.out).mono ?_); rintro e w8 ⟨rfl, hx8⟩; have HX8 := hid (HX2.out.trans hx8); clear hx8))
        | (go_at_call 9; (with_reducible refine (HFE _ HX1.out).mono ?_); rintro e w2 ⟨rfl, hx2⟩; have HX2 := hid (HX1.out.trans hx2); have HGW := hid (HGN.out.ext hx2); clear hx2)
        | (go_at_call 11; (with_reducible refine (HTH _ HX2.out).mono ?_); rintro e w3 ⟨A3, c3, rfl, hr3, hx3⟩; have HR3 := hid hr3; have HX3 := hid (HX2.out.trans hx3); clear hx3 hr3)
        | (go_at_call 10; (with_reducible refine (HP1 _ _ _ _ _ HX3.out HR3.out).mono ?_); rintro e w4 ⟨rfl, hx4⟩; have HX4 := hid (HX3.out.trans hx4); clear hx4)
        | (go_at_call 12; (with_reducible refine (HP2 _ HX4.out).mono ?_); rintro e w5 ⟨rfl, hx5⟩; have HX5 := hid (HX4.out.trans hx5); clear hx5))
    go_ret
    exact ⟨rfl, HX8.out⟩
  have hb : ¬ (3000 : Int) < (subject.size : Int) + (wish.size : Int) := by omega
  have hl : l.length ≤ 1000000 := by
    unfold fewL at hf
    rw [Bool.and_eq_true, decide_eq_true_eq] at hf
    omega
  have HTH : ∀ w', Ext w w' → Calls Tryz.prog 11 #[.slice A n c] w' fun e w'' => ∃ A' c', e = .returned (.slice A' l.length c') ∧ Row Elem.rul (fun b => w'.heap.size ≤ b) w'' A' l.length c' l ∧ Ext w' w'' := fun w' hx => theirs11_any (h.ext hx) hl
  have hsa : ∀ r ∈ l, r.attr.size ≤ 4000000 := fun r hr => (hs r hr).2.2
  have HP1 : ∀ (T : Nat → Prop) B m d w', Ext w w' → Row Elem.rul T w' B m d l → Calls Tryz.prog 10 #[.slice B m d, .string subject, .string wish] w' (ProxySays w' (proxyF l (bys subject) (bys wish))) := fun T B m d w' hx hr => proxy_any hr (hG.ext hx) hsa subject wish
  have HP2 : ∀ w', Ext w w' → Calls Tryz.prog 12 #[.slice A n c, .string subject, .string wish] w' (ProxySays w' (proxyF l (bys subject) (bys wish))) := fun w' hx => rproxy_any (h.ext hx) (hG.ext hx) hsa subject wish
  have HCD := hid (proxy_code l (bys subject) (bys wish))
  unfold ProxySays at HP1 HP2
  clear h hG hs hsa hl hf hbig
  generalize proxyF l (bys subject) (bys wish) = R at *
  obtain ⟨q1, q2⟩ := R
  simp only at HP1 HP2 HCD
  have hq := str_eq (rfl : str q1 = str q1)
  rcases HCD.out with rfl | rfl
  all_goals
    go_enter Tryz.func4, Tryz.ntmps4
    go_wp2_with
      (first
        | (go_at_call 6; first
            | ((with_reducible refine (HAW _ HG.out).mono ?_); rintro e w1 ⟨rfl, hx1⟩; have HX1 := hid hx1; have HGN := hid (HG.out.ext hx1); clear hx1 HG)
            | ((with_reducible refine (HAW _ HGW.out).mono ?_); rintro e w8 ⟨rfl, hx8⟩; have HX8 := hid (HX2.out.trans hx8); clear hx8))
        | (go_at_call 9; (with_reducible refine (HFE _ HX1.out).mono ?_); rintro e w2 ⟨rfl, hx2⟩; have HX2 := hid (HX1.out.trans hx2); have HGW := hid (HGN.out.ext hx2); clear hx2)
        | (go_at_call 11; (with_reducible refine (HTH _ HX2.out).mono ?_); rintro e w3 ⟨A3, c3, rfl, hr3, hx3⟩; have HR3 := hid hr3; have HX3 := hid (HX2.out.trans hx3); clear hx3 hr3)
        | (go_at_call 10; (with_reducible refine (HP1 _ _ _ _ _ HX3.out HR3.out).mono ?_); rintro e w4 ⟨rfl, hx4⟩; have HX4 := hid (HX3.out.trans hx4); clear hx4)
        | (go_at_call 12; (with_reducible refine (HP2 _ HX4.out).mono ?_); rintro e w5 ⟨rfl, hx5⟩; have HX5 := hid (HX4.out.trans hx5); clear hx5))
    go_ret
    exact ⟨rfl, HX5.out⟩
end Go.Proofs.YtkafonmpmgjcpaaGreatDoor
/- A slice of rules among the arguments, read under the bound of an '..UptoSaid'. -/
namespace Go.Proofs.YtkafonmpmgjcpaaGreatDoor
open Go.RowKit Go.ChangeShapes Go.WideShapes Go.Deep
set_option maxRecDepth 10000
def RulOk (a : Rul) : Prop := a.who.size ≤ 1048576 ∧ a.target.size ≤ 1048576 ∧ a.attr.size ≤ 1048576
section
variable {H : Type} {enc : TypeId × Value → H} {W : World}
theorem rul_open {M : Nat} (hM0 : M ≤ 1048576) {fuel : Nat} {cs : List Value} {x : DataW H × List MemPlace} (h : DataW.trod enc Tryz.prog W 0 (fun _ => true) true fuel 45 cs = some x) (hM : Rows.uptoBulk x.1 ≤ M) : ∃ a : Rul, Elem.rul.R (fun _ => True) W cs a ∧ RulOk a := by
  obtain ⟨hl, hf⟩ := agg_open Tryz.underlying45 h hM
  obtain ⟨m0, y0, h0, b0⟩ := hf 0 _ rfl
  obtain ⟨s, e0, q0⟩ := str_open Tryz.underlying9 h0 (Nat.le_of_lt b0)
  obtain ⟨m1, y1, h1, b1⟩ := hf 1 _ rfl
  obtain ⟨s1, e1, q1⟩ := str_open Tryz.underlying9 h1 (Nat.le_of_lt b1)
  obtain ⟨m2, y2, h2, b2⟩ := hf 2 _ rfl
  obtain ⟨s2, e2, q2⟩ := str_open Tryz.underlying9 h2 (Nat.le_of_lt b2)
  obtain ⟨m3, y3, h3, b3⟩ := hf 3 _ rfl
  obtain ⟨k, e3, -, -⟩ := int_open Tryz.underlying3 h3
  obtain ⟨m4, y4, h4, b4⟩ := hf 4 _ rfl
  obtain ⟨b, e4⟩ := bool_open Tryz.underlying4 h4
  have hcs : cs.drop 0 = [.string s, .string s1, .string s2, .int .i64 k, .bool b] := by rw [drop_one (i := 0) (j := 1) e0 (by kernel_rfl) rfl, drop_one (i := 1) (j := 2) e1 (by kernel_rfl) rfl, drop_one (i := 2) (j := 3) e2 (by kernel_rfl) rfl, drop_one (i := 3) (j := 4) e3 (by kernel_rfl) rfl, drop_one (i := 4) (j := 5) e4 (by kernel_rfl) rfl, drop_all (n := 5) hl (by kernel_rfl)]
  rw [List.drop_zero] at hcs
  exact ⟨⟨s, s1, s2, k, b⟩, hcs, Nat.le_trans (Nat.le_of_lt q0) hM0, Nat.le_trans (Nat.le_of_lt q1) hM0, Nat.le_trans (Nat.le_of_lt q2) hM0⟩
end
end Go.Proofs.YtkafonmpmgjcpaaGreatDoor
