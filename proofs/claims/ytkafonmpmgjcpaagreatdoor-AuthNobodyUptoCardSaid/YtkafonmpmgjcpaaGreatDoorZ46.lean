import Derived.Test.YtkafonmpmgjcpaaGreatDoorZ45
/- The walk of auth.Bind. -/
namespace Go.Proofs.YtkafonmpmgjcpaaGreatDoor
open Go.RowKit
set_option maxRecDepth 100000
set_option linter.unusedSimpArgs false
set_option linter.unusedVariables false

/-- An entry; a context; a config's servers are lists of contexts. -/
structure Ent where
  name : ByteArray
  atts : List Att
def Elem.ent : Elem Ent :=
  ⟨2, by decide, fun S w v a => ∃ A n c, v = [.string a.name, .slice A n c] ∧ Row Elem.att S w A n c a.atts, fun ⟨_, _, _, h, _⟩ => by rw [h]; rfl, fun ⟨A, n, c, h, hr⟩ hk => ⟨A, n, c, h, hr.same hk⟩, fun ⟨A, n, c, h, hr⟩ hs => ⟨A, n, c, h, hr.mono hs⟩⟩
structure Ctx where
  name : ByteArray
  ents : List Ent
/-- (A context's cuts are not told.) -/
def Elem.ctx : Elem Ctx :=
  ⟨3, by decide, fun S w v a => ∃ A n c B m d, v = [.string a.name, .slice A n c, .slice B m d] ∧ Row Elem.ent S w A n c a.ents, fun ⟨_, _, _, _, _, _, h, _⟩ => by rw [h]; rfl, fun ⟨A, n, c, B, m, d, h, hr⟩ hk => ⟨A, n, c, B, m, d, h, hr.same hk⟩, fun ⟨A, n, c, B, m, d, h, hr⟩ hs => ⟨A, n, c, B, m, d, h, hr.mono hs⟩⟩
def Elem.srv : Elem (List Ctx) := Elem.slc Elem.ctx
def entsC (c : List Ctx) : List Ent := c.flatMap (·.ents)
def entsS (s : List (List Ctx)) : List Ent := s.flatMap entsC
def userPw : List UInt8 := [117, 115, 101, 114, 80, 97, 115, 115, 119, 111, 114, 100]
/-- What Bind answers. -/
def bindE (s : List (List Ctx)) (name pw : List UInt8) : List UInt8 × Int :=
  if name = [] then (if pw = [] then ([], 0) else ([], 49))
  else if codeR (partsB name) ≠ 0 then ([], 34)
  else if pw = [] then ([], 53)
  else match (entsS s).find? (fun x => decide (x.name = str (normalS name))) with
    | some x => if hasE userPw pw (valsE userPw x.atts) then (normalS name, 0) else ([], 49)
    | none => ([], 49)
theorem flatMap_take_none {α β : Type} {f : α → List β} {P : β → Bool} {l : List α} {i : Nat} {y : α} (h : ((l.take i).flatMap f).find? P = none) (hy : l[i]? = some y) (h2 : (f y).find? P = none) : ((l.take (i + 1)).flatMap f).find? P = none := by
  rw [List.take_add_one, hy, List.flatMap_append, List.find?_append, h]
  simpa using h2
theorem flatMap_at {α β : Type} {f : α → List β} {P : β → Bool} {l : List α} {i : Nat} {y : α} {x : β} (h : ((l.take i).flatMap f).find? P = none) (hy : l[i]? = some y) (h2 : (f y).find? P = some x) : (l.flatMap f).find? P = some x := by
  obtain ⟨hj, he⟩ := List.getElem?_eq_some_iff.1 hy
  rw [← List.take_append_drop i l, List.flatMap_append, List.find?_append, h, List.drop_eq_getElem_cons hj, he, List.flatMap_cons, List.find?_append, h2]
  rfl
def BindSays (w : World) (s : List (List Ctx)) (name pw : List UInt8) (e : Ending) (w' : World) : Prop := e = .returned (.tuple #[.string (str (bindE s name pw).1), .int .i64 (bindE s name pw).2]) ∧ Ext w w'
set_option maxHeartbeats 4000000 in
theorem bind_any {S : Nat → Prop} {A B : Option Addr} {n c m d : Nat} {s : List (List Ctx)} {w : World} (h : Row Elem.srv S w A n c s) (name pw : ByteArray) (hG : Gl w) (hv : ∀ x ∈ entsS s, ∀ a ∈ x.atts, a.vals.length ≤ 8796093022208) :
    Calls Tryz.prog 14 #[.agg #[.slice A n c, .slice B m d], .string name, .string pw] w (BindSays w s (bys name) (bys pw)) := by
  have HG := hid hG
  have HN : ∀ w, Gl w → Calls Tryz.prog 16 #[.string name] w (NormalSays w (bys name)) := fun w hG => dnnormal_any name w hG
  unfold NormalSays at HN
  have HBD : Hid (bindE s (bys name) (bys pw) = (if bys name = [] then (if bys pw = [] then ([], 0) else ([], 49))
    else if codeR (partsB (bys name)) ≠ 0 then ([], 34) else if bys pw = [] then ([], 53)
    else match (entsS s).find? (fun x => decide (x.name = str (normalS (bys name)))) with
    | some x => if hasE userPw (bys pw) (valsE userPw x.atts) then (normalS (bys name), 0) else ([], 49)
    | none => ([], 49) : List UInt8 × Int)) := rfl
  have HR := hid h
  have HV := hid hv
  have hn : n ≤ 9223372036854775807 := by have := h.cap; have := h.most; simp only [maxLen] at this; omega
  clear hG hv h
  have bn : ∀ x : ByteArray, x.size = 0 → bys x = [] := fun x h => by rw [str_emp h]; rfl
  have bq : ∀ x : ByteArray, ¬ x.size = 0 → bys x ≠ [] := fun x h e => h (by rw [← bys_len, e]; rfl)
  have HBN := hid bn
  have HBQ := hid bq
  clear bn bq
  show Calls _ _ _ _ (fun e w' => BindSays w s (bys name) (bys pw) e w')
  unfold BindSays
  generalize bindE s (bys name) (bys pw) = R at *
  by_cases h1 : name.size = 0
  · have e1 := emp_yes h1
    rw [HBN.out name h1, if_pos rfl] at HBD
    by_cases h2 : pw.size = 0
    · have e2 := emp_yes h2
      rw [HBN.out pw h2, if_pos rfl] at HBD
      clear h1 h2
      go_enter Tryz.func14, Tryz.ntmps14
      go_wp2_with (go_at_call 16; (with_reducible refine (HN _ (HG.out.ext (Ext.alloc _ _))).mono ?_); rintro e w1 ⟨rfl, hx1⟩; have HX1 := hid (Ext.trans (Ext.alloc _ _) hx1); clear hx1)
      go_ret2
      exact ⟨by rw [HBD.out]; rfl, HX1.out⟩
    · have e2 := emp_nb h2
      rw [if_neg (HBQ.out pw h2)] at HBD
      clear h1 h2
      go_enter Tryz.func14, Tryz.ntmps14
      go_wp2_with (go_at_call 16; (with_reducible refine (HN _ (HG.out.ext (Ext.alloc _ _))).mono ?_); rintro e w1 ⟨rfl, hx1⟩; have HX1 := hid (Ext.trans (Ext.alloc _ _) hx1); clear hx1)
      go_ret2
      exact ⟨by rw [HBD.out]; rfl, HX1.out⟩
  · have e1 := emp_nb h1
    rw [if_neg (HBQ.out name h1)] at HBD
    generalize codeR (partsB (bys name)) = cd at *
    by_cases h3 : cd = 0
    · subst h3
      rw [if_neg (by simp)] at HBD
      by_cases h2 : pw.size = 0
      · have e2 := emp_yes h2
        rw [HBN.out pw h2, if_pos rfl] at HBD
        clear h1 h2
        go_enter Tryz.func14, Tryz.ntmps14
        go_wp2_with (go_at_call 16; (with_reducible refine (HN _ (HG.out.ext (Ext.alloc _ _))).mono ?_); rintro e w1 ⟨rfl, hx1⟩; have HX1 := hid (Ext.trans (Ext.alloc _ _) hx1); clear hx1)
        go_ret2
        exact ⟨by rw [HBD.out]; rfl, HX1.out⟩
      · have e2 := emp_nb h2
        rw [if_neg (HBQ.out pw h2)] at HBD
        have HB0 : Hid ((entsS s).find? (fun x => decide (x.name = str (normalS (bys name)))) = none → R = ([], 49)) := fun e => by rw [HBD.out, e]
        have HB1 : Hid (∀ x, (entsS s).find? (fun x => decide (x.name = str (normalS (bys name)))) = some x → R = if hasE userPw (bys pw) (valsE userPw x.atts) then (normalS (bys name), 0) else ([], 49)) := fun x e => by rw [HBD.out, e]
        clear HBD
        generalize hP : (fun x : Ent => decide (x.name = str (normalS (bys name)))) = P at *
        have HP : ∀ x : Ent, Hid (decide (x.name = str (normalS (bys name))) = P x) := fun x => by rw [← hP]; rfl
        clear hP
        have HHAS : ∀ (x : Ent) (A1 : Option Addr) n1 c1 (w' : World), (∀ a ∈ x.atts, a.vals.length ≤ 8796093022208) → Ext w w' → Row Elem.att S w' A1 n1 c1 x.atts →
            Calls Tryz.prog 21 #[.agg #[.string x.name, .slice A1 n1 c1], .string ⟨#[117, 115, 101, 114, 80, 97, 115, 115, 119, 111, 114, 100]⟩, .string pw] w' fun e w'' => e = .returned (.bool (hasE userPw (bys pw) (valsE userPw x.atts))) ∧ Ext w' w'' :=
          fun x A1 n1 c1 w' hq hx hr => has_any hr ⟨#[117, 115, 101, 114, 80, 97, 115, 115, 119, 111, 114, 100]⟩ x.name pw (HG.out.ext hx) (by decide) (by decide) (by decide) hq
        clear h1 h2
        generalize hns : str (normalS (bys name)) = ns at *
        have HNS := hid hns
        clear hns
        go_enter Tryz.func14, Tryz.ntmps14
        go_wp2_with (go_at_call 16; (with_reducible refine (HN _ (HG.out.ext (Ext.alloc _ _))).mono ?_); rintro e w1 ⟨rfl, hx1⟩; have HX1 := hid (Ext.trans (Ext.alloc _ _) hx1); have cB := ((Bx.make (Ext.refl w) #[.slice A n c, .slice B m d] 66).later hx1).cell (i := 0) rfl; clear hx1)
        go_loopw [40] (fun i wr => ∃ j : Nat, j ≤ n ∧ i = .int .i64 j ∧ Hid (((s.take j).flatMap entsC).find? P = none) ∧ Hid (Ext w wr)) (fun i _ => n - (intOf i).toNat)
        case atStart => exact ⟨0, by omega, rfl, by simp [Hid], HX1.out⟩
        case round =>
          obtain ⟨j, hj, rfl, Htk, hx⟩ := hrel
          by_cases hlt : j < n
          · obtain ⟨b1, o1, v1, x1, rfl, g1, -, ⟨A1, n1, c1, rfl, r1⟩, q1⟩ := HR.out.at_ hlt
            have e10 := cell_later (q1 0 _ rfl) _ hx.out
            simp only [Elem.srv, Elem.slc, Nat.add_zero, Nat.mul_one] at e10
            have hn1 : n1 ≤ 9223372036854775807 := by have := r1.cap; have := r1.most; simp only [maxLen] at this; omega
            have R1 := hid r1
            clear q1 r1
            have Hg := hid g1
            clear g1
            go_wp2
            clear e10
            go_loopw [47] (fun i wr => ∃ k : Nat, k ≤ n1 ∧ i = .int .i64 k ∧ Hid (((x1.take k).flatMap (·.ents)).find? P = none) ∧ Hid (Ext w wr)) (fun i _ => n1 - (intOf i).toNat)
            case atStart => exact ⟨0, by omega, rfl, by simp [Hid], hx.out.trans (Ext.alloc _ _)⟩
            case round =>
              obtain ⟨k, hk, rfl, Htk2, hx2⟩ := hrel
              by_cases hlt2 : k < n1
              · obtain ⟨b2, o2, v2, x2, rfl, g2, -, ⟨A2, n2, c2, B2, m2, d2, rfl, r2⟩, q2⟩ := R1.out.at_ hlt2
                have e20 := cell_later (q2 0 _ rfl) _ hx2.out
                have e21 := cell_later (q2 1 _ rfl) _ hx2.out
                have e22 := cell_later (q2 2 _ rfl) _ hx2.out
                simp only [Elem.ctx, Nat.add_zero] at e20 e21 e22
                have hn2 : n2 ≤ 9223372036854775807 := by have := r2.cap; have := r2.most; simp only [maxLen] at this; omega
                have R2 := hid r2
                clear q2 r2
                have Hg2 := hid g2
                clear g2
                go_wp2
                clear e20 e21 e22
                go_loopw [54] (fun i wr => ∃ p : Nat, p ≤ n2 ∧ i = .int .i64 p ∧ Hid ((x2.ents.take p).find? P = none) ∧ Hid (Ext w wr)) (fun i _ => n2 - (intOf i).toNat)
                case atStart => exact ⟨0, by omega, rfl, by simp [Hid], hx2.out.trans (Ext.alloc _ _)⟩
                case round =>
                  obtain ⟨p, hm, rfl, Htk3, hx3⟩ := hrel
                  by_cases hlt3 : p < n2
                  · obtain ⟨b3, o3, v3, x3, rfl, g3, -, ⟨A3, n3, c3, rfl, r3⟩, q3⟩ := R2.out.at_ hlt3
                    have e30 := cell_later (q3 0 _ rfl) _ hx3.out
                    have e31 := cell_later (q3 1 _ rfl) _ hx3.out
                    simp only [Elem.ent, Nat.add_zero] at e30 e31
                    have R3 := hid r3
                    clear q3 r3
                    have Hg3 := hid g3
                    clear g3
                    by_cases he : x3.name = ns
                    · have HPT : Hid (P x3 = true) := by show _ = _; rw [← (HP x3).out]; exact decide_eq_true he
                      have HM : Hid (∀ a ∈ x3.atts, a.vals.length ≤ 8796093022208) :=
                        HV.out x3 (List.mem_flatMap.2 ⟨x1, List.mem_of_getElem? Hg.out, List.mem_flatMap.2 ⟨x2, List.mem_of_getElem? Hg2.out, List.mem_of_getElem? Hg3.out⟩⟩)
                      have HF := hid (HB1.out x3 (flatMap_at Htk.out Hg.out (flatMap_at Htk2.out Hg2.out (find_at Htk3.out Hg3.out HPT.out))))
                      have s1 := str_eq he
                      have HH : ∀ (w' : World), Ext w w' → Calls Tryz.prog 21 #[.agg #[.string x3.name, .slice A3 n3 c3], .string ⟨#[117, 115, 101, 114, 80, 97, 115, 115, 119, 111, 114, 100]⟩, .string pw] w' fun e w'' => e = .returned (.bool (hasE userPw (bys pw) (valsE userPw x3.atts))) ∧ Ext w' w'' :=
                        fun w' hx' => HHAS x3 A3 n3 c3 w' HM.out hx' (R3.out.ext hx')
                      clear he HHAS HN
                      generalize hasE userPw (bys pw) (valsE userPw x3.atts) = hb at *
                      cases hb
                      all_goals
                        go_wp2_with (go_at_call 21; (with_reducible refine (HH _ (hx3.out.trans (Ext.alloc _ _))).mono ?_); rintro e w4 ⟨rfl, hx4⟩; have HX4 := hid ((hx3.out.trans (Ext.alloc _ _)).trans hx4); clear hx4)
                        go_ret2
                        exact ⟨by rw [HF.out]; (try rw [← HNS.out]); rfl, HX4.out⟩
                    · have HPT : Hid (P x3 = false) := by show _ = _; rw [← (HP x3).out]; exact decide_eq_false he
                      have s1 := str_ne he
                      clear he
                      go_wp2
                      exact ⟨⟨p + 1, by omega, by go_num, find_none_take Htk3.out Hg3.out HPT.out, hx3.out.trans (Ext.alloc _ _)⟩, by simp [intOf]; omega⟩
                  · obtain rfl : p = n2 := by omega
                    have h9 := Htk3.out
                    rw [List.take_of_length_le (Nat.le_of_eq R2.out.len.symm)] at h9
                    have H9 := hid h9
                    clear h9
                    go_wp2
                    exact ⟨⟨k + 1, by omega, by go_num, flatMap_take_none Htk2.out Hg2.out H9.out, hx3.out⟩, by simp [intOf]; omega⟩
              · obtain rfl : k = n1 := by omega
                have h9 := Htk2.out
                rw [List.take_of_length_le (Nat.le_of_eq R1.out.len.symm)] at h9
                have H9 := hid h9
                clear h9
                go_wp2
                exact ⟨⟨j + 1, by omega, by go_num, flatMap_take_none Htk.out Hg.out H9.out, hx2.out⟩, by simp [intOf]; omega⟩
          · obtain rfl : j = n := by omega
            have h9 := Htk.out
            rw [List.take_of_length_le (Nat.le_of_eq HR.out.len.symm)] at h9
            have HF := hid (HB0.out h9)
            clear h9
            go_wp2
            go_ret2
            exact ⟨by rw [HF.out]; rfl, hx.out⟩
    · have k3 : (cd != 0) = true := by rw [bne_iff_ne]; exact h3
      rw [if_pos h3] at HBD
      clear h1 h3
      go_enter Tryz.func14, Tryz.ntmps14
      go_wp2_with (go_at_call 16; (with_reducible refine (HN _ (HG.out.ext (Ext.alloc _ _))).mono ?_); rintro e w1 ⟨rfl, hx1⟩; have HX1 := hid (Ext.trans (Ext.alloc _ _) hx1); clear hx1)
      go_ret2
      exact ⟨by rw [HBD.out]; rfl, HX1.out⟩
end Go.Proofs.YtkafonmpmgjcpaaGreatDoor
