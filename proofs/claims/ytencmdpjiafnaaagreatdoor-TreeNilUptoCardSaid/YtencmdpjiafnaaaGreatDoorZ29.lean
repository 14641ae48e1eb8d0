import Derived.Test.YtencmdpjiafnaaaGreatDoorZ27
import Derived.Test.YtencmdpjiafnaaaGreatDoorZ28
import Derived.Test.YtencmdpjiafnaaaGreatDoorZ20
/- The walk of rdn's Parse: a part out of a text. -/
namespace Go.Proofs.YtencmdpjiafnaaaGreatDoor
open Go.RowKit
set_option maxRecDepth 100000
set_option linter.unusedSimpArgs false
set_option linter.unusedVariables false

def cutT (p : List UInt8) : List UInt8 × List UInt8 × Bool := match cutEq p with | some (a, r) => (a, r, true) | none => (p, [], false)
theorem cutEq_le : ∀ {p a r : List UInt8}, cutEq p = some (a, r) → a.length ≤ p.length ∧ r.length ≤ p.length
  | [], a, r, h => by cases h
  | c :: t, a, r, h => by
    unfold cutEq at h
    split at h
    · injection h with h
      injection h with h1 h2
      subst h1 h2
      simp
    · cases hc : cutEq t with
      | none => rw [hc] at h; cases h
      | some q =>
        obtain ⟨u, v⟩ := q
        rw [hc] at h
        cases h
        have := cutEq_le hc
        simp only [List.length_cons]
        omega
theorem cutT_le (p : List UInt8) : (cutT p).1.length ≤ p.length ∧ (cutT p).2.1.length ≤ p.length := by
  unfold cutT
  cases h : cutEq p with
  | none => simp
  | some q => obtain ⟨a, r⟩ := q; exact cutEq_le h
theorem avaB_cut (p : List UInt8) : avaB p = if (cutT p).2.2 = true ∧ (valueB (cutT p).2.1).isSome = true ∧ (typeB (cutT p).1).1 ≠ [] then some ⟨(typeB (cutT p).1).1, (valueB (cutT p).2.1).getD []⟩ else none := by
  unfold avaB cutT
  cases h : cutEq p with
  | none => simp
  | some q =>
    obtain ⟨a, r⟩ := q
    simp only [true_and]
    by_cases h0 : (typeB a).2 = 0
    · rw [if_pos h0, if_neg (fun k => k.2 ((type_none a).2 h0))]
    · have h1 : (typeB a).1 ≠ [] := fun k => h0 ((type_none a).1 k)
      rw [if_neg h0]
      cases hv : valueB r with
      | none => simp
      | some v => simp [h1]
theorem cut_any (s : ByteArray) (w : World) (hG : Gl w) (hs : s.size ≤ 4000000) :
    Calls Tryz.prog 135 #[.string s, .string ⟨#[61]⟩] w fun e w' => e = .returned (.tuple #[.string (str (cutT (bys s)).1), .string (str (cutT (bys s)).2.1), .bool (cutT (bys s)).2.2]) ∧ Ext w w' := by
  obtain ⟨m, hm⟩ := hG.maxlen
  refine (Tryz.strings_Cut s ⟨#[61]⟩ m w (by omega) hm).mono ?_
  rintro e w' ⟨rfl, k, rfl⟩
  refine ⟨?_, below_drewN (Below.refl _ _) k⟩
  have h : Lib.cut s.data.toList (ByteArray.mk #[61]).data.toList = cutT (bys s) := by
    have := cut_eq (bys s)
    unfold cutT
    cases hc : cutEq (bys s) with
    | none => rw [hc] at this; exact this
    | some q => rw [hc] at this; exact this
  rw [h]
theorem mem_sum : ∀ {l : List (List UInt8)} {p : List UInt8}, p ∈ l → p.length ≤ (l.map List.length).sum
  | [], p, h => by cases h
  | x :: t, p, h => by
    rcases List.mem_cons.1 h with rfl | h
    · simp
    · have := mem_sum h; simp only [List.map_cons, List.sum_cons]; omega
theorem piece_le {sep : UInt8} {s p : List UInt8} (h : p ∈ splitF sep [] s) : p.length ≤ s.length := by
  have h1 := mem_sum h
  have h2 := (splitF_length sep _ [] s (Nat.le_refl _)).2.2
  simp only [List.length_nil] at h2
  omega
def PartSays (w : World) (s : List UInt8) (e : Ending) (w' : World) : Prop :=
  ∃ A n c, e = .returned (.tuple #[.slice A n c, .int .i64 (if (partB s).isSome then 0 else 2)]) ∧ Row Elem.ava (fun b => w.heap.size ≤ b) w' A n c ((partB s).getD []) ∧ Ext w w'
theorem strs_row {S : Nat → Prop} {w : World} {A : Option Addr} {n c : Nat} {P : List (List UInt8)} (h : Row Elem.str S w A n c (strs P)) {j : Nat} (hj : j < n) :
    ∃ b o p, A = some ⟨b, o, none⟩ ∧ P[j]? = some p ∧ w.cell? ⟨b, o + j, none⟩ = some (.string (str p)) := by
  obtain ⟨b, o, v, x, rfl, h1, -, h2, h3⟩ := h.at_ hj
  have hv : v = [.string x] := h2
  subst hv
  have h4 := strs_at h1
  refine ⟨b, o, bys x, rfl, h4, ?_⟩
  have h5 := h3 0 _ rfl
  rw [str_bys]
  simpa [Elem.str] using h5
set_option maxHeartbeats 2000000 in
theorem rdnparse_any (s : ByteArray) (w : World) (hG : Gl w) (hs : s.size ≤ 1000000) :
    Calls Tryz.prog 81 #[.string s] w (PartSays w (bys s)) := by
  have HG := hid hG
  have Hs := hid hs
  have HSP : ∀ w, Calls Tryz.prog 134 #[.string s, .int .u8 43] w fun e w' => ∃ v, e = .returned v ∧ GrowS w w' v (strs (splitF 43 [] (bys s))) := fun w => split_any s 43 (by decide) w (by omega)
  have HPL : Hid (∀ p ∈ splitF 43 [] (bys s), p.length ≤ 1000000) := fun p hp => by have := piece_le hp; rw [bys_len] at this; omega
  have HPN : Hid ((splitF 43 [] (bys s)).length ≤ 1000001 ∧ 1 ≤ (splitF 43 [] (bys s)).length) := by
    have := splitF_length 43 _ [] (bys s) (Nat.le_refl _)
    rw [bys_len] at this
    exact ⟨by omega, this.2.1⟩
  have HPS : Hid (∀ l l', (splitF 43 [] (bys s)).mapM avaB = some l → Sub l l' → (l.length < 20 → l' = insF 0 (l.length - 1) l) → partB (bys s) = if formedA l' then some l' else none) := fun l l' => part_sorted
  have HPB : Hid ((splitF 43 [] (bys s)).mapM avaB = none → partB (bys s) = none) := by intro h; unfold partB; rw [h]
  clear hG hs
  generalize splitF 43 [] (bys s) = P at *
  go_enter Tryz.func81, Tryz.ntmps81
  go_wp2_with (go_at_call 134; (with_reducible refine (HSP _).mono ?_); rintro e w1 ⟨v1, rfl, hg1⟩; obtain ⟨A1, c1, rfl, hr1⟩ := hg1.row; have HR1 := hid hr1; have HX1 := hid hg1.ext; clear hg1 hr1)
  have hn1 : P.length ≤ 1000001 := HPN.out.1
  rw [List.length_map] at HR1
  go_loopw [4, 17] (fun v i wr => ∃ (j : Nat) (l0 : List Ava), j ≤ P.length ∧ i = .int .i64 j ∧ Hid (GrowA 129 w1 wr v l0) ∧ Hid ((P.take j).mapM avaB = some l0) ∧ Hid (l0.length = j)) (fun _ i _ => P.length - (intOf i).toNat)
  case atStart => exact ⟨0, [], by omega, rfl, GrowA.nil (Ext.refl _), by simp [Hid], rfl⟩
  case round =>
    obtain ⟨j, l0, hj, rfl, HGR, HM, HLN⟩ := hrel
    by_cases hlt : j < P.length
    · obtain ⟨b, o, p, rfl, hp, e1⟩ := strs_row (HR1.out.ext HGR.out.ext) hlt
      have hpl := HPL.out p (List.mem_of_getElem? hp)
      have HC : ∀ w, Gl w → Calls Tryz.prog 135 #[.string (str p), .string ⟨#[61]⟩] w fun e w' => e = .returned (.tuple #[.string (str (cutT p).1), .string (str (cutT p).2.1), .bool (cutT p).2.2]) ∧ Ext w w' := fun w hG => by
        have := cut_any (str p) w hG (by rw [str_size]; omega)
        rwa [bys_str] at this
      have HAV := hid (avaB_cut p)
      have HCL := cutT_le p
      generalize cutT p = q at *
      obtain ⟨a, r, f⟩ := q
      simp only at HC HAV HCL
      have HT : ∀ w, Calls Tryz.prog 53 #[.string (str a)] w (TypeSays w a) := fun w => by
        have := type_any (str a) w (by rw [str_size]; simp only [maxLen]; omega)
        rwa [bys_str] at this
      have HV : ∀ w, Calls Tryz.prog 136 #[.string (str r)] w (ValSays w (valueB r)) := fun w => by
        have := value_any (str r) w (by rw [str_size]; omega)
        rwa [bys_str] at this
      unfold TypeSays at HT
      unfold ValSays at HV
      generalize typeB a = tk at *
      obtain ⟨t, k⟩ := tk
      generalize valueB r = vo at *
      simp only at HT HAV
      have HNO : Hid (avaB p = none → partB (bys s) = none) := fun h => HPB.out (mapM_none (List.mem_of_getElem? hp) h)
      have HYES : Hid (∀ y, avaB p = some y → (P.take (j + 1)).mapM avaB = some (l0 ++ [y])) := fun y h => mapM_take HM.out hp h
      have HL1 := HLN.out
      clear hp
      by_cases hok : f = true ∧ vo.isSome = true ∧ t ≠ []
      · obtain ⟨rfl, hv, ht⟩ := hok
        obtain ⟨v, rfl⟩ := Option.isSome_iff_exists.1 hv
        have t0 : (t == []) = false := by rw [beq_eq_false_iff_ne]; exact ht
        have HY := hid (HYES.out ⟨t, v⟩ (by rw [HAV.out, if_pos ⟨rfl, rfl, ht⟩]; rfl))
        clear HYES HNO HAV hv ht HL1
        go_wp2_with (first
          | (go_at_call 135; (with_reducible refine (HC _ (HG.out.ext (HX1.out.trans HGR.out.ext))).mono ?_); rintro e w2 ⟨rfl, hx2⟩; have HX2 := hid hx2; clear hx2)
          | (go_at_call 53; (with_reducible refine (HT _).mono ?_); rintro e w3 ⟨rfl, hx3⟩; have HX2' := hid (HX2.out.trans hx3); clear HX2 hx3; have HX2 := HX2'; clear HX2')
          | (go_at_call 136; (with_reducible refine (HV _).mono ?_); rintro e w4 ⟨rfl, hx4⟩; have HX2' := hid (HX2.out.trans hx4); clear HX2 hx4; have HX2 := HX2'; clear HX2')
          | (at_builtin; refine append_avas rfl _ _ rfl _ _ rfl ((HGR.out.later HX2.out).later (Ext.alloc _ _)) _ 1 1 [⟨t, v⟩] rfl rfl (lit_ava1 _ ⟨t, v⟩ _) (by have := HLN.out; omega) ?_; intro v' w5 hg5; have HG5 := hid hg5; clear hg5))
        exact ⟨⟨j + 1, _, by omega, by go_num, HG5, HY, by show _ = _; rw [List.length_append, HLN.out]; rfl⟩, by simp [intOf]; omega⟩
      · have HF := hid (HNO.out (by rw [HAV.out, if_neg hok]))
        have hbad : f = false ∨ (f = true ∧ vo.isSome = false) ∨ (f = true ∧ vo.isSome = true ∧ (t == []) = true) := by
          cases f
          · exact .inl rfl
          · cases hv : vo.isSome
            · exact .inr (.inl ⟨rfl, rfl⟩)
            · refine .inr (.inr ⟨rfl, rfl, ?_⟩)
              rw [beq_iff_eq]
              by_cases h : t = []
              · exact h
              · exact absurd ⟨rfl, hv, h⟩ hok
        clear HYES HNO HAV hok HL1
        rcases hbad with rfl | ⟨rfl, hb1⟩ | ⟨rfl, hb1, hb2⟩
        all_goals
          go_wp2_with (first
            | (go_at_call 135; (with_reducible refine (HC _ (HG.out.ext (HX1.out.trans HGR.out.ext))).mono ?_); rintro e w2 ⟨rfl, hx2⟩; have HX2 := hid hx2; clear hx2)
            | (go_at_call 53; (with_reducible refine (HT _).mono ?_); rintro e w3 ⟨rfl, hx3⟩; have HX2' := hid (HX2.out.trans hx3); clear HX2 hx3; have HX2 := HX2'; clear HX2')
            | (go_at_call 136; (with_reducible refine (HV _).mono ?_); rintro e w4 ⟨rfl, hx4⟩; have HX2' := hid (HX2.out.trans hx4); clear HX2 hx4; have HX2 := HX2'; clear HX2')
            )
          go_ret2
          refine ⟨none, 0, 0, by rw [HF.out]; rfl, by rw [HF.out]; exact Row.nil _ _ _, HX1.out.trans (HGR.out.ext.trans HX2.out)⟩
    · obtain rfl : j = P.length := by omega
      have HMA : Hid (P.mapM avaB = some l0) := by show _ = _; rw [← HM.out, List.take_length]
      have hpos : 0 < l0.length := by have h1 := HLN.out; have h2 := HPN.out.2; omega
      obtain ⟨g, cap, rfl, hc1, hc2⟩ := HGR.out.form hpos
      have HPA : Hid (∀ l', Sub l0 l' → (l0.length < 20 → l' = insF 0 (l0.length - 1) l0) → partB (bys s) = if formedA l' then some l' else none) := fun l' => HPS.out l0 l' HMA.out
      have HTY : Hid (∀ a ∈ l0, a.type.length ≤ 17) := fun a ha => by
        obtain ⟨x, _, hx⟩ := mapM_mem HMA.out a ha
        exact avaB_type hx
      have hln : l0.length ≤ 4000000 := by rw [HLN.out]; omega
      have HST := sort_any HGR.out hln
      unfold StableSays at HST
      clear HLN HPS HM hpos hc1 hc2
      go_wp2_with (go_at_call 137; (with_reducible refine HST.mono ?_); rintro e w2 ⟨rfl, ⟨l', hg2, hs2, he2⟩, hb2⟩; have HG2 := hid hg2; have HP2 := hid (HPA.out l' hs2 he2); have HT2 := hid hs2; clear hg2 hs2 he2 hb2)
      obtain ⟨A2, c2, hv2, hr2⟩ := HG2.out.row
      injection hv2 with hv3 hv4 hv5
      subst hv3 hv5
      have HR2 := hid hr2
      rw [← hv4] at HR2
      have HFM := formed_any (HG.out.ext (HX1.out.trans HG2.out.ext)) HR2.out (fun a ha => by have := HTY.out a (HT2.out.2 a ha); omega)
      clear hr2 hv4 HST
      cases hf : formedA l' with
      | true =>
        rw [hf] at HFM
        have HE : Hid (partB (bys s) = some l') := by show _ = _; rw [HP2.out, hf]; rfl
        clear hf
        go_wp2_with (go_at_call 140; (with_reducible refine HFM.mono ?_); rintro e w3 ⟨rfl, hx3⟩; have HX3 := hid hx3; clear hx3)
        go_ret2
        refine ⟨some ⟨g, 0, none⟩, l0.length, cap, by rw [HE.out]; rfl, ?_, HX1.out.trans (HG2.out.ext.trans HX3.out)⟩
        rw [HE.out]
        exact (HR2.out.ext HX3.out).mono fun _ _ h => Nat.le_trans (ext_sz HX1.out) h
      | false =>
        rw [hf] at HFM
        have HE : Hid (partB (bys s) = none) := by show _ = _; rw [HP2.out, hf]; rfl
        clear hf
        go_wp2_with (go_at_call 140; (with_reducible refine HFM.mono ?_); rintro e w3 ⟨rfl, hx3⟩; have HX3 := hid hx3; clear hx3)
        go_ret2
        exact ⟨none, 0, 0, by rw [HE.out]; rfl, by rw [HE.out]; exact Row.nil _ _ _, HX1.out.trans (HG2.out.ext.trans HX3.out)⟩
end Go.Proofs.YtencmdpjiafnaaaGreatDoor
/- The walk of the reference's read. -/
namespace Go.Proofs.YtencmdpjiafnaaaGreatDoor
open Go.RowKit
set_option maxRecDepth 100000
set_option linter.unusedSimpArgs false
set_option linter.unusedVariables false

theorem head_drop {s : ByteArray} {x : UInt8} (h : (bys s)[0]? = some x) : (bys s).head? = some x := by rw [List.head?_eq_getElem?, h]
theorem lit_char_wp {w : World} {o : Oper} {a : Act} {K : Act → World → Prop} {Q : Exit → Act → World → Prop} (x : Operand) (ho : o.op = .buildSlice 141 1 #[(0, x)]) (q : UInt8) (hx : a.eval x = .int .u8 (q.toNat : Int))
    (h : ∀ A w', Ext w w' → Sl w' A 1 1 [q] → K (a.put o.dst (.slice A 1 1)) w') : o.wp Tryz.prog a w K Q :=
  lit1_wp x ho (q.toNat : Int) hx ⟨by omega, by have := q.toNat_lt; omega⟩ fun A w' h1 h2 => h A w' h1 (by rw [Int.toNat_natCast, UInt8.ofNat_toNat] at h2; exact h2)
set_option maxHeartbeats 4000000 in
theorem read_any (s : ByteArray) (w : World) (hs : s.size ≤ 4000000) : Calls Tryz.prog 185 #[.string s] w (ValSays w (valueB (bys s))) := by
  have Hs := hid hs
  go_enter Tryz.func185, Tryz.ntmps185
  go_wp2
  go_loopw [4, 5] (fun v i wr => ∃ (j : Nat) (acc : List UInt8), j ≤ s.size ∧ i = .int .i64 j ∧ acc.length ≤ j ∧ Hid (GrowB w wr v acc) ∧ Hid ((j = 0 ∧ acc = []) ∨ (0 < j ∧ readF acc ((bys s).drop j) = valueB (bys s)))) (fun _ i _ => s.size - (intOf i).toNat)
  case atStart => exact ⟨0, [], by omega, rfl, by simp, GrowB.nil (Ext.refl _), .inl ⟨rfl, rfl⟩⟩
  case round =>
    obtain ⟨j, acc, hj, rfl, hacc, HG, HR0⟩ := hrel
    by_cases hlt : j < s.size
    · obtain ⟨x, hx⟩ := at_some hlt
      have gx := bys_get hx hlt
      have hd := hid (drop_at hx)
      have t0j : ((j : Int) == 0) = decide (j = 0) := by rw [Bool.eq_iff_iff, beq_iff_eq, decide_eq_true_eq]; omega
      by_cases hbad : j = 0 ∧ (x = 32 ∨ x = 35)
      · have HV : Hid (valueB (bys s) = none) := by
          show _ = _
          unfold valueB
          rw [head_drop (by rw [← hbad.1]; exact hx), if_pos]
          rcases hbad.2 with h | h
          · exact .inl (by rw [h])
          · exact .inr (by rw [h])
        obtain ⟨h0, hc⟩ := hbad
        have tj : ((j : Int) == 0) = true := by rw [h0]; rfl
        have HSP : Hid (specB x = false) := by rcases hc with rfl | rfl <;> rfl
        have t92 : ((x.toNat : Int) != 92) = true := by rcases hc with rfl | rfl <;> rfl
        have t0 : ((x.toNat : Int) == 0) = false := by rcases hc with rfl | rfl <;> rfl
        have tc : ((x.toNat : Int) == 32) = true ∨ (((x.toNat : Int) == 32) = false ∧ ((x.toNat : Int) == 35) = true) := by rcases hc with rfl | rfl; exact .inl rfl; exact .inr ⟨rfl, rfl⟩
        clear hx t0j h0 hc
        rcases tc with tc | ⟨tc, td⟩
        all_goals
          go_wp2_with (first
            | (go_at_call 194; (with_reducible refine (special_any x _).mono ?_); rintro e w4 ⟨he4, rfl⟩; rw [HSP.out] at he4; subst he4))
          go_ret2
          exact ⟨by rw [HV.out]; rfl, HG.out.ext⟩
      · have HR : Hid (readF acc ((bys s).drop j) = valueB (bys s)) := by
          rcases HR0.out with ⟨h0, ha⟩ | ⟨_, h⟩
          · show _ = _
            subst ha
            rw [h0, List.drop_zero]
            unfold valueB
            rw [head_drop (by rw [← h0]; exact hx), if_neg]
            rintro (h | h)
            · injection h with h; exact hbad ⟨h0, .inl h⟩
            · injection h with h; exact hbad ⟨h0, .inr h⟩
          · exact h
        clear HR0 hx
        by_cases h92 : x = 92
        · have t92 : ((x.toNat : Int) != 92) = false := by rw [h92]; rfl
          clear hbad t0j
          by_cases hl1 : j + 1 < s.size
          · have hl1' : (j : Int) + 1 < (s.size : Int) := by omega
            have p1 : 0 ≤ (j : Int) + 1 := by omega
            obtain ⟨y, hy⟩ := at_some hl1
            have gy := bys_get hy hl1
            have hd1 := drop_at hy
            clear hy
            have hs2 : spec2 y = (specB y || y == 35 || y == 61 || y == 32) := rfl
            cases hsp : spec2 y with
            | true =>
              have HH : Hid (readF (acc ++ [y]) ((bys s).drop (j + 1 + 1)) = valueB (bys s)) := by show _ = _; rw [← HR.out, hd.out, hd1, h92, readF_spec hsp]
              have hq : specB y = true ∨ (specB y = false ∧ ((y.toNat : Int) == 35) = true) ∨ (specB y = false ∧ ((y.toNat : Int) == 35) = false ∧ ((y.toNat : Int) == 61) = true) ∨ (specB y = false ∧ ((y.toNat : Int) == 35) = false ∧ ((y.toNat : Int) == 61) = false ∧ ((y.toNat : Int) == 32) = true) := by
                rw [hs2] at hsp
                cases hb : specB y with
                | true => exact .inl rfl
                | false =>
                  rw [hb] at hsp
                  by_cases h35 : y = 35
                  · exact .inr (.inl ⟨rfl, byte_is (k := 35) (by decide) h35⟩)
                  · by_cases h61 : y = 61
                    · exact .inr (.inr (.inl ⟨rfl, byte_isnt (k := 35) h35, byte_is (k := 61) (by decide) h61⟩))
                    · refine .inr (.inr (.inr ⟨rfl, byte_isnt (k := 35) h35, byte_isnt (k := 61) h61, byte_is (k := 32) (by decide) ?_⟩))
                      simpa [h35, h61] using hsp
              clear h92 hsp hd1 hs2
              rcases hq with hq | ⟨hq, q1⟩ | ⟨hq, q1, q2⟩ | ⟨hq, q1, q2, q3⟩
              all_goals
                have HSY := hid hq
                clear hq
                go_wp2_with (first
                  | (go_at_call 194; (with_reducible refine (special_any y _).mono ?_); rintro e w4 ⟨he4, rfl⟩; rw [HSY.out] at he4; subst he4)
                  | (at_builtin; refine append_grow rfl _ _ rfl _ _ rfl (HG.out.later (Ext.alloc _ _)) _ 1 1 [y] rfl (sl_char _ y) (by omega) ?_; intro v' w5 hg5; have HG5 := hid hg5; clear hg5))
                exact ⟨⟨j + 2, acc ++ [y], by omega, by go_num, by simp; omega, HG5, .inr ⟨by omega, HH⟩⟩, by simp [intOf]; omega⟩
            | false =>
              have hq : specB y = false ∧ ((y.toNat : Int) == 35) = false ∧ ((y.toNat : Int) == 61) = false ∧ ((y.toNat : Int) == 32) = false := by
                rw [hs2] at hsp
                simp only [Bool.or_eq_false_iff, beq_eq_false_iff_ne] at hsp
                exact ⟨hsp.1.1.1, byte_isnt (k := 35) hsp.1.1.2, byte_isnt (k := 61) hsp.1.2, byte_isnt (k := 32) hsp.2⟩
              obtain ⟨hq, q1, q2, q3⟩ := hq
              have HSY := hid hq
              clear hq hs2
              by_cases hl2 : j + 2 < s.size
              · have hl2' : (j : Int) + 2 < (s.size : Int) := by omega
                have p2 : 0 ≤ (j : Int) + 2 := by omega
                obtain ⟨z, hz⟩ := at_some hl2
                have gz := bys_get hz hl2
                have hd2 := drop_at hz
                clear hz
                have hH := readF_hex (acc := acc) (t := (bys s).drop (j + 2 + 1)) (d := y) (e := z) hsp
                by_cases hy0 : hexZ y < 0
                · have HF : Hid (valueB (bys s) = none) := by show _ = _; rw [← HR.out, hd.out, hd1, hd2, h92, hH, hexZ_neg hy0]
                  obtain ⟨u, hu⟩ : ∃ u, hexZ y = u := ⟨_, rfl⟩
                  rw [hu] at hy0
                  have HA := hid hu
                  clear h92 hsp hd1 hd2 hH hu
                  go_wp2_with (first
                    | (go_at_call 194; (with_reducible refine (special_any y _).mono ?_); rintro e w4 ⟨he4, rfl⟩; rw [HSY.out] at he4; subst he4)
                    | (go_at_call 210; (with_reducible refine (hexz_any y _).mono ?_); rintro e w5 ⟨he5, rfl⟩; rw [HA.out] at he5; subst he5))
                  go_ret2
                  exact ⟨by rw [HF.out]; rfl, HG.out.ext⟩
                · obtain ⟨a, ha1, ha2, ha3⟩ := hexZ_pos hy0
                  have HA := hid ha2
                  have ta : ¬ (a : Int) < 0 := by omega
                  by_cases hz0 : hexZ z < 0
                  · have HF : Hid (valueB (bys s) = none) := by show _ = _; rw [← HR.out, hd.out, hd1, hd2, h92, hH, ha1, hexZ_neg hz0]
                    obtain ⟨u, hu⟩ : ∃ u, hexZ z = u := ⟨_, rfl⟩
                    rw [hu] at hz0
                    have HB := hid hu
                    clear h92 hsp hd1 hd2 hH ha1 ha2 ha3 hy0 hu
                    go_wp2_with (first
                      | (go_at_call 194; (with_reducible refine (special_any y _).mono ?_); rintro e w4 ⟨he4, rfl⟩; rw [HSY.out] at he4; subst he4)
                      | (go_at_call 210; (with_reducible refine (hexz_any y _).mono ?_); rintro e w5 ⟨he5, rfl⟩; rw [HA.out] at he5; subst he5)
                      | (go_at_call 210; (with_reducible refine (hexz_any z _).mono ?_); rintro e w5 ⟨he5, rfl⟩; rw [HB.out] at he5; subst he5))
                    go_ret2
                    exact ⟨by rw [HF.out]; rfl, HG.out.ext⟩
                  · obtain ⟨b, hb1, hb2, hb3⟩ := hexZ_pos hz0
                    have HB := hid hb2
                    have tb : ¬ (b : Int) < 0 := by omega
                    obtain ⟨q, hq⟩ : ∃ q, q = UInt8.ofNat (16 * a + b) := ⟨_, rfl⟩
                    have HH : Hid (readF (acc ++ [q]) ((bys s).drop (j + 2 + 1)) = valueB (bys s)) := by show _ = _; rw [← HR.out, hd.out, hd1, hd2, h92, hH, ha1, hb1, hq]
                    have hov : 16 * (a : Int) + (b : Int) = (q.toNat : Int) := by
                      rw [hq, UInt8.toNat_ofNat']
                      omega
                    clear hq
                    clear h92 hsp hd1 hd2 hH ha1 hb1 hy0 hz0 ha2 hb2
                    go_wp2_with (first
                      | (go_at_call 194; (with_reducible refine (special_any y _).mono ?_); rintro e w4 ⟨he4, rfl⟩; rw [HSY.out] at he4; subst he4)
                      | (go_at_call 210; (with_reducible refine (hexz_any y _).mono ?_); rintro e w5 ⟨he5, rfl⟩; rw [HA.out] at he5; subst he5)
                      | (go_at_call 210; (with_reducible refine (hexz_any z _).mono ?_); rintro e w5 ⟨he5, rfl⟩; rw [HB.out] at he5; subst he5))
                    refine wp_region_planB w.heap.size (.read 0 (.read 1 (.read 2 (.read 3 (.read 4 (.read 7 (.read 8 (.read 9 (.read 10 (.main 5 (.read 6 (.main 11 (.read 12 (.read 13 (.main 14 (.main 15 (.read 16 .done))))))))))))))))) (by kernel_rfl) (by kernel_rfl) ?_
                    intro wD hxD
                    have XB : Hid (Below w.heap.size wD wD) := Below.refl _ _
                    have HGD := hid (HG.out.later hxD)
                    repeat' (first
                      | (refine walksB_move rfl rfl ?_; simp only [Act.put, Act.eval, List.setIfInBounds_toArray, List.set_cons_zero, List.set_cons_succ, Array.getD_eq_getD_getElem?, List.getElem?_toArray, List.getElem?_cons_zero, List.getElem?_cons_succ, Option.getD_some])
                      | (refine walksB_assign rfl rfl ?_; simp only [Act.put, Act.eval, List.setIfInBounds_toArray, List.set_cons_zero, List.set_cons_succ, Array.getD_eq_getD_getElem?, List.getElem?_toArray, List.getElem?_cons_zero, List.getElem?_cons_succ, Option.getD_some])
                      | (refine walksB_skip rfl rfl ?_; simp only [Act.put, List.setIfInBounds_toArray, List.set_cons_zero, List.set_cons_succ])
                      | (refine walksB_unwanted rfl rfl ?_; simp only [Act.put, List.setIfInBounds_toArray, List.set_cons_zero, List.set_cons_succ])
                      | (refine walksB_read (v := ?_) rfl rfl (fun w' hE => ?_) ?_; rotate_left 1; (· ((try (have hEx := Below.trans (Hid.out XB) hE)); go_simp; (try go_bits); with_reducible rfl)); simp only [Act.put, List.setIfInBounds_toArray, List.set_cons_zero, List.set_cons_succ])
                      | (refine walksB_main rfl rfl (fun K hK => ?_); (first | (refine lit_char_wp _ rfl q (by first | rfl | exact congrArg (Value.int .u8) hov) ?_; intro A8 w8 hx8 hs8; have hx8' := Below.mono hx8 (ext_sz HGD.out.ext); have HGE := hid (HGD.out.later hx8); have HS8 := hid hs8; clear hx8 hs8; have XB' := hid (Below.trans (Hid.out XB) (hx8')); clear XB; have XB := XB'; clear XB') | (refine append_grow_wp _ _ rfl _ acc rfl HGE.out _ 1 1 [q] rfl HS8.out (by omega) ?_; intro v' w9 hg9 hb9; have HG9 := hid hg9; clear hg9; have XB' := hid (Below.trans (Hid.out XB) (hb9)); clear XB; have XB := XB'; clear XB')); refine hK _ _ (by first | assumption | exact Below.refl _ _ | exact Below.mono (Ext.alloc _ _) (Hid.out HSW) | exact Below.setCell (p := ⟨_, _, _⟩) (Below.refl _ _) (Nat.le_refl _) _) ?_; clear hK K; try simp only [Act.put, List.setIfInBounds_toArray, List.set_cons_zero, List.set_cons_succ])
                      | (refine walksB_alt ?_ ?_)
                      | (refine walksB_main rfl rfl (fun K hK => ?_); go_wp2_with (first | (go_at_call 210; (with_reducible refine (hexz_any y _).mono ?_); rintro e w5 ⟨he5, rfl⟩; rw [HA.out] at he5; subst he5)| (go_at_call 210; (with_reducible refine (hexz_any z _).mono ?_); rintro e w5 ⟨he5, rfl⟩; rw [HB.out] at he5; subst he5)); refine hK _ _ (by first | assumption | exact Below.refl _ _ | exact Below.mono (Ext.alloc _ _) (Hid.out HSW) | exact Below.setCell (p := ⟨_, _, _⟩) (Below.refl _ _) (Nat.le_refl _) _) ?_; clear hK K; try simp only [Act.put, List.setIfInBounds_toArray, List.set_cons_zero, List.set_cons_succ]))
                    refine walksB_done ?_
                    go_wp2
                    exact ⟨⟨j + 3, acc ++ [q], by omega, by go_num, by simp; omega, HG9, .inr ⟨by omega, HH⟩⟩, by simp [intOf]; omega⟩
              · have hl2' : ¬ (j : Int) + 2 < (s.size : Int) := by omega
                have HF : Hid (valueB (bys s) = none) := by show _ = _; rw [← HR.out, hd.out, hd1, h92, show (bys s).drop (j + 1 + 1) = [] from drop_none (by omega), readF_hex1 hsp]
                clear h92 hsp hd1
                go_wp2_with (first
                  | (go_at_call 194; (with_reducible refine (special_any y _).mono ?_); rintro e w4 ⟨he4, rfl⟩; rw [HSY.out] at he4; subst he4))
                go_ret2
                exact ⟨by rw [HF.out]; rfl, HG.out.ext⟩
          · have hl1' : ¬ (j : Int) + 1 < (s.size : Int) := by omega
            have hl2' : ¬ (j : Int) + 2 < (s.size : Int) := by omega
            have HF : Hid (valueB (bys s) = none) := by show _ = _; rw [← HR.out, hd.out, h92, show (bys s).drop (j + 1) = [] from drop_none (by omega), readF_end]
            clear h92
            go_wp2
            go_ret2
            exact ⟨by rw [HF.out]; rfl, HG.out.ext⟩
        · have t92 : ((x.toNat : Int) != 92) = true := by
            have h : ((x.toNat : Int) == 92) = false := byte_isnt (k := 92) h92
            rw [bne, h]; rfl
          have hP := readF_plain (acc := acc) (t := (bys s).drop (j + 1)) h92
          cases hsp : specB x with
          | true =>
            have HSP := hid hsp
            have HF : Hid (valueB (bys s) = none) := by show _ = _; rw [← HR.out, hd.out, hP, if_pos (by rw [hsp]; simp)]
            clear h92 hP hsp hbad t0j
            go_wp2_with (first
              | (go_at_call 194; (with_reducible refine (special_any x _).mono ?_); rintro e w4 ⟨he4, rfl⟩; rw [HSP.out] at he4; subst he4))
            go_ret2
            exact ⟨by rw [HF.out]; rfl, HG.out.ext⟩
          | false =>
            have HSP := hid hsp
            by_cases h0 : x = 0
            · have t0 : ((x.toNat : Int) == 0) = true := byte_is (k := 0) (by decide) h0
              have HF : Hid (valueB (bys s) = none) := by show _ = _; rw [← HR.out, hd.out, hP, if_pos (by rw [h0]; rfl)]
              clear h92 h0 hP hsp hbad t0j
              go_wp2_with (first
                | (go_at_call 194; (with_reducible refine (special_any x _).mono ?_); rintro e w4 ⟨he4, rfl⟩; rw [HSP.out] at he4; subst he4))
              go_ret2
              exact ⟨by rw [HF.out]; rfl, HG.out.ext⟩
            · have t0 : ((x.toNat : Int) == 0) = false := byte_isnt (k := 0) h0
              have hemp : ((bys s).drop (j + 1)).isEmpty = decide (j + 1 = s.size) := by
                rw [Bool.eq_iff_iff, List.isEmpty_iff, decide_eq_true_eq, List.drop_eq_nil_iff, bys_len]
                omega
              by_cases h32 : x = 32 ∧ j + 1 = s.size
              · have t32 : ((x.toNat : Int) == 32) = true := byte_is (k := 32) (by decide) h32.1
                have tj : ((j : Int) == 0) = false := by rw [t0j, decide_eq_false]; exact fun h => hbad ⟨h, .inl h32.1⟩
                have te : ((j : Int) == (s.size : Int) - 1) = true := by rw [beq_iff_eq]; omega
                have HF : Hid (valueB (bys s) = none) := by show _ = _; rw [← HR.out, hd.out, hP, if_pos (by rw [hemp, h32.1, decide_eq_true h32.2]; rfl)]
                clear h92 h0 hP hsp hemp h32 hbad t0j
                go_wp2_with (first
                  | (go_at_call 194; (with_reducible refine (special_any x _).mono ?_); rintro e w4 ⟨he4, rfl⟩; rw [HSP.out] at he4; subst he4))
                go_ret2
                exact ⟨by rw [HF.out]; rfl, HG.out.ext⟩
              · have HH : Hid (readF (acc ++ [x]) ((bys s).drop (j + 1)) = valueB (bys s)) := by
                  show _ = _
                  rw [← HR.out, hd.out, hP, if_neg]
                  rw [hemp, hsp]
                  simp [h0]
                  exact fun e => fun e2 => h32 ⟨e, e2⟩
                have tt : (((x.toNat : Int) == 32) = true ∧ ((j : Int) == 0) = false ∧ ((j : Int) == (s.size : Int) - 1) = false ∧ ((x.toNat : Int) == 35) = false) ∨ (((x.toNat : Int) == 32) = false ∧ ((x.toNat : Int) == 35) = true ∧ ((j : Int) == 0) = false) ∨ (((x.toNat : Int) == 32) = false ∧ ((x.toNat : Int) == 35) = false) := by
                  by_cases h3 : x = 32
                  · left
                    refine ⟨byte_is (k := 32) (by decide) h3, ?_, ?_, byte_isnt (k := 35) (by rw [h3]; decide)⟩
                    · rw [t0j, decide_eq_false]; exact fun h => hbad ⟨h, .inl h3⟩
                    · rw [beq_eq_false_iff_ne]
                      intro e
                      exact h32 ⟨h3, by omega⟩
                  · by_cases h5 : x = 35
                    · right; left
                      refine ⟨byte_isnt (k := 32) h3, byte_is (k := 35) (by decide) h5, ?_⟩
                      rw [t0j, decide_eq_false]; exact fun h => hbad ⟨h, .inr h5⟩
                    · exact .inr (.inr ⟨byte_isnt (k := 32) h3, byte_isnt (k := 35) h5⟩)
                clear h92 h0 hP hsp hemp h32 hbad t0j
                rcases tt with ⟨t1, t2, t3, t4⟩ | ⟨t1, t2, t3⟩ | ⟨t1, t2⟩
                all_goals
                  go_wp2_with (first
                    | (go_at_call 194; (with_reducible refine (special_any x _).mono ?_); rintro e w4 ⟨he4, rfl⟩; rw [HSP.out] at he4; subst he4)
                    | (at_builtin; refine append_grow rfl _ _ rfl _ _ rfl (HG.out.later (Ext.alloc _ _)) _ 1 1 [x] rfl (sl_char _ x) (by omega) ?_; intro v' w5 hg5; have HG5 := hid hg5; clear hg5))
                  exact ⟨⟨j + 1, acc ++ [x], by omega, by go_num, by simp; omega, HG5, .inr ⟨by omega, HH⟩⟩, by simp [intOf]; omega⟩
    · obtain rfl : j = s.size := by omega
      have HF : Hid (valueB (bys s) = some acc) := by
        show _ = _
        rcases HR0.out with ⟨h0, ha⟩ | ⟨_, h⟩
        · rw [str_emp h0, ha]; rfl
        · rw [← h, drop_none (Nat.le_refl _)]; rfl
      obtain ⟨A1, c1, rfl, hs1⟩ := HG.out.sl
      have hC := hs1.conv wr (Ext.refl wr)
      clear hs1
      go_wp2
      go_ret2
      exact ⟨by rw [HF.out]; rfl, HG.out.ext⟩
end Go.Proofs.YtencmdpjiafnaaaGreatDoor
