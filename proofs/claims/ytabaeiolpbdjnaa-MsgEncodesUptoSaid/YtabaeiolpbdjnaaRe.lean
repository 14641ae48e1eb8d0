/- Ra, Rb, in one text. -/
import Derived.Test.YtabaeiolpbdjnaaGe
/- The walks of the reference's text, texts, integer, boolean, attribute, attributes, tag. -/
namespace Go.Proofs.Ytabaeiolpbdjnaa
open Go.RowKit
set_option maxRecDepth 100000
set_option linter.unusedVariables false

theorem rtext_own (s : ByteArray) (w : World) (hs : s.size ≤ 1048576) : Calls Try.prog 67 #[.string s] w (BytesOwn w (textB 4 s)) := by
  have Hs := hid hs
  have hm : Hid (s.size ≤ maxLen) := by show _ ≤ _; unfold maxLen; omega
  clear hs
  go_enter Try.func67, Try.ntmps67
  go_wp2_with (first
    | (refine tobytes_arm rfl (.tmp 3) rfl s rfl hm.out ?_; intro A c w1 hs1 hf1; have HS1 := hid hs1; have X1 := hid hf1.ext; clear hs1 hf1)
    | (go_at_call 64; (with_reducible refine (rfield_own 4 4 rfl _ _ _ _ _ HS1.out (by have := Hs.out; omega)).mono ?_); rintro e w2 ⟨A2, n2, c2, rfl, hn2, hs2, hx2⟩; have HN2 := hid hn2; have HS2 := hid hs2; clear hn2 hs2))
  go_ret
  exact ⟨_, _, _, rfl, HN2.out, own_base HS2.out (ext_sz X1.out), X1.out.trans hx2⟩
theorem rinteger_own (t : UInt8) (k : Int) (hk : (t.toNat : Int) = k) (n : Int) (w : World) (h0 : I64 n) :
    Calls Try.prog 63 #[.int .u8 k, .int .i64 n] w (BytesOwn w (fieldB t (intB n))) := by
  subst hk
  have H0 := hid h0.1
  have H1 := hid h0.2
  clear h0
  go_enter Try.func63, Try.ntmps63
  go_wp2_with (first
    | (go_at_call 81; (with_reducible refine (rint_any _ _ H0.out H1.out).mono ?_); rintro e w1 ⟨A1, m1, c1, rfl, hs1, hx1⟩; have HS1 := hid hs1; have X1 := hid hx1; clear hs1 hx1)
    | (go_at_call 64; (with_reducible refine (rfield_own t _ rfl _ _ _ _ _ HS1.out (by rw [HS1.out.len]; exact Nat.le_trans (intB_length n) (by decide))).mono ?_); rintro e w2 ⟨A2, n2, c2, rfl, hn2, hs2, hx2⟩; have HN2 := hid hn2; have HS2 := hid hs2; have X2 := hid hx2; clear hn2 hs2 hx2))
  go_ret
  exact ⟨_, _, _, rfl, HN2.out, own_base HS2.out (ext_sz X1.out), X1.out.trans X2.out⟩
theorem rboolean_any (b : Bool) (w : World) : Calls Try.prog 68 #[.bool b] w (BytesOwn w (fieldB 1 (boolB b))) := by
  have hb : Hid ((boolB b).length = 1) := rfl
  go_enter Try.func68, Try.ntmps68
  go_wp2_with (first
    | (go_at_call 87; (with_reducible refine (rbool_any _ _).mono ?_); rintro e w1 ⟨A1, n1, c1, rfl, hs1, hx1⟩; have HS1 := hid hs1; clear hs1)
    | (go_at_call 64; (with_reducible refine (rfield_own 1 1 rfl _ _ _ _ _ HS1.out (by rw [HS1.out.len, hb.out]; decide)).mono ?_); rintro e w2 ⟨A2, n2, c2, rfl, hn2, hs2, hx2⟩; have HN2 := hid hn2; have HS2 := hid hs2; clear hn2 hs2))
  go_ret
  exact ⟨_, _, _, rfl, HN2.out, own_base HS2.out (ext_sz hx1), hx1.trans hx2⟩
set_option maxHeartbeats 1000000 in
theorem rtexts_any {S : Nat → Prop} {A : Option Addr} {n c : Nat} {l : List ByteArray} {w : World} (h : Row Elem.str S w A n c l) (hs : ∀ s ∈ l, s.size ≤ 1048576) (ht : (textsB l).length ≤ 140737488350000) :
    Calls Try.prog 84 #[.slice A n c] w (BytesOwn w (textsB l)) := by
  have hl := hid h.len
  have hnl : n ≤ 9223372036854775807 := by have := h.cap; have := h.most; simp only [maxLen] at this; omega
  have Hs := hid hs
  have HT := hid ht
  have HR := hid h
  clear hs ht h
  go_enter Try.func84, Try.ntmps84
  go_wp2
  go_loopw [3, 7] (fun v i wr => ∃ j : Nat, j ≤ n ∧ i = .int .i64 j ∧ Hid (Grows w wr v ((l.take j).map (textB 4)).flatten)) (fun _ i _ => n - (intOf i).toNat)
  case atStart => exact ⟨0, by omega, rfl, ⟨0, by simp, World.ownsRow_nil _ _ _ _⟩, Ext.refl _⟩
  case round =>
    obtain ⟨j, hj, rfl, HG⟩ := hrel
    obtain ⟨m, hm, ho⟩ := HG.out.own
    by_cases hlt : j < n
    · obtain ⟨b1, o1, rfl, c1⟩ := (HR.out.ext HG.out.ext).str_cell (by omega)
      have e1 := c1 j hlt
      clear c1
      have g1 : l[j]? = some (l[j]?.getD ByteArray.empty) := by have := hl.out; rw [List.getElem?_eq_getElem (by omega)]; simp
      have Hg := hid g1
      clear g1
      generalize l[j]?.getD ByteArray.empty = x1 at *
      have HO := hid ho
      have HM := hid hm
      have Hx := hid (Hs.out x1 (List.mem_of_getElem? Hg.out))
      have HF := hid (flat_take (f := textB 4) Hg.out)
      have HL := hid (flat_le (textB 4) l (j + 1))
      clear ho hm
      go_wp2_with (first
        | (go_at_call 67; (with_reducible refine (rtext_own _ _ Hx.out).mono ?_); rintro e w1 ⟨A1, n1, c1, rfl, -, hs1, hx1⟩; have HS1 := hid (own_sl hs1); have X1 := hid hx1; clear hs1 hx1)
        | (at_builtin; refine append_bytes rfl _ _ rfl w.heap.size _ m _ rfl (own_ext HO.out X1.out) _ _ _ _ rfl HS1.out (by have := HS1.out.len; have := HM.out; have := HL.out; rw [HF.out, List.length_append] at this; have := HT.out; unfold textsB at this; omega) (ext_sz (HG.out.ext.trans X1.out)) ?_; intro v' w3 ho3 hg3 _ _; have HO3 := hid ho3; have X3 := hid hg3; clear ho3 hg3))
      refine ⟨⟨j + 1, by omega, by go_num, ⟨m + n1, ?_, ?_⟩, ?_⟩, by simp [intOf]; omega⟩
      · rw [HF.out, List.length_append, ← HM.out, ← HS1.out.len]
      · rw [HF.out]; exact HO3.out
      · exact Below.trans (HG.out.ext.trans X1.out) X3.out
    · obtain rfl : j = n := by omega
      have hall : Hid (((l.take j).map (textB 4)).flatten = textsB l) := by show _ = _; rw [List.take_of_length_le (Nat.le_of_eq hl.out.symm)]; rfl
      rw [hall.out] at hm ho
      obtain ⟨A4, c4, rfl⟩ := own_form ho
      have HO := hid ho
      have HM := hid hm
      clear hm ho
      go_wp2
      go_ret
      exact ⟨_, _, _, rfl, HM.out, HO.out, HG.out.ext⟩
theorem attB_app (a : Att) : attB a = fieldB 48 (textB 4 a.type ++ fieldB 49 (textsB a.vals)) := by unfold attB; simp
set_option maxHeartbeats 1000000 in
theorem rattrib_any {S : Nat → Prop} {a : Att} {A : Option Addr} {n c : Nat} {w : World} (h : Row Elem.str S w A n c a.vals) (hf : AttFits a) :
    Calls Try.prog 85 #[.agg #[.string a.type, .slice A n c]] w (BytesOwn w (attB a)) := by
  have HW : Hid ((textB 4 a.type ++ fieldB 49 (textsB a.vals)).length ≤ 140737488300000) := by
    have := att_len hf
    rw [two_len] at this
    show _ ≤ _
    rw [List.length_append]
    exact this
  have HV : Hid ((textsB a.vals).length ≤ 140737480000000) := hf.all
  have HF := hid hf
  have HR := hid h
  rw [attB_app]
  clear hf h
  go_enter Try.func85, Try.ntmps85
  go_wp2_with (refine box_arm rfl 48 (.tmp 0) rfl #[.string a.type, .slice A n c] rfl ?_; intro w1 hx1 hz1 hg1; have X1 := hid hx1; have E0 := hid (boxRow hg1 0 rfl); have E1 := hid (boxRow hg1 1 rfl); clear hx1 hz1 hg1)
  refine wp_region_planB w1.heap.size (.read 0 (.read 1 (.read 3 (.read 4 (.main 2 (.main 5 (.main 6 (.main 7 (.main 8 (.read 9 .done)))))))))) (by kernel_rfl) (by kernel_rfl) ?_
  intro wD hxD
  have XB : Hid (Below w1.heap.size wD wD) := Below.refl _ _
  have XF : Hid (Below w1.heap.size w1 wD) := hxD
  have p0 := cell_laterB E0.out (Nat.le_refl _) XF.out
  have p1 := cell_laterB E1.out (Nat.le_refl _) XF.out
  repeat' (first
    | (refine walksB_move rfl rfl ?_; simp only [Act.put, Act.eval, List.setIfInBounds_toArray, List.set_cons_zero, List.set_cons_succ, Array.getD_eq_getD_getElem?, List.getElem?_toArray, List.getElem?_cons_zero, List.getElem?_cons_succ, Option.getD_some])
    | (refine walksB_assign rfl rfl ?_; simp only [Act.put, Act.eval, List.setIfInBounds_toArray, List.set_cons_zero, List.set_cons_succ, Array.getD_eq_getD_getElem?, List.getElem?_toArray, List.getElem?_cons_zero, List.getElem?_cons_succ, Option.getD_some])
    | (refine walksB_skip rfl rfl ?_; simp only [Act.put, List.setIfInBounds_toArray, List.set_cons_zero, List.set_cons_succ])
    | (refine walksB_unwanted rfl rfl ?_; simp only [Act.put, List.setIfInBounds_toArray, List.set_cons_zero, List.set_cons_succ])
    | (refine walksB_read (v := ?_) rfl rfl (fun w' hE => ?_) ?_; rotate_left 1; (· ((try (have hEx := Below.trans (Hid.out XB) hE)); go_simp; (try go_bits); with_reducible rfl)); simp only [Act.put, List.setIfInBounds_toArray, List.set_cons_zero, List.set_cons_succ])
    | (refine walksB_main rfl rfl (fun K hK => ?_); (first | (refine append_bytes_wp (.tmp 5) (.tmp 9) rfl _ _ _ _ rfl HS3.out _ _ _ _ rfl HS5.out (by have h8 := HW.out; rw [List.length_append, ← HN3.out, ← HN5.out] at h8; omega) HB3.out ?_; intro A6 c6 w6 ho6 hb6; have HS6 := hid ho6; have hy6 := Below.mono hb6 HB0.out; clear ho6 hb6; have XB' := hid (Below.trans (Hid.out XB) (hy6)); clear XB; have XB := XB'; clear XB')); refine hK _ _ (by first | assumption | exact Below.refl _ _) ?_; clear hK K; try simp only [Act.put, List.setIfInBounds_toArray, List.set_cons_zero, List.set_cons_succ])
    | (refine walksB_alt ?_ ?_)
    | (refine walksB_main rfl rfl (fun K hK => ?_); go_wp2_with (first | (go_at_call 67; (with_reducible refine (rtext_own _ _ HF.out.type).mono ?_); rintro e w3 ⟨A3, n3, c3, rfl, hn3, hs3, hx3⟩; have HS3 := hid hs3; have HN3 := hid hn3; have HB3 := hid (ext_sz hx3); have HB0 := hid (Nat.le_trans (Below.size XF.out) (Below.size XB.out)); have hy3 := Below.mono hx3 HB0.out; clear hs3 hn3 hx3; have XB' := hid (Below.trans (Hid.out XB) (hy3)); clear XB; have XB := XB'; clear XB') | (go_at_call 84; have hXX := Ext.trans X1.out (Below.trans XF.out XB.out); (with_reducible refine (rtexts_any (HR.out.ext hXX) HF.out.vals (Nat.le_trans HV.out (by decide))).mono ?_); clear hXX; rintro e w4 ⟨A4, n4, c4, rfl, hn4, hs4, hx4⟩; have HS4 := hid (own_sl hs4); have HN4 := hid hn4; have HS3 := hid (own_ext HS3.out hx4); have HB3 := hid (Nat.le_trans HB3.out (ext_sz hx4)); have hy4 := Below.mono hx4 (Nat.le_trans (Below.size XF.out) (Below.size XB.out)); clear hs4 hn4 hx4; have XB' := hid (Below.trans (Hid.out XB) (hy4)); clear XB; have XB := XB'; clear XB') | (go_at_call 64; (have tok := HS5; clear tok; with_reducible refine (rfield_own 48 48 rfl _ _ _ _ _ (own_sl HS6.out) (by have h8 := HW.out; rw [List.length_append, ← HN3.out, ← HN5.out] at h8; omega)).mono ?_); rintro e w7 ⟨A7, n7, c7, rfl, hn7, hs7, hx7⟩; have HN7 := hid hn7; have HS7 := hid hs7; have HB7 := hid (Nat.le_trans (Below.size XF.out) (Below.size XB.out)); have hy7 := Below.mono hx7 HB7.out; clear hs7 hn7 hx7; have XB' := hid (Below.trans (Hid.out XB) (hy7)); clear XB; have XB := XB'; clear XB') | (go_at_call 64; (with_reducible refine (rfield_own 49 49 rfl _ _ _ _ _ HS4.out (by have := HN4.out; have := HV.out; omega)).mono ?_); rintro e w5 ⟨A5, n5, c5, rfl, hn5, hs5, hx5⟩; have HS5 := hid (own_sl hs5); have HN5 := hid hn5; have HS3 := hid (own_ext HS3.out hx5); have HB3 := hid (Nat.le_trans HB3.out (ext_sz hx5)); have hy5 := Below.mono hx5 (Nat.le_trans (Below.size XF.out) (Below.size XB.out)); clear hs5 hn5 hx5; have XB' := hid (Below.trans (Hid.out XB) (hy5)); clear XB; have XB := XB'; clear XB')); refine hK _ _ (by first | assumption | exact Below.refl _ _) ?_; clear hK K; try simp only [Act.put, List.setIfInBounds_toArray, List.set_cons_zero, List.set_cons_succ]))
  refine walksB_done ?_
  go_wp2
  go_ret
  exact ⟨_, _, _, rfl, HN7.out, own_base HS7.out (Nat.le_trans (ext_sz X1.out) HB7.out), X1.out.trans (Below.trans XF.out XB.out)⟩
set_option maxHeartbeats 1000000 in
theorem rattribs_any {S : Nat → Prop} {A : Option Addr} {n c : Nat} {l : List Att} {w : World} (h : Row Elem.att S w A n c l) (hs : ∀ s ∈ l, AttFits s) (ht : (l.map attB).flatten.length ≤ 140737488350000) :
    Calls Try.prog 86 #[.slice A n c] w (BytesOwn w (fieldB 48 (l.map attB).flatten)) := by
  have hl := hid h.len
  have hnl : n ≤ 9223372036854775807 := by have := h.cap; have := h.most; simp only [maxLen] at this; omega
  have Hs := hid hs
  have HT := hid ht
  have HR := hid h
  clear hs ht h
  go_enter Try.func86, Try.ntmps86
  go_wp2
  go_loopw [3, 7] (fun v i wr => ∃ j : Nat, j ≤ n ∧ i = .int .i64 j ∧ Hid (Grows w wr v ((l.take j).map attB).flatten)) (fun _ i _ => n - (intOf i).toNat)
  case atStart => exact ⟨0, by omega, rfl, ⟨0, by simp, World.ownsRow_nil _ _ _ _⟩, Ext.refl _⟩
  case round =>
    obtain ⟨j, hj, rfl, HG⟩ := hrel
    obtain ⟨m, hm, ho⟩ := HG.out.own
    by_cases hlt : j < n
    · obtain ⟨b1, o1, v1, x1, rfl, g1, -, ⟨A1, n1, c1, rfl, r1⟩, q1⟩ := (HR.out.ext HG.out.ext).at_ hlt
      have e10 := q1 0 _ rfl
      have e11 := q1 1 _ rfl
      simp only [Elem.att, Nat.add_zero] at e10 e11
      have R1 := hid r1
      clear q1 r1
      have Hg := hid g1
      have HO := hid ho
      have HM := hid hm
      have Hx := hid (Hs.out x1 (List.mem_of_getElem? g1))
      have HF := hid (flat_take (f := attB) Hg.out)
      have HL := hid (flat_le attB l (j + 1))
      clear ho hm g1
      go_wp2_with (first
        | (go_at_call 85; (with_reducible refine (rattrib_any (a := x1) R1.out Hx.out).mono ?_); rintro e w1 ⟨A9, n9, c9, rfl, -, hs1, hx1⟩; have HS1 := hid (own_sl hs1); have X1 := hid hx1; clear hs1 hx1)
        | (at_builtin; refine append_bytes rfl _ _ rfl w.heap.size _ m _ rfl (own_ext HO.out X1.out) _ _ _ _ rfl HS1.out (by have := HS1.out.len; have := HM.out; have := HL.out; rw [HF.out, List.length_append] at this; have := HT.out; omega) (ext_sz (HG.out.ext.trans X1.out)) ?_; intro v' w3 ho3 hg3 _ _; have HO3 := hid ho3; have X3 := hid hg3; clear ho3 hg3))
      refine ⟨⟨j + 1, by omega, by go_num, ⟨m + n9, ?_, ?_⟩, ?_⟩, by simp [intOf]; omega⟩
      · rw [HF.out, List.length_append, ← HM.out, ← HS1.out.len]
      · rw [HF.out]; exact HO3.out
      · exact Below.trans (HG.out.ext.trans X1.out) X3.out
    · obtain rfl : j = n := by omega
      have hall : Hid ((l.take j).map attB = l.map attB) := by show _ = _; rw [List.take_of_length_le (Nat.le_of_eq hl.out.symm)]
      rw [hall.out] at hm ho
      obtain ⟨A4, c4, rfl, hs4⟩ := Sl.of_row ho
      have HS4 := hid hs4
      have HM := hid hm
      clear hm ho hs4
      go_wp2_with (go_at_call 64; (with_reducible refine (rfield_own 48 48 rfl _ _ _ _ _ HS4.out (by have := HM.out; have := HT.out; omega)).mono ?_); rintro e w2 ⟨A2, n2, c2, rfl, hn2, hs2, hx2⟩; have HN2 := hid hn2; have HS2 := hid hs2; clear hn2 hs2)
      go_ret
      exact ⟨_, _, _, rfl, HN2.out, own_base HS2.out (ext_sz HG.out.ext), HG.out.ext.trans hx2⟩
theorem rtag_any (k : Int) (w : World) (h0 : 0 ≤ k) (h1 : k ≤ 24) : Calls Try.prog 65 #[.int .i64 k] w fun e w' => e = .returned (.int .u8 ((tagB k).toNat : Int)) ∧ w = w' := by
  have hk : k = 0 ∨ k = 1 ∨ k = 2 ∨ k = 3 ∨ k = 4 ∨ k = 5 ∨ k = 6 ∨ k = 7 ∨ k = 8 ∨ k = 9 ∨ k = 10 ∨ k = 11 ∨ k = 12 ∨ k = 13 ∨ k = 14 ∨ k = 15 ∨ k = 16 ∨ k = 17 ∨ k = 18 ∨ k = 19 ∨ k = 20 ∨ k = 21 ∨ k = 22 ∨ k = 23 ∨ k = 24 := by omega
  rcases hk with rfl | rfl | rfl | rfl | rfl | rfl | rfl | rfl | rfl | rfl | rfl | rfl | rfl | rfl | rfl | rfl | rfl | rfl | rfl | rfl | rfl | rfl | rfl | rfl | rfl <;>
    (go_enter Try.func65, Try.ntmps65
     go_wp2
     go_ret
     exact ⟨rfl, rfl⟩)
end Go.Proofs.Ytabaeiolpbdjnaa
/- The walk of the reference's Filter. -/
namespace Go.Proofs.Ytabaeiolpbdjnaa
open Go.RowKit
set_option maxRecDepth 100000
set_option linter.unusedSimpArgs false
set_option linter.unusedVariables false

theorem Grows.nil {w wr : World} (hx : Ext w wr) : Grows w wr (.slice none 0 0) [] := ⟨⟨0, rfl, World.ownsRow_nil _ _ _ _⟩, hx⟩
theorem Grows.form {w wr : World} {v : Value} {xs : List UInt8} (h : Grows w wr v xs) : ∃ A c, v = .slice A xs.length c ∧ wr.ownsRow w.heap.size 5 1 (.slice A xs.length c) xs.length (xs.map bv) := by
  obtain ⟨m, hm, ho⟩ := h.own
  subst hm
  obtain ⟨A, c, rfl⟩ := own_form ho
  exact ⟨A, c, rfl, ho⟩
theorem Grows.of {w wr : World} {A : Option Addr} {c : Nat} {xs xs' : List UInt8} {n : Nat} (h : wr.ownsRow w.heap.size 5 1 (.slice A n c) n (xs.map bv)) (hn : n = xs.length) (hx : Ext w wr) (he : xs' = xs) : Grows w wr (.slice A n c) xs' := by
  subst he
  exact ⟨⟨n, hn, h⟩, hx⟩
theorem app_len {m n : Nat} {xs ys : List UInt8} (h : m = xs.length) (k : n = ys.length) : m + n = (xs ++ ys).length := by rw [List.length_append, h, k]
set_option maxHeartbeats 2000000 in
theorem rfilt_any : ∀ x, FiltSays 83 x := by
  refine Fil.ind fun k a v f l any parts ih => ?_
  intro hbd hok hn S vs w h
  have hk := allok_kind hok
  obtain ⟨_, ha, hv, hf, hl, h1, h2, h3⟩ := hbd
  have hs := nod_split hn
  obtain ⟨A1, n1, c1, B1, m1, d1, rfl, r1, p1⟩ := FilAt.open_ h
  have IH : Hid (∀ x ∈ parts, ∀ (T : Nat → Prop) (vs : List Value) (w : World), FilAt T w vs x → Calls Try.prog 83 #[.agg vs.toArray] w (BytesOwn w (filB x))) := fun x hx T vs w hT => ih x hx (h3 x hx) (allok_part hok x hx) (by have := nod_part hx; omega) T vs w hT
  have HT : Hid ((parts.map filB).flatten.length ≤ 140737488350000) := by
    have e5 : (parts.map filB).flatten.length ≤ 1200000000000 * (parts.map Fil.nod).sum := flat_sum fun x hx => filB_len (h3 x hx) (by have := nod_part hx; omega)
    show _ ≤ _
    omega
  have HA := hid ha
  have HV := hid hv
  have HFI := hid hf
  have HLA := hid hl
  have MA : Hid (a.size ≤ maxLen) := by show _ ≤ _; unfold maxLen; omega
  have MF : Hid (f.size ≤ maxLen) := by show _ ≤ _; unfold maxLen; omega
  have ML : Hid (l.size ≤ maxLen) := by show _ ≤ _; unfold maxLen; omega
  have HP := hid p1
  have HR := hid r1
  have H1 := hid h1
  have HPL := hid (pieces_len hf hl h1)
  rcases hk with (rfl | rfl | rfl) | (rfl | rfl | rfl | rfl) | rfl | rfl
  case inl.inl =>
    have hl1 := hid p1.len
    have hnl : m1 ≤ 9223372036854775807 := by have := p1.cap; have := p1.most; simp only [maxLen] at this; omega
    have HE : Hid (filB (.mk 0 a v f l any parts) = fieldB 160 (parts.map filB).flatten) := by show _ = _; rw [filB_mk, if_pos (by decide)]; rfl
    clear ha hv hf hl h1 h2 h3 hs hn hok h r1 p1 ih
    rw [HE.out]
    go_enter Try.func83, Try.ntmps83
    go_wp2_with (refine box_arm rfl 25 (.tmp 0) rfl #[.int .i64 0, .string a, .string v, .string f, .string l, .slice A1 n1 c1, .slice B1 m1 d1] rfl ?_; intro w1 hx1 hz1 hg1; have X1 := hid hx1; have Y := hid (Ext.refl w1); have e0 := boxRow hg1 0 rfl; have e6 := boxRow hg1 6 rfl; have E0 := hid (boxRow hg1 0 rfl); have E6 := hid (boxRow hg1 6 rfl); clear hx1 hz1 hg1)
    clear e6
    go_loopw [3, 70] (fun v i wr => ∃ j : Nat, j ≤ m1 ∧ i = .int .i64 j ∧ Hid (Grows w1 wr v ((parts.take j).map filB).flatten)) (fun _ i _ => m1 - (intOf i).toNat)
    case atStart => exact ⟨0, by omega, rfl, Grows.nil (Ext.refl _)⟩
    case round =>
      obtain ⟨j, hj, rfl, HG⟩ := hrel
      obtain ⟨m, hm, ho⟩ := HG.out.own
      by_cases hlt : j < m1
      · obtain ⟨b1, o1, v1, x1, hA, g1, _, R1, q1⟩ := (HP.out.ext (X1.out.trans HG.out.ext)).at_ hlt
        subst hA
        obtain ⟨ka, aa, va, fa, la, anya, pa⟩ := x1
        obtain ⟨A2, n2, c2, B2, m2, d2, rfl, -, -⟩ := FilAt.open_ R1
        have e10 := q1 0 _ rfl; have e11 := q1 1 _ rfl; have e12 := q1 2 _ rfl; have e13 := q1 3 _ rfl; have e14 := q1 4 _ rfl; have e15 := q1 5 _ rfl; have e16 := q1 6 _ rfl
        simp only [Elem.fil, Nat.add_zero] at e10 e11 e12 e13 e14 e15 e16
        have HC : ∀ w2, Ext wr w2 → Calls Try.prog 83 #[.agg #[.int .i64 ka, .string aa, .string va, .string fa, .string la, .slice A2 n2 c2, .slice B2 m2 d2]] w2 (BytesOwn w2 (filB (Fil.mk ka aa va fa la anya pa))) := fun w2 hx2 => IH.out _ (List.mem_of_getElem? g1) _ _ w2 (FilAt.ext R1 hx2)
        have HC' := hid HC
        clear HC q1 R1
        obtain ⟨x1, hx1⟩ : ∃ x1, x1 = Fil.mk ka aa va fa la anya pa := ⟨_, rfl⟩
        rw [← hx1] at g1 HC'
        clear hx1
        have e6 := cell_later E6.out _ HG.out.ext
        have Hg := hid g1
        have HO := hid ho
        have HM := hid hm
        have HF := hid (flat_take (f := filB) Hg.out)
        have HL := hid (flat_le filB parts (j + 1))
        clear ho hm g1
        go_wp2_with (first
          | (go_at_call 83; (with_reducible refine (HC'.out _ (Ext.refl _)).mono ?_); rintro e w2 ⟨A9, n9, c9, rfl, -, hs1, hx1⟩; have HS1 := hid (own_sl hs1); have X2 := hid hx1; clear hs1 hx1)
          | (at_builtin; refine append_bytes rfl _ _ rfl w1.heap.size _ m _ rfl (own_ext HO.out X2.out) _ _ _ _ rfl HS1.out (by have := HS1.out.len; have := HM.out; have := HL.out; rw [HF.out, List.length_append] at this; have := HT.out; omega) (ext_sz (HG.out.ext.trans X2.out)) ?_; intro v' w3 ho3 hg3 _ _; have HO3 := hid ho3; have X3 := hid hg3; clear ho3 hg3))
        refine ⟨⟨j + 1, by omega, by go_num, ⟨m + n9, ?_, ?_⟩, ?_⟩, by simp [intOf]; omega⟩
        · rw [HF.out, List.length_append, ← HM.out, ← HS1.out.len]
        · rw [HF.out]; exact HO3.out
        · exact Below.trans (HG.out.ext.trans X2.out) X3.out
      · obtain rfl : j = m1 := by omega
        have hall : Hid ((parts.take j).map filB = parts.map filB) := by show _ = _; rw [List.take_of_length_le (Nat.le_of_eq hl1.out.symm)]
        rw [hall.out] at hm ho
        obtain ⟨A4, c4, rfl, hs4⟩ := Sl.of_row ho
        have HS4 := hid hs4
        have HM := hid hm
        have Y := hid HG.out.ext
        have e0 := cell_later E0.out _ Y.out
        clear hm ho hs4
        go_wp2_with (go_at_call 64; (with_reducible refine (rfield_own 160 160 rfl _ _ _ _ _ HS4.out (by have := HM.out; have := HT.out; omega)).mono ?_); rintro e w9 ⟨A9, n9, c9, rfl, hn9, hs9, hx9⟩; have HN9 := hid hn9; have HS9 := hid hs9; have HB9 := hid (ext_sz (X1.out.trans Y.out)); have Y := hid (Y.out.trans hx9); clear hs9 hn9 hx9)
        go_ret
        exact ⟨_, _, _, rfl, HN9.out, own_base HS9.out HB9.out, X1.out.trans Y.out⟩
  case inl.inr.inl =>
    have hl1 := hid p1.len
    have hnl : m1 ≤ 9223372036854775807 := by have := p1.cap; have := p1.most; simp only [maxLen] at this; omega
    have HE : Hid (filB (.mk 1 a v f l any parts) = fieldB 161 (parts.map filB).flatten) := by show _ = _; rw [filB_mk, if_pos (by decide)]; rfl
    clear ha hv hf hl h1 h2 h3 hs hn hok h r1 p1 ih
    rw [HE.out]
    go_enter Try.func83, Try.ntmps83
    go_wp2_with (refine box_arm rfl 25 (.tmp 0) rfl #[.int .i64 1, .string a, .string v, .string f, .string l, .slice A1 n1 c1, .slice B1 m1 d1] rfl ?_; intro w1 hx1 hz1 hg1; have X1 := hid hx1; have Y := hid (Ext.refl w1); have e0 := boxRow hg1 0 rfl; have e6 := boxRow hg1 6 rfl; have E0 := hid (boxRow hg1 0 rfl); have E6 := hid (boxRow hg1 6 rfl); clear hx1 hz1 hg1)
    clear e6
    go_loopw [3, 70] (fun v i wr => ∃ j : Nat, j ≤ m1 ∧ i = .int .i64 j ∧ Hid (Grows w1 wr v ((parts.take j).map filB).flatten)) (fun _ i _ => m1 - (intOf i).toNat)
    case atStart => exact ⟨0, by omega, rfl, Grows.nil (Ext.refl _)⟩
    case round =>
      obtain ⟨j, hj, rfl, HG⟩ := hrel
      obtain ⟨m, hm, ho⟩ := HG.out.own
      by_cases hlt : j < m1
      · obtain ⟨b1, o1, v1, x1, hA, g1, _, R1, q1⟩ := (HP.out.ext (X1.out.trans HG.out.ext)).at_ hlt
        subst hA
        obtain ⟨ka, aa, va, fa, la, anya, pa⟩ := x1
        obtain ⟨A2, n2, c2, B2, m2, d2, rfl, -, -⟩ := FilAt.open_ R1
        have e10 := q1 0 _ rfl; have e11 := q1 1 _ rfl; have e12 := q1 2 _ rfl; have e13 := q1 3 _ rfl; have e14 := q1 4 _ rfl; have e15 := q1 5 _ rfl; have e16 := q1 6 _ rfl
        simp only [Elem.fil, Nat.add_zero] at e10 e11 e12 e13 e14 e15 e16
        have HC : ∀ w2, Ext wr w2 → Calls Try.prog 83 #[.agg #[.int .i64 ka, .string aa, .string va, .string fa, .string la, .slice A2 n2 c2, .slice B2 m2 d2]] w2 (BytesOwn w2 (filB (Fil.mk ka aa va fa la anya pa))) := fun w2 hx2 => IH.out _ (List.mem_of_getElem? g1) _ _ w2 (FilAt.ext R1 hx2)
        have HC' := hid HC
        clear HC q1 R1
        obtain ⟨x1, hx1⟩ : ∃ x1, x1 = Fil.mk ka aa va fa la anya pa := ⟨_, rfl⟩
        rw [← hx1] at g1 HC'
        clear hx1
        have e6 := cell_later E6.out _ HG.out.ext
        have Hg := hid g1
        have HO := hid ho
        have HM := hid hm
        have HF := hid (flat_take (f := filB) Hg.out)
        have HL := hid (flat_le filB parts (j + 1))
        clear ho hm g1
        go_wp2_with (first
          | (go_at_call 83; (with_reducible refine (HC'.out _ (Ext.refl _)).mono ?_); rintro e w2 ⟨A9, n9, c9, rfl, -, hs1, hx1⟩; have HS1 := hid (own_sl hs1); have X2 := hid hx1; clear hs1 hx1)
          | (at_builtin; refine append_bytes rfl _ _ rfl w1.heap.size _ m _ rfl (own_ext HO.out X2.out) _ _ _ _ rfl HS1.out (by have := HS1.out.len; have := HM.out; have := HL.out; rw [HF.out, List.length_append] at this; have := HT.out; omega) (ext_sz (HG.out.ext.trans X2.out)) ?_; intro v' w3 ho3 hg3 _ _; have HO3 := hid ho3; have X3 := hid hg3; clear ho3 hg3))
        refine ⟨⟨j + 1, by omega, by go_num, ⟨m + n9, ?_, ?_⟩, ?_⟩, by simp [intOf]; omega⟩
        · rw [HF.out, List.length_append, ← HM.out, ← HS1.out.len]
        · rw [HF.out]; exact HO3.out
        · exact Below.trans (HG.out.ext.trans X2.out) X3.out
      · obtain rfl : j = m1 := by omega
        have hall : Hid ((parts.take j).map filB = parts.map filB) := by show _ = _; rw [List.take_of_length_le (Nat.le_of_eq hl1.out.symm)]
        rw [hall.out] at hm ho
        obtain ⟨A4, c4, rfl, hs4⟩ := Sl.of_row ho
        have HS4 := hid hs4
        have HM := hid hm
        have Y := hid HG.out.ext
        have e0 := cell_later E0.out _ Y.out
        clear hm ho hs4
        go_wp2_with (go_at_call 64; (with_reducible refine (rfield_own 161 161 rfl _ _ _ _ _ HS4.out (by have := HM.out; have := HT.out; omega)).mono ?_); rintro e w9 ⟨A9, n9, c9, rfl, hn9, hs9, hx9⟩; have HN9 := hid hn9; have HS9 := hid hs9; have HB9 := hid (ext_sz (X1.out.trans Y.out)); have Y := hid (Y.out.trans hx9); clear hs9 hn9 hx9)
        go_ret
        exact ⟨_, _, _, rfl, HN9.out, own_base HS9.out HB9.out, X1.out.trans Y.out⟩
  case inl.inr.inr =>
    have hl1 := hid p1.len
    have hnl : m1 ≤ 9223372036854775807 := by have := p1.cap; have := p1.most; simp only [maxLen] at this; omega
    have HE : Hid (filB (.mk 2 a v f l any parts) = fieldB 162 (parts.map filB).flatten) := by show _ = _; rw [filB_mk, if_pos (by decide)]; rfl
    clear ha hv hf hl h1 h2 h3 hs hn hok h r1 p1 ih
    rw [HE.out]
    go_enter Try.func83, Try.ntmps83
    go_wp2_with (refine box_arm rfl 25 (.tmp 0) rfl #[.int .i64 2, .string a, .string v, .string f, .string l, .slice A1 n1 c1, .slice B1 m1 d1] rfl ?_; intro w1 hx1 hz1 hg1; have X1 := hid hx1; have Y := hid (Ext.refl w1); have e0 := boxRow hg1 0 rfl; have e6 := boxRow hg1 6 rfl; have E0 := hid (boxRow hg1 0 rfl); have E6 := hid (boxRow hg1 6 rfl); clear hx1 hz1 hg1)
    clear e6
    go_loopw [3, 70] (fun v i wr => ∃ j : Nat, j ≤ m1 ∧ i = .int .i64 j ∧ Hid (Grows w1 wr v ((parts.take j).map filB).flatten)) (fun _ i _ => m1 - (intOf i).toNat)
    case atStart => exact ⟨0, by omega, rfl, Grows.nil (Ext.refl _)⟩
    case round =>
      obtain ⟨j, hj, rfl, HG⟩ := hrel
      obtain ⟨m, hm, ho⟩ := HG.out.own
      by_cases hlt : j < m1
      · obtain ⟨b1, o1, v1, x1, hA, g1, _, R1, q1⟩ := (HP.out.ext (X1.out.trans HG.out.ext)).at_ hlt
        subst hA
        obtain ⟨ka, aa, va, fa, la, anya, pa⟩ := x1
        obtain ⟨A2, n2, c2, B2, m2, d2, rfl, -, -⟩ := FilAt.open_ R1
        have e10 := q1 0 _ rfl; have e11 := q1 1 _ rfl; have e12 := q1 2 _ rfl; have e13 := q1 3 _ rfl; have e14 := q1 4 _ rfl; have e15 := q1 5 _ rfl; have e16 := q1 6 _ rfl
        simp only [Elem.fil, Nat.add_zero] at e10 e11 e12 e13 e14 e15 e16
        have HC : ∀ w2, Ext wr w2 → Calls Try.prog 83 #[.agg #[.int .i64 ka, .string aa, .string va, .string fa, .string la, .slice A2 n2 c2, .slice B2 m2 d2]] w2 (BytesOwn w2 (filB (Fil.mk ka aa va fa la anya pa))) := fun w2 hx2 => IH.out _ (List.mem_of_getElem? g1) _ _ w2 (FilAt.ext R1 hx2)
        have HC' := hid HC
        clear HC q1 R1
        obtain ⟨x1, hx1⟩ : ∃ x1, x1 = Fil.mk ka aa va fa la anya pa := ⟨_, rfl⟩
        rw [← hx1] at g1 HC'
        clear hx1
        have e6 := cell_later E6.out _ HG.out.ext
        have Hg := hid g1
        have HO := hid ho
        have HM := hid hm
        have HF := hid (flat_take (f := filB) Hg.out)
        have HL := hid (flat_le filB parts (j + 1))
        clear ho hm g1
        go_wp2_with (first
          | (go_at_call 83; (with_reducible refine (HC'.out _ (Ext.refl _)).mono ?_); rintro e w2 ⟨A9, n9, c9, rfl, -, hs1, hx1⟩; have HS1 := hid (own_sl hs1); have X2 := hid hx1; clear hs1 hx1)
          | (at_builtin; refine append_bytes rfl _ _ rfl w1.heap.size _ m _ rfl (own_ext HO.out X2.out) _ _ _ _ rfl HS1.out (by have := HS1.out.len; have := HM.out; have := HL.out; rw [HF.out, List.length_append] at this; have := HT.out; omega) (ext_sz (HG.out.ext.trans X2.out)) ?_; intro v' w3 ho3 hg3 _ _; have HO3 := hid ho3; have X3 := hid hg3; clear ho3 hg3))
        refine ⟨⟨j + 1, by omega, by go_num, ⟨m + n9, ?_, ?_⟩, ?_⟩, by simp [intOf]; omega⟩
        · rw [HF.out, List.length_append, ← HM.out, ← HS1.out.len]
        · rw [HF.out]; exact HO3.out
        · exact Below.trans (HG.out.ext.trans X2.out) X3.out
      · obtain rfl : j = m1 := by omega
        have hall : Hid ((parts.take j).map filB = parts.map filB) := by show _ = _; rw [List.take_of_length_le (Nat.le_of_eq hl1.out.symm)]
        rw [hall.out] at hm ho
        obtain ⟨A4, c4, rfl, hs4⟩ := Sl.of_row ho
        have HS4 := hid hs4
        have HM := hid hm
        have Y := hid HG.out.ext
        have e0 := cell_later E0.out _ Y.out
        clear hm ho hs4
        go_wp2_with (go_at_call 64; (with_reducible refine (rfield_own 162 162 rfl _ _ _ _ _ HS4.out (by have := HM.out; have := HT.out; omega)).mono ?_); rintro e w9 ⟨A9, n9, c9, rfl, hn9, hs9, hx9⟩; have HN9 := hid hn9; have HS9 := hid hs9; have HB9 := hid (ext_sz (X1.out.trans Y.out)); have Y := hid (Y.out.trans hx9); clear hs9 hn9 hx9)
        go_ret
        exact ⟨_, _, _, rfl, HN9.out, own_base HS9.out HB9.out, X1.out.trans Y.out⟩
  case inr.inl.inl =>
    have HE : Hid (filB (.mk 3 a v f l any parts) = fieldB 163 (textB 4 a ++ textB 4 v)) := by show _ = _; rw [filB_mk, if_neg (by decide), if_neg (by decide), if_neg (by decide)]; rfl
    have HW : Hid ((textB 4 a ++ textB 4 v).length ≤ 3000000) := by
      show _ ≤ _
      have e1 := textB_len 4 a
      have e2 := textB_len 4 v
      rw [List.length_append]
      omega
    clear ha hv hf hl h1 h2 h3 hs hn hok h r1 p1 ih
    rw [HE.out]
    go_enter Try.func83, Try.ntmps83
    go_wp2_with (refine box_arm rfl 25 (.tmp 0) rfl #[.int .i64 3, .string a, .string v, .string f, .string l, .slice A1 n1 c1, .slice B1 m1 d1] rfl ?_; intro w1 hx1 hz1 hg1; have X1 := hid hx1; have Y := hid (Ext.refl w1); have e0 := boxRow hg1 0 rfl; have E0 := hid (boxRow hg1 0 rfl); have E1 := hid (boxRow hg1 1 rfl); have E2 := hid (boxRow hg1 2 rfl); clear hx1 hz1 hg1)
    refine wp_region_planB w1.heap.size (.read 0 (.read 1 (.read 3 (.read 4 (.main 2 (.main 5 (.main 6 (.read 7 .done)))))))) (by kernel_rfl) (by kernel_rfl) ?_
    intro wD hxD
    have XB : Hid (Below w1.heap.size wD wD) := Below.refl _ _
    have XF : Hid (Below w1.heap.size w1 wD) := hxD
    have p1 := cell_laterB E1.out (Nat.le_refl _) XF.out
    have p2 := cell_laterB E2.out (Nat.le_refl _) XF.out
    repeat' (first
      | (refine walksB_move rfl rfl ?_; simp only [Act.put, Act.eval, List.setIfInBounds_toArray, List.set_cons_zero, List.set_cons_succ, Array.getD_eq_getD_getElem?, List.getElem?_toArray, List.getElem?_cons_zero, List.getElem?_cons_succ, Option.getD_some])
      | (refine walksB_assign rfl rfl ?_; simp only [Act.put, Act.eval, List.setIfInBounds_toArray, List.set_cons_zero, List.set_cons_succ, Array.getD_eq_getD_getElem?, List.getElem?_toArray, List.getElem?_cons_zero, List.getElem?_cons_succ, Option.getD_some])
      | (refine walksB_skip rfl rfl ?_; simp only [Act.put, List.setIfInBounds_toArray, List.set_cons_zero, List.set_cons_succ])
      | (refine walksB_unwanted rfl rfl ?_; simp only [Act.put, List.setIfInBounds_toArray, List.set_cons_zero, List.set_cons_succ])
      | (refine walksB_read (v := ?_) rfl rfl (fun w' hE => ?_) ?_; rotate_left 1; (· ((try (have hEx := Below.trans (Hid.out XB) hE)); go_simp; (try go_bits); with_reducible rfl)); simp only [Act.put, List.setIfInBounds_toArray, List.set_cons_zero, List.set_cons_succ])
      | (refine walksB_main rfl rfl (fun K hK => ?_); (first | (refine append_bytes_wp (.tmp 10) (.tmp 13) rfl _ _ _ _ rfl HS3.out _ _ _ _ rfl HS4.out (by have h8 := HW.out; rw [List.length_append, ← HN3.out, ← HN4.out] at h8; omega) HB3.out ?_; intro A5 c5 w5 ho5 hb5; have HS5 := hid ho5; have hy5 := Below.mono hb5 HB0.out; clear ho5 hb5; have XB' := hid (Below.trans (Hid.out XB) (hy5)); clear XB; have XB := XB'; clear XB')); refine hK _ _ (by first | assumption | exact Below.refl _ _) ?_; clear hK K; try simp only [Act.put, List.setIfInBounds_toArray, List.set_cons_zero, List.set_cons_succ])
      | (refine walksB_alt ?_ ?_)
      | (refine walksB_main rfl rfl (fun K hK => ?_); go_wp2_with (first | (go_at_call 67; (have tok := HS3; clear tok; with_reducible refine (rtext_own _ _ HV.out).mono ?_); rintro e w4 ⟨A4, n4, c4, rfl, hn4, hs4, hx4⟩; have HS4 := hid (own_sl hs4); have HS3 := hid (own_ext HS3.out hx4); have HB3 := hid (Nat.le_trans HB3.out (ext_sz hx4)); have HN4 := hid hn4; have hy4 := Below.mono hx4 (Nat.le_trans (Below.size XF.out) (Below.size XB.out)); clear hs4 hn4 hx4; have XB' := hid (Below.trans (Hid.out XB) (hy4)); clear XB; have XB := XB'; clear XB') | (go_at_call 67; (with_reducible refine (rtext_own _ _ HA.out).mono ?_); rintro e w3 ⟨A3, n3, c3, rfl, hn3, hs3, hx3⟩; have HS3 := hid hs3; have HN3 := hid hn3; have HB3 := hid (ext_sz hx3); have HB0 := hid (Nat.le_trans (Below.size XF.out) (Below.size XB.out)); have hy3 := Below.mono hx3 HB0.out; clear hs3 hn3 hx3; have XB' := hid (Below.trans (Hid.out XB) (hy3)); clear XB; have XB := XB'; clear XB')); refine hK _ _ (by first | assumption | exact Below.refl _ _) ?_; clear hK K; try simp only [Act.put, List.setIfInBounds_toArray, List.set_cons_zero, List.set_cons_succ]))
    refine walksB_done ?_
    have Y : Hid (Ext w1 _) := hid (Below.trans XF.out XB.out)
    clear p1 p2
    have e0 := cell_later E0.out _ Y.out
    go_wp2_with (go_at_call 64; (with_reducible refine (rfield_own 163 163 rfl _ _ _ _ _ (own_sl HS5.out) (by have h8 := HW.out; rw [List.length_append, ← HN3.out, ← HN4.out] at h8; omega)).mono ?_); rintro e w9 ⟨A9, n9, c9, rfl, hn9, hs9, hx9⟩; have HN9 := hid hn9; have HS9 := hid hs9; have HB9 := hid (ext_sz (X1.out.trans Y.out)); have Y := hid (Y.out.trans hx9); clear hs9 hn9 hx9)
    go_ret
    exact ⟨_, _, _, rfl, HN9.out, own_base HS9.out HB9.out, X1.out.trans Y.out⟩
  case inr.inl.inr.inl =>
    have HE : Hid (filB (.mk 5 a v f l any parts) = fieldB 165 (textB 4 a ++ textB 4 v)) := by show _ = _; rw [filB_mk, if_neg (by decide), if_neg (by decide), if_neg (by decide)]; rfl
    have HW : Hid ((textB 4 a ++ textB 4 v).length ≤ 3000000) := by
      show _ ≤ _
      have e1 := textB_len 4 a
      have e2 := textB_len 4 v
      rw [List.length_append]
      omega
    clear ha hv hf hl h1 h2 h3 hs hn hok h r1 p1 ih
    rw [HE.out]
    go_enter Try.func83, Try.ntmps83
    go_wp2_with (refine box_arm rfl 25 (.tmp 0) rfl #[.int .i64 5, .string a, .string v, .string f, .string l, .slice A1 n1 c1, .slice B1 m1 d1] rfl ?_; intro w1 hx1 hz1 hg1; have X1 := hid hx1; have Y := hid (Ext.refl w1); have e0 := boxRow hg1 0 rfl; have E0 := hid (boxRow hg1 0 rfl); have E1 := hid (boxRow hg1 1 rfl); have E2 := hid (boxRow hg1 2 rfl); clear hx1 hz1 hg1)
    refine wp_region_planB w1.heap.size (.read 0 (.read 1 (.read 3 (.read 4 (.main 2 (.main 5 (.main 6 (.read 7 .done)))))))) (by kernel_rfl) (by kernel_rfl) ?_
    intro wD hxD
    have XB : Hid (Below w1.heap.size wD wD) := Below.refl _ _
    have XF : Hid (Below w1.heap.size w1 wD) := hxD
    have p1 := cell_laterB E1.out (Nat.le_refl _) XF.out
    have p2 := cell_laterB E2.out (Nat.le_refl _) XF.out
    repeat' (first
      | (refine walksB_move rfl rfl ?_; simp only [Act.put, Act.eval, List.setIfInBounds_toArray, List.set_cons_zero, List.set_cons_succ, Array.getD_eq_getD_getElem?, List.getElem?_toArray, List.getElem?_cons_zero, List.getElem?_cons_succ, Option.getD_some])
      | (refine walksB_assign rfl rfl ?_; simp only [Act.put, Act.eval, List.setIfInBounds_toArray, List.set_cons_zero, List.set_cons_succ, Array.getD_eq_getD_getElem?, List.getElem?_toArray, List.getElem?_cons_zero, List.getElem?_cons_succ, Option.getD_some])
      | (refine walksB_skip rfl rfl ?_; simp only [Act.put, List.setIfInBounds_toArray, List.set_cons_zero, List.set_cons_succ])
      | (refine walksB_unwanted rfl rfl ?_; simp only [Act.put, List.setIfInBounds_toArray, List.set_cons_zero, List.set_cons_succ])
      | (refine walksB_read (v := ?_) rfl rfl (fun w' hE => ?_) ?_; rotate_left 1; (· ((try (have hEx := Below.trans (Hid.out XB) hE)); go_simp; (try go_bits); with_reducible rfl)); simp only [Act.put, List.setIfInBounds_toArray, List.set_cons_zero, List.set_cons_succ])
      | (refine walksB_main rfl rfl (fun K hK => ?_); (first | (refine append_bytes_wp (.tmp 10) (.tmp 13) rfl _ _ _ _ rfl HS3.out _ _ _ _ rfl HS4.out (by have h8 := HW.out; rw [List.length_append, ← HN3.out, ← HN4.out] at h8; omega) HB3.out ?_; intro A5 c5 w5 ho5 hb5; have HS5 := hid ho5; have hy5 := Below.mono hb5 HB0.out; clear ho5 hb5; have XB' := hid (Below.trans (Hid.out XB) (hy5)); clear XB; have XB := XB'; clear XB')); refine hK _ _ (by first | assumption | exact Below.refl _ _) ?_; clear hK K; try simp only [Act.put, List.setIfInBounds_toArray, List.set_cons_zero, List.set_cons_succ])
      | (refine walksB_alt ?_ ?_)
      | (refine walksB_main rfl rfl (fun K hK => ?_); go_wp2_with (first | (go_at_call 67; (have tok := HS3; clear tok; with_reducible refine (rtext_own _ _ HV.out).mono ?_); rintro e w4 ⟨A4, n4, c4, rfl, hn4, hs4, hx4⟩; have HS4 := hid (own_sl hs4); have HS3 := hid (own_ext HS3.out hx4); have HB3 := hid (Nat.le_trans HB3.out (ext_sz hx4)); have HN4 := hid hn4; have hy4 := Below.mono hx4 (Nat.le_trans (Below.size XF.out) (Below.size XB.out)); clear hs4 hn4 hx4; have XB' := hid (Below.trans (Hid.out XB) (hy4)); clear XB; have XB := XB'; clear XB') | (go_at_call 67; (with_reducible refine (rtext_own _ _ HA.out).mono ?_); rintro e w3 ⟨A3, n3, c3, rfl, hn3, hs3, hx3⟩; have HS3 := hid hs3; have HN3 := hid hn3; have HB3 := hid (ext_sz hx3); have HB0 := hid (Nat.le_trans (Below.size XF.out) (Below.size XB.out)); have hy3 := Below.mono hx3 HB0.out; clear hs3 hn3 hx3; have XB' := hid (Below.trans (Hid.out XB) (hy3)); clear XB; have XB := XB'; clear XB')); refine hK _ _ (by first | assumption | exact Below.refl _ _) ?_; clear hK K; try simp only [Act.put, List.setIfInBounds_toArray, List.set_cons_zero, List.set_cons_succ]))
    refine walksB_done ?_
    have Y : Hid (Ext w1 _) := hid (Below.trans XF.out XB.out)
    clear p1 p2
    have e0 := cell_later E0.out _ Y.out
    go_wp2_with (go_at_call 64; (with_reducible refine (rfield_own 165 165 rfl _ _ _ _ _ (own_sl HS5.out) (by have h8 := HW.out; rw [List.length_append, ← HN3.out, ← HN4.out] at h8; omega)).mono ?_); rintro e w9 ⟨A9, n9, c9, rfl, hn9, hs9, hx9⟩; have HN9 := hid hn9; have HS9 := hid hs9; have HB9 := hid (ext_sz (X1.out.trans Y.out)); have Y := hid (Y.out.trans hx9); clear hs9 hn9 hx9)
    go_ret
    exact ⟨_, _, _, rfl, HN9.out, own_base HS9.out HB9.out, X1.out.trans Y.out⟩
  case inr.inl.inr.inr.inl =>
    have HE : Hid (filB (.mk 6 a v f l any parts) = fieldB 166 (textB 4 a ++ textB 4 v)) := by show _ = _; rw [filB_mk, if_neg (by decide), if_neg (by decide), if_neg (by decide)]; rfl
    have HW : Hid ((textB 4 a ++ textB 4 v).length ≤ 3000000) := by
      show _ ≤ _
      have e1 := textB_len 4 a
      have e2 := textB_len 4 v
      rw [List.length_append]
      omega
    clear ha hv hf hl h1 h2 h3 hs hn hok h r1 p1 ih
    rw [HE.out]
    go_enter Try.func83, Try.ntmps83
    go_wp2_with (refine box_arm rfl 25 (.tmp 0) rfl #[.int .i64 6, .string a, .string v, .string f, .string l, .slice A1 n1 c1, .slice B1 m1 d1] rfl ?_; intro w1 hx1 hz1 hg1; have X1 := hid hx1; have Y := hid (Ext.refl w1); have e0 := boxRow hg1 0 rfl; have E0 := hid (boxRow hg1 0 rfl); have E1 := hid (boxRow hg1 1 rfl); have E2 := hid (boxRow hg1 2 rfl); clear hx1 hz1 hg1)
    refine wp_region_planB w1.heap.size (.read 0 (.read 1 (.read 3 (.read 4 (.main 2 (.main 5 (.main 6 (.read 7 .done)))))))) (by kernel_rfl) (by kernel_rfl) ?_
    intro wD hxD
    have XB : Hid (Below w1.heap.size wD wD) := Below.refl _ _
    have XF : Hid (Below w1.heap.size w1 wD) := hxD
    have p1 := cell_laterB E1.out (Nat.le_refl _) XF.out
    have p2 := cell_laterB E2.out (Nat.le_refl _) XF.out
    repeat' (first
      | (refine walksB_move rfl rfl ?_; simp only [Act.put, Act.eval, List.setIfInBounds_toArray, List.set_cons_zero, List.set_cons_succ, Array.getD_eq_getD_getElem?, List.getElem?_toArray, List.getElem?_cons_zero, List.getElem?_cons_succ, Option.getD_some])
      | (refine walksB_assign rfl rfl ?_; simp only [Act.put, Act.eval, List.setIfInBounds_toArray, List.set_cons_zero, List.set_cons_succ, Array.getD_eq_getD_getElem?, List.getElem?_toArray, List.getElem?_cons_zero, List.getElem?_cons_succ, Option.getD_some])
      | (refine walksB_skip rfl rfl ?_; simp only [Act.put, List.setIfInBounds_toArray, List.set_cons_zero, List.set_cons_succ])
      | (refine walksB_unwanted rfl rfl ?_; simp only [Act.put, List.setIfInBounds_toArray, List.set_cons_zero, List.set_cons_succ])
      | (refine walksB_read (v := ?_) rfl rfl (fun w' hE => ?_) ?_; rotate_left 1; (· ((try (have hEx := Below.trans (Hid.out XB) hE)); go_simp; (try go_bits); with_reducible rfl)); simp only [Act.put, List.setIfInBounds_toArray, List.set_cons_zero, List.set_cons_succ])
      | (refine walksB_main rfl rfl (fun K hK => ?_); (first | (refine append_bytes_wp (.tmp 10) (.tmp 13) rfl _ _ _ _ rfl HS3.out _ _ _ _ rfl HS4.out (by have h8 := HW.out; rw [List.length_append, ← HN3.out, ← HN4.out] at h8; omega) HB3.out ?_; intro A5 c5 w5 ho5 hb5; have HS5 := hid ho5; have hy5 := Below.mono hb5 HB0.out; clear ho5 hb5; have XB' := hid (Below.trans (Hid.out XB) (hy5)); clear XB; have XB := XB'; clear XB')); refine hK _ _ (by first | assumption | exact Below.refl _ _) ?_; clear hK K; try simp only [Act.put, List.setIfInBounds_toArray, List.set_cons_zero, List.set_cons_succ])
      | (refine walksB_alt ?_ ?_)
      | (refine walksB_main rfl rfl (fun K hK => ?_); go_wp2_with (first | (go_at_call 67; (have tok := HS3; clear tok; with_reducible refine (rtext_own _ _ HV.out).mono ?_); rintro e w4 ⟨A4, n4, c4, rfl, hn4, hs4, hx4⟩; have HS4 := hid (own_sl hs4); have HS3 := hid (own_ext HS3.out hx4); have HB3 := hid (Nat.le_trans HB3.out (ext_sz hx4)); have HN4 := hid hn4; have hy4 := Below.mono hx4 (Nat.le_trans (Below.size XF.out) (Below.size XB.out)); clear hs4 hn4 hx4; have XB' := hid (Below.trans (Hid.out XB) (hy4)); clear XB; have XB := XB'; clear XB') | (go_at_call 67; (with_reducible refine (rtext_own _ _ HA.out).mono ?_); rintro e w3 ⟨A3, n3, c3, rfl, hn3, hs3, hx3⟩; have HS3 := hid hs3; have HN3 := hid hn3; have HB3 := hid (ext_sz hx3); have HB0 := hid (Nat.le_trans (Below.size XF.out) (Below.size XB.out)); have hy3 := Below.mono hx3 HB0.out; clear hs3 hn3 hx3; have XB' := hid (Below.trans (Hid.out XB) (hy3)); clear XB; have XB := XB'; clear XB')); refine hK _ _ (by first | assumption | exact Below.refl _ _) ?_; clear hK K; try simp only [Act.put, List.setIfInBounds_toArray, List.set_cons_zero, List.set_cons_succ]))
    refine walksB_done ?_
    have Y : Hid (Ext w1 _) := hid (Below.trans XF.out XB.out)
    clear p1 p2
    have e0 := cell_later E0.out _ Y.out
    go_wp2_with (go_at_call 64; (with_reducible refine (rfield_own 166 166 rfl _ _ _ _ _ (own_sl HS5.out) (by have h8 := HW.out; rw [List.length_append, ← HN3.out, ← HN4.out] at h8; omega)).mono ?_); rintro e w9 ⟨A9, n9, c9, rfl, hn9, hs9, hx9⟩; have HN9 := hid hn9; have HS9 := hid hs9; have HB9 := hid (ext_sz (X1.out.trans Y.out)); have Y := hid (Y.out.trans hx9); clear hs9 hn9 hx9)
    go_ret
    exact ⟨_, _, _, rfl, HN9.out, own_base HS9.out HB9.out, X1.out.trans Y.out⟩
  case inr.inl.inr.inr.inr =>
    have HE : Hid (filB (.mk 8 a v f l any parts) = fieldB 168 (textB 4 a ++ textB 4 v)) := by show _ = _; rw [filB_mk, if_neg (by decide), if_neg (by decide), if_neg (by decide)]; rfl
    have HW : Hid ((textB 4 a ++ textB 4 v).length ≤ 3000000) := by
      show _ ≤ _
      have e1 := textB_len 4 a
      have e2 := textB_len 4 v
      rw [List.length_append]
      omega
    clear ha hv hf hl h1 h2 h3 hs hn hok h r1 p1 ih
    rw [HE.out]
    go_enter Try.func83, Try.ntmps83
    go_wp2_with (refine box_arm rfl 25 (.tmp 0) rfl #[.int .i64 8, .string a, .string v, .string f, .string l, .slice A1 n1 c1, .slice B1 m1 d1] rfl ?_; intro w1 hx1 hz1 hg1; have X1 := hid hx1; have Y := hid (Ext.refl w1); have e0 := boxRow hg1 0 rfl; have E0 := hid (boxRow hg1 0 rfl); have E1 := hid (boxRow hg1 1 rfl); have E2 := hid (boxRow hg1 2 rfl); clear hx1 hz1 hg1)
    refine wp_region_planB w1.heap.size (.read 0 (.read 1 (.read 3 (.read 4 (.main 2 (.main 5 (.main 6 (.read 7 .done)))))))) (by kernel_rfl) (by kernel_rfl) ?_
    intro wD hxD
    have XB : Hid (Below w1.heap.size wD wD) := Below.refl _ _
    have XF : Hid (Below w1.heap.size w1 wD) := hxD
    have p1 := cell_laterB E1.out (Nat.le_refl _) XF.out
    have p2 := cell_laterB E2.out (Nat.le_refl _) XF.out
    repeat' (first
      | (refine walksB_move rfl rfl ?_; simp only [Act.put, Act.eval, List.setIfInBounds_toArray, List.set_cons_zero, List.set_cons_succ, Array.getD_eq_getD_getElem?, List.getElem?_toArray, List.getElem?_cons_zero, List.getElem?_cons_succ, Option.getD_some])
      | (refine walksB_assign rfl rfl ?_; simp only [Act.put, Act.eval, List.setIfInBounds_toArray, List.set_cons_zero, List.set_cons_succ, Array.getD_eq_getD_getElem?, List.getElem?_toArray, List.getElem?_cons_zero, List.getElem?_cons_succ, Option.getD_some])
      | (refine walksB_skip rfl rfl ?_; simp only [Act.put, List.setIfInBounds_toArray, List.set_cons_zero, List.set_cons_succ])
      | (refine walksB_unwanted rfl rfl ?_; simp only [Act.put, List.setIfInBounds_toArray, List.set_cons_zero, List.set_cons_succ])
      | (refine walksB_read (v := ?_) rfl rfl (fun w' hE => ?_) ?_; rotate_left 1; (· ((try (have hEx := Below.trans (Hid.out XB) hE)); go_simp; (try go_bits); with_reducible rfl)); simp only [Act.put, List.setIfInBounds_toArray, List.set_cons_zero, List.set_cons_succ])
      | (refine walksB_main rfl rfl (fun K hK => ?_); (first | (refine append_bytes_wp (.tmp 10) (.tmp 13) rfl _ _ _ _ rfl HS3.out _ _ _ _ rfl HS4.out (by have h8 := HW.out; rw [List.length_append, ← HN3.out, ← HN4.out] at h8; omega) HB3.out ?_; intro A5 c5 w5 ho5 hb5; have HS5 := hid ho5; have hy5 := Below.mono hb5 HB0.out; clear ho5 hb5; have XB' := hid (Below.trans (Hid.out XB) (hy5)); clear XB; have XB := XB'; clear XB')); refine hK _ _ (by first | assumption | exact Below.refl _ _) ?_; clear hK K; try simp only [Act.put, List.setIfInBounds_toArray, List.set_cons_zero, List.set_cons_succ])
      | (refine walksB_alt ?_ ?_)
      | (refine walksB_main rfl rfl (fun K hK => ?_); go_wp2_with (first | (go_at_call 67; (have tok := HS3; clear tok; with_reducible refine (rtext_own _ _ HV.out).mono ?_); rintro e w4 ⟨A4, n4, c4, rfl, hn4, hs4, hx4⟩; have HS4 := hid (own_sl hs4); have HS3 := hid (own_ext HS3.out hx4); have HB3 := hid (Nat.le_trans HB3.out (ext_sz hx4)); have HN4 := hid hn4; have hy4 := Below.mono hx4 (Nat.le_trans (Below.size XF.out) (Below.size XB.out)); clear hs4 hn4 hx4; have XB' := hid (Below.trans (Hid.out XB) (hy4)); clear XB; have XB := XB'; clear XB') | (go_at_call 67; (with_reducible refine (rtext_own _ _ HA.out).mono ?_); rintro e w3 ⟨A3, n3, c3, rfl, hn3, hs3, hx3⟩; have HS3 := hid hs3; have HN3 := hid hn3; have HB3 := hid (ext_sz hx3); have HB0 := hid (Nat.le_trans (Below.size XF.out) (Below.size XB.out)); have hy3 := Below.mono hx3 HB0.out; clear hs3 hn3 hx3; have XB' := hid (Below.trans (Hid.out XB) (hy3)); clear XB; have XB := XB'; clear XB')); refine hK _ _ (by first | assumption | exact Below.refl _ _) ?_; clear hK K; try simp only [Act.put, List.setIfInBounds_toArray, List.set_cons_zero, List.set_cons_succ]))
    refine walksB_done ?_
    have Y : Hid (Ext w1 _) := hid (Below.trans XF.out XB.out)
    clear p1 p2
    have e0 := cell_later E0.out _ Y.out
    go_wp2_with (go_at_call 64; (with_reducible refine (rfield_own 168 168 rfl _ _ _ _ _ (own_sl HS5.out) (by have h8 := HW.out; rw [List.length_append, ← HN3.out, ← HN4.out] at h8; omega)).mono ?_); rintro e w9 ⟨A9, n9, c9, rfl, hn9, hs9, hx9⟩; have HN9 := hid hn9; have HS9 := hid hs9; have HB9 := hid (ext_sz (X1.out.trans Y.out)); have Y := hid (Y.out.trans hx9); clear hs9 hn9 hx9)
    go_ret
    exact ⟨_, _, _, rfl, HN9.out, own_base HS9.out HB9.out, X1.out.trans Y.out⟩
  case inr.inr.inl =>
    have HE : Hid (filB (.mk 7 a v f l any parts) = textB 135 a) := by show _ = _; rw [filB_mk, if_neg (by decide), if_pos (by decide)]
    clear ha hv hf hl h1 h2 h3 hs hn hok h r1 p1 ih
    rw [HE.out]
    go_enter Try.func83, Try.ntmps83
    go_wp2_with (first
      | (refine box_arm rfl 25 (.tmp 0) rfl #[.int .i64 7, .string a, .string v, .string f, .string l, .slice A1 n1 c1, .slice B1 m1 d1] rfl ?_; intro w1 hx1 hz1 hg1; have X1 := hid hx1; have Y := hid (Ext.refl w1); have e0 := boxRow hg1 0 rfl; have e1 := boxRow hg1 1 rfl; clear hx1 hz1 hg1)
      | (refine tobytes_arm rfl (.tmp 18) rfl a rfl MA.out ?_; intro A c w2 hs2 hf2; have HS2 := hid hs2; have Y := hid (Y.out.trans hf2.ext); clear hs2 hf2)
      | (go_at_call 64; (with_reducible refine (rfield_own 135 135 rfl _ _ _ _ _ HS2.out (by have := HA.out; omega)).mono ?_); rintro e w9 ⟨A9, n9, c9, rfl, hn9, hs9, hx9⟩; have HN9 := hid hn9; have HS9 := hid hs9; have HB9 := hid (ext_sz (X1.out.trans Y.out)); have Y := hid (Y.out.trans hx9); clear hs9 hn9 hx9))
    go_ret
    exact ⟨_, _, _, rfl, HN9.out, own_base HS9.out HB9.out, X1.out.trans Y.out⟩
  case inr.inr.inr =>
    have HE : Hid (filB (.mk 4 a v f l any parts) = fieldB 164 (textB 4 a ++ fieldB 48 (piecesL f any l).flatten)) := by show _ = _; rw [filB_mk, if_neg (by decide), if_neg (by decide), if_pos rfl]; rfl
    have HW : Hid ((textB 4 a ++ fieldB 48 (piecesL f any l).flatten).length ≤ 1160000000000) := by
      show _ ≤ _
      have e1 := textB_len 4 a
      have e2 := fieldB_length 48 (piecesL f any l).flatten
      have e3 := HPL.out
      rw [List.length_append]
      omega
    have hl1 := hid r1.len
    have hb1 : n1 ≤ 1048576 := by have := hl1.out; have := h1.1; omega
    have HTA := hid (texts_len (t := 129) h1)
    have HTF : Hid ((textB 128 f).length ≤ 2000000) := by have := textB_len 128 f; show _ ≤ _; omega
    have HTL : Hid ((textB 130 l).length ≤ 2000000) := by have := textB_len 130 l; show _ ≤ _; omega
    clear ha hv hf hl h1 h2 h3 hs hn hok h r1 p1 ih
    rw [HE.out]
    by_cases hf0 : f.size = 0
    all_goals
      first
        | (have hfe := emp_yes hf0; clear hf0)
        | (have hfb : f.toList.isEmpty = false := (by rw [List.isEmpty_eq_false_iff]; exact emp_no hf0); have hfe := emp_no hf0; clear hf0)
      go_enter Try.func83, Try.ntmps83
      go_wp2_with (first
        | (refine box_arm rfl 25 (.tmp 0) rfl #[.int .i64 4, .string a, .string v, .string f, .string l, .slice A1 n1 c1, .slice B1 m1 d1] rfl ?_; intro w1 hx1 hz1 hg1; have X1 := hid hx1; have Y := hid (Ext.refl w1); have e0 := boxRow hg1 0 rfl; have e3 := boxRow hg1 3 rfl; have e5 := boxRow hg1 5 rfl; have E0 := hid (boxRow hg1 0 rfl); have E1 := hid (boxRow hg1 1 rfl); have E3 := hid (boxRow hg1 3 rfl); have E4 := hid (boxRow hg1 4 rfl); have E5 := hid (boxRow hg1 5 rfl); have HOc : Hid (w1.ownsRow w1.heap.size 5 1 (.slice none 0 0) 0 (([] : List UInt8).map bv)) := hid (World.ownsRow_nil _ _ _ _); clear hx1 hz1 hg1)
        | (refine tobytes_arm rfl (.tmp 28) rfl f rfl MF.out ?_; intro A c w2 hs2 hf2; have HSc := hid hs2; have HOc := hid (own_ext HOc.out hf2.ext); have Y := hid (Y.out.trans hf2.ext); (try clear e0); have e0 := cell_later E0.out _ Y.out; (try clear e1); have e1 := cell_later E1.out _ Y.out; (try clear e3); have e3 := cell_later E3.out _ Y.out; (try clear e4); have e4 := cell_later E4.out _ Y.out; (try clear e5); have e5 := cell_later E5.out _ Y.out; clear hs2 hf2)
        | (go_at_call 64; (with_reducible refine (rfield_own 128 128 rfl _ _ _ _ _ HSc.out (by have := HFI.out; omega)).mono ?_); rintro e w3 ⟨A3, n3, c3, rfl, hn3, hs3, hx3⟩; have HSd := hid (own_sl hs3); have HNd := hid hn3; have HOc := hid (own_ext HOc.out hx3); have Y := hid (Y.out.trans hx3); (try clear e0); have e0 := cell_later E0.out _ Y.out; (try clear e1); have e1 := cell_later E1.out _ Y.out; (try clear e3); have e3 := cell_later E3.out _ Y.out; (try clear e4); have e4 := cell_later E4.out _ Y.out; (try clear e5); have e5 := cell_later E5.out _ Y.out; clear hs3 hn3 hx3)
        | (at_builtin; refine append_bytes rfl (.tmp 26) (.tmp 30) rfl w1.heap.size _ 0 [] rfl HOc.out _ _ _ _ rfl HSd.out (by have := HNd.out; have := HTF.out; unfold textB at this; omega) (ext_sz Y.out) ?_; intro v8 w8 ho8 hb8 _ _; have HOc := hid ho8; have Y : Hid (Ext w1 w8) := hid (Below.trans Y.out hb8); (try clear e0); have e0 := cell_later E0.out _ Y.out; (try clear e1); have e1 := cell_later E1.out _ Y.out; (try clear e3); have e3 := cell_later E3.out _ Y.out; (try clear e4); have e4 := cell_later E4.out _ Y.out; (try clear e5); have e5 := cell_later E5.out _ Y.out; clear ho8 hb8))
      obtain ⟨pre, hpre⟩ : ∃ pre, pre = (if empB f then [] else textB 128 f : List UInt8) := ⟨_, rfl⟩
      have HPre := hid hpre
      have HPl : Hid (pre.length ≤ 2000000) := by
        show _ ≤ _
        rw [hpre]
        split
        · simp
        · exact HTF.out
      have HG0 : Hid (Grows w1 _ _ pre) := hid (by
        rw [hpre]
        first
          | (rw [if_pos (by unfold empB; rw [hfe]; rfl)]; exact ⟨⟨_, by simp, HOc.out⟩, Y.out⟩)
          | (rw [if_neg (by unfold empB; rw [List.isEmpty_iff]; exact hfe)]; exact ⟨⟨_, by rw [HNd.out]; simp [textB], HOc.out⟩, Y.out⟩))
      clear hpre HOc
      (try clear e0); (try clear e1); (try clear e3); (try clear e4); (try clear e5)
      clear hfe
      try clear hfb
      go_loopw [3, 35] (fun v i wr => ∃ j : Nat, j ≤ n1 ∧ i = .int .i64 j ∧ Hid (Grows w1 wr v (pre ++ ((any.take j).map (textB 129)).flatten))) (fun _ i _ => n1 - (intOf i).toNat)
      case atStart => exact ⟨0, by omega, rfl, by simpa [Hid] using HG0.out⟩
      case round =>
        obtain ⟨j, hj, rfl, HG⟩ := hrel
        obtain ⟨m, hm, ho⟩ := HG.out.own
        have Y := hid HG.out.ext
        have HO := hid ho
        have HM := hid hm
        clear hm ho
        have HL := hid (flat_le (textB 129) any (j + 1))
        by_cases hlt : j < n1
        · obtain ⟨b1, o1, hA, q1⟩ := (HR.out.ext (X1.out.trans Y.out)).str_cell (by omega)
          subst hA
          have e9 := q1 j hlt
          clear q1
          have g1 : any[j]? = some (any[j]?.getD ByteArray.empty) := by have := hl1.out; rw [List.getElem?_eq_getElem (by omega)]; simp
          have Hg := hid g1
          clear g1
          generalize any[j]?.getD ByteArray.empty = x1 at *
          have Hx := hid (H1.out.2 x1 (List.mem_of_getElem? Hg.out))
          have Mx : Hid (x1.size ≤ maxLen) := by have := Hx.out; show _ ≤ _; unfold maxLen; omega
          have HF := hid (flat_take (f := textB 129) Hg.out)
          have e5 := cell_later E5.out _ Y.out
          go_wp2_with (first
            | (refine tobytes_arm rfl (.tmp 43) rfl x1 rfl Mx.out ?_; intro A c w2 hs2 hf2; have HSc := hid hs2; have HO := hid (own_ext HO.out hf2.ext); have Y := hid (Y.out.trans hf2.ext); clear hs2 hf2)
            | (go_at_call 64; (with_reducible refine (rfield_own 129 129 rfl _ _ _ _ _ HSc.out (by have := Hx.out; omega)).mono ?_); rintro e w3 ⟨A3, n3, c3, rfl, hn3, hs3, hx3⟩; have HSd := hid (own_sl hs3); have HNd := hid hn3; have HO := hid (own_ext HO.out hx3); have Y := hid (Y.out.trans hx3); clear hs3 hn3 hx3)
            | (at_builtin; refine append_bytes rfl (.tmp 38) (.tmp 45) rfl w1.heap.size _ m _ rfl HO.out _ _ _ _ rfl HSd.out (by have h7 := HNd.out; have h8 := HM.out; have h9 := HL.out; have h10 := HPl.out; have h11 := HTA.out; rw [HF.out, List.length_append] at h9; rw [List.length_append] at h8; unfold textB at h9 h8 h11; omega) (ext_sz Y.out) ?_; intro v8 w8 ho8 hb8 _ _; have HO := hid ho8; have Y : Hid (Ext w1 w8) := hid (Below.trans Y.out hb8); clear ho8 hb8))
          refine ⟨⟨j + 1, by omega, by go_num, ⟨⟨m + n3, ?_, ?_⟩, Y.out⟩⟩, by simp [intOf]; omega⟩
          · rw [HF.out, ← List.append_assoc, List.length_append, ← HM.out, HNd.out]; rfl
          · rw [HF.out, ← List.append_assoc]; exact HO.out
        · obtain rfl : j = n1 := by omega
          have e4 := cell_later E4.out _ Y.out
          have e1 := cell_later E1.out _ Y.out
          have hq : (any.take j).map (textB 129) = any.map (textB 129) := by rw [List.take_of_length_le (Nat.le_of_eq hl1.out.symm)]
          have HPc : Hid ((piecesL f any l).flatten = (pre ++ (any.map (textB 129)).flatten) ++ (if empB l then [] else textB 130 l)) := by
            show _ = _
            unfold piecesL
            rw [HPre.out]
            split <;> split <;> simp
          have HM9 := HM.out
          have HO9 := HO.out
          rw [hq] at HM9 HO9
          have HM := hid HM9
          have HO := hid HO9
          clear HM9 HO9 hq
          obtain ⟨mid, hmid⟩ : ∃ mid, mid = pre ++ (any.map (textB 129)).flatten := ⟨_, rfl⟩
          rw [← hmid] at HM HO HPc
          clear hmid
          by_cases hl0 : l.size = 0
          all_goals
            first
              | (have hle := emp_yes hl0; clear hl0)
              | (have hlb : l.toList.isEmpty = false := (by rw [List.isEmpty_eq_false_iff]; exact emp_no hl0); have hle := emp_no hl0; clear hl0)
            have HL8 := HPc.out
            first
              | (rw [if_pos (by unfold empB; rw [hle]; rfl), List.append_nil] at HL8)
              | (rw [if_neg (by unfold empB; rw [List.isEmpty_iff]; exact hle)] at HL8)
            have HPL := HPL.out
            have HW := HW.out
            rw [HL8] at HPL HW
            have HL8h := hid HL8
            have HPL := hid HPL
            have HW := hid HW
            clear HL8 HPc
            obtain ⟨AO, cO, hO⟩ := own_form HO.out
            have HMb : Hid (m ≤ 1150000000000) := by
              have h7 := HPL.out
              have h8 := HM.out
              (try rw [List.length_append] at h7)
              show _ ≤ _
              omega
            subst hO
            go_wp2_with (first
              | (refine tobytes_arm rfl (.tmp 53) rfl l rfl ML.out ?_; intro A c w2 hs2 hf2; have HSc := hid hs2; have HO := hid (own_ext HO.out hf2.ext); have Y := hid (Y.out.trans hf2.ext); clear hs2 hf2)
              | (go_at_call 64; (have tok := HSc; clear tok; with_reducible refine (rfield_own 130 130 rfl _ _ _ _ _ HSc.out (by have := HLA.out; omega)).mono ?_); rintro e w3 ⟨A3, n3, c3, rfl, hn3, hs3, hx3⟩; have HSd : Hid (Sl w3 A3 n3 c3 (textB 130 l)) := hid (own_sl hs3); have HNd : Hid (n3 = (textB 130 l).length) := hid hn3; have HO := hid (own_ext HO.out hx3); have Y := hid (Y.out.trans hx3); clear HSc; clear hs3 hn3 hx3)
              | (at_builtin; refine append_bytes rfl (.tmp 51) (.tmp 55) rfl w1.heap.size _ _ _ rfl HO.out _ _ _ _ rfl HSd.out (by have h7 := HNd.out; have h8 := HMb.out; have h9 := HTL.out; omega) (ext_sz Y.out) ?_; intro v8 w8 ho8 hb8 _ _; obtain ⟨A8, c8, rfl⟩ := own_form ho8; have HO := hid ho8; have HM : Hid (_ = _) := hid (app_len HM.out HNd.out); have Y : Hid (Ext w1 w8) := hid (Below.trans Y.out hb8); (try clear e4); have e1 := cell_later E1.out _ Y.out; clear ho8 hb8)
              | (go_at_call 67; (with_reducible refine (rtext_own _ _ HA.out).mono ?_); rintro e w4 ⟨A4, n4, c4, rfl, hn4, hs4, hx4⟩; have HS4 := hid hs4; have HN4 := hid hn4; have HB4 := hid (ext_sz hx4); have HB0 := hid (ext_sz Y.out); have HO := hid (own_ext HO.out hx4); have Y := hid (Y.out.trans hx4); clear hs4 hn4 hx4)
              | (go_at_call 64; (have tok := HB4; clear tok; with_reducible refine (rfield_own 48 48 rfl _ _ _ _ _ (own_sl HO.out) (by have h7 := HPL.out; have h8 := HM.out; (try unfold textB at h7); omega)).mono ?_); rintro e w5 ⟨A5, n5, c5, rfl, hn5, hs5, hx5⟩; have HS5 := hid (own_sl hs5); have HN5 := hid hn5; have HS4 := hid (own_ext HS4.out hx5); have HB5 := hid (Nat.le_trans HB4.out (ext_sz hx5)); clear HB4; have Y := hid (Y.out.trans hx5); clear hs5 hn5 hx5)
              | (at_builtin; refine append_bytes rfl (.tmp 59) (.tmp 61) rfl _ _ _ _ rfl HS4.out _ _ _ _ rfl HS5.out (by have h8 := HW.out; rw [List.length_append, ← HN4.out, ← HN5.out] at h8; omega) HB5.out ?_; intro v6 w6 ho6 hb6 _ _; obtain ⟨A6, c6, rfl⟩ := own_form ho6; have HS6 := hid ho6; have Y : Hid (Ext w1 w6) := hid (Below.trans Y.out (hb6.mono HB0.out)); have e0 := cell_later E0.out _ Y.out; clear ho6 hb6)
              | (go_at_call 64; (with_reducible refine (rfield_own 164 164 rfl _ _ _ _ _ (own_sl HS6.out) (by have h8 := HW.out; rw [List.length_append, ← HN4.out, ← HN5.out] at h8; omega)).mono ?_); rintro e w9 ⟨A9, n9, c9, rfl, hn9, hs9, hx9⟩; have HN9 := hid hn9; have HS9 := hid hs9; have HB9 := hid (ext_sz (X1.out.trans Y.out)); have Y := hid (Y.out.trans hx9); clear hs9 hn9 hx9))
            go_ret
            refine ⟨_, _, _, rfl, ?_, ?_, X1.out.trans Y.out⟩
            · rw [HL8h.out]; exact HN9.out
            · rw [HL8h.out]; exact own_base HS9.out HB9.out
end Go.Proofs.Ytabaeiolpbdjnaa
