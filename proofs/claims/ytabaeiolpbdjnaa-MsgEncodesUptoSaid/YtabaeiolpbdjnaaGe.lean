/- Ed, Ef, Eg, Eh, in one text. -/
import Derived.Test.YtabaeiolpbdjnaaMe
import Derived.Test.YtabaeiolpbdjnaaMo
import Derived.Test.YtabaeiolpbdjnaaFe
/- The walks of msg's sequence, attribute, change, control, and of many at these. -/
namespace Go.Proofs.Ytabaeiolpbdjnaa
open Go.RowKit
set_option maxRecDepth 100000

theorem sequence_own {A : Option Addr} {n c : Nat} {xss : List (List UInt8)} {w : World} (h : Sls w A n c xss) (ht : xss.flatten.length ≤ 140737488351232) :
    Calls Try.prog 21 #[.slice A n c] w (BytesOwn w (fieldB 48 xss.flatten)) := by
  have HT := hid ht
  clear ht
  go_enter Try.func21, Try.ntmps21
  go_wp2_with (first
    | (go_at_call 17; (with_reducible refine (concat_own _ _ _ _ _ h (Nat.le_trans HT.out (by decide))).mono ?_); rintro e w1 ⟨A1, m1, c1, rfl, -, hs1, hx1⟩; have HS1 := hid (own_sl hs1); have X1 := hid hx1; clear hs1 hx1)
    | (go_at_call 15; (with_reducible refine (field_own 48 48 rfl _ _ _ _ _ HS1.out (by rw [HS1.out.len]; exact HT.out)).mono ?_); rintro e w2 ⟨A2, n2, c2, rfl, hn2, hs2, hx2⟩; have HN2 := hid hn2; have HS2 := hid hs2; clear hn2 hs2))
  go_ret
  exact ⟨_, _, _, rfl, HN2.out, own_base HS2.out (ext_sz X1.out), X1.out.trans hx2⟩
/-- A text of the widest that is looked at. -/
def TextFits (s : ByteArray) : Prop := s.size ≤ 1048576
def textsB (l : List ByteArray) : List UInt8 := (l.map (textB 4)).flatten
def attB (a : Att) : List UInt8 := fieldB 48 ([textB 4 a.type, fieldB 49 (textsB a.vals)] : List (List UInt8)).flatten
structure AttFits (a : Att) : Prop where
  type : a.type.size ≤ 1048576
  vals : ∀ s ∈ a.vals, s.size ≤ 1048576
  all : (textsB a.vals).length ≤ 140737480000000
theorem two_len (x y : List UInt8) : ([x, y] : List (List UInt8)).flatten.length = x.length + y.length := by simp
theorem att_len {a : Att} (h : AttFits a) : ([textB 4 a.type, fieldB 49 (textsB a.vals)] : List (List UInt8)).flatten.length ≤ 140737488300000 := by
  have h1 := textB_len 4 a.type
  have h2 := fieldB_length 49 (textsB a.vals)
  have h3 := h.type
  have h4 := h.all
  rw [two_len]
  omega
set_option maxHeartbeats 1000000 in
theorem attrib_any {S : Nat → Prop} {a : Att} {A : Option Addr} {n c : Nat} {w : World} (h : Row Elem.str S w A n c a.vals) (hf : AttFits a) :
    Calls Try.prog 55 #[.agg #[.string a.type, .slice A n c]] w (BytesOwn w (attB a)) := by
  have HF := hid hf
  have HR := hid h
  have HL := hid (att_len hf)
  clear hf h
  go_enter Try.func55, Try.ntmps55
  go_wp2_with (refine box_arm rfl 48 (.tmp 0) rfl #[.string a.type, .slice A n c] rfl ?_; intro w1 hx1 hz1 hg1; have X1 := hid hx1; have E0 := hid (boxRow hg1 0 rfl); have E1 := hid (boxRow hg1 1 rfl); clear hx1 hz1 hg1)
  refine wp_region_plan (.read 0 (.read 1 (.read 3 (.read 4 (.main 2 (.main 5 (.main 6 (.main 7 (.read 8 .done))))))))) (by kernel_rfl) (by kernel_rfl) ?_
  intro wD hxD
  have XE : Hid (Ext wD wD) := Ext.refl _
  have XD := hid (X1.out.trans hxD)
  have p0 := cell_later (cell_later E0.out _ hxD)
  have p1 := cell_later (cell_later E1.out _ hxD)
  repeat' (first
    | (refine walks_move rfl rfl ?_; simp only [Act.put, Act.eval, List.setIfInBounds_toArray, List.set_cons_zero, List.set_cons_succ, Array.getD_eq_getD_getElem?, List.getElem?_toArray, List.getElem?_cons_zero, List.getElem?_cons_succ, Option.getD_some])
    | (refine walks_assign rfl rfl ?_; simp only [Act.put, Act.eval, List.setIfInBounds_toArray, List.set_cons_zero, List.set_cons_succ, Array.getD_eq_getD_getElem?, List.getElem?_toArray, List.getElem?_cons_zero, List.getElem?_cons_succ, Option.getD_some])
    | (refine walks_skip rfl rfl ?_; simp only [Act.put, List.setIfInBounds_toArray, List.set_cons_zero, List.set_cons_succ])
    | (refine walks_unwanted rfl rfl ?_; simp only [Act.put, List.setIfInBounds_toArray, List.set_cons_zero, List.set_cons_succ])
    | (refine walks_read (v := ?_) rfl rfl (fun w' hE => ?_) ?_; rotate_left 1; (· ((try (have hEx := Ext.trans (Hid.out XE) hE)); go_simp; (try go_bits); with_reducible rfl)); simp only [Act.put, List.setIfInBounds_toArray, List.set_cons_zero, List.set_cons_succ])
    | (refine walks_main rfl rfl (fun K hK => ?_); (first | (refine lits2_wp (.tmp 5) (.tmp 8) rfl rfl rfl (.cons HS3'.out (.cons HS4.out .nil)) ?_; intro w6 hx6 hl6; obtain ⟨A6, c6, hv6, hs6⟩ := hl6.sls; injection hv6 with ha6 hc6 hc6'; subst ha6 hc6'; have HS6 := hid hs6; clear hs6 hl6 hc6; have XE' := hid (Ext.trans (Hid.out XE) hx6); clear XE; have XE := XE'; clear XE')); refine hK _ _ (by first | assumption | exact Ext.alloc _ _ | exact Ext.refl _) ?_; clear hK K; try simp only [Act.put, List.setIfInBounds_toArray, List.set_cons_zero, List.set_cons_succ])
    | (refine walks_alt ?_ ?_)
    | (refine walks_main rfl rfl (fun K hK => ?_); go_wp2_with (first | (go_at_call 47; (with_reducible refine (plain_text _ _ HF.out.type).mono ?_); rintro e w3 ⟨A3, n3, c3, rfl, -, hs3, hx3⟩; have HS3 := hid (own_sl hs3); clear hs3; have XE' := hid (Ext.trans (Hid.out XE) hx3); clear XE; have XE := XE'; clear XE') | (go_at_call 51; (with_reducible refine (manystr_any 49 49 rfl (HR.out.ext (XD.out.trans XE.out)) HF.out.vals (Nat.le_trans HF.out.all (by decide))).mono ?_); rintro e w4 ⟨A4, n4, c4, rfl, -, hs4, hx4⟩; have HS4 := hid (own_sl hs4); have HS3' := hid (HS3.out.ext hx4); clear hs4; have XE' := hid (Ext.trans (Hid.out XE) hx4); clear XE; have XE := XE'; clear XE') | (go_at_call 21; (with_reducible refine (sequence_own HS6.out (Nat.le_trans HL.out (by decide))).mono ?_); rintro e w7 ⟨A7, n7, c7, rfl, hn7, hs7, hx7⟩; have HN7 := hid hn7; have HS7 := hid hs7; have XB7 := hid (ext_sz (XD.out.trans XE.out)); clear hn7 hs7; have XE' := hid (Ext.trans (Hid.out XE) hx7); clear XE; have XE := XE'; clear XE')); refine hK _ _ (by first | assumption | exact Ext.alloc _ _ | exact Ext.refl _) ?_; clear hK K; try simp only [Act.put, List.setIfInBounds_toArray, List.set_cons_zero, List.set_cons_succ]))
  refine walks_done ?_
  go_wp2
  go_ret
  exact ⟨_, _, _, rfl, HN7.out, own_base HS7.out XB7.out, XD.out.trans XE.out⟩
set_option maxHeartbeats 1000000 in
theorem manyatt_any (t : UInt8) (k : Int) (hk : (t.toNat : Int) = k) {S : Nat → Prop} {A : Option Addr} {n c : Nat} {l : List Att} {w : World} (h : Row Elem.att S w A n c l) (hs : ∀ s ∈ l, AttFits s) (ht : (l.map attB).flatten.length ≤ 140737488350000) :
    Calls Try.prog 54 #[.int .u8 k, .slice A n c, .func (.func 55) #[] #[]] w (BytesOwn w (fieldB t (l.map attB).flatten)) := by
  subst hk
  have hl := hid h.len
  have hnl : n ≤ 9223372036854775807 := by have := h.cap; have := h.most; simp only [maxLen] at this; omega
  have Hs := hid hs
  have HT := hid ht
  have HR := hid h
  clear hs ht h
  go_enter Try.func54, Try.ntmps54
  go_wp2
  go_loopw [7, 12] (fun v i wr => ∃ j : Nat, j ≤ n ∧ i = .int .i64 j ∧ Hid (Grows w wr v ((l.take j).map attB).flatten)) (fun _ i _ => n - (intOf i).toNat)
  case atStart => exact ⟨0, by omega, rfl, ⟨0, by simp, World.ownsRow_nil _ _ _ _⟩, Ext.refl _⟩
  case round =>
    obtain ⟨j, hj, rfl, HG⟩ := hrel
    obtain ⟨m, hm, ho⟩ := HG.out.own
    by_cases hlt : j < n
    · obtain ⟨b1, o1, v1, x1, rfl, g1, -, ⟨A1, n1, c1, rfl, r1⟩, q1⟩ := (HR.out.ext HG.out.ext).at_ hlt
      have e10 := q1 0 _ rfl
      have e11 := q1 1 _ rfl
      simp only [Elem.att, Nat.add_zero] at e10 e11
      have R1 := hid r1
      clear q1 r1
      have Hg := hid g1
      have HO := hid ho
      have HM := hid hm
      have Hx := hid (Hs.out x1 (List.mem_of_getElem? g1))
      have HF := hid (flat_take (f := attB) Hg.out)
      have HL := hid (flat_le attB l (j + 1))
      clear ho hm g1
      go_wp2_with (first
        | (go_at_call 55; (with_reducible refine (attrib_any (a := x1) (R1.out.ext (Ext.alloc _ _)) Hx.out).mono ?_); rintro e w1 ⟨A9, n9, c9, rfl, -, hs1, hx1⟩; have HS1 := hid (own_sl hs1); have X1 := hid (Ext.trans (Ext.alloc _ _) hx1); clear hs1 hx1)
        | (at_builtin; refine append_bytes rfl _ _ rfl w.heap.size _ m _ rfl (own_ext HO.out X1.out) _ _ _ _ rfl HS1.out (by have := HS1.out.len; have := HM.out; have := HL.out; rw [HF.out, List.length_append] at this; have := HT.out; omega) (ext_sz (HG.out.ext.trans X1.out)) ?_; intro v' w3 ho3 hg3 _ _; have HO3 := hid ho3; have X3 := hid hg3; clear ho3 hg3))
      refine ⟨⟨j + 1, by omega, by go_num, ⟨m + n9, ?_, ?_⟩, ?_⟩, by simp [intOf]; omega⟩
      · rw [HF.out, List.length_append, ← HM.out, ← HS1.out.len]
      · rw [HF.out]; exact HO3.out
      · exact Below.trans (HG.out.ext.trans X1.out) X3.out
    · obtain rfl : j = n := by omega
      have hall : Hid ((l.take j).map attB = l.map attB) := by show _ = _; rw [List.take_of_length_le (Nat.le_of_eq hl.out.symm)]
      rw [hall.out] at hm ho
      obtain ⟨A4, c4, rfl, hs4⟩ := Sl.of_row ho
      have HS4 := hid hs4
      have HM := hid hm
      clear hm ho hs4
      go_wp2_with (go_at_call 15; (with_reducible refine (field_own t _ rfl _ _ _ _ _ HS4.out (by have := HM.out; have := HT.out; omega)).mono ?_); rintro e w2 ⟨A2, n2, c2, rfl, hn2, hs2, hx2⟩; have HN2 := hid hn2; have HS2 := hid hs2; clear hn2 hs2)
      go_ret
      exact ⟨_, _, _, rfl, HN2.out, own_base HS2.out (ext_sz HG.out.ext), HG.out.ext.trans hx2⟩
def chgB (x : Chg) : List UInt8 := fieldB 48 ([fieldB 10 (intB x.op), attB x.att] : List (List UInt8)).flatten
structure ChgFits (x : Chg) : Prop where
  op : I64 x.op
  att : AttFits x.att
theorem attB_len {a : Att} (h : AttFits a) : (attB a).length ≤ 140737488310000 := by
  have h1 := att_len h
  have h2 := fieldB_length 48 ([textB 4 a.type, fieldB 49 (textsB a.vals)] : List (List UInt8)).flatten
  unfold attB
  omega
theorem intF_len (t : UInt8) (n : Int) : (fieldB t (intB n)).length ≤ 14 := by
  have := fieldB_length t (intB n)
  have := intB_length n
  omega
theorem chg_len {x : Chg} (h : ChgFits x) : ([fieldB 10 (intB x.op), attB x.att] : List (List UInt8)).flatten.length ≤ 140737488320000 := by
  have h1 := attB_len h.att
  have h2 := intF_len 10 x.op
  rw [two_len]
  omega
theorem integer_own (t : UInt8) (k : Int) (hk : (t.toNat : Int) = k) (n : Int) (w : World) (h0 : I64 n) :
    Calls Try.prog 14 #[.int .u8 k, .int .i64 n] w (BytesOwn w (fieldB t (intB n))) := by
  subst hk
  have H0 := hid h0.1
  have H1 := hid h0.2
  clear h0
  go_enter Try.func14, Try.ntmps14
  go_wp2_with (first
    | (go_at_call 44; (with_reducible refine (int_any _ _ H0.out H1.out).mono ?_); rintro e w1 ⟨A1, m1, c1, rfl, hs1, hx1⟩; have HS1 := hid hs1; have X1 := hid hx1; clear hs1 hx1)
    | (go_at_call 15; (with_reducible refine (field_own t _ rfl _ _ _ _ _ HS1.out (by rw [HS1.out.len]; exact Nat.le_trans (intB_length n) (by decide))).mono ?_); rintro e w2 ⟨A2, n2, c2, rfl, hn2, hs2, hx2⟩; have HN2 := hid hn2; have HS2 := hid hs2; have X2 := hid hx2; clear hn2 hs2 hx2))
  go_ret
  exact ⟨_, _, _, rfl, HN2.out, own_base HS2.out (ext_sz X1.out), X1.out.trans X2.out⟩
set_option maxHeartbeats 1000000 in
theorem change_any {S : Nat → Prop} {x : Chg} {A : Option Addr} {n c : Nat} {w : World} (h : Row Elem.str S w A n c x.att.vals) (hf : ChgFits x) :
    Calls Try.prog 53 #[.agg #[.int .i64 x.op, .string x.att.type, .slice A n c]] w (BytesOwn w (chgB x)) := by
  have HF := hid hf
  have HR := hid h
  have HL := hid (chg_len hf)
  clear hf h
  go_enter Try.func53, Try.ntmps53
  go_wp2_with (refine box_arm rfl 50 (.tmp 0) rfl #[.int .i64 x.op, .string x.att.type, .slice A n c] rfl ?_; intro w1 hx1 hz1 hg1; have X1 := hid hx1; have E0 := hid (boxRow hg1 0 rfl); have E1 := hid (boxRow hg1 1 rfl); have E2 := hid (boxRow hg1 2 rfl); clear hx1 hz1 hg1)
  refine wp_region_plan (.read 0 (.read 1 (.read 3 (.read 4 (.main 2 (.main 5 (.main 6 (.main 7 (.read 8 .done))))))))) (by kernel_rfl) (by kernel_rfl) ?_
  intro wD hxD
  have XE : Hid (Ext wD wD) := Ext.refl _
  have XD := hid (X1.out.trans hxD)
  have p0 := cell_later (cell_later E0.out _ hxD)
  have p1 := cell_later (cell_later E1.out _ hxD)
  have p2 := cell_later (cell_later E2.out _ hxD)
  repeat' (first
    | (refine walks_move rfl rfl ?_; simp only [Act.put, Act.eval, List.setIfInBounds_toArray, List.set_cons_zero, List.set_cons_succ, Array.getD_eq_getD_getElem?, List.getElem?_toArray, List.getElem?_cons_zero, List.getElem?_cons_succ, Option.getD_some])
    | (refine walks_assign rfl rfl ?_; simp only [Act.put, Act.eval, List.setIfInBounds_toArray, List.set_cons_zero, List.set_cons_succ, Array.getD_eq_getD_getElem?, List.getElem?_toArray, List.getElem?_cons_zero, List.getElem?_cons_succ, Option.getD_some])
    | (refine walks_skip rfl rfl ?_; simp only [Act.put, List.setIfInBounds_toArray, List.set_cons_zero, List.set_cons_succ])
    | (refine walks_unwanted rfl rfl ?_; simp only [Act.put, List.setIfInBounds_toArray, List.set_cons_zero, List.set_cons_succ])
    | (refine walks_read (v := ?_) rfl rfl (fun w' hE => ?_) ?_; rotate_left 1; (· ((try (have hEx := Ext.trans (Hid.out XE) hE)); go_simp; (try go_bits); with_reducible rfl)); simp only [Act.put, List.setIfInBounds_toArray, List.set_cons_zero, List.set_cons_succ])
    | (refine walks_main rfl rfl (fun K hK => ?_); (first | (refine lits2_wp (.tmp 5) (.tmp 8) rfl rfl rfl (.cons HS3'.out (.cons HS4.out .nil)) ?_; intro w6 hx6 hl6; obtain ⟨A6, c6, hv6, hs6⟩ := hl6.sls; injection hv6 with ha6 hc6 hc6'; subst ha6 hc6'; have HS6 := hid hs6; clear hs6 hl6 hc6; have XE' := hid (Ext.trans (Hid.out XE) hx6); clear XE; have XE := XE'; clear XE')); refine hK _ _ (by first | assumption | exact Ext.alloc _ _ | exact Ext.refl _) ?_; clear hK K; try simp only [Act.put, List.setIfInBounds_toArray, List.set_cons_zero, List.set_cons_succ])
    | (refine walks_alt ?_ ?_)
    | (refine walks_main rfl rfl (fun K hK => ?_); go_wp2_with (first | (go_at_call 14; (with_reducible refine (integer_own 10 10 rfl _ _ HF.out.op).mono ?_); rintro e w3 ⟨A3, n3, c3, rfl, -, hs3, hx3⟩; have HS3 := hid (own_sl hs3); clear hs3; have XE' := hid (Ext.trans (Hid.out XE) hx3); clear XE; have XE := XE'; clear XE') | (go_at_call 55; (with_reducible refine (attrib_any (a := x.att) (HR.out.ext (XD.out.trans XE.out)) HF.out.att).mono ?_); rintro e w4 ⟨A4, n4, c4, rfl, -, hs4, hx4⟩; have HS4 := hid (own_sl hs4); have HS3' := hid (HS3.out.ext hx4); clear hs4; have XE' := hid (Ext.trans (Hid.out XE) hx4); clear XE; have XE := XE'; clear XE') | (go_at_call 21; (with_reducible refine (sequence_own HS6.out (Nat.le_trans HL.out (by decide))).mono ?_); rintro e w7 ⟨A7, n7, c7, rfl, hn7, hs7, hx7⟩; have HN7 := hid hn7; have HS7 := hid hs7; have XB7 := hid (ext_sz (XD.out.trans XE.out)); clear hn7 hs7; have XE' := hid (Ext.trans (Hid.out XE) hx7); clear XE; have XE := XE'; clear XE')); refine hK _ _ (by first | assumption | exact Ext.alloc _ _ | exact Ext.refl _) ?_; clear hK K; try simp only [Act.put, List.setIfInBounds_toArray, List.set_cons_zero, List.set_cons_succ]))
  refine walks_done ?_
  go_wp2
  go_ret
  exact ⟨_, _, _, rfl, HN7.out, own_base HS7.out XB7.out, XD.out.trans XE.out⟩
set_option maxHeartbeats 1000000 in
theorem manychg_any (t : UInt8) (k : Int) (hk : (t.toNat : Int) = k) {S : Nat → Prop} {A : Option Addr} {n c : Nat} {l : List Chg} {w : World} (h : Row Elem.chg S w A n c l) (hs : ∀ s ∈ l, ChgFits s) (ht : (l.map chgB).flatten.length ≤ 140737488350000) :
    Calls Try.prog 52 #[.int .u8 k, .slice A n c, .func (.func 53) #[] #[]] w (BytesOwn w (fieldB t (l.map chgB).flatten)) := by
  subst hk
  have hl := hid h.len
  have hnl : n ≤ 9223372036854775807 := by have := h.cap; have := h.most; simp only [maxLen] at this; omega
  have Hs := hid hs
  have HT := hid ht
  have HR := hid h
  clear hs ht h
  go_enter Try.func52, Try.ntmps52
  go_wp2
  go_loopw [7, 12] (fun v i wr => ∃ j : Nat, j ≤ n ∧ i = .int .i64 j ∧ Hid (Grows w wr v ((l.take j).map chgB).flatten)) (fun _ i _ => n - (intOf i).toNat)
  case atStart => exact ⟨0, by omega, rfl, ⟨0, by simp, World.ownsRow_nil _ _ _ _⟩, Ext.refl _⟩
  case round =>
    obtain ⟨j, hj, rfl, HG⟩ := hrel
    obtain ⟨m, hm, ho⟩ := HG.out.own
    by_cases hlt : j < n
    · obtain ⟨b1, o1, v1, x1, rfl, g1, -, ⟨A1, n1, c1, rfl, r1⟩, q1⟩ := (HR.out.ext HG.out.ext).at_ hlt
      have e10 := q1 0 _ rfl
      have e11 := q1 1 _ rfl
      have e12 := q1 2 _ rfl
      simp only [Elem.chg, Nat.add_zero] at e10 e11 e12
      have R1 := hid r1
      clear q1 r1
      have Hg := hid g1
      have HO := hid ho
      have HM := hid hm
      have Hx := hid (Hs.out x1 (List.mem_of_getElem? g1))
      have HF := hid (flat_take (f := chgB) Hg.out)
      have HL := hid (flat_le chgB l (j + 1))
      clear ho hm g1
      go_wp2_with (first
        | (go_at_call 53; (with_reducible refine (change_any (x := x1) (R1.out.ext (Ext.alloc _ _)) Hx.out).mono ?_); rintro e w1 ⟨A9, n9, c9, rfl, -, hs1, hx1⟩; have HS1 := hid (own_sl hs1); have X1 := hid (Ext.trans (Ext.alloc _ _) hx1); clear hs1 hx1)
        | (at_builtin; refine append_bytes rfl _ _ rfl w.heap.size _ m _ rfl (own_ext HO.out X1.out) _ _ _ _ rfl HS1.out (by have := HS1.out.len; have := HM.out; have := HL.out; rw [HF.out, List.length_append] at this; have := HT.out; omega) (ext_sz (HG.out.ext.trans X1.out)) ?_; intro v' w3 ho3 hg3 _ _; have HO3 := hid ho3; have X3 := hid hg3; clear ho3 hg3))
      refine ⟨⟨j + 1, by omega, by go_num, ⟨m + n9, ?_, ?_⟩, ?_⟩, by simp [intOf]; omega⟩
      · rw [HF.out, List.length_append, ← HM.out, ← HS1.out.len]
      · rw [HF.out]; exact HO3.out
      · exact Below.trans (HG.out.ext.trans X1.out) X3.out
    · obtain rfl : j = n := by omega
      have hall : Hid ((l.take j).map chgB = l.map chgB) := by show _ = _; rw [List.take_of_length_le (Nat.le_of_eq hl.out.symm)]
      rw [hall.out] at hm ho
      obtain ⟨A4, c4, rfl, hs4⟩ := Sl.of_row ho
      have HS4 := hid hs4
      have HM := hid hm
      clear hm ho hs4
      go_wp2_with (go_at_call 15; (with_reducible refine (field_own t _ rfl _ _ _ _ _ HS4.out (by have := HM.out; have := HT.out; omega)).mono ?_); rintro e w2 ⟨A2, n2, c2, rfl, hn2, hs2, hx2⟩; have HN2 := hid hn2; have HS2 := hid hs2; clear hn2 hs2)
      go_ret
      exact ⟨_, _, _, rfl, HN2.out, own_base HS2.out (ext_sz HG.out.ext), HG.out.ext.trans hx2⟩
end Go.Proofs.Ytabaeiolpbdjnaa
/- The walks of msg's control and of many at controls. -/
namespace Go.Proofs.Ytabaeiolpbdjnaa
open Go.RowKit
set_option maxRecDepth 100000

def ctlL (oid : ByteArray) (crit has : Bool) (val : ByteArray) : List (List UInt8) := ([textB 4 oid] ++ if crit then [fieldB 1 (boolB true)] else []) ++ if has then [textB 4 val] else []
def ctlB (x : Ctl) : List UInt8 := fieldB 48 (ctlL x.oid x.crit x.has x.val).flatten
theorem ctl_len {x : Ctl} (h : CtlOk x) : (ctlL x.oid x.crit x.has x.val).flatten.length ≤ 3000000 := by
  have h1 := textB_len 4 x.oid
  have h2 := textB_len 4 x.val
  have h3 := fieldB_length 1 (boolB true)
  have h5 : (boolB true).length = 1 := rfl
  have h4 := h.1
  have h6 := h.2
  unfold ctlL
  split <;> split <;> simp <;> omega
set_option maxHeartbeats 1000000 in
theorem control_any {x : Ctl} {w : World} (hf : CtlOk x) :
    Calls Try.prog 20 #[.agg #[.string x.oid, .bool x.crit, .bool x.has, .string x.val]] w (BytesOwn w (ctlB x)) := by
  have hL := ctl_len hf
  unfold ctlB
  obtain ⟨oid, crit, has, val⟩ := x
  obtain ⟨ho, hv⟩ := hf
  simp only at hL ho hv ⊢
  have HL := hid hL
  have HO := hid ho
  have HV := hid hv
  clear hL ho hv
  cases crit <;> cases has
  all_goals
    have hL' := HL.out
    simp only [ctlL, ↓reduceIte, Bool.false_eq_true, List.append_nil] at hL' ⊢
    have HL := hid hL'
    clear hL'
    go_enter Try.func20, Try.ntmps20
    go_wp2_with (first
      | (refine box_arm rfl 61 (.tmp 0) rfl #[.string oid, .bool _, .bool _, .string val] rfl ?_; intro w1 hx1 hz1 hg1; have X1 := hid hx1; have Y := hid (Ext.refl w1); have e0 := boxRow hg1 0 rfl; have E1 := hid (boxRow hg1 1 rfl); have E2 := hid (boxRow hg1 2 rfl); have E3 := hid (boxRow hg1 3 rfl); clear hx1 hz1 hg1)
      | (refine lits1_arm rfl (.tmp 6) rfl rfl ?_; intro w3 hx3 hc3 hl3; have HLc := hid (hl3 _ w1.heap.size HSc.out (ext_sz Y.out)); have Y := hid (Y.out.trans hx3); (try clear e0); (try clear e1); (try clear e2); (try clear e3); have e1 := cell_later E1.out _ Y.out; have e2 := cell_later E2.out _ Y.out; have e3 := cell_later E3.out _ Y.out; clear hx3 hc3 hl3)
      | (refine lits1_arm rfl (.tmp 11) rfl rfl ?_; intro w5 hx5 hc5 hl5; have HCc := hid hc5; have HLc := hid (HLc.out.ext hx5); have HSc := hid (HSc.out.ext hx5); have Y := hid (Y.out.trans hx5); (try clear e0); (try clear e1); (try clear e2); (try clear e3); have e1 := cell_later E1.out _ Y.out; have e2 := cell_later E2.out _ Y.out; have e3 := cell_later E3.out _ Y.out; clear hx5 hc5 hl5)
      | (refine lits1_arm rfl (.tmp 19) rfl rfl ?_; intro w5 hx5 hc5 hl5; have HCc := hid hc5; have HLc := hid (HLc.out.ext hx5); have HSc := hid (HSc.out.ext hx5); have Y := hid (Y.out.trans hx5); (try clear e0); (try clear e1); (try clear e2); (try clear e3); have e1 := cell_later E1.out _ Y.out; have e2 := cell_later E2.out _ Y.out; have e3 := cell_later E3.out _ Y.out; clear hx5 hc5 hl5)
      | (go_at_call 47; (have tok := HLc; clear tok; with_reducible refine (plain_text _ _ HV.out).mono ?_); rintro e w2 ⟨A2, n2, c2, rfl, -, hs2, hx2⟩; have HSc := hid (own_sl hs2); have HOc := hid (HLc.out.off (New.of_own hs2) (Nat.le_refl _)); have HLc := hid (HLc.out.ext hx2); have Y := hid (Y.out.trans hx2); (try clear e0); (try clear e1); (try clear e2); (try clear e3); have e1 := cell_later E1.out _ Y.out; have e2 := cell_later E2.out _ Y.out; have e3 := cell_later E3.out _ Y.out; clear hs2 hx2)
      | (go_at_call 47; (with_reducible refine (plain_text _ _ HO.out).mono ?_); rintro e w2 ⟨A2, n2, c2, rfl, -, hs2, hx2⟩; have HSc := hid (own_sl hs2); have Y := hid (Y.out.trans hx2); (try clear e0); (try clear e1); (try clear e2); (try clear e3); have e1 := cell_later E1.out _ Y.out; have e2 := cell_later E2.out _ Y.out; have e3 := cell_later E3.out _ Y.out; clear hs2 hx2)
      | (go_at_call 49; (with_reducible refine (boolean_any _ _).mono ?_); rintro e w4 ⟨A4, n4, c4, rfl, -, hs4, hx4⟩; have HSc := hid (own_sl hs4); have HOc := hid (HLc.out.off (New.of_own hs4) (Nat.le_refl _)); have HLc := hid (HLc.out.ext hx4); have Y := hid (Y.out.trans hx4); (try clear e0); (try clear e1); (try clear e2); (try clear e3); have e1 := cell_later E1.out _ Y.out; have e2 := cell_later E2.out _ Y.out; have e3 := cell_later E3.out _ Y.out; clear hs4 hx4)
      | (at_builtin; refine append_lst rfl _ _ rfl w1.heap.size _ _ _ rfl HLc.out _ _ _ _ _ rfl HCc.out HSc.out HOc.out (by decide) (ext_sz Y.out) ?_; intro A6 c6 w6 hl6 hb6; have HLc := hid hl6; have Y : Hid (Ext w1 w6) := hid (Below.trans Y.out hb6); (try clear e0); (try clear e1); (try clear e2); (try clear e3); have e1 := cell_later E1.out _ Y.out; have e2 := cell_later E2.out _ Y.out; have e3 := cell_later E3.out _ Y.out; clear hl6 hb6)
      | (go_at_call 21; (with_reducible refine (sequence_own HLc.out.sls' (Nat.le_trans HL.out (by decide))).mono ?_); rintro e w7 ⟨A7, n7, c7, rfl, hn7, hs7, hx7⟩; have HN7 := hid hn7; have HS7 := hid hs7; have XB7 := hid (ext_sz (X1.out.trans Y.out)); have Y := hid (Y.out.trans hx7); clear hn7 hs7 hx7))
    go_ret
    exact ⟨_, _, _, rfl, HN7.out, own_base HS7.out XB7.out, X1.out.trans Y.out⟩
set_option maxHeartbeats 1000000 in
theorem manyctl_any (t : UInt8) (k : Int) (hk : (t.toNat : Int) = k) {S : Nat → Prop} {A : Option Addr} {n c : Nat} {l : List Ctl} {w : World} (h : Row Elem.ctl S w A n c l) (hs : ∀ s ∈ l, CtlOk s) (ht : (l.map ctlB).flatten.length ≤ 140737488350000) :
    Calls Try.prog 19 #[.int .u8 k, .slice A n c, .func (.func 20) #[] #[]] w (BytesOwn w (fieldB t (l.map ctlB).flatten)) := by
  subst hk
  have hl := hid h.len
  have hnl : n ≤ 9223372036854775807 := by have := h.cap; have := h.most; simp only [maxLen] at this; omega
  have Hs := hid hs
  have HT := hid ht
  have HR := hid h
  clear hs ht h
  go_enter Try.func19, Try.ntmps19
  go_wp2
  go_loopw [7, 12] (fun v i wr => ∃ j : Nat, j ≤ n ∧ i = .int .i64 j ∧ Hid (Grows w wr v ((l.take j).map ctlB).flatten)) (fun _ i _ => n - (intOf i).toNat)
  case atStart => exact ⟨0, by omega, rfl, ⟨0, by simp, World.ownsRow_nil _ _ _ _⟩, Ext.refl _⟩
  case round =>
    obtain ⟨j, hj, rfl, HG⟩ := hrel
    obtain ⟨m, hm, ho⟩ := HG.out.own
    by_cases hlt : j < n
    · obtain ⟨b1, o1, v1, x1, rfl, g1, -, R1, q1⟩ := (HR.out.ext HG.out.ext).at_ hlt
      have hv1 : v1 = [.string x1.oid, .bool x1.crit, .bool x1.has, .string x1.val] := R1
      subst hv1
      have e10 := q1 0 _ rfl
      have e11 := q1 1 _ rfl
      have e12 := q1 2 _ rfl
      have e13 := q1 3 _ rfl
      simp only [Elem.ctl, Nat.add_zero] at e10 e11 e12 e13
      clear q1 R1
      have Hg := hid g1
      have HO := hid ho
      have HM := hid hm
      have Hx := hid (Hs.out x1 (List.mem_of_getElem? g1))
      have HF := hid (flat_take (f := ctlB) Hg.out)
      have HL := hid (flat_le ctlB l (j + 1))
      clear ho hm g1
      go_wp2_with (first
        | (go_at_call 20; (with_reducible refine (control_any (x := x1) Hx.out).mono ?_); rintro e w1 ⟨A9, n9, c9, rfl, -, hs1, hx1⟩; have HS1 := hid (own_sl hs1); have X1 := hid (Ext.trans (Ext.alloc _ _) hx1); clear hs1 hx1)
        | (at_builtin; refine append_bytes rfl _ _ rfl w.heap.size _ m _ rfl (own_ext HO.out X1.out) _ _ _ _ rfl HS1.out (by have := HS1.out.len; have := HM.out; have := HL.out; rw [HF.out, List.length_append] at this; have := HT.out; omega) (ext_sz (HG.out.ext.trans X1.out)) ?_; intro v' w3 ho3 hg3 _ _; have HO3 := hid ho3; have X3 := hid hg3; clear ho3 hg3))
      refine ⟨⟨j + 1, by omega, by go_num, ⟨m + n9, ?_, ?_⟩, ?_⟩, by simp [intOf]; omega⟩
      · rw [HF.out, List.length_append, ← HM.out, ← HS1.out.len]
      · rw [HF.out]; exact HO3.out
      · exact Below.trans (HG.out.ext.trans X1.out) X3.out
    · obtain rfl : j = n := by omega
      have hall : Hid ((l.take j).map ctlB = l.map ctlB) := by show _ = _; rw [List.take_of_length_le (Nat.le_of_eq hl.out.symm)]
      rw [hall.out] at hm ho
      obtain ⟨A4, c4, rfl, hs4⟩ := Sl.of_row ho
      have HS4 := hid hs4
      have HM := hid hm
      clear hm ho hs4
      go_wp2_with (go_at_call 15; (with_reducible refine (field_own t _ rfl _ _ _ _ _ HS4.out (by have := HM.out; have := HT.out; omega)).mono ?_); rintro e w2 ⟨A2, n2, c2, rfl, hn2, hs2, hx2⟩; have HN2 := hid hn2; have HS2 := hid hs2; clear hn2 hs2)
      go_ret
      exact ⟨_, _, _, rfl, HN2.out, own_base HS2.out (ext_sz HG.out.ext), HG.out.ext.trans hx2⟩
end Go.Proofs.Ytabaeiolpbdjnaa
/- The walks of msg's many at filters, and of filtered. -/
namespace Go.Proofs.Ytabaeiolpbdjnaa
open Go.RowKit
set_option maxRecDepth 100000

/-- append of bytes, within a region. -/
theorem append_bytes_wp {w : World} {o : Oper} {a : Act} {K : Act → World → Prop} {Q : Exit → Act → World → Prop} (s x : Operand)
    (ho : o.op = .call { callee := .builtin .append, args := #[s, x], argTypes := #[33, 33] })
    (base : Nat) (v : Value) (n : Nat) (xs : List UInt8) (hs : a.eval s = v) (hown : w.ownsRow base 5 1 v n (xs.map bv))
    (A : Option Addr) (m c : Nat) (ys : List UInt8) (hx : a.eval x = .slice A m c) (hy : Sl w A m c ys)
    (hbytes : n + m ≤ 140737488355328) (hbase : base ≤ w.heap.size)
    (h : ∀ A' c' w', w'.ownsRow base 5 1 (.slice A' (n + m) c') (n + m) ((xs ++ ys).map bv) → Below base w w' → K (a.put o.dst (.slice A' (n + m) c')) w') : o.wp Try.prog a w K Q := by
  obtain ⟨i0, hi, hz0, hz1, hz2⟩ := info_parts Try.infoByte
  refine wp_append_cells s x 33 ho base 5 i0 (.int .u8 0) 1 Try.underlying33 hi hz0 hz1 hz2 rfl v n (xs.map bv) hs hown A m c (ys.map bv) hx (by simpa using hy.len) hy.cells ?_ (by simp [maxLen]; omega) (by omega) hbase ?_
  · intro u hu
    obtain ⟨b, _, rfl⟩ := List.mem_map.1 hu
    rfl
  · intro v' w' h1 h2 h3
    rw [← List.map_append] at h1
    obtain ⟨A', c', rfl⟩ := own_form h1
    exact h A' c' w' h1 ((Below.refl base w).grown h2 hbase (fun k hk => (hown.lt k hk).1))
def piecesL (f : ByteArray) (any : List ByteArray) (l : ByteArray) : List (List UInt8) := ((if empB f then [] else [textB 128 f]) ++ any.map (textB 129)) ++ (if empB l then [] else [textB 130 l])
/-- The bytes of a filter. -/
def filB : Fil → List UInt8
  | .mk k a v f l any parts =>
    if k = 0 ∨ k = 1 ∨ k = 2 then fieldB (UInt8.ofNat (160 + k).toNat) (parts.attach.map fun x => filB x.1).flatten
    else if k = 7 then textB 135 a
    else if k = 4 then fieldB (UInt8.ofNat (160 + k).toNat) (textB 4 a ++ fieldB 48 (piecesL f any l).flatten)
    else fieldB (UInt8.ofNat (160 + k).toNat) (textB 4 a ++ textB 4 v)
  termination_by x => SizeOf.sizeOf x
  decreasing_by
    simp_wf
    have := List.sizeOf_lt_of_mem x.2
    omega
theorem filB_mk (k : Int) (a v f l : ByteArray) (any : List ByteArray) (parts : List Fil) : filB (.mk k a v f l any parts) =
    if k = 0 ∨ k = 1 ∨ k = 2 then fieldB (UInt8.ofNat (160 + k).toNat) (parts.map filB).flatten
    else if k = 7 then textB 135 a
    else if k = 4 then fieldB (UInt8.ofNat (160 + k).toNat) (textB 4 a ++ fieldB 48 (piecesL f any l).flatten)
    else fieldB (UInt8.ofNat (160 + k).toNat) (textB 4 a ++ textB 4 v) := by
  rw [filB]
  congr 3
  simp
set_option maxHeartbeats 1000000 in
theorem manyfil_any (t : UInt8) (k : Int) (hk : (t.toNat : Int) = k) {S : Nat → Prop} {A : Option Addr} {n c : Nat} {l : List Fil} {w : World} (h : Row Elem.fil S w A n c l) (hs : ∀ x ∈ l, ∀ (T : Nat → Prop) (vs : List Value) (w : World), FilAt T w vs x → Calls Try.prog 50 #[.agg vs.toArray] w (BytesOwn w (filB x))) (ht : (l.map filB).flatten.length ≤ 140737488350000) :
    Calls Try.prog 77 #[.int .u8 k, .slice A n c, .func (.func 50) #[] #[]] w (BytesOwn w (fieldB t (l.map filB).flatten)) := by
  subst hk
  have hl := hid h.len
  have hnl : n ≤ 9223372036854775807 := by have := h.cap; have := h.most; simp only [maxLen] at this; omega
  have Hs := hid hs
  have HT := hid ht
  have HR := hid h
  clear hs ht h
  go_enter Try.func77, Try.ntmps77
  go_wp2
  go_loopw [7, 12] (fun v i wr => ∃ j : Nat, j ≤ n ∧ i = .int .i64 j ∧ Hid (Grows w wr v ((l.take j).map filB).flatten)) (fun _ i _ => n - (intOf i).toNat)
  case atStart => exact ⟨0, by omega, rfl, ⟨0, by simp, World.ownsRow_nil _ _ _ _⟩, Ext.refl _⟩
  case round =>
    obtain ⟨j, hj, rfl, HG⟩ := hrel
    obtain ⟨m, hm, ho⟩ := HG.out.own
    by_cases hlt : j < n
    · obtain ⟨b1, o1, v1, x1, rfl, g1, _, R1, q1⟩ := (HR.out.ext HG.out.ext).at_ hlt
      obtain ⟨ka, aa, va, fa, la, anya, pa⟩ := x1
      obtain ⟨A1, n1, c1, B1, m1, d1, rfl, -, -⟩ := FilAt.open_ R1
      have e10 := q1 0 _ rfl; have e11 := q1 1 _ rfl; have e12 := q1 2 _ rfl; have e13 := q1 3 _ rfl; have e14 := q1 4 _ rfl; have e15 := q1 5 _ rfl; have e16 := q1 6 _ rfl
      simp only [Elem.fil, Nat.add_zero] at e10 e11 e12 e13 e14 e15 e16
      have HC : ∀ w2, Ext wr w2 → Calls Try.prog 50 #[.agg #[.int .i64 ka, .string aa, .string va, .string fa, .string la, .slice A1 n1 c1, .slice B1 m1 d1]] w2 (BytesOwn w2 (filB (Fil.mk ka aa va fa la anya pa))) := fun w2 hx2 => Hs.out _ (List.mem_of_getElem? g1) _ _ w2 (FilAt.ext R1 hx2)
      have HC' := hid HC
      clear HC q1 R1
      obtain ⟨x1, hx1⟩ : ∃ x1, x1 = Fil.mk ka aa va fa la anya pa := ⟨_, rfl⟩
      rw [← hx1] at g1 HC'
      clear hx1
      have Hg := hid g1
      have HO := hid ho
      have HM := hid hm
      have HF := hid (flat_take (f := filB) Hg.out)
      have HL := hid (flat_le filB l (j + 1))
      clear ho hm g1
      go_wp2_with (first
        | (go_at_call 50; (with_reducible refine (HC'.out _ (Ext.alloc _ _)).mono ?_); rintro e w1 ⟨A9, n9, c9, rfl, -, hs1, hx1⟩; have HS1 := hid (own_sl hs1); have X1 := hid (Ext.trans (Ext.alloc _ _) hx1); clear hs1 hx1)
        | (at_builtin; refine append_bytes rfl _ _ rfl w.heap.size _ m _ rfl (own_ext HO.out X1.out) _ _ _ _ rfl HS1.out (by have := HS1.out.len; have := HM.out; have := HL.out; rw [HF.out, List.length_append] at this; have := HT.out; omega) (ext_sz (HG.out.ext.trans X1.out)) ?_; intro v' w3 ho3 hg3 _ _; have HO3 := hid ho3; have X3 := hid hg3; clear ho3 hg3))
      refine ⟨⟨j + 1, by omega, by go_num, ⟨m + n9, ?_, ?_⟩, ?_⟩, by simp [intOf]; omega⟩
      · rw [HF.out, List.length_append, ← HM.out, ← HS1.out.len]
      · rw [HF.out]; exact HO3.out
      · exact Below.trans (HG.out.ext.trans X1.out) X3.out
    · obtain rfl : j = n := by omega
      have hall : Hid ((l.take j).map filB = l.map filB) := by show _ = _; rw [List.take_of_length_le (Nat.le_of_eq hl.out.symm)]
      rw [hall.out] at hm ho
      obtain ⟨A4, c4, rfl, hs4⟩ := Sl.of_row ho
      have HS4 := hid hs4
      have HM := hid hm
      clear hm ho hs4
      go_wp2_with (go_at_call 15; (with_reducible refine (field_own t _ rfl _ _ _ _ _ HS4.out (by have := HM.out; have := HT.out; omega)).mono ?_); rintro e w2 ⟨A2, n2, c2, rfl, hn2, hs2, hx2⟩; have HN2 := hid hn2; have HS2 := hid hs2; clear hn2 hs2)
      go_ret
      exact ⟨_, _, _, rfl, HN2.out, own_base HS2.out (ext_sz HG.out.ext), HG.out.ext.trans hx2⟩
end Go.Proofs.Ytabaeiolpbdjnaa
/- The walk of msg's filtered. -/
namespace Go.Proofs.Ytabaeiolpbdjnaa
open Go.RowKit
set_option maxRecDepth 100000
set_option linter.unusedSimpArgs false

theorem nod_split {k : Int} {a v f l : ByteArray} {any : List ByteArray} {parts : List Fil} (h : (Fil.mk k a v f l any parts).nod ≤ 40) : (Fil.mk k a v f l any parts).nod = 1 + (parts.map Fil.nod).sum := by
  rw [Fil.nod_mk] at h ⊢
  omega
theorem nod_part {parts : List Fil} {x : Fil} (h : x ∈ parts) : x.nod ≤ (parts.map Fil.nod).sum := by
  induction parts with
  | nil => cases h
  | cons p parts ih =>
    simp only [List.map_cons, List.sum_cons]
    rcases List.mem_cons.1 h with rfl | h
    · omega
    · have := ih h; omega
theorem flat_sum {α : Type} {f : α → List UInt8} {g : α → Nat} {C : Nat} : ∀ {l : List α}, (∀ x ∈ l, (f x).length ≤ C * g x) → (l.map f).flatten.length ≤ C * (l.map g).sum
  | [], _ => by simp
  | x :: l, h => by
    have h1 := h x (by simp)
    have h2 := flat_sum (l := l) (fun y hy => h y (by simp [hy]))
    simp only [List.map_cons, List.flatten_cons, List.length_append, List.sum_cons, Nat.mul_add]
    omega
theorem ones_sum {α : Type} : ∀ l : List α, (l.map fun _ => 1).sum = l.length
  | [] => rfl
  | x :: l => by rw [List.map_cons, List.sum_cons, ones_sum l, List.length_cons, Nat.add_comm]
theorem texts_len {t : UInt8} {l : List ByteArray} (h : StrsOk l) : (l.map (textB t)).flatten.length ≤ 1100000000000 := by
  have h1 := flat_sum (f := textB t) (g := fun _ => 1) (C := 1048582) (l := l) (fun x hx => by
    have := textB_len t x
    have := h.2 x hx
    omega)
  rw [ones_sum] at h1
  have := h.1
  omega
theorem pieces_len {f : ByteArray} {any : List ByteArray} {l : ByteArray} (hf : f.size ≤ 1048576) (hl : l.size ≤ 1048576) (h : StrsOk any) : (piecesL f any l).flatten.length ≤ 1150000000000 := by
  have h1 := textB_len 128 f
  have h2 := textB_len 130 l
  have h3 := texts_len (t := 129) h
  unfold piecesL
  split <;> split <;> simp only [List.flatten_append, List.length_append, List.flatten_cons, List.flatten_nil, List.length_nil] <;> omega
theorem filB_len : ∀ {x : Fil}, FilBd x → x.nod ≤ 40 → (filB x).length ≤ 1200000000000 * x.nod := by
  intro x
  induction x using Fil.ind with
  | h k a v f l any parts ih =>
    rintro ⟨_, ha, hv, hf, hl, h1, h2, h3⟩ hn
    have hs := nod_split hn
    rw [hs, filB_mk]
    have e1 := textB_len 4 a
    have e2 := textB_len 4 v
    have e3 := textB_len 135 a
    have e4 := pieces_len hf hl h1
    have e5 : (parts.map filB).flatten.length ≤ 1200000000000 * (parts.map Fil.nod).sum := flat_sum fun x hx => ih x hx (h3 x hx) (by have := nod_part hx; omega)
    have e6 := fieldB_length (UInt8.ofNat (160 + k).toNat) (parts.map filB).flatten
    have e7 := fieldB_length 48 (piecesL f any l).flatten
    have e8 := fieldB_length (UInt8.ofNat (160 + k).toNat) (textB 4 a ++ fieldB 48 (piecesL f any l).flatten)
    have e9 := fieldB_length (UInt8.ofNat (160 + k).toNat) (textB 4 a ++ textB 4 v)
    rw [List.length_append] at e8 e9
    split
    · omega
    · split
      · omega
      · split <;> omega
theorem allok_kind {k : Int} {a v f l : ByteArray} {any : List ByteArray} {parts : List Fil} (h : Fil.allok (.mk k a v f l any parts) = true) : (k = 0 ∨ k = 1 ∨ k = 2) ∨ (k = 3 ∨ k = 5 ∨ k = 6 ∨ k = 8) ∨ k = 7 ∨ k = 4 := by
  rw [Fil.allok_mk, Bool.and_eq_true] at h
  have h1 := h.1
  simp only [bareB] at h1
  split at h1
  · exact .inl (by assumption)
  · split at h1
    · exact .inr (.inl (by assumption))
    · split at h1
      · exact .inr (.inr (.inl (by assumption)))
      · split at h1
        · exact .inr (.inr (.inr (by assumption)))
        · cases h1
theorem allok_part {k : Int} {a v f l : ByteArray} {any : List ByteArray} {parts : List Fil} (h : Fil.allok (.mk k a v f l any parts) = true) : ∀ x ∈ parts, Fil.allok x = true := by
  rw [Fil.allok_mk, Bool.and_eq_true, List.all_eq_true] at h
  exact h.2
/-- A row of slices of bytes of the call's own, in a loop. -/
structure LG (w1 wr : World) (v : Value) (L : List (List UInt8)) : Prop where
  row : ∃ A c, v = .slice A L.length c ∧ Lst w1.heap.size wr (.slice A L.length c) L.length L
  ext : Ext w1 wr
theorem LG.start {w1 wr : World} {v : Value} {k : Nat} {L pre : List (List UInt8)} (h : Lst w1.heap.size wr v k L) (hx : Ext w1 wr) (hp : pre = L) : LG w1 wr v pre := by
  subst hp
  have hk := h.len
  subst hk
  obtain ⟨A, c, rfl, -⟩ := h.sls
  exact ⟨⟨A, c, rfl, h⟩, hx⟩
theorem LG.push {w1 w' : World} {A : Option Addr} {c : Nat} {L L' : List (List UInt8)} {x : List UInt8} (h : Lst w1.heap.size w' (.slice A (L.length + 1) c) (L.length + 1) (L ++ [x])) (hx : Ext w1 w') (hL : L' = L ++ [x]) : LG w1 w' (.slice A (L.length + 1) c) L' := by
  subst hL
  have e : (L ++ [x]).length = L.length + 1 := by simp
  exact ⟨⟨A, c, by rw [e], by rw [e]; exact h⟩, hx⟩
theorem map_take {α β : Type} (f : α → β) {l : List α} {j : Nat} {x : α} (h : l[j]? = some x) : (l.take (j + 1)).map f = (l.take j).map f ++ [f x] := by
  rw [List.take_add_one, h]
  simp
def FiltSays (F : FuncId) (x : Fil) : Prop := FilBd x → Fil.allok x = true → x.nod ≤ 40 → ∀ (S : Nat → Prop) (vs : List Value) (w : World), FilAt S w vs x → Calls Try.prog F #[.agg vs.toArray] w (BytesOwn w (filB x))
set_option maxHeartbeats 1000000 in
theorem filt_any : ∀ x, FiltSays 50 x := by
  refine Fil.ind fun k a v f l any parts ih => ?_
  intro hbd hok hn S vs w h
  have hk := allok_kind hok
  obtain ⟨_, ha, hv, hf, hl, h1, h2, h3⟩ := hbd
  have hs := nod_split hn
  obtain ⟨A1, n1, c1, B1, m1, d1, rfl, r1, p1⟩ := FilAt.open_ h
  have IH : Hid (∀ x ∈ parts, ∀ (T : Nat → Prop) (vs : List Value) (w : World), FilAt T w vs x → Calls Try.prog 50 #[.agg vs.toArray] w (BytesOwn w (filB x))) := fun x hx T vs w hT => ih x hx (h3 x hx) (allok_part hok x hx) (by have := nod_part hx; omega) T vs w hT
  have HT : Hid ((parts.map filB).flatten.length ≤ 140737488350000) := by
    have e5 : (parts.map filB).flatten.length ≤ 1200000000000 * (parts.map Fil.nod).sum := flat_sum fun x hx => filB_len (h3 x hx) (by have := nod_part hx; omega)
    show _ ≤ _
    omega
  have HA := hid ha
  have HV := hid hv
  have HFI := hid hf
  have HLA := hid hl
  have HP := hid p1
  have HR := hid r1
  have H1 := hid h1
  have HPL := hid (pieces_len hf hl h1)
  rcases hk with (rfl | rfl | rfl) | (rfl | rfl | rfl | rfl) | rfl | rfl
  case inl.inl =>
    have HE : Hid (filB (.mk 0 a v f l any parts) = fieldB 160 (parts.map filB).flatten) := by show _ = _; rw [filB_mk, if_pos (by decide)]; rfl
    clear ha hv hf hl h1 h2 h3 hs hn hok h r1 p1 ih
    rw [HE.out]
    go_enter Try.func50, Try.ntmps50
    go_wp2_with (go_at_call 77; (with_reducible refine (manyfil_any 160 160 rfl (HP.out.ext (Ext.alloc _ _)) IH.out HT.out).mono ?_); rintro e w2 ⟨A2, n2, c2, rfl, hn2, hs2, hx2⟩; have HN2 := hid hn2; have HS2 := hid hs2; clear hn2 hs2)
    go_ret
    exact ⟨_, _, _, rfl, HN2.out, own_base HS2.out (by simp), (Ext.alloc _ _).trans hx2⟩
  case inl.inr.inl =>
    have HE : Hid (filB (.mk 1 a v f l any parts) = fieldB 161 (parts.map filB).flatten) := by show _ = _; rw [filB_mk, if_pos (by decide)]; rfl
    clear ha hv hf hl h1 h2 h3 hs hn hok h r1 p1 ih
    rw [HE.out]
    go_enter Try.func50, Try.ntmps50
    go_wp2_with (go_at_call 77; (with_reducible refine (manyfil_any 161 161 rfl (HP.out.ext (Ext.alloc _ _)) IH.out HT.out).mono ?_); rintro e w2 ⟨A2, n2, c2, rfl, hn2, hs2, hx2⟩; have HN2 := hid hn2; have HS2 := hid hs2; clear hn2 hs2)
    go_ret
    exact ⟨_, _, _, rfl, HN2.out, own_base HS2.out (by simp), (Ext.alloc _ _).trans hx2⟩
  case inl.inr.inr =>
    have HE : Hid (filB (.mk 2 a v f l any parts) = fieldB 162 (parts.map filB).flatten) := by show _ = _; rw [filB_mk, if_pos (by decide)]; rfl
    clear ha hv hf hl h1 h2 h3 hs hn hok h r1 p1 ih
    rw [HE.out]
    go_enter Try.func50, Try.ntmps50
    go_wp2_with (go_at_call 77; (with_reducible refine (manyfil_any 162 162 rfl (HP.out.ext (Ext.alloc _ _)) IH.out HT.out).mono ?_); rintro e w2 ⟨A2, n2, c2, rfl, hn2, hs2, hx2⟩; have HN2 := hid hn2; have HS2 := hid hs2; clear hn2 hs2)
    go_ret
    exact ⟨_, _, _, rfl, HN2.out, own_base HS2.out (by simp), (Ext.alloc _ _).trans hx2⟩
  case inr.inl.inl =>
    have HE : Hid (filB (.mk 3 a v f l any parts) = fieldB 163 (textB 4 a ++ textB 4 v)) := by show _ = _; rw [filB_mk, if_neg (by decide), if_neg (by decide), if_neg (by decide)]; rfl
    have HW : Hid ((textB 4 a ++ textB 4 v).length ≤ 3000000) := by
      show _ ≤ _
      have e1 := textB_len 4 a
      have e2 := textB_len 4 v
      rw [List.length_append]
      omega
    clear ha hv hf hl h1 h2 h3 hs hn hok h r1 p1 ih
    rw [HE.out]
    go_enter Try.func50, Try.ntmps50
    go_wp2_with (refine box_arm rfl 39 (.tmp 0) rfl #[.int .i64 3, .string a, .string v, .string f, .string l, .slice A1 n1 c1, .slice B1 m1 d1] rfl ?_; intro w1 hx1 hz1 hg1; have X1 := hid hx1; have e0 := boxRow hg1 0 rfl; have E1 := hid (boxRow hg1 1 rfl); have E2 := hid (boxRow hg1 2 rfl); clear hx1 hz1 hg1)
    refine wp_region_planB w1.heap.size (.read 0 (.read 1 (.read 2 (.read 4 (.read 5 (.main 3 (.main 6 (.main 7 (.main 8 (.read 9 .done)))))))))) (by kernel_rfl) (by kernel_rfl) ?_
    intro wD hxD
    have XB : Hid (Below w1.heap.size wD wD) := Below.refl _ _
    have XF : Hid (Below w1.heap.size w1 wD) := hxD
    have p1 := cell_laterB E1.out (Nat.le_refl _) XF.out
    have p2 := cell_laterB E2.out (Nat.le_refl _) XF.out
    repeat' (first
      | (refine walksB_move rfl rfl ?_; simp only [Act.put, Act.eval, List.setIfInBounds_toArray, List.set_cons_zero, List.set_cons_succ, Array.getD_eq_getD_getElem?, List.getElem?_toArray, List.getElem?_cons_zero, List.getElem?_cons_succ, Option.getD_some])
      | (refine walksB_assign rfl rfl ?_; simp only [Act.put, Act.eval, List.setIfInBounds_toArray, List.set_cons_zero, List.set_cons_succ, Array.getD_eq_getD_getElem?, List.getElem?_toArray, List.getElem?_cons_zero, List.getElem?_cons_succ, Option.getD_some])
      | (refine walksB_skip rfl rfl ?_; simp only [Act.put, List.setIfInBounds_toArray, List.set_cons_zero, List.set_cons_succ])
      | (refine walksB_unwanted rfl rfl ?_; simp only [Act.put, List.setIfInBounds_toArray, List.set_cons_zero, List.set_cons_succ])
      | (refine walksB_read (v := ?_) rfl rfl (fun w' hE => ?_) ?_; rotate_left 1; (· ((try (have hEx := Below.trans (Hid.out XB) hE)); go_simp; (try go_bits); with_reducible rfl)); simp only [Act.put, List.setIfInBounds_toArray, List.set_cons_zero, List.set_cons_succ])
      | (refine walksB_main rfl rfl (fun K hK => ?_); (first | (refine append_bytes_wp (.tmp 70) (.tmp 73) rfl _ _ _ _ rfl HS3.out _ _ _ _ rfl HS4.out (by have h8 := HW.out; rw [List.length_append, ← HN3.out, ← HN4.out] at h8; omega) HB3.out ?_; intro A5 c5 w5 ho5 hb5; have HS5 := hid ho5; have hy5 := Below.mono hb5 HB0.out; clear ho5 hb5; have XB' := hid (Below.trans (Hid.out XB) (hy5)); clear XB; have XB := XB'; clear XB')); refine hK _ _ (by first | assumption | exact Below.refl _ _) ?_; clear hK K; try simp only [Act.put, List.setIfInBounds_toArray, List.set_cons_zero, List.set_cons_succ])
      | (refine walksB_alt ?_ ?_)
      | (refine walksB_main rfl rfl (fun K hK => ?_); go_wp2_with (first | (go_at_call 47; (have tok := HS3; clear tok; with_reducible refine (plain_text _ _ HV.out).mono ?_); rintro e w4 ⟨A4, n4, c4, rfl, hn4, hs4, hx4⟩; have HS4 := hid (own_sl hs4); have HS3 := hid (own_ext HS3.out hx4); have HB3 := hid (Nat.le_trans HB3.out (ext_sz hx4)); have HN4 := hid hn4; have hy4 := Below.mono hx4 (Nat.le_trans (Below.size XF.out) (Below.size XB.out)); clear hs4 hn4 hx4; have XB' := hid (Below.trans (Hid.out XB) (hy4)); clear XB; have XB := XB'; clear XB') | (go_at_call 47; (with_reducible refine (plain_text _ _ HA.out).mono ?_); rintro e w3 ⟨A3, n3, c3, rfl, hn3, hs3, hx3⟩; have HS3 := hid hs3; have HN3 := hid hn3; have HB3 := hid (ext_sz hx3); have HB0 := hid (Nat.le_trans (Below.size XF.out) (Below.size XB.out)); have hy3 := Below.mono hx3 HB0.out; clear hs3 hn3 hx3; have XB' := hid (Below.trans (Hid.out XB) (hy3)); clear XB; have XB := XB'; clear XB') | (go_at_call 15; (with_reducible refine (field_own 163 163 rfl _ _ _ _ _ (own_sl HS5.out) (by have h8 := HW.out; rw [List.length_append, ← HN3.out, ← HN4.out] at h8; omega)).mono ?_); rintro e w6 ⟨A6, n6, c6, rfl, hn6, hs6, hx6⟩; have HN6 := hid hn6; have HS6 := hid hs6; have HB6 := hid (Nat.le_trans (Below.size XF.out) (Below.size XB.out)); have hy6 := Below.mono hx6 HB6.out; clear hs6 hn6 hx6; have XB' := hid (Below.trans (Hid.out XB) (hy6)); clear XB; have XB := XB'; clear XB')); refine hK _ _ (by first | assumption | exact Below.refl _ _) ?_; clear hK K; try simp only [Act.put, List.setIfInBounds_toArray, List.set_cons_zero, List.set_cons_succ]))
    refine walksB_done ?_
    go_wp2
    go_ret
    exact ⟨_, _, _, rfl, HN6.out, own_base HS6.out (Nat.le_trans (ext_sz X1.out) HB6.out), X1.out.trans (Below.trans XF.out XB.out)⟩
  case inr.inl.inr.inl =>
    have HE : Hid (filB (.mk 5 a v f l any parts) = fieldB 165 (textB 4 a ++ textB 4 v)) := by show _ = _; rw [filB_mk, if_neg (by decide), if_neg (by decide), if_neg (by decide)]; rfl
    have HW : Hid ((textB 4 a ++ textB 4 v).length ≤ 3000000) := by
      show _ ≤ _
      have e1 := textB_len 4 a
      have e2 := textB_len 4 v
      rw [List.length_append]
      omega
    clear ha hv hf hl h1 h2 h3 hs hn hok h r1 p1 ih
    rw [HE.out]
    go_enter Try.func50, Try.ntmps50
    go_wp2_with (refine box_arm rfl 39 (.tmp 0) rfl #[.int .i64 5, .string a, .string v, .string f, .string l, .slice A1 n1 c1, .slice B1 m1 d1] rfl ?_; intro w1 hx1 hz1 hg1; have X1 := hid hx1; have e0 := boxRow hg1 0 rfl; have E1 := hid (boxRow hg1 1 rfl); have E2 := hid (boxRow hg1 2 rfl); clear hx1 hz1 hg1)
    refine wp_region_planB w1.heap.size (.read 0 (.read 1 (.read 2 (.read 4 (.read 5 (.main 3 (.main 6 (.main 7 (.main 8 (.read 9 .done)))))))))) (by kernel_rfl) (by kernel_rfl) ?_
    intro wD hxD
    have XB : Hid (Below w1.heap.size wD wD) := Below.refl _ _
    have XF : Hid (Below w1.heap.size w1 wD) := hxD
    have p1 := cell_laterB E1.out (Nat.le_refl _) XF.out
    have p2 := cell_laterB E2.out (Nat.le_refl _) XF.out
    repeat' (first
      | (refine walksB_move rfl rfl ?_; simp only [Act.put, Act.eval, List.setIfInBounds_toArray, List.set_cons_zero, List.set_cons_succ, Array.getD_eq_getD_getElem?, List.getElem?_toArray, List.getElem?_cons_zero, List.getElem?_cons_succ, Option.getD_some])
      | (refine walksB_assign rfl rfl ?_; simp only [Act.put, Act.eval, List.setIfInBounds_toArray, List.set_cons_zero, List.set_cons_succ, Array.getD_eq_getD_getElem?, List.getElem?_toArray, List.getElem?_cons_zero, List.getElem?_cons_succ, Option.getD_some])
      | (refine walksB_skip rfl rfl ?_; simp only [Act.put, List.setIfInBounds_toArray, List.set_cons_zero, List.set_cons_succ])
      | (refine walksB_unwanted rfl rfl ?_; simp only [Act.put, List.setIfInBounds_toArray, List.set_cons_zero, List.set_cons_succ])
      | (refine walksB_read (v := ?_) rfl rfl (fun w' hE => ?_) ?_; rotate_left 1; (· ((try (have hEx := Below.trans (Hid.out XB) hE)); go_simp; (try go_bits); with_reducible rfl)); simp only [Act.put, List.setIfInBounds_toArray, List.set_cons_zero, List.set_cons_succ])
      | (refine walksB_main rfl rfl (fun K hK => ?_); (first | (refine append_bytes_wp (.tmp 70) (.tmp 73) rfl _ _ _ _ rfl HS3.out _ _ _ _ rfl HS4.out (by have h8 := HW.out; rw [List.length_append, ← HN3.out, ← HN4.out] at h8; omega) HB3.out ?_; intro A5 c5 w5 ho5 hb5; have HS5 := hid ho5; have hy5 := Below.mono hb5 HB0.out; clear ho5 hb5; have XB' := hid (Below.trans (Hid.out XB) (hy5)); clear XB; have XB := XB'; clear XB')); refine hK _ _ (by first | assumption | exact Below.refl _ _) ?_; clear hK K; try simp only [Act.put, List.setIfInBounds_toArray, List.set_cons_zero, List.set_cons_succ])
      | (refine walksB_alt ?_ ?_)
      | (refine walksB_main rfl rfl (fun K hK => ?_); go_wp2_with (first | (go_at_call 47; (have tok := HS3; clear tok; with_reducible refine (plain_text _ _ HV.out).mono ?_); rintro e w4 ⟨A4, n4, c4, rfl, hn4, hs4, hx4⟩; have HS4 := hid (own_sl hs4); have HS3 := hid (own_ext HS3.out hx4); have HB3 := hid (Nat.le_trans HB3.out (ext_sz hx4)); have HN4 := hid hn4; have hy4 := Below.mono hx4 (Nat.le_trans (Below.size XF.out) (Below.size XB.out)); clear hs4 hn4 hx4; have XB' := hid (Below.trans (Hid.out XB) (hy4)); clear XB; have XB := XB'; clear XB') | (go_at_call 47; (with_reducible refine (plain_text _ _ HA.out).mono ?_); rintro e w3 ⟨A3, n3, c3, rfl, hn3, hs3, hx3⟩; have HS3 := hid hs3; have HN3 := hid hn3; have HB3 := hid (ext_sz hx3); have HB0 := hid (Nat.le_trans (Below.size XF.out) (Below.size XB.out)); have hy3 := Below.mono hx3 HB0.out; clear hs3 hn3 hx3; have XB' := hid (Below.trans (Hid.out XB) (hy3)); clear XB; have XB := XB'; clear XB') | (go_at_call 15; (with_reducible refine (field_own 165 165 rfl _ _ _ _ _ (own_sl HS5.out) (by have h8 := HW.out; rw [List.length_append, ← HN3.out, ← HN4.out] at h8; omega)).mono ?_); rintro e w6 ⟨A6, n6, c6, rfl, hn6, hs6, hx6⟩; have HN6 := hid hn6; have HS6 := hid hs6; have HB6 := hid (Nat.le_trans (Below.size XF.out) (Below.size XB.out)); have hy6 := Below.mono hx6 HB6.out; clear hs6 hn6 hx6; have XB' := hid (Below.trans (Hid.out XB) (hy6)); clear XB; have XB := XB'; clear XB')); refine hK _ _ (by first | assumption | exact Below.refl _ _) ?_; clear hK K; try simp only [Act.put, List.setIfInBounds_toArray, List.set_cons_zero, List.set_cons_succ]))
    refine walksB_done ?_
    go_wp2
    go_ret
    exact ⟨_, _, _, rfl, HN6.out, own_base HS6.out (Nat.le_trans (ext_sz X1.out) HB6.out), X1.out.trans (Below.trans XF.out XB.out)⟩
  case inr.inl.inr.inr.inl =>
    have HE : Hid (filB (.mk 6 a v f l any parts) = fieldB 166 (textB 4 a ++ textB 4 v)) := by show _ = _; rw [filB_mk, if_neg (by decide), if_neg (by decide), if_neg (by decide)]; rfl
    have HW : Hid ((textB 4 a ++ textB 4 v).length ≤ 3000000) := by
      show _ ≤ _
      have e1 := textB_len 4 a
      have e2 := textB_len 4 v
      rw [List.length_append]
      omega
    clear ha hv hf hl h1 h2 h3 hs hn hok h r1 p1 ih
    rw [HE.out]
    go_enter Try.func50, Try.ntmps50
    go_wp2_with (refine box_arm rfl 39 (.tmp 0) rfl #[.int .i64 6, .string a, .string v, .string f, .string l, .slice A1 n1 c1, .slice B1 m1 d1] rfl ?_; intro w1 hx1 hz1 hg1; have X1 := hid hx1; have e0 := boxRow hg1 0 rfl; have E1 := hid (boxRow hg1 1 rfl); have E2 := hid (boxRow hg1 2 rfl); clear hx1 hz1 hg1)
    refine wp_region_planB w1.heap.size (.read 0 (.read 1 (.read 2 (.read 4 (.read 5 (.main 3 (.main 6 (.main 7 (.main 8 (.read 9 .done)))))))))) (by kernel_rfl) (by kernel_rfl) ?_
    intro wD hxD
    have XB : Hid (Below w1.heap.size wD wD) := Below.refl _ _
    have XF : Hid (Below w1.heap.size w1 wD) := hxD
    have p1 := cell_laterB E1.out (Nat.le_refl _) XF.out
    have p2 := cell_laterB E2.out (Nat.le_refl _) XF.out
    repeat' (first
      | (refine walksB_move rfl rfl ?_; simp only [Act.put, Act.eval, List.setIfInBounds_toArray, List.set_cons_zero, List.set_cons_succ, Array.getD_eq_getD_getElem?, List.getElem?_toArray, List.getElem?_cons_zero, List.getElem?_cons_succ, Option.getD_some])
      | (refine walksB_assign rfl rfl ?_; simp only [Act.put, Act.eval, List.setIfInBounds_toArray, List.set_cons_zero, List.set_cons_succ, Array.getD_eq_getD_getElem?, List.getElem?_toArray, List.getElem?_cons_zero, List.getElem?_cons_succ, Option.getD_some])
      | (refine walksB_skip rfl rfl ?_; simp only [Act.put, List.setIfInBounds_toArray, List.set_cons_zero, List.set_cons_succ])
      | (refine walksB_unwanted rfl rfl ?_; simp only [Act.put, List.setIfInBounds_toArray, List.set_cons_zero, List.set_cons_succ])
      | (refine walksB_read (v := ?_) rfl rfl (fun w' hE => ?_) ?_; rotate_left 1; (· ((try (have hEx := Below.trans (Hid.out XB) hE)); go_simp; (try go_bits); with_reducible rfl)); simp only [Act.put, List.setIfInBounds_toArray, List.set_cons_zero, List.set_cons_succ])
      | (refine walksB_main rfl rfl (fun K hK => ?_); (first | (refine append_bytes_wp (.tmp 70) (.tmp 73) rfl _ _ _ _ rfl HS3.out _ _ _ _ rfl HS4.out (by have h8 := HW.out; rw [List.length_append, ← HN3.out, ← HN4.out] at h8; omega) HB3.out ?_; intro A5 c5 w5 ho5 hb5; have HS5 := hid ho5; have hy5 := Below.mono hb5 HB0.out; clear ho5 hb5; have XB' := hid (Below.trans (Hid.out XB) (hy5)); clear XB; have XB := XB'; clear XB')); refine hK _ _ (by first | assumption | exact Below.refl _ _) ?_; clear hK K; try simp only [Act.put, List.setIfInBounds_toArray, List.set_cons_zero, List.set_cons_succ])
      | (refine walksB_alt ?_ ?_)
      | (refine walksB_main rfl rfl (fun K hK => ?_); go_wp2_with (first | (go_at_call 47; (have tok := HS3; clear tok; with_reducible refine (plain_text _ _ HV.out).mono ?_); rintro e w4 ⟨A4, n4, c4, rfl, hn4, hs4, hx4⟩; have HS4 := hid (own_sl hs4); have HS3 := hid (own_ext HS3.out hx4); have HB3 := hid (Nat.le_trans HB3.out (ext_sz hx4)); have HN4 := hid hn4; have hy4 := Below.mono hx4 (Nat.le_trans (Below.size XF.out) (Below.size XB.out)); clear hs4 hn4 hx4; have XB' := hid (Below.trans (Hid.out XB) (hy4)); clear XB; have XB := XB'; clear XB') | (go_at_call 47; (with_reducible refine (plain_text _ _ HA.out).mono ?_); rintro e w3 ⟨A3, n3, c3, rfl, hn3, hs3, hx3⟩; have HS3 := hid hs3; have HN3 := hid hn3; have HB3 := hid (ext_sz hx3); have HB0 := hid (Nat.le_trans (Below.size XF.out) (Below.size XB.out)); have hy3 := Below.mono hx3 HB0.out; clear hs3 hn3 hx3; have XB' := hid (Below.trans (Hid.out XB) (hy3)); clear XB; have XB := XB'; clear XB') | (go_at_call 15; (with_reducible refine (field_own 166 166 rfl _ _ _ _ _ (own_sl HS5.out) (by have h8 := HW.out; rw [List.length_append, ← HN3.out, ← HN4.out] at h8; omega)).mono ?_); rintro e w6 ⟨A6, n6, c6, rfl, hn6, hs6, hx6⟩; have HN6 := hid hn6; have HS6 := hid hs6; have HB6 := hid (Nat.le_trans (Below.size XF.out) (Below.size XB.out)); have hy6 := Below.mono hx6 HB6.out; clear hs6 hn6 hx6; have XB' := hid (Below.trans (Hid.out XB) (hy6)); clear XB; have XB := XB'; clear XB')); refine hK _ _ (by first | assumption | exact Below.refl _ _) ?_; clear hK K; try simp only [Act.put, List.setIfInBounds_toArray, List.set_cons_zero, List.set_cons_succ]))
    refine walksB_done ?_
    go_wp2
    go_ret
    exact ⟨_, _, _, rfl, HN6.out, own_base HS6.out (Nat.le_trans (ext_sz X1.out) HB6.out), X1.out.trans (Below.trans XF.out XB.out)⟩
  case inr.inl.inr.inr.inr =>
    have HE : Hid (filB (.mk 8 a v f l any parts) = fieldB 168 (textB 4 a ++ textB 4 v)) := by show _ = _; rw [filB_mk, if_neg (by decide), if_neg (by decide), if_neg (by decide)]; rfl
    have HW : Hid ((textB 4 a ++ textB 4 v).length ≤ 3000000) := by
      show _ ≤ _
      have e1 := textB_len 4 a
      have e2 := textB_len 4 v
      rw [List.length_append]
      omega
    clear ha hv hf hl h1 h2 h3 hs hn hok h r1 p1 ih
    rw [HE.out]
    go_enter Try.func50, Try.ntmps50
    go_wp2_with (refine box_arm rfl 39 (.tmp 0) rfl #[.int .i64 8, .string a, .string v, .string f, .string l, .slice A1 n1 c1, .slice B1 m1 d1] rfl ?_; intro w1 hx1 hz1 hg1; have X1 := hid hx1; have e0 := boxRow hg1 0 rfl; have E1 := hid (boxRow hg1 1 rfl); have E2 := hid (boxRow hg1 2 rfl); clear hx1 hz1 hg1)
    refine wp_region_planB w1.heap.size (.read 0 (.read 1 (.read 2 (.read 4 (.read 5 (.main 3 (.main 6 (.main 7 (.main 8 (.read 9 .done)))))))))) (by kernel_rfl) (by kernel_rfl) ?_
    intro wD hxD
    have XB : Hid (Below w1.heap.size wD wD) := Below.refl _ _
    have XF : Hid (Below w1.heap.size w1 wD) := hxD
    have p1 := cell_laterB E1.out (Nat.le_refl _) XF.out
    have p2 := cell_laterB E2.out (Nat.le_refl _) XF.out
    repeat' (first
      | (refine walksB_move rfl rfl ?_; simp only [Act.put, Act.eval, List.setIfInBounds_toArray, List.set_cons_zero, List.set_cons_succ, Array.getD_eq_getD_getElem?, List.getElem?_toArray, List.getElem?_cons_zero, List.getElem?_cons_succ, Option.getD_some])
      | (refine walksB_assign rfl rfl ?_; simp only [Act.put, Act.eval, List.setIfInBounds_toArray, List.set_cons_zero, List.set_cons_succ, Array.getD_eq_getD_getElem?, List.getElem?_toArray, List.getElem?_cons_zero, List.getElem?_cons_succ, Option.getD_some])
      | (refine walksB_skip rfl rfl ?_; simp only [Act.put, List.setIfInBounds_toArray, List.set_cons_zero, List.set_cons_succ])
      | (refine walksB_unwanted rfl rfl ?_; simp only [Act.put, List.setIfInBounds_toArray, List.set_cons_zero, List.set_cons_succ])
      | (refine walksB_read (v := ?_) rfl rfl (fun w' hE => ?_) ?_; rotate_left 1; (· ((try (have hEx := Below.trans (Hid.out XB) hE)); go_simp; (try go_bits); with_reducible rfl)); simp only [Act.put, List.setIfInBounds_toArray, List.set_cons_zero, List.set_cons_succ])
      | (refine walksB_main rfl rfl (fun K hK => ?_); (first | (refine append_bytes_wp (.tmp 70) (.tmp 73) rfl _ _ _ _ rfl HS3.out _ _ _ _ rfl HS4.out (by have h8 := HW.out; rw [List.length_append, ← HN3.out, ← HN4.out] at h8; omega) HB3.out ?_; intro A5 c5 w5 ho5 hb5; have HS5 := hid ho5; have hy5 := Below.mono hb5 HB0.out; clear ho5 hb5; have XB' := hid (Below.trans (Hid.out XB) (hy5)); clear XB; have XB := XB'; clear XB')); refine hK _ _ (by first | assumption | exact Below.refl _ _) ?_; clear hK K; try simp only [Act.put, List.setIfInBounds_toArray, List.set_cons_zero, List.set_cons_succ])
      | (refine walksB_alt ?_ ?_)
      | (refine walksB_main rfl rfl (fun K hK => ?_); go_wp2_with (first | (go_at_call 47; (have tok := HS3; clear tok; with_reducible refine (plain_text _ _ HV.out).mono ?_); rintro e w4 ⟨A4, n4, c4, rfl, hn4, hs4, hx4⟩; have HS4 := hid (own_sl hs4); have HS3 := hid (own_ext HS3.out hx4); have HB3 := hid (Nat.le_trans HB3.out (ext_sz hx4)); have HN4 := hid hn4; have hy4 := Below.mono hx4 (Nat.le_trans (Below.size XF.out) (Below.size XB.out)); clear hs4 hn4 hx4; have XB' := hid (Below.trans (Hid.out XB) (hy4)); clear XB; have XB := XB'; clear XB') | (go_at_call 47; (with_reducible refine (plain_text _ _ HA.out).mono ?_); rintro e w3 ⟨A3, n3, c3, rfl, hn3, hs3, hx3⟩; have HS3 := hid hs3; have HN3 := hid hn3; have HB3 := hid (ext_sz hx3); have HB0 := hid (Nat.le_trans (Below.size XF.out) (Below.size XB.out)); have hy3 := Below.mono hx3 HB0.out; clear hs3 hn3 hx3; have XB' := hid (Below.trans (Hid.out XB) (hy3)); clear XB; have XB := XB'; clear XB') | (go_at_call 15; (with_reducible refine (field_own 168 168 rfl _ _ _ _ _ (own_sl HS5.out) (by have h8 := HW.out; rw [List.length_append, ← HN3.out, ← HN4.out] at h8; omega)).mono ?_); rintro e w6 ⟨A6, n6, c6, rfl, hn6, hs6, hx6⟩; have HN6 := hid hn6; have HS6 := hid hs6; have HB6 := hid (Nat.le_trans (Below.size XF.out) (Below.size XB.out)); have hy6 := Below.mono hx6 HB6.out; clear hs6 hn6 hx6; have XB' := hid (Below.trans (Hid.out XB) (hy6)); clear XB; have XB := XB'; clear XB')); refine hK _ _ (by first | assumption | exact Below.refl _ _) ?_; clear hK K; try simp only [Act.put, List.setIfInBounds_toArray, List.set_cons_zero, List.set_cons_succ]))
    refine walksB_done ?_
    go_wp2
    go_ret
    exact ⟨_, _, _, rfl, HN6.out, own_base HS6.out (Nat.le_trans (ext_sz X1.out) HB6.out), X1.out.trans (Below.trans XF.out XB.out)⟩
  case inr.inr.inl =>
    have HE : Hid (filB (.mk 7 a v f l any parts) = textB 135 a) := by show _ = _; rw [filB_mk, if_neg (by decide), if_pos (by decide)]
    clear ha hv hf hl h1 h2 h3 hs hn hok h r1 p1 ih
    rw [HE.out]
    go_enter Try.func50, Try.ntmps50
    go_wp2_with (go_at_call 48; (with_reducible refine (text_at 135 135 rfl _ _ HA.out).mono ?_); rintro e w2 ⟨A2, n2, c2, rfl, hn2, hs2, hx2⟩; have HN2 := hid hn2; have HS2 := hid hs2; clear hn2 hs2)
    go_ret
    exact ⟨_, _, _, rfl, HN2.out, own_base HS2.out (by simp), (Ext.alloc _ _).trans hx2⟩
  case inr.inr.inr =>
    have HE : Hid (filB (.mk 4 a v f l any parts) = fieldB 164 (textB 4 a ++ fieldB 48 (piecesL f any l).flatten)) := by show _ = _; rw [filB_mk, if_neg (by decide), if_neg (by decide), if_pos rfl]; rfl
    have HW : Hid ((textB 4 a ++ fieldB 48 (piecesL f any l).flatten).length ≤ 1160000000000) := by
      show _ ≤ _
      have e1 := textB_len 4 a
      have e2 := fieldB_length 48 (piecesL f any l).flatten
      have e3 := HPL.out
      rw [List.length_append]
      omega
    have hl1 := hid r1.len
    have hb1 : n1 ≤ 1048576 := by have := hl1.out; have := h1.1; omega
    clear ha hv hf hl h1 h2 h3 hs hn hok h r1 p1 ih
    rw [HE.out]
    by_cases hf0 : f.size = 0
    all_goals
      have HF0 := hid hf0
      first
        | (have hfe := emp_yes hf0; clear hf0)
        | (have hfb : f.toList.isEmpty = false := (by rw [List.isEmpty_eq_false_iff]; exact emp_no hf0); have hfe := emp_no hf0; clear hf0)
      go_enter Try.func50, Try.ntmps50
      go_wp2_with (first
        | (refine box_arm rfl 39 (.tmp 0) rfl #[.int .i64 4, .string a, .string v, .string f, .string l, .slice A1 n1 c1, .slice B1 m1 d1] rfl ?_; intro w1 hx1 hz1 hg1; have X1 := hid hx1; have Y := hid (Ext.refl w1); have e0 := boxRow hg1 0 rfl; have e3 := boxRow hg1 3 rfl; have e5 := boxRow hg1 5 rfl; have E1 := hid (boxRow hg1 1 rfl); have E3 := hid (boxRow hg1 3 rfl); have E4 := hid (boxRow hg1 4 rfl); have E5 := hid (boxRow hg1 5 rfl); have HLc := hid (Lst.nil w1 w1.heap.size); clear hx1 hz1 hg1)
        | (go_at_call 48; (with_reducible refine (text_at 128 128 rfl _ _ HFI.out).mono ?_); rintro e w2 ⟨A2, n2, c2, rfl, -, hs2, hx2⟩; have HSc := hid (own_sl hs2); have HOc := hid (HLc.out.off (New.of_own hs2) (Nat.le_refl _)); have HLc := hid (HLc.out.ext hx2); have Y := hid (Y.out.trans hx2); (try clear e0); (try clear e1); (try clear e3); (try clear e4); (try clear e5); have e1 := cell_later E1.out _ Y.out; have e3 := cell_later E3.out _ Y.out; have e4 := cell_later E4.out _ Y.out; have e5 := cell_later E5.out _ Y.out; clear hs2 hx2)
        | (refine lits1_arm rfl (.tmp 34) rfl rfl ?_; intro w5 hx5 hc5 hl5; have HCc := hid hc5; have HLc := hid (HLc.out.ext hx5); have HSc := hid (HSc.out.ext hx5); have Y := hid (Y.out.trans hx5); (try clear e0); (try clear e1); (try clear e3); (try clear e4); (try clear e5); have e1 := cell_later E1.out _ Y.out; have e3 := cell_later E3.out _ Y.out; have e4 := cell_later E4.out _ Y.out; have e5 := cell_later E5.out _ Y.out; clear hx5 hc5 hl5)
        | (at_builtin; refine append_lst rfl (.tmp 31) (.tmp 35) rfl w1.heap.size _ _ _ rfl HLc.out _ _ _ _ _ rfl HCc.out HSc.out HOc.out (by decide) (ext_sz Y.out) ?_; intro A6 c6 w6 hl6 hb6; have HLc := hid hl6; have Y : Hid (Ext w1 w6) := hid (Below.trans Y.out hb6); (try clear e0); (try clear e1); (try clear e3); (try clear e4); (try clear e5); have e1 := cell_later E1.out _ Y.out; have e3 := cell_later E3.out _ Y.out; have e4 := cell_later E4.out _ Y.out; have e5 := cell_later E5.out _ Y.out; clear hl6 hb6))
      obtain ⟨pre, hpre⟩ : ∃ pre, pre = (if empB f then [] else [textB 128 f] : List (List UInt8)) := ⟨_, rfl⟩
      have HPre := hid hpre
      have HPl : Hid (pre.length ≤ 1) := by show _ ≤ _; rw [hpre]; split <;> simp
      have HG0 := hid (LG.start (pre := pre) HLc.out Y.out (by
        rw [hpre]
        first
          | (rw [if_pos (by unfold empB; rw [hfe]; rfl)])
          | (rw [if_neg (by unfold empB; rw [List.isEmpty_iff]; exact hfe)]; rfl)))
      clear hpre HLc
      (try clear e0); (try clear e1); (try clear e3); (try clear e4); (try clear e5)
      clear hfe
      try clear hfb
      go_loopw [4, 40] (fun v i wr => ∃ j : Nat, j ≤ n1 ∧ i = .int .i64 j ∧ Hid (LG w1 wr v (pre ++ (any.take j).map (textB 129)))) (fun _ i _ => n1 - (intOf i).toNat)
      case atStart => exact ⟨0, by omega, rfl, by simpa [Hid] using HG0.out⟩
      case round =>
        obtain ⟨j, hj, rfl, HG⟩ := hrel
        obtain ⟨AL, cL, rfl, hLL⟩ := HG.out.row
        have HLc := hid hLL
        have Y := hid HG.out.ext
        clear hLL
        have HLn : Hid ((pre ++ (any.take j).map (textB 129)).length ≤ 1048577) := by
          show _ ≤ _
          have := HPl.out
          rw [List.length_append, List.length_map, List.length_take]
          omega
        obtain ⟨LL, hLL⟩ : ∃ LL, LL = pre ++ (any.take j).map (textB 129) := ⟨_, rfl⟩
        rw [← hLL] at HLc HLn ⊢
        have HLL := hid hLL
        clear hLL HG
        by_cases hlt : j < n1
        · obtain ⟨b1, o1, rfl, q1⟩ := (HR.out.ext (X1.out.trans Y.out)).str_cell (by omega)
          have e9 := q1 j hlt
          clear q1
          have g1 : any[j]? = some (any[j]?.getD ByteArray.empty) := by have := hl1.out; rw [List.getElem?_eq_getElem (by omega)]; simp
          have Hg := hid g1
          clear g1
          generalize any[j]?.getD ByteArray.empty = x1 at *
          have Hx := hid (H1.out.2 x1 (List.mem_of_getElem? Hg.out))
          have HT9 : Hid (pre ++ (any.take (j + 1)).map (textB 129) = LL ++ [textB 129 x1]) := by show _ = _; rw [HLL.out, map_take _ Hg.out, List.append_assoc]
          go_wp2_with (first
            | (go_at_call 48; (with_reducible refine (text_at 129 129 rfl _ _ Hx.out).mono ?_); rintro e w2 ⟨A2, n2, c2, rfl, -, hs2, hx2⟩; have HSc := hid (own_sl hs2); have HOc := hid (HLc.out.off (New.of_own hs2) (Nat.le_refl _)); have HLc := hid (HLc.out.ext hx2); have Y := hid (Y.out.trans hx2); clear hs2 hx2)
            | (refine lits1_arm rfl (.tmp 46) rfl rfl ?_; intro w5 hx5 hc5 hl5; have HCc := hid hc5; have HLc := hid (HLc.out.ext hx5); have HSc := hid (HSc.out.ext hx5); have Y := hid (Y.out.trans hx5); clear hx5 hc5 hl5)
            | (at_builtin; refine append_lst rfl (.tmp 44) (.tmp 47) rfl w1.heap.size _ _ _ rfl HLc.out _ _ _ _ _ rfl HCc.out HSc.out HOc.out (by have := HLn.out; omega) (ext_sz Y.out) ?_; intro A6 c6 w6 hl6 hb6; have HLc := hid hl6; have Y : Hid (Ext w1 w6) := hid (Below.trans Y.out hb6); clear hl6 hb6))
          exact ⟨⟨j + 1, by omega, by go_num, LG.push HLc.out Y.out HT9.out⟩, by simp [intOf]; omega⟩
        · obtain rfl : j = n1 := by omega
          have e1 := cell_later E1.out _ Y.out
          have e4 := cell_later E4.out _ Y.out
          by_cases hl0 : l.size = 0
          all_goals
            have HL9 : Hid (piecesL f any l = LL ++ (if empB l then [] else [textB 130 l])) := by
              show _ = _
              unfold piecesL
              rw [HLL.out, HPre.out, List.take_of_length_le (Nat.le_of_eq hl1.out.symm)]
            first
              | (have hle := emp_yes hl0; clear hl0)
              | (have hlb : l.toList.isEmpty = false := (by rw [List.isEmpty_eq_false_iff]; exact emp_no hl0); have hle := emp_no hl0; clear hl0)
            have HL8 := HL9.out
            first
              | (rw [if_pos (by unfold empB; rw [hle]; rfl), List.append_nil] at HL8)
              | (rw [if_neg (by unfold empB; rw [List.isEmpty_iff]; exact hle)] at HL8)
            have HPL := HPL.out
            have HW := HW.out
            rw [HL8] at HPL HW
            have HL8h := hid HL8
            have HPL := hid HPL
            have HW := hid HW
            clear HL8 HL9
            go_wp2_with (first
              | (go_at_call 48; (with_reducible refine (text_at 130 130 rfl _ _ HLA.out).mono ?_); rintro e w2 ⟨A2, n2, c2, rfl, -, hs2, hx2⟩; have HSc := hid (own_sl hs2); have HOc := hid (HLc.out.off (New.of_own hs2) (Nat.le_refl _)); have HLc := hid (HLc.out.ext hx2); have Y := hid (Y.out.trans hx2); (try clear e4); (try clear e1); have e1 := cell_later E1.out _ Y.out; clear hs2 hx2)
              | (refine lits1_arm rfl (.tmp 56) rfl rfl ?_; intro w5 hx5 hc5 hl5; have HCc := hid hc5; have HLc := hid (HLc.out.ext hx5); have HSc := hid (HSc.out.ext hx5); have Y := hid (Y.out.trans hx5); (try clear e1); have e1 := cell_later E1.out _ Y.out; clear hx5 hc5 hl5)
              | (at_builtin; refine append_lst rfl (.tmp 53) (.tmp 57) rfl w1.heap.size _ _ _ rfl HLc.out _ _ _ _ _ rfl HCc.out HSc.out HOc.out (by have := HLn.out; omega) (ext_sz Y.out) ?_; intro A6 c6 w6 hl6 hb6; have HLc := hid hl6; have Y : Hid (Ext w1 w6) := hid (Below.trans Y.out hb6); (try clear e1); have e1 := cell_later E1.out _ Y.out; clear hl6 hb6)
              | (go_at_call 47; (with_reducible refine (plain_text _ _ HA.out).mono ?_); rintro e w3 ⟨A3, n3, c3, rfl, hn3, hs3, hx3⟩; have HS3 := hid hs3; have HN3 := hid hn3; have HB3 := hid (ext_sz hx3); have HB0 := hid (ext_sz Y.out); have HLc := hid (HLc.out.ext hx3); have Y := hid (Y.out.trans hx3); clear hs3 hn3 hx3)
              | (go_at_call 21; (with_reducible refine (sequence_own HLc.out.sls' (Nat.le_trans HPL.out (by decide))).mono ?_); rintro e w7 ⟨A7, n7, c7, rfl, hn7, hs7, hx7⟩; have HN7 := hid hn7; have HS7 := hid (own_sl hs7); have HS3 := hid (own_ext HS3.out hx7); have HB3 := hid (Nat.le_trans HB3.out (ext_sz hx7)); have Y := hid (Y.out.trans hx7); clear hn7 hs7 hx7)
              | (at_builtin; refine append_bytes rfl (.tmp 62) (.tmp 64) rfl _ _ _ _ rfl HS3.out _ _ _ _ rfl HS7.out (by have h8 := HW.out; rw [List.length_append, ← HN3.out, ← HN7.out] at h8; omega) HB3.out ?_; intro v8 w8 ho8 hb8 _ _; obtain ⟨A8, c8, rfl⟩ := own_form ho8; have HS8 := hid ho8; have Y : Hid (Ext w1 w8) := hid (Below.trans Y.out (hb8.mono HB0.out)); clear ho8 hb8)
              | (go_at_call 15; (with_reducible refine (field_own 164 164 rfl _ _ _ _ _ (own_sl HS8.out) (by have h8 := HW.out; rw [List.length_append, ← HN3.out, ← HN7.out] at h8; omega)).mono ?_); rintro e w9 ⟨A9, n9, c9, rfl, hn9, hs9, hx9⟩; have HN9 := hid hn9; have HS9 := hid hs9; have HB9 := hid (ext_sz (X1.out.trans Y.out)); have Y := hid (Y.out.trans hx9); clear hs9 hn9 hx9))
            go_ret
            refine ⟨_, _, _, rfl, ?_, ?_, X1.out.trans Y.out⟩
            · rw [HL8h.out]; exact HN9.out
            · rw [HL8h.out]; exact own_base HS9.out HB9.out
end Go.Proofs.Ytabaeiolpbdjnaa
