/- Rc, Rd, in one text. -/
import Derived.Test.YtabaeiolpbdjnaaRe
import Derived.Test.YtabaeiolpbdjnaaPe
/- The walks of the reference's content, a theorem a kind. -/
namespace Go.Proofs.Ytabaeiolpbdjnaa
open Go.RowKit
set_option maxRecDepth 100000
set_option linter.unusedSimpArgs false
set_option linter.unusedVariables false

/-- What content answers. -/
def SlNew (w : World) (xs : List UInt8) (e : Ending) (w' : World) : Prop := ∃ A n c, e = .returned (.slice A n c) ∧ Sl w' A n c xs ∧ Ext w w'
/-- Bytes of the call's own, laid one behind the other. -/
structure Acc (w1 w : World) (A : Option Addr) (n c : Nat) (xs : List UInt8) : Prop where
  own : w.ownsRow w1.heap.size 5 1 (.slice A n c) n (xs.map bv)
  len : n = xs.length
  ext : Ext w1 w
theorem Acc.later {w1 w w' : World} {A : Option Addr} {n c : Nat} {xs : List UInt8} (h : Acc w1 w A n c xs) (hx : Ext w w') : Acc w1 w' A n c xs := ⟨own_ext h.own hx, h.len, h.ext.trans hx⟩
theorem Acc.push {w1 w w' : World} {A A2 A' : Option Addr} {n c m c2 c' : Nat} {xs ys : List UInt8} (h : Acc w1 w A n c xs) (hs : Sl w A2 m c2 ys) (ho : w'.ownsRow w1.heap.size 5 1 (.slice A' (n + m) c') (n + m) ((xs ++ ys).map bv)) (hb : Below w1.heap.size w w') : Acc w1 w' A' (n + m) c' (xs ++ ys) :=
  ⟨ho, by rw [List.length_append, ← h.len, ← hs.len], Below.trans h.ext hb⟩
theorem Acc.of {w1 w0 w : World} {A : Option Addr} {n c : Nat} {xs : List UInt8} (ho : w.ownsRow w0.heap.size 5 1 (.slice A n c) n (xs.map bv)) (hn : n = xs.length) (hx : Ext w1 w0) (hy : Ext w0 w) : Acc w1 w A n c xs := ⟨own_base ho (ext_sz hx), hn, hx.trans hy⟩
/-- A row of the call's own stays where what is written lies behind it. -/
theorem own_stay {w w' : World} {b B : Nat} {e : TypeId} {size : Nat} {v : Value} {n : Nat} {xs : List Value} (h : w.ownsRow b e size v n xs) (hB : ∀ k, v.ownBlock = some k → k < B) (hx : Below B w w') : w'.ownsRow b e size v n xs := by
  obtain ⟨h1, h2⟩ := h
  refine ⟨h1, ?_⟩
  rcases h2 with h2 | ⟨g, cap, cur, hv, hb, hh, r⟩
  · exact .inl h2
  · refine .inr ⟨g, cap, cur, hv, hb, ?_, r⟩
    rw [hx.block g (hB g (by rw [hv]; rfl))]
    exact hh
theorem own_blk {w : World} {b : Nat} {e : TypeId} {size : Nat} {v : Value} {n : Nat} {xs : List Value} (h : w.ownsRow b e size v n xs) : ∀ k, v.ownBlock = some k → k < w.heap.size := fun k hk => (h.lt k hk).2
theorem chgB_app (x : Chg) : chgB x = fieldB 48 (fieldB 10 (intB x.op) ++ attB x.att) := by unfold chgB; simp
theorem Acc.sl {w1 w : World} {A : Option Addr} {n c : Nat} {xs : List UInt8} (h : Acc w1 w A n c xs) : Sl w A n c xs := own_sl h.own
set_option maxHeartbeats 1000000 in
theorem content_0 {m : Msg} {d : MsgD} {cs : Array Value} {S : Nat → Prop} (hcs : Hid (cs = (msgCells m d).toArray)) (w : World) (hm : MsgRows S w m d) (hf : MsgFits m) (hk : m.kind = 0) :
    Calls Try.prog 66 #[.agg cs] w (SlNew w (partsL m).flatten) := by
  have HL : Hid ((partsL m).flatten = fieldB 2 (intB m.ver) ++ (textB 4 m.name ++ textB 128 m.pw)) := by show _ = _; unfold partsL; rw [hk]; rw [if_pos rfl]; simp
  have Hm := hid hm
  have HV := hid hf.ok.ver
  have HN := hid hf.ok.name
  have HP := hid hf.ok.pw
  have MP : Hid (m.pw.size ≤ maxLen) := by have := hf.ok.pw; show _ ≤ _; unfold maxLen; omega
  have B0 : Hid ((fieldB 2 (intB m.ver)).length ≤ 14) := by show _ ≤ _; exact intF_len 2 m.ver
  have B1 : Hid ((textB 4 m.name).length ≤ 1100000) := by show _ ≤ _; have h1 := textB_len 4 m.name; have h2 := hf.ok.name; omega
  have B2 : Hid ((textB 128 m.pw).length ≤ 1100000) := by show _ ≤ _; have h1 := textB_len 128 m.pw; have h2 := hf.ok.pw; omega
  have t0 : (m.kind == 0) = true := by rw [hk]; rfl
  clear hm hf hk
  go_enter Try.func66, Try.ntmps66
  go_wp2_with (refine box_arm rfl 30 (.tmp 0) rfl cs rfl ?_; intro w1 hx1 hz1 hg1; have Hg1 := hid hg1; have X1 := hid hx1; have y1 := (boxCell hg1 1 hcs rfl).out; clear hz1 hg1 hx1)
  refine wp_region_planB w1.heap.size (.read 0 (.read 1 (.read 3 (.read 4 (.main 2 (.main 5 (.main 6 (.read 7 .done)))))))) (by kernel_rfl) (by kernel_rfl) ?_
  intro wD hxD
  have XB : Hid (Below w1.heap.size wD wD) := Below.refl _ _
  have XF : Hid (Below w1.heap.size w1 wD) := hxD
  have p4 := cell_laterB (boxCell Hg1.out 4 hcs rfl).out (Nat.le_refl _) XF.out
  have p2 := cell_laterB (boxCell Hg1.out 2 hcs rfl).out (Nat.le_refl _) XF.out
  repeat' (first
    | (refine walksB_move rfl rfl ?_; simp only [Act.put, Act.eval, List.setIfInBounds_toArray, List.set_cons_zero, List.set_cons_succ, Array.getD_eq_getD_getElem?, List.getElem?_toArray, List.getElem?_cons_zero, List.getElem?_cons_succ, Option.getD_some])
    | (refine walksB_assign rfl rfl ?_; simp only [Act.put, Act.eval, List.setIfInBounds_toArray, List.set_cons_zero, List.set_cons_succ, Array.getD_eq_getD_getElem?, List.getElem?_toArray, List.getElem?_cons_zero, List.getElem?_cons_succ, Option.getD_some])
    | (refine walksB_skip rfl rfl ?_; simp only [Act.put, List.setIfInBounds_toArray, List.set_cons_zero, List.set_cons_succ])
    | (refine walksB_unwanted rfl rfl ?_; simp only [Act.put, List.setIfInBounds_toArray, List.set_cons_zero, List.set_cons_succ])
    | (refine walksB_read (v := ?_) rfl rfl (fun w' hE => ?_) ?_; rotate_left 1; (· ((try (have hEx := Below.trans (Hid.out XB) hE)); go_simp; (try go_bits); with_reducible rfl)); simp only [Act.put, List.setIfInBounds_toArray, List.set_cons_zero, List.set_cons_succ])
    | (refine walksB_main rfl rfl (fun K hK => ?_); (first | (refine append_bytes_wp (.tmp 12) (.tmp 15) rfl _ _ _ _ rfl HS3.out _ _ _ _ rfl HS4.out (by have h3 := HN3.out; have h4 := HN4.out; have b0 := B0.out; have b1 := B1.out; have b2 := B2.out; omega) HB3.out ?_; intro A5 c5 w5 ho5 hb5; have HS5 := hid (own_base ho5 HB0.out); have HN5 := hid (app_len HN3.out HN4.out); have hy5 := Below.mono hb5 HB0.out; clear ho5 hb5; have XB' := hid (Below.trans (Hid.out XB) (hy5)); clear XB; have XB := XB'; clear XB')); refine hK _ _ (by first | assumption | exact Below.refl _ _) ?_; clear hK K; try simp only [Act.put, List.setIfInBounds_toArray, List.set_cons_zero, List.set_cons_succ])
    | (refine walksB_alt ?_ ?_)
    | (refine walksB_main rfl rfl (fun K hK => ?_); go_wp2_with (first | (go_at_call 67; have tok := HS3; clear tok; have hXX := Ext.trans X1.out (Below.trans XF.out XB.out); (with_reducible refine (rtext_own _ _ HN.out).mono ?_); clear hXX; rintro e w4 ⟨A4, n4, c4, rfl, hn4, hs4, hx4⟩; have HS4 := hid (own_sl hs4); have HN4 := hid hn4; have HS3 := hid (own_ext HS3.out hx4); have HB3 := hid (Nat.le_trans HB3.out (ext_sz hx4)); have hy4 := Below.mono hx4 (Nat.le_trans (Below.size XF.out) (Below.size XB.out)); clear hs4 hn4 hx4; have XB' := hid (Below.trans (Hid.out XB) (hy4)); clear XB; have XB := XB'; clear XB') | (go_at_call 63; (with_reducible refine (rinteger_own 2 2 rfl _ _ HV.out).mono ?_); rintro e w3 ⟨A3, n3, c3, rfl, hn3, hs3, hx3⟩; have HS3 := hid hs3; have HN3 := hid hn3; have HB3 := hid (ext_sz hx3); have HB0 := hid (Nat.le_trans (Below.size XF.out) (Below.size XB.out)); have hy3 := Below.mono hx3 HB0.out; clear hs3 hn3 hx3; have XB' := hid (Below.trans (Hid.out XB) (hy3)); clear XB; have XB := XB'; clear XB')); refine hK _ _ (by first | assumption | exact Below.refl _ _) ?_; clear hK K; try simp only [Act.put, List.setIfInBounds_toArray, List.set_cons_zero, List.set_cons_succ]))
  refine walksB_done ?_
  have HAc := hid (Acc.mk HS5.out HN5.out (Below.trans XF.out XB.out))
  clear p4
  clear p2
  (try clear y3); have y3 := (boxCell Hg1.out 3 hcs rfl).ext HAc.out.ext; skip
  go_wp2_with (first | (refine tobytes_arm rfl (.tmp 19) rfl m.pw rfl MP.out ?_; intro A c w2 hs2 hf2; have HSd := hid hs2; have HAc := hid (HAc.out.later hf2.ext); clear hs2 hf2) | (go_at_call 64; (with_reducible refine (rfield_own 128 128 rfl _ _ _ _ _ HSd.out (by have := HP.out; omega)).mono ?_); rintro e w6 ⟨A6, n6, c6, rfl, hn6, hs6, hx6⟩; have HSd : Hid (Sl w6 A6 n6 c6 (textB 128 m.pw)) := hid (own_sl hs6); have HAc := hid (HAc.out.later hx6); clear hs6 hn6 hx6) | (at_builtin; refine append_bytes rfl (.tmp 17) (.tmp 21) rfl w1.heap.size _ _ _ rfl HAc.out.own _ _ _ _ rfl HSd.out (by have h1 := HAc.out.len; have h2 := HSd.out.len; simp only [List.length_append] at h1; have b0 := B0.out; have b1 := B1.out; have b2 := B2.out; omega) (ext_sz HAc.out.ext) ?_; intro v8 w8 ho8 hb8 _ _; obtain ⟨A8, c8, rfl⟩ := own_form ho8; have HAc := hid (HAc.out.push HSd.out ho8 hb8); clear HSd; clear ho8 hb8))
  go_ret
  refine ⟨_, _, _, rfl, ?_, X1.out.trans HAc.out.ext⟩
  rw [HL.out]
  have h9 := HAc.out.sl
  simpa only [List.append_assoc] using h9
set_option maxHeartbeats 1000000 in
theorem content_3 {m : Msg} {d : MsgD} {cs : Array Value} {S : Nat → Prop} (hcs : Hid (cs = (msgCells m d).toArray)) (w : World) (hm : MsgRows S w m d) (hf : MsgFits m) (hk : m.kind = 3) :
    Calls Try.prog 66 #[.agg cs] w (SlNew w (partsL m).flatten) := by
  have HL : Hid ((partsL m).flatten = textB 4 m.name ++ (fieldB 10 (intB m.scope) ++ (fieldB 10 (intB m.deref) ++ (fieldB 2 (intB m.size) ++ (fieldB 2 (intB m.time) ++ (fieldB 1 (boolB m.tonly) ++ (filB m.fil ++ fieldB 48 (textsB m.attrs)))))))) := by show _ = _; unfold partsL; rw [hk]; rw [if_neg (by decide), if_pos rfl]; simp
  have Hm := hid hm
  have HN := hid hf.ok.name
  have H2 := hid hf.ok.scope
  have H3 := hid hf.ok.deref
  have H4 := hid hf.ok.size
  have H5 := hid hf.ok.time
  have HA2 := hid hf.ok.attrs.2
  have HA3 : Hid ((textsB m.attrs).length ≤ 140737488350000) := hid (Nat.le_trans (texts_len (t := 4) hf.ok.attrs) (show 1100000000000 ≤ 140737488350000 by decide))
  have HC : Hid (∀ w2, Ext w w2 → Calls Try.prog 83 #[.agg #[.int .i64 m.fil.kind, .string m.fil.attr, .string m.fil.value, .string m.fil.first, .string m.fil.last, .slice d.any.A d.any.n d.any.c, .slice d.parts.A d.parts.n d.parts.c]] w2 (BytesOwn w2 (filB m.fil))) := fun w2 hx => rfilt_any m.fil hf.ok.fil (hf.fil hk).1 (hf.fil hk).2 _ _ _ (hm.ext hx).fil
  have B0 : Hid ((fieldB 10 (intB m.scope)).length ≤ 14) := by show _ ≤ _; exact intF_len 10 m.scope
  have B1 : Hid ((textB 4 m.name).length ≤ 1100000) := by show _ ≤ _; have h1 := textB_len 4 m.name; have h2 := hf.ok.name; omega
  have B2 : Hid ((fieldB 10 (intB m.deref)).length ≤ 14) := by show _ ≤ _; exact intF_len 10 m.deref
  have B3 : Hid ((fieldB 2 (intB m.size)).length ≤ 14) := by show _ ≤ _; exact intF_len 2 m.size
  have B4 : Hid ((fieldB 2 (intB m.time)).length ≤ 14) := by show _ ≤ _; exact intF_len 2 m.time
  have B5 : Hid ((fieldB 1 (boolB m.tonly)).length ≤ 20) := by show _ ≤ _; have h1 := fieldB_length 1 (boolB m.tonly); have h2 : (boolB m.tonly).length = 1 := rfl; omega
  have B6 : Hid ((filB m.fil).length ≤ 48000000000000) := by show _ ≤ _; have h1 := filB_len hf.ok.fil (hf.fil hk).2; have h2 := (hf.fil hk).2; omega
  have B7 : Hid ((fieldB 48 (textsB m.attrs)).length ≤ 1200000000000) := by show _ ≤ _; have h1 := texts_len (t := 4) hf.ok.attrs; have h2 := fieldB_length 48 (textsB m.attrs); have h3 : (textsB m.attrs).length = (m.attrs.map (textB 4)).flatten.length := rfl; omega
  have B8 : Hid ((textsB m.attrs).length ≤ 1200000000000) := by show _ ≤ _; have h1 := texts_len (t := 4) hf.ok.attrs; have h3 : (textsB m.attrs).length = (m.attrs.map (textB 4)).flatten.length := rfl; omega
  have t0 : (m.kind == 0) = false := by rw [hk]; rfl
  have t3 : (m.kind == 3) = true := by rw [hk]; rfl
  clear hm hf hk
  go_enter Try.func66, Try.ntmps66
  go_wp2_with (refine box_arm rfl 30 (.tmp 0) rfl cs rfl ?_; intro w1 hx1 hz1 hg1; have Hg1 := hid hg1; have X1 := hid hx1; have y1 := (boxCell hg1 1 hcs rfl).out; clear hz1 hg1 hx1)
  refine wp_region_planB w1.heap.size (.read 0 (.read 1 (.read 3 (.read 4 (.main 2 (.main 5 (.main 6 (.read 7 .done)))))))) (by kernel_rfl) (by kernel_rfl) ?_
  intro wD hxD
  have XB : Hid (Below w1.heap.size wD wD) := Below.refl _ _
  have XF : Hid (Below w1.heap.size w1 wD) := hxD
  have p2 := cell_laterB (boxCell Hg1.out 2 hcs rfl).out (Nat.le_refl _) XF.out
  have p5 := cell_laterB (boxCell Hg1.out 5 hcs rfl).out (Nat.le_refl _) XF.out
  repeat' (first
    | (refine walksB_move rfl rfl ?_; simp only [Act.put, Act.eval, List.setIfInBounds_toArray, List.set_cons_zero, List.set_cons_succ, Array.getD_eq_getD_getElem?, List.getElem?_toArray, List.getElem?_cons_zero, List.getElem?_cons_succ, Option.getD_some])
    | (refine walksB_assign rfl rfl ?_; simp only [Act.put, Act.eval, List.setIfInBounds_toArray, List.set_cons_zero, List.set_cons_succ, Array.getD_eq_getD_getElem?, List.getElem?_toArray, List.getElem?_cons_zero, List.getElem?_cons_succ, Option.getD_some])
    | (refine walksB_skip rfl rfl ?_; simp only [Act.put, List.setIfInBounds_toArray, List.set_cons_zero, List.set_cons_succ])
    | (refine walksB_unwanted rfl rfl ?_; simp only [Act.put, List.setIfInBounds_toArray, List.set_cons_zero, List.set_cons_succ])
    | (refine walksB_read (v := ?_) rfl rfl (fun w' hE => ?_) ?_; rotate_left 1; (· ((try (have hEx := Below.trans (Hid.out XB) hE)); go_simp; (try go_bits); with_reducible rfl)); simp only [Act.put, List.setIfInBounds_toArray, List.set_cons_zero, List.set_cons_succ])
    | (refine walksB_main rfl rfl (fun K hK => ?_); (first | (refine append_bytes_wp (.tmp 27) (.tmp 30) rfl _ _ _ _ rfl HS3.out _ _ _ _ rfl HS4.out (by have h3 := HN3.out; have h4 := HN4.out; have b0 := B0.out; have b1 := B1.out; have b2 := B2.out; have b3 := B3.out; have b4 := B4.out; have b5 := B5.out; have b6 := B6.out; have b7 := B7.out; have b8 := B8.out; omega) HB3.out ?_; intro A5 c5 w5 ho5 hb5; have HS5 := hid (own_base ho5 HB0.out); have HN5 := hid (app_len HN3.out HN4.out); have hy5 := Below.mono hb5 HB0.out; clear ho5 hb5; have XB' := hid (Below.trans (Hid.out XB) (hy5)); clear XB; have XB := XB'; clear XB')); refine hK _ _ (by first | assumption | exact Below.refl _ _) ?_; clear hK K; try simp only [Act.put, List.setIfInBounds_toArray, List.set_cons_zero, List.set_cons_succ])
    | (refine walksB_alt ?_ ?_)
    | (refine walksB_main rfl rfl (fun K hK => ?_); go_wp2_with (first | (go_at_call 63; have tok := HS3; clear tok; have hXX := Ext.trans X1.out (Below.trans XF.out XB.out); (with_reducible refine (rinteger_own 10 10 rfl _ _ H2.out).mono ?_); clear hXX; rintro e w4 ⟨A4, n4, c4, rfl, hn4, hs4, hx4⟩; have HS4 := hid (own_sl hs4); have HN4 := hid hn4; have HS3 := hid (own_ext HS3.out hx4); have HB3 := hid (Nat.le_trans HB3.out (ext_sz hx4)); have hy4 := Below.mono hx4 (Nat.le_trans (Below.size XF.out) (Below.size XB.out)); clear hs4 hn4 hx4; have XB' := hid (Below.trans (Hid.out XB) (hy4)); clear XB; have XB := XB'; clear XB') | (go_at_call 67; (with_reducible refine (rtext_own _ _ HN.out).mono ?_); rintro e w3 ⟨A3, n3, c3, rfl, hn3, hs3, hx3⟩; have HS3 := hid hs3; have HN3 := hid hn3; have HB3 := hid (ext_sz hx3); have HB0 := hid (Nat.le_trans (Below.size XF.out) (Below.size XB.out)); have hy3 := Below.mono hx3 HB0.out; clear hs3 hn3 hx3; have XB' := hid (Below.trans (Hid.out XB) (hy3)); clear XB; have XB := XB'; clear XB')); refine hK _ _ (by first | assumption | exact Below.refl _ _) ?_; clear hK K; try simp only [Act.put, List.setIfInBounds_toArray, List.set_cons_zero, List.set_cons_succ]))
  refine walksB_done ?_
  have HAc := hid (Acc.mk HS5.out HN5.out (Below.trans XF.out XB.out))
  clear p2
  clear p5
  (try clear y6); have y6 := (boxCell Hg1.out 6 hcs rfl).ext HAc.out.ext; skip
  go_wp2_with (first | (go_at_call 63; (with_reducible refine (rinteger_own 10 10 rfl _ _ H3.out).mono ?_); rintro e w6 ⟨A6, n6, c6, rfl, hn6, hs6, hx6⟩; have HSd := hid (own_sl hs6); have HAc := hid (HAc.out.later hx6); clear hs6 hn6 hx6) | (at_builtin; refine append_bytes rfl (.tmp 32) (.tmp 35) rfl w1.heap.size _ _ _ rfl HAc.out.own _ _ _ _ rfl HSd.out (by have h1 := HAc.out.len; have h2 := HSd.out.len; simp only [List.length_append] at h1; have b0 := B0.out; have b1 := B1.out; have b2 := B2.out; have b3 := B3.out; have b4 := B4.out; have b5 := B5.out; have b6 := B6.out; have b7 := B7.out; have b8 := B8.out; omega) (ext_sz HAc.out.ext) ?_; intro v8 w8 ho8 hb8 _ _; obtain ⟨A8, c8, rfl⟩ := own_form ho8; have HAc := hid (HAc.out.push HSd.out ho8 hb8); clear HSd; (try clear y7); have y7 := (boxCell Hg1.out 7 hcs rfl).ext HAc.out.ext; clear ho8 hb8) | (go_at_call 63; (with_reducible refine (rinteger_own 2 2 rfl _ _ H4.out).mono ?_); rintro e w6 ⟨A6, n6, c6, rfl, hn6, hs6, hx6⟩; have HSd := hid (own_sl hs6); have HAc := hid (HAc.out.later hx6); clear hs6 hn6 hx6) | (at_builtin; refine append_bytes rfl (.tmp 37) (.tmp 40) rfl w1.heap.size _ _ _ rfl HAc.out.own _ _ _ _ rfl HSd.out (by have h1 := HAc.out.len; have h2 := HSd.out.len; simp only [List.length_append] at h1; have b0 := B0.out; have b1 := B1.out; have b2 := B2.out; have b3 := B3.out; have b4 := B4.out; have b5 := B5.out; have b6 := B6.out; have b7 := B7.out; have b8 := B8.out; omega) (ext_sz HAc.out.ext) ?_; intro v8 w8 ho8 hb8 _ _; obtain ⟨A8, c8, rfl⟩ := own_form ho8; have HAc := hid (HAc.out.push HSd.out ho8 hb8); clear HSd; (try clear y8); have y8 := (boxCell Hg1.out 8 hcs rfl).ext HAc.out.ext; clear ho8 hb8) | (have tok := y8; clear tok; go_at_call 63; (with_reducible refine (rinteger_own 2 2 rfl _ _ H5.out).mono ?_); rintro e w6 ⟨A6, n6, c6, rfl, hn6, hs6, hx6⟩; have HSd := hid (own_sl hs6); have HAc := hid (HAc.out.later hx6); clear hs6 hn6 hx6) | (at_builtin; refine append_bytes rfl (.tmp 42) (.tmp 45) rfl w1.heap.size _ _ _ rfl HAc.out.own _ _ _ _ rfl HSd.out (by have h1 := HAc.out.len; have h2 := HSd.out.len; simp only [List.length_append] at h1; have b0 := B0.out; have b1 := B1.out; have b2 := B2.out; have b3 := B3.out; have b4 := B4.out; have b5 := B5.out; have b6 := B6.out; have b7 := B7.out; have b8 := B8.out; omega) (ext_sz HAc.out.ext) ?_; intro v8 w8 ho8 hb8 _ _; obtain ⟨A8, c8, rfl⟩ := own_form ho8; have HAc := hid (HAc.out.push HSd.out ho8 hb8); clear HSd; (try clear y9); have y9 := (boxCell Hg1.out 9 hcs rfl).ext HAc.out.ext; clear ho8 hb8) | (go_at_call 68; (with_reducible refine (rboolean_any _ _).mono ?_); rintro e w6 ⟨A6, n6, c6, rfl, hn6, hs6, hx6⟩; have HSd := hid (own_sl hs6); have HAc := hid (HAc.out.later hx6); clear hs6 hn6 hx6) | (at_builtin; refine append_bytes rfl (.tmp 47) (.tmp 50) rfl w1.heap.size _ _ _ rfl HAc.out.own _ _ _ _ rfl HSd.out (by have h1 := HAc.out.len; have h2 := HSd.out.len; simp only [List.length_append] at h1; have b0 := B0.out; have b1 := B1.out; have b2 := B2.out; have b3 := B3.out; have b4 := B4.out; have b5 := B5.out; have b6 := B6.out; have b7 := B7.out; have b8 := B8.out; omega) (ext_sz HAc.out.ext) ?_; intro v8 w8 ho8 hb8 _ _; obtain ⟨A8, c8, rfl⟩ := own_form ho8; have HAc := hid (HAc.out.push HSd.out ho8 hb8); clear HSd; (try clear y10); have y10 := (boxCell Hg1.out 10 hcs rfl).ext HAc.out.ext; (try clear y11); have y11 := (boxCell Hg1.out 11 hcs rfl).ext HAc.out.ext; (try clear y12); have y12 := (boxCell Hg1.out 12 hcs rfl).ext HAc.out.ext; (try clear y13); have y13 := (boxCell Hg1.out 13 hcs rfl).ext HAc.out.ext; (try clear y14); have y14 := (boxCell Hg1.out 14 hcs rfl).ext HAc.out.ext; (try clear y15); have y15 := (boxCell Hg1.out 15 hcs rfl).ext HAc.out.ext; (try clear y16); have y16 := (boxCell Hg1.out 16 hcs rfl).ext HAc.out.ext; clear ho8 hb8) | (go_at_call 83; have hXX := Ext.trans X1.out HAc.out.ext; (with_reducible refine (HC.out _ hXX).mono ?_); clear hXX; rintro e w6 ⟨A6, n6, c6, rfl, hn6, hs6, hx6⟩; have HSd := hid (own_sl hs6); have HAc := hid (HAc.out.later hx6); clear hs6 hn6 hx6) | (at_builtin; refine append_bytes rfl (.tmp 52) (.tmp 55) rfl w1.heap.size _ _ _ rfl HAc.out.own _ _ _ _ rfl HSd.out (by have h1 := HAc.out.len; have h2 := HSd.out.len; simp only [List.length_append] at h1; have b0 := B0.out; have b1 := B1.out; have b2 := B2.out; have b3 := B3.out; have b4 := B4.out; have b5 := B5.out; have b6 := B6.out; have b7 := B7.out; have b8 := B8.out; omega) (ext_sz HAc.out.ext) ?_; intro v8 w8 ho8 hb8 _ _; obtain ⟨A8, c8, rfl⟩ := own_form ho8; have HAc := hid (HAc.out.push HSd.out ho8 hb8); clear HSd; (try clear y17); have y17 := (boxCell Hg1.out 17 hcs rfl).ext HAc.out.ext; clear ho8 hb8) | (go_at_call 84; have hXX := Ext.trans X1.out HAc.out.ext; (with_reducible refine (rtexts_any (Hm.out.attrs.ext hXX) HA2.out HA3.out).mono ?_); clear hXX; rintro e w6 ⟨A6, n6, c6, rfl, hn6, hs6, hx6⟩; have HSd := hid (own_sl hs6); have HNd := hid hn6; have HAc := hid (HAc.out.later hx6); clear hs6 hn6 hx6) | (go_at_call 64; (with_reducible refine (rfield_own 48 48 rfl _ _ _ _ _ HSd.out (by have h1 := HNd.out; have h2 := B8.out; omega)).mono ?_); rintro e w6 ⟨A6, n6, c6, rfl, hn6, hs6, hx6⟩; have HSd := hid (own_sl hs6); have HAc := hid (HAc.out.later hx6); clear hs6 hn6 hx6) | (at_builtin; refine append_bytes rfl (.tmp 57) (.tmp 61) rfl w1.heap.size _ _ _ rfl HAc.out.own _ _ _ _ rfl HSd.out (by have h1 := HAc.out.len; have h2 := HSd.out.len; simp only [List.length_append] at h1; have b0 := B0.out; have b1 := B1.out; have b2 := B2.out; have b3 := B3.out; have b4 := B4.out; have b5 := B5.out; have b6 := B6.out; have b7 := B7.out; have b8 := B8.out; omega) (ext_sz HAc.out.ext) ?_; intro v8 w8 ho8 hb8 _ _; obtain ⟨A8, c8, rfl⟩ := own_form ho8; have HAc := hid (HAc.out.push HSd.out ho8 hb8); clear HSd; clear ho8 hb8))
  go_ret
  refine ⟨_, _, _, rfl, ?_, X1.out.trans HAc.out.ext⟩
  rw [HL.out]
  have h9 := HAc.out.sl
  simpa only [List.append_assoc] using h9
set_option maxHeartbeats 1000000 in
theorem content_4 {m : Msg} {d : MsgD} {cs : Array Value} {S : Nat → Prop} (hcs : Hid (cs = (msgCells m d).toArray)) (w : World) (hm : MsgRows S w m d) (hf : MsgFits m) (hk : m.kind = 4) :
    Calls Try.prog 66 #[.agg cs] w (SlNew w (partsL m).flatten) := by
  have HL : Hid ((partsL m).flatten = textB 4 m.name ++ fieldB 48 (m.list.map attB).flatten) := by show _ = _; unfold partsL; rw [hk]; rw [if_neg (by decide), if_neg (by decide), if_neg (by decide), if_pos (by decide)]; simp
  have Hm := hid hm
  have HN := hid hf.ok.name
  have HC1 := hid hf.list.1
  have HC2 := hid (Nat.le_trans hf.list.2 (show 100000000000000 ≤ 140737488350000 by decide))
  have B0 : Hid ((textB 4 m.name).length ≤ 1100000) := by show _ ≤ _; have h1 := textB_len 4 m.name; have h2 := hf.ok.name; omega
  have B1 : Hid ((fieldB 48 (m.list.map attB).flatten).length ≤ 100000000000010) := by show _ ≤ _; have h1 := fieldB_length 48 (m.list.map attB).flatten; have h2 := hf.list.2; omega
  have t0 : (m.kind == 0) = false := by rw [hk]; rfl
  have t3 : (m.kind == 3) = false := by rw [hk]; rfl
  have t6 : (m.kind == 6) = false := by rw [hk]; rfl
  have t4 : (m.kind == 4) = true := by rw [hk]; rfl
  clear hm hf hk
  go_enter Try.func66, Try.ntmps66
  go_wp2_with (refine box_arm rfl 30 (.tmp 0) rfl cs rfl ?_; intro w1 hx1 hz1 hg1; have Hg1 := hid hg1; have X1 := hid hx1; have y1 := (boxCell hg1 1 hcs rfl).out; clear hz1 hg1 hx1)
  refine wp_region_planB w1.heap.size (.read 0 (.read 1 (.read 3 (.read 4 (.main 2 (.main 5 (.main 6 (.read 7 .done)))))))) (by kernel_rfl) (by kernel_rfl) ?_
  intro wD hxD
  have XB : Hid (Below w1.heap.size wD wD) := Below.refl _ _
  have XF : Hid (Below w1.heap.size w1 wD) := hxD
  have p2 := cell_laterB (boxCell Hg1.out 2 hcs rfl).out (Nat.le_refl _) XF.out
  have p18 := cell_laterB (boxCell Hg1.out 18 hcs rfl).out (Nat.le_refl _) XF.out
  repeat' (first
    | (refine walksB_move rfl rfl ?_; simp only [Act.put, Act.eval, List.setIfInBounds_toArray, List.set_cons_zero, List.set_cons_succ, Array.getD_eq_getD_getElem?, List.getElem?_toArray, List.getElem?_cons_zero, List.getElem?_cons_succ, Option.getD_some])
    | (refine walksB_assign rfl rfl ?_; simp only [Act.put, Act.eval, List.setIfInBounds_toArray, List.set_cons_zero, List.set_cons_succ, Array.getD_eq_getD_getElem?, List.getElem?_toArray, List.getElem?_cons_zero, List.getElem?_cons_succ, Option.getD_some])
    | (refine walksB_skip rfl rfl ?_; simp only [Act.put, List.setIfInBounds_toArray, List.set_cons_zero, List.set_cons_succ])
    | (refine walksB_unwanted rfl rfl ?_; simp only [Act.put, List.setIfInBounds_toArray, List.set_cons_zero, List.set_cons_succ])
    | (refine walksB_read (v := ?_) rfl rfl (fun w' hE => ?_) ?_; rotate_left 1; (· ((try (have hEx := Below.trans (Hid.out XB) hE)); go_simp; (try go_bits); with_reducible rfl)); simp only [Act.put, List.setIfInBounds_toArray, List.set_cons_zero, List.set_cons_succ])
    | (refine walksB_main rfl rfl (fun K hK => ?_); (first | (refine append_bytes_wp (.tmp 101) (.tmp 104) rfl _ _ _ _ rfl HS3.out _ _ _ _ rfl HS4.out (by have h3 := HN3.out; have h4 := HN4.out; have b0 := B0.out; have b1 := B1.out; omega) HB3.out ?_; intro A5 c5 w5 ho5 hb5; have HS5 := hid (own_base ho5 HB0.out); have HN5 := hid (app_len HN3.out HN4.out); have hy5 := Below.mono hb5 HB0.out; clear ho5 hb5; have XB' := hid (Below.trans (Hid.out XB) (hy5)); clear XB; have XB := XB'; clear XB')); refine hK _ _ (by first | assumption | exact Below.refl _ _) ?_; clear hK K; try simp only [Act.put, List.setIfInBounds_toArray, List.set_cons_zero, List.set_cons_succ])
    | (refine walksB_alt ?_ ?_)
    | (refine walksB_main rfl rfl (fun K hK => ?_); go_wp2_with (first | (go_at_call 86; have tok := HS3; clear tok; have hXX := Ext.trans X1.out (Below.trans XF.out XB.out); (with_reducible refine (rattribs_any (Hm.out.list.ext hXX) HC1.out HC2.out).mono ?_); clear hXX; rintro e w4 ⟨A4, n4, c4, rfl, hn4, hs4, hx4⟩; have HS4 := hid (own_sl hs4); have HN4 := hid hn4; have HS3 := hid (own_ext HS3.out hx4); have HB3 := hid (Nat.le_trans HB3.out (ext_sz hx4)); have hy4 := Below.mono hx4 (Nat.le_trans (Below.size XF.out) (Below.size XB.out)); clear hs4 hn4 hx4; have XB' := hid (Below.trans (Hid.out XB) (hy4)); clear XB; have XB := XB'; clear XB') | (go_at_call 67; (with_reducible refine (rtext_own _ _ HN.out).mono ?_); rintro e w3 ⟨A3, n3, c3, rfl, hn3, hs3, hx3⟩; have HS3 := hid hs3; have HN3 := hid hn3; have HB3 := hid (ext_sz hx3); have HB0 := hid (Nat.le_trans (Below.size XF.out) (Below.size XB.out)); have hy3 := Below.mono hx3 HB0.out; clear hs3 hn3 hx3; have XB' := hid (Below.trans (Hid.out XB) (hy3)); clear XB; have XB := XB'; clear XB')); refine hK _ _ (by first | assumption | exact Below.refl _ _) ?_; clear hK K; try simp only [Act.put, List.setIfInBounds_toArray, List.set_cons_zero, List.set_cons_succ]))
  refine walksB_done ?_
  have HAc := hid (Acc.mk HS5.out HN5.out (Below.trans XF.out XB.out))
  clear p2
  clear p18
  go_wp2
  go_ret
  refine ⟨_, _, _, rfl, ?_, X1.out.trans HAc.out.ext⟩
  rw [HL.out]
  have h9 := HAc.out.sl
  simpa only [List.append_assoc] using h9
set_option maxHeartbeats 1000000 in
theorem content_8 {m : Msg} {d : MsgD} {cs : Array Value} {S : Nat → Prop} (hcs : Hid (cs = (msgCells m d).toArray)) (w : World) (hm : MsgRows S w m d) (hf : MsgFits m) (hk : m.kind = 8) :
    Calls Try.prog 66 #[.agg cs] w (SlNew w (partsL m).flatten) := by
  have HL : Hid ((partsL m).flatten = textB 4 m.name ++ fieldB 48 (m.list.map attB).flatten) := by show _ = _; unfold partsL; rw [hk]; rw [if_neg (by decide), if_neg (by decide), if_neg (by decide), if_pos (by decide)]; simp
  have Hm := hid hm
  have HN := hid hf.ok.name
  have HC1 := hid hf.list.1
  have HC2 := hid (Nat.le_trans hf.list.2 (show 100000000000000 ≤ 140737488350000 by decide))
  have B0 : Hid ((textB 4 m.name).length ≤ 1100000) := by show _ ≤ _; have h1 := textB_len 4 m.name; have h2 := hf.ok.name; omega
  have B1 : Hid ((fieldB 48 (m.list.map attB).flatten).length ≤ 100000000000010) := by show _ ≤ _; have h1 := fieldB_length 48 (m.list.map attB).flatten; have h2 := hf.list.2; omega
  have t0 : (m.kind == 0) = false := by rw [hk]; rfl
  have t3 : (m.kind == 3) = false := by rw [hk]; rfl
  have t6 : (m.kind == 6) = false := by rw [hk]; rfl
  have t4 : (m.kind == 4) = false := by rw [hk]; rfl
  have t8 : (m.kind == 8) = true := by rw [hk]; rfl
  clear hm hf hk
  go_enter Try.func66, Try.ntmps66
  go_wp2_with (refine box_arm rfl 30 (.tmp 0) rfl cs rfl ?_; intro w1 hx1 hz1 hg1; have Hg1 := hid hg1; have X1 := hid hx1; have y1 := (boxCell hg1 1 hcs rfl).out; clear hz1 hg1 hx1)
  refine wp_region_planB w1.heap.size (.read 0 (.read 1 (.read 3 (.read 4 (.main 2 (.main 5 (.main 6 (.read 7 .done)))))))) (by kernel_rfl) (by kernel_rfl) ?_
  intro wD hxD
  have XB : Hid (Below w1.heap.size wD wD) := Below.refl _ _
  have XF : Hid (Below w1.heap.size w1 wD) := hxD
  have p2 := cell_laterB (boxCell Hg1.out 2 hcs rfl).out (Nat.le_refl _) XF.out
  have p18 := cell_laterB (boxCell Hg1.out 18 hcs rfl).out (Nat.le_refl _) XF.out
  repeat' (first
    | (refine walksB_move rfl rfl ?_; simp only [Act.put, Act.eval, List.setIfInBounds_toArray, List.set_cons_zero, List.set_cons_succ, Array.getD_eq_getD_getElem?, List.getElem?_toArray, List.getElem?_cons_zero, List.getElem?_cons_succ, Option.getD_some])
    | (refine walksB_assign rfl rfl ?_; simp only [Act.put, Act.eval, List.setIfInBounds_toArray, List.set_cons_zero, List.set_cons_succ, Array.getD_eq_getD_getElem?, List.getElem?_toArray, List.getElem?_cons_zero, List.getElem?_cons_succ, Option.getD_some])
    | (refine walksB_skip rfl rfl ?_; simp only [Act.put, List.setIfInBounds_toArray, List.set_cons_zero, List.set_cons_succ])
    | (refine walksB_unwanted rfl rfl ?_; simp only [Act.put, List.setIfInBounds_toArray, List.set_cons_zero, List.set_cons_succ])
    | (refine walksB_read (v := ?_) rfl rfl (fun w' hE => ?_) ?_; rotate_left 1; (· ((try (have hEx := Below.trans (Hid.out XB) hE)); go_simp; (try go_bits); with_reducible rfl)); simp only [Act.put, List.setIfInBounds_toArray, List.set_cons_zero, List.set_cons_succ])
    | (refine walksB_main rfl rfl (fun K hK => ?_); (first | (refine append_bytes_wp (.tmp 101) (.tmp 104) rfl _ _ _ _ rfl HS3.out _ _ _ _ rfl HS4.out (by have h3 := HN3.out; have h4 := HN4.out; have b0 := B0.out; have b1 := B1.out; omega) HB3.out ?_; intro A5 c5 w5 ho5 hb5; have HS5 := hid (own_base ho5 HB0.out); have HN5 := hid (app_len HN3.out HN4.out); have hy5 := Below.mono hb5 HB0.out; clear ho5 hb5; have XB' := hid (Below.trans (Hid.out XB) (hy5)); clear XB; have XB := XB'; clear XB')); refine hK _ _ (by first | assumption | exact Below.refl _ _) ?_; clear hK K; try simp only [Act.put, List.setIfInBounds_toArray, List.set_cons_zero, List.set_cons_succ])
    | (refine walksB_alt ?_ ?_)
    | (refine walksB_main rfl rfl (fun K hK => ?_); go_wp2_with (first | (go_at_call 86; have tok := HS3; clear tok; have hXX := Ext.trans X1.out (Below.trans XF.out XB.out); (with_reducible refine (rattribs_any (Hm.out.list.ext hXX) HC1.out HC2.out).mono ?_); clear hXX; rintro e w4 ⟨A4, n4, c4, rfl, hn4, hs4, hx4⟩; have HS4 := hid (own_sl hs4); have HN4 := hid hn4; have HS3 := hid (own_ext HS3.out hx4); have HB3 := hid (Nat.le_trans HB3.out (ext_sz hx4)); have hy4 := Below.mono hx4 (Nat.le_trans (Below.size XF.out) (Below.size XB.out)); clear hs4 hn4 hx4; have XB' := hid (Below.trans (Hid.out XB) (hy4)); clear XB; have XB := XB'; clear XB') | (go_at_call 67; (with_reducible refine (rtext_own _ _ HN.out).mono ?_); rintro e w3 ⟨A3, n3, c3, rfl, hn3, hs3, hx3⟩; have HS3 := hid hs3; have HN3 := hid hn3; have HB3 := hid (ext_sz hx3); have HB0 := hid (Nat.le_trans (Below.size XF.out) (Below.size XB.out)); have hy3 := Below.mono hx3 HB0.out; clear hs3 hn3 hx3; have XB' := hid (Below.trans (Hid.out XB) (hy3)); clear XB; have XB := XB'; clear XB')); refine hK _ _ (by first | assumption | exact Below.refl _ _) ?_; clear hK K; try simp only [Act.put, List.setIfInBounds_toArray, List.set_cons_zero, List.set_cons_succ]))
  refine walksB_done ?_
  have HAc := hid (Acc.mk HS5.out HN5.out (Below.trans XF.out XB.out))
  clear p2
  clear p18
  go_wp2
  go_ret
  refine ⟨_, _, _, rfl, ?_, X1.out.trans HAc.out.ext⟩
  rw [HL.out]
  have h9 := HAc.out.sl
  simpa only [List.append_assoc] using h9
set_option maxHeartbeats 1000000 in
theorem content_10 {m : Msg} {d : MsgD} {cs : Array Value} {S : Nat → Prop} (hcs : Hid (cs = (msgCells m d).toArray)) (w : World) (hm : MsgRows S w m d) (hf : MsgFits m) (hk : m.kind = 10) :
    Calls Try.prog 66 #[.agg cs] w (SlNew w (partsL m).flatten) := by
  have HL : Hid ((partsL m).flatten = bys m.name) := by show _ = _; unfold partsL; rw [hk]; simp
  have Hm := hid hm
  have MN : Hid (m.name.size ≤ maxLen) := by have := hf.ok.name; show _ ≤ _; unfold maxLen; omega
  have t0 : (m.kind == 0) = false := by rw [hk]; rfl
  have t3 : (m.kind == 3) = false := by rw [hk]; rfl
  have t6 : (m.kind == 6) = false := by rw [hk]; rfl
  have t4 : (m.kind == 4) = false := by rw [hk]; rfl
  have t8 : (m.kind == 8) = false := by rw [hk]; rfl
  have t10 : (m.kind == 10) = true := by rw [hk]; rfl
  clear hm hf hk
  go_enter Try.func66, Try.ntmps66
  go_wp2_with (first | (refine box_arm rfl 30 (.tmp 0) rfl cs rfl ?_; intro w1 hx1 hz1 hg1; have Hg1 := hid hg1; have X1 := hid hx1; have y1 := (boxCell hg1 1 hcs rfl).out; have y2 := (boxCell hg1 2 hcs rfl).out; clear hz1 hg1 hx1) | (refine tobytes_arm rfl (.tmp 109) rfl m.name rfl MN.out ?_; intro A c w2 hs2 hf2; have HSd := hid hs2; have X2 := hid hf2.ext; clear hs2 hf2))
  go_ret
  exact ⟨_, _, _, rfl, by rw [HL.out]; exact HSd.out, X1.out.trans X2.out⟩
set_option maxHeartbeats 1000000 in
theorem content_16 {m : Msg} {d : MsgD} {cs : Array Value} {S : Nat → Prop} (hcs : Hid (cs = (msgCells m d).toArray)) (w : World) (hm : MsgRows S w m d) (hf : MsgFits m) (hk : m.kind = 16) :
    Calls Try.prog 66 #[.agg cs] w (SlNew w (partsL m).flatten) := by
  have HL : Hid ((partsL m).flatten = intB m.target) := by show _ = _; unfold partsL; rw [hk]; simp
  have Hm := hid hm
  have HT1 := hid hf.ok.target.1
  have HT2 := hid hf.ok.target.2
  have t0 : (m.kind == 0) = false := by rw [hk]; rfl
  have t3 : (m.kind == 3) = false := by rw [hk]; rfl
  have t6 : (m.kind == 6) = false := by rw [hk]; rfl
  have t4 : (m.kind == 4) = false := by rw [hk]; rfl
  have t8 : (m.kind == 8) = false := by rw [hk]; rfl
  have t10 : (m.kind == 10) = false := by rw [hk]; rfl
  have t12 : (m.kind == 12) = false := by rw [hk]; rfl
  have t14 : (m.kind == 14) = false := by rw [hk]; rfl
  have t16 : (m.kind == 16) = true := by rw [hk]; rfl
  clear hm hf hk
  go_enter Try.func66, Try.ntmps66
  go_wp2_with (first | (refine box_arm rfl 30 (.tmp 0) rfl cs rfl ?_; intro w1 hx1 hz1 hg1; have Hg1 := hid hg1; have X1 := hid hx1; have y1 := (boxCell hg1 1 hcs rfl).out; have y26 := (boxCell hg1 26 hcs rfl).out; clear hz1 hg1 hx1) | (go_at_call 81; (with_reducible refine (rint_any _ _ HT1.out HT2.out).mono ?_); rintro e w2 ⟨A2, n2, c2, rfl, hs2, hx2⟩; have HSd := hid hs2; have X2 := hid hx2; clear hs2 hx2))
  go_ret
  exact ⟨_, _, _, rfl, by rw [HL.out]; exact HSd.out, X1.out.trans X2.out⟩
set_option maxHeartbeats 1000000 in
theorem content_19 {m : Msg} {d : MsgD} {cs : Array Value} {S : Nat → Prop} (hcs : Hid (cs = (msgCells m d).toArray)) (w : World) (hm : MsgRows S w m d) (hf : MsgFits m) (hk : m.kind = 19) :
    Calls Try.prog 66 #[.agg cs] w (SlNew w (partsL m).flatten) := by
  have HL : Hid ((partsL m).flatten = textsB m.refs) := by show _ = _; unfold partsL; rw [hk]; unfold textsB; simp
  have Hm := hid hm
  have HA2 := hid hf.ok.refs.2
  have HA3 : Hid ((textsB m.refs).length ≤ 140737488350000) := hid (Nat.le_trans (texts_len (t := 4) hf.ok.refs) (show 1100000000000 ≤ 140737488350000 by decide))
  have t0 : (m.kind == 0) = false := by rw [hk]; rfl
  have t3 : (m.kind == 3) = false := by rw [hk]; rfl
  have t6 : (m.kind == 6) = false := by rw [hk]; rfl
  have t4 : (m.kind == 4) = false := by rw [hk]; rfl
  have t8 : (m.kind == 8) = false := by rw [hk]; rfl
  have t10 : (m.kind == 10) = false := by rw [hk]; rfl
  have t12 : (m.kind == 12) = false := by rw [hk]; rfl
  have t14 : (m.kind == 14) = false := by rw [hk]; rfl
  have t16 : (m.kind == 16) = false := by rw [hk]; rfl
  have t19 : (m.kind == 19) = true := by rw [hk]; rfl
  clear hm hf hk
  go_enter Try.func66, Try.ntmps66
  go_wp2_with (first | (refine box_arm rfl 30 (.tmp 0) rfl cs rfl ?_; intro w1 hx1 hz1 hg1; have Hg1 := hid hg1; have X1 := hid hx1; have y1 := (boxCell hg1 1 hcs rfl).out; have y30 := (boxCell hg1 30 hcs rfl).out; clear hz1 hg1 hx1) | (go_at_call 84; (with_reducible refine (rtexts_any (Hm.out.refs.ext X1.out) HA2.out HA3.out).mono ?_); rintro e w2 ⟨A2, n2, c2, rfl, hn2, hs2, hx2⟩; have HSd := hid (own_sl hs2); have X2 := hid hx2; clear hs2 hn2 hx2))
  go_ret
  exact ⟨_, _, _, rfl, by rw [HL.out]; exact HSd.out, X1.out.trans X2.out⟩
set_option maxHeartbeats 1000000 in
theorem content_2 {m : Msg} {d : MsgD} {cs : Array Value} {S : Nat → Prop} (hcs : Hid (cs = (msgCells m d).toArray)) (w : World) (hm : MsgRows S w m d) (hf : MsgFits m) (hk : m.kind = 2) :
    Calls Try.prog 66 #[.agg cs] w (SlNew w (partsL m).flatten) := by
  have HL : Hid ((partsL m).flatten = []) := by show _ = _; unfold partsL; rw [hk]; rfl
  have Hm := hid hm
  have t0 : (m.kind == 0) = false := by rw [hk]; rfl
  have t3 : (m.kind == 3) = false := by rw [hk]; rfl
  have t6 : (m.kind == 6) = false := by rw [hk]; rfl
  have t4 : (m.kind == 4) = false := by rw [hk]; rfl
  have t8 : (m.kind == 8) = false := by rw [hk]; rfl
  have t10 : (m.kind == 10) = false := by rw [hk]; rfl
  have t12 : (m.kind == 12) = false := by rw [hk]; rfl
  have t14 : (m.kind == 14) = false := by rw [hk]; rfl
  have t16 : (m.kind == 16) = false := by rw [hk]; rfl
  have t19 : (m.kind == 19) = false := by rw [hk]; rfl
  have t1 : (m.kind == 1) = false := by rw [hk]; rfl
  have t5 : (m.kind == 5) = false := by rw [hk]; rfl
  have t7 : (m.kind == 7) = false := by rw [hk]; rfl
  have t9 : (m.kind == 9) = false := by rw [hk]; rfl
  have t11 : (m.kind == 11) = false := by rw [hk]; rfl
  have t13 : (m.kind == 13) = false := by rw [hk]; rfl
  have t15 : (m.kind == 15) = false := by rw [hk]; rfl
  have t24 : (m.kind == 24) = false := by rw [hk]; rfl
  clear hm hf hk
  go_enter Try.func66, Try.ntmps66
  go_wp2_with (refine box_arm rfl 30 (.tmp 0) rfl cs rfl ?_; intro w1 hx1 hz1 hg1; have Hg1 := hid hg1; have X1 := hid hx1; have y1 := (boxCell hg1 1 hcs rfl).out; clear hz1 hg1 hx1)
  go_ret
  exact ⟨_, _, _, rfl, by rw [HL.out]; exact Sl.nil _, X1.out⟩
set_option maxHeartbeats 1000000 in
theorem content_12 {m : Msg} {d : MsgD} {cs : Array Value} {S : Nat → Prop} (hcs : Hid (cs = (msgCells m d).toArray)) (w : World) (hm : MsgRows S w m d) (hf : MsgFits m) (hk : m.kind = 12) :
    Calls Try.prog 66 #[.agg cs] w (SlNew w (partsL m).flatten) := by
  have HL : Hid ((partsL m).flatten = (renL m).flatten) := by show _ = _; unfold partsL; rw [hk]; rfl
  have Hm := hid hm
  have HN := hid hf.ok.name
  have HR := hid hf.ok.nrdn
  have HU := hid hf.ok.sup
  have MU : Hid (m.sup.size ≤ maxLen) := by have := hf.ok.sup; show _ ≤ _; unfold maxLen; omega
  have B0 : Hid ((textB 4 m.name).length ≤ 1100000) := by show _ ≤ _; have h1 := textB_len 4 m.name; have h2 := hf.ok.name; omega
  have B1 : Hid ((textB 4 m.nrdn).length ≤ 1100000) := by show _ ≤ _; have h1 := textB_len 4 m.nrdn; have h2 := hf.ok.nrdn; omega
  have B2 : Hid ((fieldB 1 (boolB m.dold)).length ≤ 20) := by show _ ≤ _; have h1 := fieldB_length 1 (boolB m.dold); have h2 : (boolB m.dold).length = 1 := rfl; omega
  have B3 : Hid ((textB 128 m.sup).length ≤ 1100000) := by show _ ≤ _; have h1 := textB_len 128 m.sup; have h2 := hf.ok.sup; omega
  have t0 : (m.kind == 0) = false := by rw [hk]; rfl
  have t3 : (m.kind == 3) = false := by rw [hk]; rfl
  have t6 : (m.kind == 6) = false := by rw [hk]; rfl
  have t4 : (m.kind == 4) = false := by rw [hk]; rfl
  have t8 : (m.kind == 8) = false := by rw [hk]; rfl
  have t10 : (m.kind == 10) = false := by rw [hk]; rfl
  have t12 : (m.kind == 12) = true := by rw [hk]; rfl
  clear hm hf hk
  go_enter Try.func66, Try.ntmps66
  go_wp2_with (refine box_arm rfl 30 (.tmp 0) rfl cs rfl ?_; intro w1 hx1 hz1 hg1; have Hg1 := hid hg1; have X1 := hid hx1; have y1 := (boxCell hg1 1 hcs rfl).out; clear hz1 hg1 hx1)
  refine wp_region_planB w1.heap.size (.read 0 (.read 1 (.read 3 (.read 4 (.main 2 (.main 5 (.main 6 (.read 7 .done)))))))) (by kernel_rfl) (by kernel_rfl) ?_
  intro wD hxD
  have XB : Hid (Below w1.heap.size wD wD) := Below.refl _ _
  have XF : Hid (Below w1.heap.size w1 wD) := hxD
  have p2 := cell_laterB (boxCell Hg1.out 2 hcs rfl).out (Nat.le_refl _) XF.out
  have p20 := cell_laterB (boxCell Hg1.out 20 hcs rfl).out (Nat.le_refl _) XF.out
  repeat' (first
    | (refine walksB_move rfl rfl ?_; simp only [Act.put, Act.eval, List.setIfInBounds_toArray, List.set_cons_zero, List.set_cons_succ, Array.getD_eq_getD_getElem?, List.getElem?_toArray, List.getElem?_cons_zero, List.getElem?_cons_succ, Option.getD_some])
    | (refine walksB_assign rfl rfl ?_; simp only [Act.put, Act.eval, List.setIfInBounds_toArray, List.set_cons_zero, List.set_cons_succ, Array.getD_eq_getD_getElem?, List.getElem?_toArray, List.getElem?_cons_zero, List.getElem?_cons_succ, Option.getD_some])
    | (refine walksB_skip rfl rfl ?_; simp only [Act.put, List.setIfInBounds_toArray, List.set_cons_zero, List.set_cons_succ])
    | (refine walksB_unwanted rfl rfl ?_; simp only [Act.put, List.setIfInBounds_toArray, List.set_cons_zero, List.set_cons_succ])
    | (refine walksB_read (v := ?_) rfl rfl (fun w' hE => ?_) ?_; rotate_left 1; (· ((try (have hEx := Below.trans (Hid.out XB) hE)); go_simp; (try go_bits); with_reducible rfl)); simp only [Act.put, List.setIfInBounds_toArray, List.set_cons_zero, List.set_cons_succ])
    | (refine walksB_main rfl rfl (fun K hK => ?_); (first | (refine append_bytes_wp (.tmp 115) (.tmp 118) rfl _ _ _ _ rfl HS3.out _ _ _ _ rfl HS4.out (by have h3 := HN3.out; have h4 := HN4.out; have b0 := B0.out; have b1 := B1.out; have b2 := B2.out; have b3 := B3.out; omega) HB3.out ?_; intro A5 c5 w5 ho5 hb5; have HS5 := hid (own_base ho5 HB0.out); have HN5 := hid (app_len HN3.out HN4.out); have hy5 := Below.mono hb5 HB0.out; clear ho5 hb5; have XB' := hid (Below.trans (Hid.out XB) (hy5)); clear XB; have XB := XB'; clear XB')); refine hK _ _ (by first | assumption | exact Below.refl _ _) ?_; clear hK K; try simp only [Act.put, List.setIfInBounds_toArray, List.set_cons_zero, List.set_cons_succ])
    | (refine walksB_alt ?_ ?_)
    | (refine walksB_main rfl rfl (fun K hK => ?_); go_wp2_with (first | (go_at_call 67; have tok := HS3; clear tok; have hXX := Ext.trans X1.out (Below.trans XF.out XB.out); (with_reducible refine (rtext_own _ _ HR.out).mono ?_); clear hXX; rintro e w4 ⟨A4, n4, c4, rfl, hn4, hs4, hx4⟩; have HS4 := hid (own_sl hs4); have HN4 := hid hn4; have HS3 := hid (own_ext HS3.out hx4); have HB3 := hid (Nat.le_trans HB3.out (ext_sz hx4)); have hy4 := Below.mono hx4 (Nat.le_trans (Below.size XF.out) (Below.size XB.out)); clear hs4 hn4 hx4; have XB' := hid (Below.trans (Hid.out XB) (hy4)); clear XB; have XB := XB'; clear XB') | (go_at_call 67; (with_reducible refine (rtext_own _ _ HN.out).mono ?_); rintro e w3 ⟨A3, n3, c3, rfl, hn3, hs3, hx3⟩; have HS3 := hid hs3; have HN3 := hid hn3; have HB3 := hid (ext_sz hx3); have HB0 := hid (Nat.le_trans (Below.size XF.out) (Below.size XB.out)); have hy3 := Below.mono hx3 HB0.out; clear hs3 hn3 hx3; have XB' := hid (Below.trans (Hid.out XB) (hy3)); clear XB; have XB := XB'; clear XB')); refine hK _ _ (by first | assumption | exact Below.refl _ _) ?_; clear hK K; try simp only [Act.put, List.setIfInBounds_toArray, List.set_cons_zero, List.set_cons_succ]))
  refine walksB_done ?_
  have HAc := hid (Acc.mk HS5.out HN5.out (Below.trans XF.out XB.out))
  clear p2
  clear p20
  (try clear y21); have y21 := (boxCell Hg1.out 21 hcs rfl).ext HAc.out.ext; skip
  cases hb : m.hsup
  all_goals
    have HB := hid hb
    go_wp2_with (first | (go_at_call 68; (with_reducible refine (rboolean_any _ _).mono ?_); rintro e w6 ⟨A6, n6, c6, rfl, hn6, hs6, hx6⟩; have HSd := hid (own_sl hs6); have HAc := hid (HAc.out.later hx6); clear hs6 hn6 hx6) | (at_builtin; refine append_bytes rfl (.tmp 120) (.tmp 123) rfl w1.heap.size _ _ _ rfl HAc.out.own _ _ _ _ rfl HSd.out (by have h1 := HAc.out.len; have h2 := HSd.out.len; simp only [List.length_append] at h1; have b0 := B0.out; have b1 := B1.out; have b2 := B2.out; have b3 := B3.out; omega) (ext_sz HAc.out.ext) ?_; intro v8 w8 ho8 hb8 _ _; obtain ⟨A8, c8, rfl⟩ := own_form ho8; have HAc := hid (HAc.out.push HSd.out ho8 hb8); clear HSd; (try clear y22); have y22 := (boxCell Hg1.out 22 hcs rfl).ext HAc.out.ext; (try clear y23); have y23 := (boxCell Hg1.out 23 hcs rfl).ext HAc.out.ext; rw [HB.out] at y22; clear ho8 hb8) | (refine tobytes_arm rfl (.tmp 129) rfl m.sup rfl MU.out ?_; intro A c w2 hs2 hf2; have HSd := hid hs2; have HAc := hid (HAc.out.later hf2.ext); clear hs2 hf2) | (go_at_call 64; (with_reducible refine (rfield_own 128 128 rfl _ _ _ _ _ HSd.out (by have := HU.out; omega)).mono ?_); rintro e w6 ⟨A6, n6, c6, rfl, hn6, hs6, hx6⟩; have HSd : Hid (Sl w6 A6 n6 c6 (textB 128 m.sup)) := hid (own_sl hs6); have HAc := hid (HAc.out.later hx6); clear hs6 hn6 hx6) | (at_builtin; refine append_bytes rfl (.tmp 127) (.tmp 131) rfl w1.heap.size _ _ _ rfl HAc.out.own _ _ _ _ rfl HSd.out (by have h1 := HAc.out.len; have h2 := HSd.out.len; simp only [List.length_append] at h1; have b0 := B0.out; have b1 := B1.out; have b2 := B2.out; have b3 := B3.out; omega) (ext_sz HAc.out.ext) ?_; intro v8 w8 ho8 hb8 _ _; obtain ⟨A8, c8, rfl⟩ := own_form ho8; have HAc := hid (HAc.out.push HSd.out ho8 hb8); clear HSd; clear ho8 hb8))
    go_ret
    refine ⟨_, _, _, rfl, ?_, X1.out.trans HAc.out.ext⟩
    rw [HL.out]
    have h9 := HAc.out.sl
    first | rw [renL_no HB.out] | rw [renL_yes HB.out]
    simpa [List.append_assoc] using h9
set_option maxHeartbeats 1000000 in
theorem content_1 {m : Msg} {d : MsgD} {cs : Array Value} {S : Nat → Prop} (hcs : Hid (cs = (msgCells m d).toArray)) (w : World) (hm : MsgRows S w m d) (hf : MsgFits m) (hk : m.kind = 1) :
    Calls Try.prog 66 #[.agg cs] w (SlNew w (partsL m).flatten) := by
  have HL : Hid ((partsL m).flatten = (ansL m).flatten) := by show _ = _; unfold partsL; rw [hk]; rfl
  have Hm := hid hm
  have HC := hid hf.ok.code
  have HM := hid hf.ok.matched
  have HT := hid hf.ok.text
  have HA2 := hid hf.ok.refs.2
  have HA3 : Hid ((textsB m.refs).length ≤ 140737488350000) := hid (Nat.le_trans (texts_len (t := 4) hf.ok.refs) (show 1100000000000 ≤ 140737488350000 by decide))
  have hrl := hid hm.refs.len
  have B0 : Hid ((fieldB 10 (intB m.code)).length ≤ 14) := by show _ ≤ _; exact intF_len 10 m.code
  have B1 : Hid ((textB 4 m.matched).length ≤ 1100000) := by show _ ≤ _; have h1 := textB_len 4 m.matched; have h2 := hf.ok.matched; omega
  have B2 : Hid ((textB 4 m.text).length ≤ 1100000) := by show _ ≤ _; have h1 := textB_len 4 m.text; have h2 := hf.ok.text; omega
  have B3 : Hid ((fieldB 163 (textsB m.refs)).length ≤ 1200000000000) := by show _ ≤ _; have h1 := texts_len (t := 4) hf.ok.refs; have h2 := fieldB_length 163 (textsB m.refs); have h3 : (textsB m.refs).length = (m.refs.map (textB 4)).flatten.length := rfl; omega
  have B4 : Hid ((textsB m.refs).length ≤ 1200000000000) := by show _ ≤ _; have h1 := texts_len (t := 4) hf.ok.refs; have h3 : (textsB m.refs).length = (m.refs.map (textB 4)).flatten.length := rfl; omega
  have t0 : (m.kind == 0) = false := by rw [hk]; rfl
  have t3 : (m.kind == 3) = false := by rw [hk]; rfl
  have t6 : (m.kind == 6) = false := by rw [hk]; rfl
  have t4 : (m.kind == 4) = false := by rw [hk]; rfl
  have t8 : (m.kind == 8) = false := by rw [hk]; rfl
  have t10 : (m.kind == 10) = false := by rw [hk]; rfl
  have t12 : (m.kind == 12) = false := by rw [hk]; rfl
  have t14 : (m.kind == 14) = false := by rw [hk]; rfl
  have t16 : (m.kind == 16) = false := by rw [hk]; rfl
  have t19 : (m.kind == 19) = false := by rw [hk]; rfl
  have t1 : (m.kind == 1) = true := by rw [hk]; rfl
  clear hm hf hk
  go_enter Try.func66, Try.ntmps66
  go_wp2_with (refine box_arm rfl 30 (.tmp 0) rfl cs rfl ?_; intro w1 hx1 hz1 hg1; have Hg1 := hid hg1; have X1 := hid hx1; have y1 := (boxCell hg1 1 hcs rfl).out; clear hz1 hg1 hx1)
  refine wp_region_planB w1.heap.size (.read 0 (.read 1 (.read 3 (.read 4 (.main 2 (.main 5 (.main 6 (.read 7 .done)))))))) (by kernel_rfl) (by kernel_rfl) ?_
  intro wD hxD
  have XB : Hid (Below w1.heap.size wD wD) := Below.refl _ _
  have XF : Hid (Below w1.heap.size w1 wD) := hxD
  have p27 := cell_laterB (boxCell Hg1.out 27 hcs rfl).out (Nat.le_refl _) XF.out
  have p28 := cell_laterB (boxCell Hg1.out 28 hcs rfl).out (Nat.le_refl _) XF.out
  repeat' (first
    | (refine walksB_move rfl rfl ?_; simp only [Act.put, Act.eval, List.setIfInBounds_toArray, List.set_cons_zero, List.set_cons_succ, Array.getD_eq_getD_getElem?, List.getElem?_toArray, List.getElem?_cons_zero, List.getElem?_cons_succ, Option.getD_some])
    | (refine walksB_assign rfl rfl ?_; simp only [Act.put, Act.eval, List.setIfInBounds_toArray, List.set_cons_zero, List.set_cons_succ, Array.getD_eq_getD_getElem?, List.getElem?_toArray, List.getElem?_cons_zero, List.getElem?_cons_succ, Option.getD_some])
    | (refine walksB_skip rfl rfl ?_; simp only [Act.put, List.setIfInBounds_toArray, List.set_cons_zero, List.set_cons_succ])
    | (refine walksB_unwanted rfl rfl ?_; simp only [Act.put, List.setIfInBounds_toArray, List.set_cons_zero, List.set_cons_succ])
    | (refine walksB_read (v := ?_) rfl rfl (fun w' hE => ?_) ?_; rotate_left 1; (· ((try (have hEx := Below.trans (Hid.out XB) hE)); go_simp; (try go_bits); with_reducible rfl)); simp only [Act.put, List.setIfInBounds_toArray, List.set_cons_zero, List.set_cons_succ])
    | (refine walksB_main rfl rfl (fun K hK => ?_); (first | (refine append_bytes_wp (.tmp 168) (.tmp 171) rfl _ _ _ _ rfl HS3.out _ _ _ _ rfl HS4.out (by have h3 := HN3.out; have h4 := HN4.out; have b0 := B0.out; have b1 := B1.out; have b2 := B2.out; have b3 := B3.out; have b4 := B4.out; omega) HB3.out ?_; intro A5 c5 w5 ho5 hb5; have HS5 := hid (own_base ho5 HB0.out); have HN5 := hid (app_len HN3.out HN4.out); have hy5 := Below.mono hb5 HB0.out; clear ho5 hb5; have XB' := hid (Below.trans (Hid.out XB) (hy5)); clear XB; have XB := XB'; clear XB')); refine hK _ _ (by first | assumption | exact Below.refl _ _) ?_; clear hK K; try simp only [Act.put, List.setIfInBounds_toArray, List.set_cons_zero, List.set_cons_succ])
    | (refine walksB_alt ?_ ?_)
    | (refine walksB_main rfl rfl (fun K hK => ?_); go_wp2_with (first | (go_at_call 67; have tok := HS3; clear tok; have hXX := Ext.trans X1.out (Below.trans XF.out XB.out); (with_reducible refine (rtext_own _ _ HM.out).mono ?_); clear hXX; rintro e w4 ⟨A4, n4, c4, rfl, hn4, hs4, hx4⟩; have HS4 := hid (own_sl hs4); have HN4 := hid hn4; have HS3 := hid (own_ext HS3.out hx4); have HB3 := hid (Nat.le_trans HB3.out (ext_sz hx4)); have hy4 := Below.mono hx4 (Nat.le_trans (Below.size XF.out) (Below.size XB.out)); clear hs4 hn4 hx4; have XB' := hid (Below.trans (Hid.out XB) (hy4)); clear XB; have XB := XB'; clear XB') | (go_at_call 63; (with_reducible refine (rinteger_own 10 10 rfl _ _ HC.out).mono ?_); rintro e w3 ⟨A3, n3, c3, rfl, hn3, hs3, hx3⟩; have HS3 := hid hs3; have HN3 := hid hn3; have HB3 := hid (ext_sz hx3); have HB0 := hid (Nat.le_trans (Below.size XF.out) (Below.size XB.out)); have hy3 := Below.mono hx3 HB0.out; clear hs3 hn3 hx3; have XB' := hid (Below.trans (Hid.out XB) (hy3)); clear XB; have XB := XB'; clear XB')); refine hK _ _ (by first | assumption | exact Below.refl _ _) ?_; clear hK K; try simp only [Act.put, List.setIfInBounds_toArray, List.set_cons_zero, List.set_cons_succ]))
  refine walksB_done ?_
  have HAc := hid (Acc.mk HS5.out HN5.out (Below.trans XF.out XB.out))
  clear p27
  clear p28
  (try clear y29); have y29 := (boxCell Hg1.out 29 hcs rfl).ext HAc.out.ext; skip
  by_cases hz : d.refs.n = 0
  all_goals
    have HZ := hid hz
    first
      | (have z0 : ¬ (0 < (d.refs.n : Int)) := (by omega); clear hz; have tok0 := z0; clear tok0)
      | (have z0 : 0 < (d.refs.n : Int) := (by omega); clear hz)
    go_wp2_with (first | (go_at_call 67; (with_reducible refine (rtext_own _ _ HT.out).mono ?_); rintro e w6 ⟨A6, n6, c6, rfl, hn6, hs6, hx6⟩; have HSd := hid (own_sl hs6); have HAc := hid (HAc.out.later hx6); clear hs6 hn6 hx6) | (at_builtin; refine append_bytes rfl (.tmp 173) (.tmp 176) rfl w1.heap.size _ _ _ rfl HAc.out.own _ _ _ _ rfl HSd.out (by have h1 := HAc.out.len; have h2 := HSd.out.len; simp only [List.length_append] at h1; have b0 := B0.out; have b1 := B1.out; have b2 := B2.out; have b3 := B3.out; have b4 := B4.out; omega) (ext_sz HAc.out.ext) ?_; intro v8 w8 ho8 hb8 _ _; obtain ⟨A8, c8, rfl⟩ := own_form ho8; have HAc := hid (HAc.out.push HSd.out ho8 hb8); clear HSd; (try clear y30); have y30 := (boxCell Hg1.out 30 hcs rfl).ext HAc.out.ext; clear ho8 hb8) | (go_at_call 84; have hXX := Ext.trans X1.out HAc.out.ext; (with_reducible refine (rtexts_any (Hm.out.refs.ext hXX) HA2.out HA3.out).mono ?_); clear hXX; rintro e w6 ⟨A6, n6, c6, rfl, hn6, hs6, hx6⟩; have HSd := hid (own_sl hs6); have HNd := hid hn6; have HAc := hid (HAc.out.later hx6); clear hs6 hn6 hx6) | (go_at_call 64; (with_reducible refine (rfield_own 163 163 rfl _ _ _ _ _ HSd.out (by have h1 := HNd.out; have h2 := B4.out; omega)).mono ?_); rintro e w6 ⟨A6, n6, c6, rfl, hn6, hs6, hx6⟩; have HSd := hid (own_sl hs6); have HAc := hid (HAc.out.later hx6); clear hs6 hn6 hx6) | (at_builtin; refine append_bytes rfl (.tmp 182) (.tmp 186) rfl w1.heap.size _ _ _ rfl HAc.out.own _ _ _ _ rfl HSd.out (by have h1 := HAc.out.len; have h2 := HSd.out.len; simp only [List.length_append] at h1; have b0 := B0.out; have b1 := B1.out; have b2 := B2.out; have b3 := B3.out; have b4 := B4.out; omega) (ext_sz HAc.out.ext) ?_; intro v8 w8 ho8 hb8 _ _; obtain ⟨A8, c8, rfl⟩ := own_form ho8; have HAc := hid (HAc.out.push HSd.out ho8 hb8); clear HSd; clear ho8 hb8))
    go_ret
    refine ⟨_, _, _, rfl, ?_, X1.out.trans HAc.out.ext⟩
    rw [HL.out]
    have h9 := HAc.out.sl
    first | rw [ansL_no (by rw [← hrl.out]; exact HZ.out)] | rw [ansL_yes (by rw [← hrl.out]; exact HZ.out)]
    simpa [List.append_assoc] using h9
set_option maxHeartbeats 1000000 in
theorem content_5 {m : Msg} {d : MsgD} {cs : Array Value} {S : Nat → Prop} (hcs : Hid (cs = (msgCells m d).toArray)) (w : World) (hm : MsgRows S w m d) (hf : MsgFits m) (hk : m.kind = 5) :
    Calls Try.prog 66 #[.agg cs] w (SlNew w (partsL m).flatten) := by
  have HL : Hid ((partsL m).flatten = (ansL m).flatten) := by show _ = _; unfold partsL; rw [hk]; rfl
  have Hm := hid hm
  have HC := hid hf.ok.code
  have HM := hid hf.ok.matched
  have HT := hid hf.ok.text
  have HA2 := hid hf.ok.refs.2
  have HA3 : Hid ((textsB m.refs).length ≤ 140737488350000) := hid (Nat.le_trans (texts_len (t := 4) hf.ok.refs) (show 1100000000000 ≤ 140737488350000 by decide))
  have hrl := hid hm.refs.len
  have B0 : Hid ((fieldB 10 (intB m.code)).length ≤ 14) := by show _ ≤ _; exact intF_len 10 m.code
  have B1 : Hid ((textB 4 m.matched).length ≤ 1100000) := by show _ ≤ _; have h1 := textB_len 4 m.matched; have h2 := hf.ok.matched; omega
  have B2 : Hid ((textB 4 m.text).length ≤ 1100000) := by show _ ≤ _; have h1 := textB_len 4 m.text; have h2 := hf.ok.text; omega
  have B3 : Hid ((fieldB 163 (textsB m.refs)).length ≤ 1200000000000) := by show _ ≤ _; have h1 := texts_len (t := 4) hf.ok.refs; have h2 := fieldB_length 163 (textsB m.refs); have h3 : (textsB m.refs).length = (m.refs.map (textB 4)).flatten.length := rfl; omega
  have B4 : Hid ((textsB m.refs).length ≤ 1200000000000) := by show _ ≤ _; have h1 := texts_len (t := 4) hf.ok.refs; have h3 : (textsB m.refs).length = (m.refs.map (textB 4)).flatten.length := rfl; omega
  have t0 : (m.kind == 0) = false := by rw [hk]; rfl
  have t3 : (m.kind == 3) = false := by rw [hk]; rfl
  have t6 : (m.kind == 6) = false := by rw [hk]; rfl
  have t4 : (m.kind == 4) = false := by rw [hk]; rfl
  have t8 : (m.kind == 8) = false := by rw [hk]; rfl
  have t10 : (m.kind == 10) = false := by rw [hk]; rfl
  have t12 : (m.kind == 12) = false := by rw [hk]; rfl
  have t14 : (m.kind == 14) = false := by rw [hk]; rfl
  have t16 : (m.kind == 16) = false := by rw [hk]; rfl
  have t19 : (m.kind == 19) = false := by rw [hk]; rfl
  have t1 : (m.kind == 1) = false := by rw [hk]; rfl
  have t5 : (m.kind == 5) = true := by rw [hk]; rfl
  clear hm hf hk
  go_enter Try.func66, Try.ntmps66
  go_wp2_with (refine box_arm rfl 30 (.tmp 0) rfl cs rfl ?_; intro w1 hx1 hz1 hg1; have Hg1 := hid hg1; have X1 := hid hx1; have y1 := (boxCell hg1 1 hcs rfl).out; clear hz1 hg1 hx1)
  refine wp_region_planB w1.heap.size (.read 0 (.read 1 (.read 3 (.read 4 (.main 2 (.main 5 (.main 6 (.read 7 .done)))))))) (by kernel_rfl) (by kernel_rfl) ?_
  intro wD hxD
  have XB : Hid (Below w1.heap.size wD wD) := Below.refl _ _
  have XF : Hid (Below w1.heap.size w1 wD) := hxD
  have p27 := cell_laterB (boxCell Hg1.out 27 hcs rfl).out (Nat.le_refl _) XF.out
  have p28 := cell_laterB (boxCell Hg1.out 28 hcs rfl).out (Nat.le_refl _) XF.out
  repeat' (first
    | (refine walksB_move rfl rfl ?_; simp only [Act.put, Act.eval, List.setIfInBounds_toArray, List.set_cons_zero, List.set_cons_succ, Array.getD_eq_getD_getElem?, List.getElem?_toArray, List.getElem?_cons_zero, List.getElem?_cons_succ, Option.getD_some])
    | (refine walksB_assign rfl rfl ?_; simp only [Act.put, Act.eval, List.setIfInBounds_toArray, List.set_cons_zero, List.set_cons_succ, Array.getD_eq_getD_getElem?, List.getElem?_toArray, List.getElem?_cons_zero, List.getElem?_cons_succ, Option.getD_some])
    | (refine walksB_skip rfl rfl ?_; simp only [Act.put, List.setIfInBounds_toArray, List.set_cons_zero, List.set_cons_succ])
    | (refine walksB_unwanted rfl rfl ?_; simp only [Act.put, List.setIfInBounds_toArray, List.set_cons_zero, List.set_cons_succ])
    | (refine walksB_read (v := ?_) rfl rfl (fun w' hE => ?_) ?_; rotate_left 1; (· ((try (have hEx := Below.trans (Hid.out XB) hE)); go_simp; (try go_bits); with_reducible rfl)); simp only [Act.put, List.setIfInBounds_toArray, List.set_cons_zero, List.set_cons_succ])
    | (refine walksB_main rfl rfl (fun K hK => ?_); (first | (refine append_bytes_wp (.tmp 168) (.tmp 171) rfl _ _ _ _ rfl HS3.out _ _ _ _ rfl HS4.out (by have h3 := HN3.out; have h4 := HN4.out; have b0 := B0.out; have b1 := B1.out; have b2 := B2.out; have b3 := B3.out; have b4 := B4.out; omega) HB3.out ?_; intro A5 c5 w5 ho5 hb5; have HS5 := hid (own_base ho5 HB0.out); have HN5 := hid (app_len HN3.out HN4.out); have hy5 := Below.mono hb5 HB0.out; clear ho5 hb5; have XB' := hid (Below.trans (Hid.out XB) (hy5)); clear XB; have XB := XB'; clear XB')); refine hK _ _ (by first | assumption | exact Below.refl _ _) ?_; clear hK K; try simp only [Act.put, List.setIfInBounds_toArray, List.set_cons_zero, List.set_cons_succ])
    | (refine walksB_alt ?_ ?_)
    | (refine walksB_main rfl rfl (fun K hK => ?_); go_wp2_with (first | (go_at_call 67; have tok := HS3; clear tok; have hXX := Ext.trans X1.out (Below.trans XF.out XB.out); (with_reducible refine (rtext_own _ _ HM.out).mono ?_); clear hXX; rintro e w4 ⟨A4, n4, c4, rfl, hn4, hs4, hx4⟩; have HS4 := hid (own_sl hs4); have HN4 := hid hn4; have HS3 := hid (own_ext HS3.out hx4); have HB3 := hid (Nat.le_trans HB3.out (ext_sz hx4)); have hy4 := Below.mono hx4 (Nat.le_trans (Below.size XF.out) (Below.size XB.out)); clear hs4 hn4 hx4; have XB' := hid (Below.trans (Hid.out XB) (hy4)); clear XB; have XB := XB'; clear XB') | (go_at_call 63; (with_reducible refine (rinteger_own 10 10 rfl _ _ HC.out).mono ?_); rintro e w3 ⟨A3, n3, c3, rfl, hn3, hs3, hx3⟩; have HS3 := hid hs3; have HN3 := hid hn3; have HB3 := hid (ext_sz hx3); have HB0 := hid (Nat.le_trans (Below.size XF.out) (Below.size XB.out)); have hy3 := Below.mono hx3 HB0.out; clear hs3 hn3 hx3; have XB' := hid (Below.trans (Hid.out XB) (hy3)); clear XB; have XB := XB'; clear XB')); refine hK _ _ (by first | assumption | exact Below.refl _ _) ?_; clear hK K; try simp only [Act.put, List.setIfInBounds_toArray, List.set_cons_zero, List.set_cons_succ]))
  refine walksB_done ?_
  have HAc := hid (Acc.mk HS5.out HN5.out (Below.trans XF.out XB.out))
  clear p27
  clear p28
  (try clear y29); have y29 := (boxCell Hg1.out 29 hcs rfl).ext HAc.out.ext; skip
  by_cases hz : d.refs.n = 0
  all_goals
    have HZ := hid hz
    first
      | (have z0 : ¬ (0 < (d.refs.n : Int)) := (by omega); clear hz; have tok0 := z0; clear tok0)
      | (have z0 : 0 < (d.refs.n : Int) := (by omega); clear hz)
    go_wp2_with (first | (go_at_call 67; (with_reducible refine (rtext_own _ _ HT.out).mono ?_); rintro e w6 ⟨A6, n6, c6, rfl, hn6, hs6, hx6⟩; have HSd := hid (own_sl hs6); have HAc := hid (HAc.out.later hx6); clear hs6 hn6 hx6) | (at_builtin; refine append_bytes rfl (.tmp 173) (.tmp 176) rfl w1.heap.size _ _ _ rfl HAc.out.own _ _ _ _ rfl HSd.out (by have h1 := HAc.out.len; have h2 := HSd.out.len; simp only [List.length_append] at h1; have b0 := B0.out; have b1 := B1.out; have b2 := B2.out; have b3 := B3.out; have b4 := B4.out; omega) (ext_sz HAc.out.ext) ?_; intro v8 w8 ho8 hb8 _ _; obtain ⟨A8, c8, rfl⟩ := own_form ho8; have HAc := hid (HAc.out.push HSd.out ho8 hb8); clear HSd; (try clear y30); have y30 := (boxCell Hg1.out 30 hcs rfl).ext HAc.out.ext; clear ho8 hb8) | (go_at_call 84; have hXX := Ext.trans X1.out HAc.out.ext; (with_reducible refine (rtexts_any (Hm.out.refs.ext hXX) HA2.out HA3.out).mono ?_); clear hXX; rintro e w6 ⟨A6, n6, c6, rfl, hn6, hs6, hx6⟩; have HSd := hid (own_sl hs6); have HNd := hid hn6; have HAc := hid (HAc.out.later hx6); clear hs6 hn6 hx6) | (go_at_call 64; (with_reducible refine (rfield_own 163 163 rfl _ _ _ _ _ HSd.out (by have h1 := HNd.out; have h2 := B4.out; omega)).mono ?_); rintro e w6 ⟨A6, n6, c6, rfl, hn6, hs6, hx6⟩; have HSd := hid (own_sl hs6); have HAc := hid (HAc.out.later hx6); clear hs6 hn6 hx6) | (at_builtin; refine append_bytes rfl (.tmp 182) (.tmp 186) rfl w1.heap.size _ _ _ rfl HAc.out.own _ _ _ _ rfl HSd.out (by have h1 := HAc.out.len; have h2 := HSd.out.len; simp only [List.length_append] at h1; have b0 := B0.out; have b1 := B1.out; have b2 := B2.out; have b3 := B3.out; have b4 := B4.out; omega) (ext_sz HAc.out.ext) ?_; intro v8 w8 ho8 hb8 _ _; obtain ⟨A8, c8, rfl⟩ := own_form ho8; have HAc := hid (HAc.out.push HSd.out ho8 hb8); clear HSd; clear ho8 hb8))
    go_ret
    refine ⟨_, _, _, rfl, ?_, X1.out.trans HAc.out.ext⟩
    rw [HL.out]
    have h9 := HAc.out.sl
    first | rw [ansL_no (by rw [← hrl.out]; exact HZ.out)] | rw [ansL_yes (by rw [← hrl.out]; exact HZ.out)]
    simpa [List.append_assoc] using h9
set_option maxHeartbeats 1000000 in
theorem content_7 {m : Msg} {d : MsgD} {cs : Array Value} {S : Nat → Prop} (hcs : Hid (cs = (msgCells m d).toArray)) (w : World) (hm : MsgRows S w m d) (hf : MsgFits m) (hk : m.kind = 7) :
    Calls Try.prog 66 #[.agg cs] w (SlNew w (partsL m).flatten) := by
  have HL : Hid ((partsL m).flatten = (ansL m).flatten) := by show _ = _; unfold partsL; rw [hk]; rfl
  have Hm := hid hm
  have HC := hid hf.ok.code
  have HM := hid hf.ok.matched
  have HT := hid hf.ok.text
  have HA2 := hid hf.ok.refs.2
  have HA3 : Hid ((textsB m.refs).length ≤ 140737488350000) := hid (Nat.le_trans (texts_len (t := 4) hf.ok.refs) (show 1100000000000 ≤ 140737488350000 by decide))
  have hrl := hid hm.refs.len
  have B0 : Hid ((fieldB 10 (intB m.code)).length ≤ 14) := by show _ ≤ _; exact intF_len 10 m.code
  have B1 : Hid ((textB 4 m.matched).length ≤ 1100000) := by show _ ≤ _; have h1 := textB_len 4 m.matched; have h2 := hf.ok.matched; omega
  have B2 : Hid ((textB 4 m.text).length ≤ 1100000) := by show _ ≤ _; have h1 := textB_len 4 m.text; have h2 := hf.ok.text; omega
  have B3 : Hid ((fieldB 163 (textsB m.refs)).length ≤ 1200000000000) := by show _ ≤ _; have h1 := texts_len (t := 4) hf.ok.refs; have h2 := fieldB_length 163 (textsB m.refs); have h3 : (textsB m.refs).length = (m.refs.map (textB 4)).flatten.length := rfl; omega
  have B4 : Hid ((textsB m.refs).length ≤ 1200000000000) := by show _ ≤ _; have h1 := texts_len (t := 4) hf.ok.refs; have h3 : (textsB m.refs).length = (m.refs.map (textB 4)).flatten.length := rfl; omega
  have t0 : (m.kind == 0) = false := by rw [hk]; rfl
  have t3 : (m.kind == 3) = false := by rw [hk]; rfl
  have t6 : (m.kind == 6) = false := by rw [hk]; rfl
  have t4 : (m.kind == 4) = false := by rw [hk]; rfl
  have t8 : (m.kind == 8) = false := by rw [hk]; rfl
  have t10 : (m.kind == 10) = false := by rw [hk]; rfl
  have t12 : (m.kind == 12) = false := by rw [hk]; rfl
  have t14 : (m.kind == 14) = false := by rw [hk]; rfl
  have t16 : (m.kind == 16) = false := by rw [hk]; rfl
  have t19 : (m.kind == 19) = false := by rw [hk]; rfl
  have t1 : (m.kind == 1) = false := by rw [hk]; rfl
  have t5 : (m.kind == 5) = false := by rw [hk]; rfl
  have t7 : (m.kind == 7) = true := by rw [hk]; rfl
  clear hm hf hk
  go_enter Try.func66, Try.ntmps66
  go_wp2_with (refine box_arm rfl 30 (.tmp 0) rfl cs rfl ?_; intro w1 hx1 hz1 hg1; have Hg1 := hid hg1; have X1 := hid hx1; have y1 := (boxCell hg1 1 hcs rfl).out; clear hz1 hg1 hx1)
  refine wp_region_planB w1.heap.size (.read 0 (.read 1 (.read 3 (.read 4 (.main 2 (.main 5 (.main 6 (.read 7 .done)))))))) (by kernel_rfl) (by kernel_rfl) ?_
  intro wD hxD
  have XB : Hid (Below w1.heap.size wD wD) := Below.refl _ _
  have XF : Hid (Below w1.heap.size w1 wD) := hxD
  have p27 := cell_laterB (boxCell Hg1.out 27 hcs rfl).out (Nat.le_refl _) XF.out
  have p28 := cell_laterB (boxCell Hg1.out 28 hcs rfl).out (Nat.le_refl _) XF.out
  repeat' (first
    | (refine walksB_move rfl rfl ?_; simp only [Act.put, Act.eval, List.setIfInBounds_toArray, List.set_cons_zero, List.set_cons_succ, Array.getD_eq_getD_getElem?, List.getElem?_toArray, List.getElem?_cons_zero, List.getElem?_cons_succ, Option.getD_some])
    | (refine walksB_assign rfl rfl ?_; simp only [Act.put, Act.eval, List.setIfInBounds_toArray, List.set_cons_zero, List.set_cons_succ, Array.getD_eq_getD_getElem?, List.getElem?_toArray, List.getElem?_cons_zero, List.getElem?_cons_succ, Option.getD_some])
    | (refine walksB_skip rfl rfl ?_; simp only [Act.put, List.setIfInBounds_toArray, List.set_cons_zero, List.set_cons_succ])
    | (refine walksB_unwanted rfl rfl ?_; simp only [Act.put, List.setIfInBounds_toArray, List.set_cons_zero, List.set_cons_succ])
    | (refine walksB_read (v := ?_) rfl rfl (fun w' hE => ?_) ?_; rotate_left 1; (· ((try (have hEx := Below.trans (Hid.out XB) hE)); go_simp; (try go_bits); with_reducible rfl)); simp only [Act.put, List.setIfInBounds_toArray, List.set_cons_zero, List.set_cons_succ])
    | (refine walksB_main rfl rfl (fun K hK => ?_); (first | (refine append_bytes_wp (.tmp 168) (.tmp 171) rfl _ _ _ _ rfl HS3.out _ _ _ _ rfl HS4.out (by have h3 := HN3.out; have h4 := HN4.out; have b0 := B0.out; have b1 := B1.out; have b2 := B2.out; have b3 := B3.out; have b4 := B4.out; omega) HB3.out ?_; intro A5 c5 w5 ho5 hb5; have HS5 := hid (own_base ho5 HB0.out); have HN5 := hid (app_len HN3.out HN4.out); have hy5 := Below.mono hb5 HB0.out; clear ho5 hb5; have XB' := hid (Below.trans (Hid.out XB) (hy5)); clear XB; have XB := XB'; clear XB')); refine hK _ _ (by first | assumption | exact Below.refl _ _) ?_; clear hK K; try simp only [Act.put, List.setIfInBounds_toArray, List.set_cons_zero, List.set_cons_succ])
    | (refine walksB_alt ?_ ?_)
    | (refine walksB_main rfl rfl (fun K hK => ?_); go_wp2_with (first | (go_at_call 67; have tok := HS3; clear tok; have hXX := Ext.trans X1.out (Below.trans XF.out XB.out); (with_reducible refine (rtext_own _ _ HM.out).mono ?_); clear hXX; rintro e w4 ⟨A4, n4, c4, rfl, hn4, hs4, hx4⟩; have HS4 := hid (own_sl hs4); have HN4 := hid hn4; have HS3 := hid (own_ext HS3.out hx4); have HB3 := hid (Nat.le_trans HB3.out (ext_sz hx4)); have hy4 := Below.mono hx4 (Nat.le_trans (Below.size XF.out) (Below.size XB.out)); clear hs4 hn4 hx4; have XB' := hid (Below.trans (Hid.out XB) (hy4)); clear XB; have XB := XB'; clear XB') | (go_at_call 63; (with_reducible refine (rinteger_own 10 10 rfl _ _ HC.out).mono ?_); rintro e w3 ⟨A3, n3, c3, rfl, hn3, hs3, hx3⟩; have HS3 := hid hs3; have HN3 := hid hn3; have HB3 := hid (ext_sz hx3); have HB0 := hid (Nat.le_trans (Below.size XF.out) (Below.size XB.out)); have hy3 := Below.mono hx3 HB0.out; clear hs3 hn3 hx3; have XB' := hid (Below.trans (Hid.out XB) (hy3)); clear XB; have XB := XB'; clear XB')); refine hK _ _ (by first | assumption | exact Below.refl _ _) ?_; clear hK K; try simp only [Act.put, List.setIfInBounds_toArray, List.set_cons_zero, List.set_cons_succ]))
  refine walksB_done ?_
  have HAc := hid (Acc.mk HS5.out HN5.out (Below.trans XF.out XB.out))
  clear p27
  clear p28
  (try clear y29); have y29 := (boxCell Hg1.out 29 hcs rfl).ext HAc.out.ext; skip
  by_cases hz : d.refs.n = 0
  all_goals
    have HZ := hid hz
    first
      | (have z0 : ¬ (0 < (d.refs.n : Int)) := (by omega); clear hz; have tok0 := z0; clear tok0)
      | (have z0 : 0 < (d.refs.n : Int) := (by omega); clear hz)
    go_wp2_with (first | (go_at_call 67; (with_reducible refine (rtext_own _ _ HT.out).mono ?_); rintro e w6 ⟨A6, n6, c6, rfl, hn6, hs6, hx6⟩; have HSd := hid (own_sl hs6); have HAc := hid (HAc.out.later hx6); clear hs6 hn6 hx6) | (at_builtin; refine append_bytes rfl (.tmp 173) (.tmp 176) rfl w1.heap.size _ _ _ rfl HAc.out.own _ _ _ _ rfl HSd.out (by have h1 := HAc.out.len; have h2 := HSd.out.len; simp only [List.length_append] at h1; have b0 := B0.out; have b1 := B1.out; have b2 := B2.out; have b3 := B3.out; have b4 := B4.out; omega) (ext_sz HAc.out.ext) ?_; intro v8 w8 ho8 hb8 _ _; obtain ⟨A8, c8, rfl⟩ := own_form ho8; have HAc := hid (HAc.out.push HSd.out ho8 hb8); clear HSd; (try clear y30); have y30 := (boxCell Hg1.out 30 hcs rfl).ext HAc.out.ext; clear ho8 hb8) | (go_at_call 84; have hXX := Ext.trans X1.out HAc.out.ext; (with_reducible refine (rtexts_any (Hm.out.refs.ext hXX) HA2.out HA3.out).mono ?_); clear hXX; rintro e w6 ⟨A6, n6, c6, rfl, hn6, hs6, hx6⟩; have HSd := hid (own_sl hs6); have HNd := hid hn6; have HAc := hid (HAc.out.later hx6); clear hs6 hn6 hx6) | (go_at_call 64; (with_reducible refine (rfield_own 163 163 rfl _ _ _ _ _ HSd.out (by have h1 := HNd.out; have h2 := B4.out; omega)).mono ?_); rintro e w6 ⟨A6, n6, c6, rfl, hn6, hs6, hx6⟩; have HSd := hid (own_sl hs6); have HAc := hid (HAc.out.later hx6); clear hs6 hn6 hx6) | (at_builtin; refine append_bytes rfl (.tmp 182) (.tmp 186) rfl w1.heap.size _ _ _ rfl HAc.out.own _ _ _ _ rfl HSd.out (by have h1 := HAc.out.len; have h2 := HSd.out.len; simp only [List.length_append] at h1; have b0 := B0.out; have b1 := B1.out; have b2 := B2.out; have b3 := B3.out; have b4 := B4.out; omega) (ext_sz HAc.out.ext) ?_; intro v8 w8 ho8 hb8 _ _; obtain ⟨A8, c8, rfl⟩ := own_form ho8; have HAc := hid (HAc.out.push HSd.out ho8 hb8); clear HSd; clear ho8 hb8))
    go_ret
    refine ⟨_, _, _, rfl, ?_, X1.out.trans HAc.out.ext⟩
    rw [HL.out]
    have h9 := HAc.out.sl
    first | rw [ansL_no (by rw [← hrl.out]; exact HZ.out)] | rw [ansL_yes (by rw [← hrl.out]; exact HZ.out)]
    simpa [List.append_assoc] using h9
set_option maxHeartbeats 1000000 in
theorem content_9 {m : Msg} {d : MsgD} {cs : Array Value} {S : Nat → Prop} (hcs : Hid (cs = (msgCells m d).toArray)) (w : World) (hm : MsgRows S w m d) (hf : MsgFits m) (hk : m.kind = 9) :
    Calls Try.prog 66 #[.agg cs] w (SlNew w (partsL m).flatten) := by
  have HL : Hid ((partsL m).flatten = (ansL m).flatten) := by show _ = _; unfold partsL; rw [hk]; rfl
  have Hm := hid hm
  have HC := hid hf.ok.code
  have HM := hid hf.ok.matched
  have HT := hid hf.ok.text
  have HA2 := hid hf.ok.refs.2
  have HA3 : Hid ((textsB m.refs).length ≤ 140737488350000) := hid (Nat.le_trans (texts_len (t := 4) hf.ok.refs) (show 1100000000000 ≤ 140737488350000 by decide))
  have hrl := hid hm.refs.len
  have B0 : Hid ((fieldB 10 (intB m.code)).length ≤ 14) := by show _ ≤ _; exact intF_len 10 m.code
  have B1 : Hid ((textB 4 m.matched).length ≤ 1100000) := by show _ ≤ _; have h1 := textB_len 4 m.matched; have h2 := hf.ok.matched; omega
  have B2 : Hid ((textB 4 m.text).length ≤ 1100000) := by show _ ≤ _; have h1 := textB_len 4 m.text; have h2 := hf.ok.text; omega
  have B3 : Hid ((fieldB 163 (textsB m.refs)).length ≤ 1200000000000) := by show _ ≤ _; have h1 := texts_len (t := 4) hf.ok.refs; have h2 := fieldB_length 163 (textsB m.refs); have h3 : (textsB m.refs).length = (m.refs.map (textB 4)).flatten.length := rfl; omega
  have B4 : Hid ((textsB m.refs).length ≤ 1200000000000) := by show _ ≤ _; have h1 := texts_len (t := 4) hf.ok.refs; have h3 : (textsB m.refs).length = (m.refs.map (textB 4)).flatten.length := rfl; omega
  have t0 : (m.kind == 0) = false := by rw [hk]; rfl
  have t3 : (m.kind == 3) = false := by rw [hk]; rfl
  have t6 : (m.kind == 6) = false := by rw [hk]; rfl
  have t4 : (m.kind == 4) = false := by rw [hk]; rfl
  have t8 : (m.kind == 8) = false := by rw [hk]; rfl
  have t10 : (m.kind == 10) = false := by rw [hk]; rfl
  have t12 : (m.kind == 12) = false := by rw [hk]; rfl
  have t14 : (m.kind == 14) = false := by rw [hk]; rfl
  have t16 : (m.kind == 16) = false := by rw [hk]; rfl
  have t19 : (m.kind == 19) = false := by rw [hk]; rfl
  have t1 : (m.kind == 1) = false := by rw [hk]; rfl
  have t5 : (m.kind == 5) = false := by rw [hk]; rfl
  have t7 : (m.kind == 7) = false := by rw [hk]; rfl
  have t9 : (m.kind == 9) = true := by rw [hk]; rfl
  clear hm hf hk
  go_enter Try.func66, Try.ntmps66
  go_wp2_with (refine box_arm rfl 30 (.tmp 0) rfl cs rfl ?_; intro w1 hx1 hz1 hg1; have Hg1 := hid hg1; have X1 := hid hx1; have y1 := (boxCell hg1 1 hcs rfl).out; clear hz1 hg1 hx1)
  refine wp_region_planB w1.heap.size (.read 0 (.read 1 (.read 3 (.read 4 (.main 2 (.main 5 (.main 6 (.read 7 .done)))))))) (by kernel_rfl) (by kernel_rfl) ?_
  intro wD hxD
  have XB : Hid (Below w1.heap.size wD wD) := Below.refl _ _
  have XF : Hid (Below w1.heap.size w1 wD) := hxD
  have p27 := cell_laterB (boxCell Hg1.out 27 hcs rfl).out (Nat.le_refl _) XF.out
  have p28 := cell_laterB (boxCell Hg1.out 28 hcs rfl).out (Nat.le_refl _) XF.out
  repeat' (first
    | (refine walksB_move rfl rfl ?_; simp only [Act.put, Act.eval, List.setIfInBounds_toArray, List.set_cons_zero, List.set_cons_succ, Array.getD_eq_getD_getElem?, List.getElem?_toArray, List.getElem?_cons_zero, List.getElem?_cons_succ, Option.getD_some])
    | (refine walksB_assign rfl rfl ?_; simp only [Act.put, Act.eval, List.setIfInBounds_toArray, List.set_cons_zero, List.set_cons_succ, Array.getD_eq_getD_getElem?, List.getElem?_toArray, List.getElem?_cons_zero, List.getElem?_cons_succ, Option.getD_some])
    | (refine walksB_skip rfl rfl ?_; simp only [Act.put, List.setIfInBounds_toArray, List.set_cons_zero, List.set_cons_succ])
    | (refine walksB_unwanted rfl rfl ?_; simp only [Act.put, List.setIfInBounds_toArray, List.set_cons_zero, List.set_cons_succ])
    | (refine walksB_read (v := ?_) rfl rfl (fun w' hE => ?_) ?_; rotate_left 1; (· ((try (have hEx := Below.trans (Hid.out XB) hE)); go_simp; (try go_bits); with_reducible rfl)); simp only [Act.put, List.setIfInBounds_toArray, List.set_cons_zero, List.set_cons_succ])
    | (refine walksB_main rfl rfl (fun K hK => ?_); (first | (refine append_bytes_wp (.tmp 168) (.tmp 171) rfl _ _ _ _ rfl HS3.out _ _ _ _ rfl HS4.out (by have h3 := HN3.out; have h4 := HN4.out; have b0 := B0.out; have b1 := B1.out; have b2 := B2.out; have b3 := B3.out; have b4 := B4.out; omega) HB3.out ?_; intro A5 c5 w5 ho5 hb5; have HS5 := hid (own_base ho5 HB0.out); have HN5 := hid (app_len HN3.out HN4.out); have hy5 := Below.mono hb5 HB0.out; clear ho5 hb5; have XB' := hid (Below.trans (Hid.out XB) (hy5)); clear XB; have XB := XB'; clear XB')); refine hK _ _ (by first | assumption | exact Below.refl _ _) ?_; clear hK K; try simp only [Act.put, List.setIfInBounds_toArray, List.set_cons_zero, List.set_cons_succ])
    | (refine walksB_alt ?_ ?_)
    | (refine walksB_main rfl rfl (fun K hK => ?_); go_wp2_with (first | (go_at_call 67; have tok := HS3; clear tok; have hXX := Ext.trans X1.out (Below.trans XF.out XB.out); (with_reducible refine (rtext_own _ _ HM.out).mono ?_); clear hXX; rintro e w4 ⟨A4, n4, c4, rfl, hn4, hs4, hx4⟩; have HS4 := hid (own_sl hs4); have HN4 := hid hn4; have HS3 := hid (own_ext HS3.out hx4); have HB3 := hid (Nat.le_trans HB3.out (ext_sz hx4)); have hy4 := Below.mono hx4 (Nat.le_trans (Below.size XF.out) (Below.size XB.out)); clear hs4 hn4 hx4; have XB' := hid (Below.trans (Hid.out XB) (hy4)); clear XB; have XB := XB'; clear XB') | (go_at_call 63; (with_reducible refine (rinteger_own 10 10 rfl _ _ HC.out).mono ?_); rintro e w3 ⟨A3, n3, c3, rfl, hn3, hs3, hx3⟩; have HS3 := hid hs3; have HN3 := hid hn3; have HB3 := hid (ext_sz hx3); have HB0 := hid (Nat.le_trans (Below.size XF.out) (Below.size XB.out)); have hy3 := Below.mono hx3 HB0.out; clear hs3 hn3 hx3; have XB' := hid (Below.trans (Hid.out XB) (hy3)); clear XB; have XB := XB'; clear XB')); refine hK _ _ (by first | assumption | exact Below.refl _ _) ?_; clear hK K; try simp only [Act.put, List.setIfInBounds_toArray, List.set_cons_zero, List.set_cons_succ]))
  refine walksB_done ?_
  have HAc := hid (Acc.mk HS5.out HN5.out (Below.trans XF.out XB.out))
  clear p27
  clear p28
  (try clear y29); have y29 := (boxCell Hg1.out 29 hcs rfl).ext HAc.out.ext; skip
  by_cases hz : d.refs.n = 0
  all_goals
    have HZ := hid hz
    first
      | (have z0 : ¬ (0 < (d.refs.n : Int)) := (by omega); clear hz; have tok0 := z0; clear tok0)
      | (have z0 : 0 < (d.refs.n : Int) := (by omega); clear hz)
    go_wp2_with (first | (go_at_call 67; (with_reducible refine (rtext_own _ _ HT.out).mono ?_); rintro e w6 ⟨A6, n6, c6, rfl, hn6, hs6, hx6⟩; have HSd := hid (own_sl hs6); have HAc := hid (HAc.out.later hx6); clear hs6 hn6 hx6) | (at_builtin; refine append_bytes rfl (.tmp 173) (.tmp 176) rfl w1.heap.size _ _ _ rfl HAc.out.own _ _ _ _ rfl HSd.out (by have h1 := HAc.out.len; have h2 := HSd.out.len; simp only [List.length_append] at h1; have b0 := B0.out; have b1 := B1.out; have b2 := B2.out; have b3 := B3.out; have b4 := B4.out; omega) (ext_sz HAc.out.ext) ?_; intro v8 w8 ho8 hb8 _ _; obtain ⟨A8, c8, rfl⟩ := own_form ho8; have HAc := hid (HAc.out.push HSd.out ho8 hb8); clear HSd; (try clear y30); have y30 := (boxCell Hg1.out 30 hcs rfl).ext HAc.out.ext; clear ho8 hb8) | (go_at_call 84; have hXX := Ext.trans X1.out HAc.out.ext; (with_reducible refine (rtexts_any (Hm.out.refs.ext hXX) HA2.out HA3.out).mono ?_); clear hXX; rintro e w6 ⟨A6, n6, c6, rfl, hn6, hs6, hx6⟩; have HSd := hid (own_sl hs6); have HNd := hid hn6; have HAc := hid (HAc.out.later hx6); clear hs6 hn6 hx6) | (go_at_call 64; (with_reducible refine (rfield_own 163 163 rfl _ _ _ _ _ HSd.out (by have h1 := HNd.out; have h2 := B4.out; omega)).mono ?_); rintro e w6 ⟨A6, n6, c6, rfl, hn6, hs6, hx6⟩; have HSd := hid (own_sl hs6); have HAc := hid (HAc.out.later hx6); clear hs6 hn6 hx6) | (at_builtin; refine append_bytes rfl (.tmp 182) (.tmp 186) rfl w1.heap.size _ _ _ rfl HAc.out.own _ _ _ _ rfl HSd.out (by have h1 := HAc.out.len; have h2 := HSd.out.len; simp only [List.length_append] at h1; have b0 := B0.out; have b1 := B1.out; have b2 := B2.out; have b3 := B3.out; have b4 := B4.out; omega) (ext_sz HAc.out.ext) ?_; intro v8 w8 ho8 hb8 _ _; obtain ⟨A8, c8, rfl⟩ := own_form ho8; have HAc := hid (HAc.out.push HSd.out ho8 hb8); clear HSd; clear ho8 hb8))
    go_ret
    refine ⟨_, _, _, rfl, ?_, X1.out.trans HAc.out.ext⟩
    rw [HL.out]
    have h9 := HAc.out.sl
    first | rw [ansL_no (by rw [← hrl.out]; exact HZ.out)] | rw [ansL_yes (by rw [← hrl.out]; exact HZ.out)]
    simpa [List.append_assoc] using h9
set_option maxHeartbeats 1000000 in
theorem content_11 {m : Msg} {d : MsgD} {cs : Array Value} {S : Nat → Prop} (hcs : Hid (cs = (msgCells m d).toArray)) (w : World) (hm : MsgRows S w m d) (hf : MsgFits m) (hk : m.kind = 11) :
    Calls Try.prog 66 #[.agg cs] w (SlNew w (partsL m).flatten) := by
  have HL : Hid ((partsL m).flatten = (ansL m).flatten) := by show _ = _; unfold partsL; rw [hk]; rfl
  have Hm := hid hm
  have HC := hid hf.ok.code
  have HM := hid hf.ok.matched
  have HT := hid hf.ok.text
  have HA2 := hid hf.ok.refs.2
  have HA3 : Hid ((textsB m.refs).length ≤ 140737488350000) := hid (Nat.le_trans (texts_len (t := 4) hf.ok.refs) (show 1100000000000 ≤ 140737488350000 by decide))
  have hrl := hid hm.refs.len
  have B0 : Hid ((fieldB 10 (intB m.code)).length ≤ 14) := by show _ ≤ _; exact intF_len 10 m.code
  have B1 : Hid ((textB 4 m.matched).length ≤ 1100000) := by show _ ≤ _; have h1 := textB_len 4 m.matched; have h2 := hf.ok.matched; omega
  have B2 : Hid ((textB 4 m.text).length ≤ 1100000) := by show _ ≤ _; have h1 := textB_len 4 m.text; have h2 := hf.ok.text; omega
  have B3 : Hid ((fieldB 163 (textsB m.refs)).length ≤ 1200000000000) := by show _ ≤ _; have h1 := texts_len (t := 4) hf.ok.refs; have h2 := fieldB_length 163 (textsB m.refs); have h3 : (textsB m.refs).length = (m.refs.map (textB 4)).flatten.length := rfl; omega
  have B4 : Hid ((textsB m.refs).length ≤ 1200000000000) := by show _ ≤ _; have h1 := texts_len (t := 4) hf.ok.refs; have h3 : (textsB m.refs).length = (m.refs.map (textB 4)).flatten.length := rfl; omega
  have t0 : (m.kind == 0) = false := by rw [hk]; rfl
  have t3 : (m.kind == 3) = false := by rw [hk]; rfl
  have t6 : (m.kind == 6) = false := by rw [hk]; rfl
  have t4 : (m.kind == 4) = false := by rw [hk]; rfl
  have t8 : (m.kind == 8) = false := by rw [hk]; rfl
  have t10 : (m.kind == 10) = false := by rw [hk]; rfl
  have t12 : (m.kind == 12) = false := by rw [hk]; rfl
  have t14 : (m.kind == 14) = false := by rw [hk]; rfl
  have t16 : (m.kind == 16) = false := by rw [hk]; rfl
  have t19 : (m.kind == 19) = false := by rw [hk]; rfl
  have t1 : (m.kind == 1) = false := by rw [hk]; rfl
  have t5 : (m.kind == 5) = false := by rw [hk]; rfl
  have t7 : (m.kind == 7) = false := by rw [hk]; rfl
  have t9 : (m.kind == 9) = false := by rw [hk]; rfl
  have t11 : (m.kind == 11) = true := by rw [hk]; rfl
  clear hm hf hk
  go_enter Try.func66, Try.ntmps66
  go_wp2_with (refine box_arm rfl 30 (.tmp 0) rfl cs rfl ?_; intro w1 hx1 hz1 hg1; have Hg1 := hid hg1; have X1 := hid hx1; have y1 := (boxCell hg1 1 hcs rfl).out; clear hz1 hg1 hx1)
  refine wp_region_planB w1.heap.size (.read 0 (.read 1 (.read 3 (.read 4 (.main 2 (.main 5 (.main 6 (.read 7 .done)))))))) (by kernel_rfl) (by kernel_rfl) ?_
  intro wD hxD
  have XB : Hid (Below w1.heap.size wD wD) := Below.refl _ _
  have XF : Hid (Below w1.heap.size w1 wD) := hxD
  have p27 := cell_laterB (boxCell Hg1.out 27 hcs rfl).out (Nat.le_refl _) XF.out
  have p28 := cell_laterB (boxCell Hg1.out 28 hcs rfl).out (Nat.le_refl _) XF.out
  repeat' (first
    | (refine walksB_move rfl rfl ?_; simp only [Act.put, Act.eval, List.setIfInBounds_toArray, List.set_cons_zero, List.set_cons_succ, Array.getD_eq_getD_getElem?, List.getElem?_toArray, List.getElem?_cons_zero, List.getElem?_cons_succ, Option.getD_some])
    | (refine walksB_assign rfl rfl ?_; simp only [Act.put, Act.eval, List.setIfInBounds_toArray, List.set_cons_zero, List.set_cons_succ, Array.getD_eq_getD_getElem?, List.getElem?_toArray, List.getElem?_cons_zero, List.getElem?_cons_succ, Option.getD_some])
    | (refine walksB_skip rfl rfl ?_; simp only [Act.put, List.setIfInBounds_toArray, List.set_cons_zero, List.set_cons_succ])
    | (refine walksB_unwanted rfl rfl ?_; simp only [Act.put, List.setIfInBounds_toArray, List.set_cons_zero, List.set_cons_succ])
    | (refine walksB_read (v := ?_) rfl rfl (fun w' hE => ?_) ?_; rotate_left 1; (· ((try (have hEx := Below.trans (Hid.out XB) hE)); go_simp; (try go_bits); with_reducible rfl)); simp only [Act.put, List.setIfInBounds_toArray, List.set_cons_zero, List.set_cons_succ])
    | (refine walksB_main rfl rfl (fun K hK => ?_); (first | (refine append_bytes_wp (.tmp 168) (.tmp 171) rfl _ _ _ _ rfl HS3.out _ _ _ _ rfl HS4.out (by have h3 := HN3.out; have h4 := HN4.out; have b0 := B0.out; have b1 := B1.out; have b2 := B2.out; have b3 := B3.out; have b4 := B4.out; omega) HB3.out ?_; intro A5 c5 w5 ho5 hb5; have HS5 := hid (own_base ho5 HB0.out); have HN5 := hid (app_len HN3.out HN4.out); have hy5 := Below.mono hb5 HB0.out; clear ho5 hb5; have XB' := hid (Below.trans (Hid.out XB) (hy5)); clear XB; have XB := XB'; clear XB')); refine hK _ _ (by first | assumption | exact Below.refl _ _) ?_; clear hK K; try simp only [Act.put, List.setIfInBounds_toArray, List.set_cons_zero, List.set_cons_succ])
    | (refine walksB_alt ?_ ?_)
    | (refine walksB_main rfl rfl (fun K hK => ?_); go_wp2_with (first | (go_at_call 67; have tok := HS3; clear tok; have hXX := Ext.trans X1.out (Below.trans XF.out XB.out); (with_reducible refine (rtext_own _ _ HM.out).mono ?_); clear hXX; rintro e w4 ⟨A4, n4, c4, rfl, hn4, hs4, hx4⟩; have HS4 := hid (own_sl hs4); have HN4 := hid hn4; have HS3 := hid (own_ext HS3.out hx4); have HB3 := hid (Nat.le_trans HB3.out (ext_sz hx4)); have hy4 := Below.mono hx4 (Nat.le_trans (Below.size XF.out) (Below.size XB.out)); clear hs4 hn4 hx4; have XB' := hid (Below.trans (Hid.out XB) (hy4)); clear XB; have XB := XB'; clear XB') | (go_at_call 63; (with_reducible refine (rinteger_own 10 10 rfl _ _ HC.out).mono ?_); rintro e w3 ⟨A3, n3, c3, rfl, hn3, hs3, hx3⟩; have HS3 := hid hs3; have HN3 := hid hn3; have HB3 := hid (ext_sz hx3); have HB0 := hid (Nat.le_trans (Below.size XF.out) (Below.size XB.out)); have hy3 := Below.mono hx3 HB0.out; clear hs3 hn3 hx3; have XB' := hid (Below.trans (Hid.out XB) (hy3)); clear XB; have XB := XB'; clear XB')); refine hK _ _ (by first | assumption | exact Below.refl _ _) ?_; clear hK K; try simp only [Act.put, List.setIfInBounds_toArray, List.set_cons_zero, List.set_cons_succ]))
  refine walksB_done ?_
  have HAc := hid (Acc.mk HS5.out HN5.out (Below.trans XF.out XB.out))
  clear p27
  clear p28
  (try clear y29); have y29 := (boxCell Hg1.out 29 hcs rfl).ext HAc.out.ext; skip
  by_cases hz : d.refs.n = 0
  all_goals
    have HZ := hid hz
    first
      | (have z0 : ¬ (0 < (d.refs.n : Int)) := (by omega); clear hz; have tok0 := z0; clear tok0)
      | (have z0 : 0 < (d.refs.n : Int) := (by omega); clear hz)
    go_wp2_with (first | (go_at_call 67; (with_reducible refine (rtext_own _ _ HT.out).mono ?_); rintro e w6 ⟨A6, n6, c6, rfl, hn6, hs6, hx6⟩; have HSd := hid (own_sl hs6); have HAc := hid (HAc.out.later hx6); clear hs6 hn6 hx6) | (at_builtin; refine append_bytes rfl (.tmp 173) (.tmp 176) rfl w1.heap.size _ _ _ rfl HAc.out.own _ _ _ _ rfl HSd.out (by have h1 := HAc.out.len; have h2 := HSd.out.len; simp only [List.length_append] at h1; have b0 := B0.out; have b1 := B1.out; have b2 := B2.out; have b3 := B3.out; have b4 := B4.out; omega) (ext_sz HAc.out.ext) ?_; intro v8 w8 ho8 hb8 _ _; obtain ⟨A8, c8, rfl⟩ := own_form ho8; have HAc := hid (HAc.out.push HSd.out ho8 hb8); clear HSd; (try clear y30); have y30 := (boxCell Hg1.out 30 hcs rfl).ext HAc.out.ext; clear ho8 hb8) | (go_at_call 84; have hXX := Ext.trans X1.out HAc.out.ext; (with_reducible refine (rtexts_any (Hm.out.refs.ext hXX) HA2.out HA3.out).mono ?_); clear hXX; rintro e w6 ⟨A6, n6, c6, rfl, hn6, hs6, hx6⟩; have HSd := hid (own_sl hs6); have HNd := hid hn6; have HAc := hid (HAc.out.later hx6); clear hs6 hn6 hx6) | (go_at_call 64; (with_reducible refine (rfield_own 163 163 rfl _ _ _ _ _ HSd.out (by have h1 := HNd.out; have h2 := B4.out; omega)).mono ?_); rintro e w6 ⟨A6, n6, c6, rfl, hn6, hs6, hx6⟩; have HSd := hid (own_sl hs6); have HAc := hid (HAc.out.later hx6); clear hs6 hn6 hx6) | (at_builtin; refine append_bytes rfl (.tmp 182) (.tmp 186) rfl w1.heap.size _ _ _ rfl HAc.out.own _ _ _ _ rfl HSd.out (by have h1 := HAc.out.len; have h2 := HSd.out.len; simp only [List.length_append] at h1; have b0 := B0.out; have b1 := B1.out; have b2 := B2.out; have b3 := B3.out; have b4 := B4.out; omega) (ext_sz HAc.out.ext) ?_; intro v8 w8 ho8 hb8 _ _; obtain ⟨A8, c8, rfl⟩ := own_form ho8; have HAc := hid (HAc.out.push HSd.out ho8 hb8); clear HSd; clear ho8 hb8))
    go_ret
    refine ⟨_, _, _, rfl, ?_, X1.out.trans HAc.out.ext⟩
    rw [HL.out]
    have h9 := HAc.out.sl
    first | rw [ansL_no (by rw [← hrl.out]; exact HZ.out)] | rw [ansL_yes (by rw [← hrl.out]; exact HZ.out)]
    simpa [List.append_assoc] using h9
set_option maxHeartbeats 1000000 in
theorem content_13 {m : Msg} {d : MsgD} {cs : Array Value} {S : Nat → Prop} (hcs : Hid (cs = (msgCells m d).toArray)) (w : World) (hm : MsgRows S w m d) (hf : MsgFits m) (hk : m.kind = 13) :
    Calls Try.prog 66 #[.agg cs] w (SlNew w (partsL m).flatten) := by
  have HL : Hid ((partsL m).flatten = (ansL m).flatten) := by show _ = _; unfold partsL; rw [hk]; rfl
  have Hm := hid hm
  have HC := hid hf.ok.code
  have HM := hid hf.ok.matched
  have HT := hid hf.ok.text
  have HA2 := hid hf.ok.refs.2
  have HA3 : Hid ((textsB m.refs).length ≤ 140737488350000) := hid (Nat.le_trans (texts_len (t := 4) hf.ok.refs) (show 1100000000000 ≤ 140737488350000 by decide))
  have hrl := hid hm.refs.len
  have B0 : Hid ((fieldB 10 (intB m.code)).length ≤ 14) := by show _ ≤ _; exact intF_len 10 m.code
  have B1 : Hid ((textB 4 m.matched).length ≤ 1100000) := by show _ ≤ _; have h1 := textB_len 4 m.matched; have h2 := hf.ok.matched; omega
  have B2 : Hid ((textB 4 m.text).length ≤ 1100000) := by show _ ≤ _; have h1 := textB_len 4 m.text; have h2 := hf.ok.text; omega
  have B3 : Hid ((fieldB 163 (textsB m.refs)).length ≤ 1200000000000) := by show _ ≤ _; have h1 := texts_len (t := 4) hf.ok.refs; have h2 := fieldB_length 163 (textsB m.refs); have h3 : (textsB m.refs).length = (m.refs.map (textB 4)).flatten.length := rfl; omega
  have B4 : Hid ((textsB m.refs).length ≤ 1200000000000) := by show _ ≤ _; have h1 := texts_len (t := 4) hf.ok.refs; have h3 : (textsB m.refs).length = (m.refs.map (textB 4)).flatten.length := rfl; omega
  have t0 : (m.kind == 0) = false := by rw [hk]; rfl
  have t3 : (m.kind == 3) = false := by rw [hk]; rfl
  have t6 : (m.kind == 6) = false := by rw [hk]; rfl
  have t4 : (m.kind == 4) = false := by rw [hk]; rfl
  have t8 : (m.kind == 8) = false := by rw [hk]; rfl
  have t10 : (m.kind == 10) = false := by rw [hk]; rfl
  have t12 : (m.kind == 12) = false := by rw [hk]; rfl
  have t14 : (m.kind == 14) = false := by rw [hk]; rfl
  have t16 : (m.kind == 16) = false := by rw [hk]; rfl
  have t19 : (m.kind == 19) = false := by rw [hk]; rfl
  have t1 : (m.kind == 1) = false := by rw [hk]; rfl
  have t5 : (m.kind == 5) = false := by rw [hk]; rfl
  have t7 : (m.kind == 7) = false := by rw [hk]; rfl
  have t9 : (m.kind == 9) = false := by rw [hk]; rfl
  have t11 : (m.kind == 11) = false := by rw [hk]; rfl
  have t13 : (m.kind == 13) = true := by rw [hk]; rfl
  clear hm hf hk
  go_enter Try.func66, Try.ntmps66
  go_wp2_with (refine box_arm rfl 30 (.tmp 0) rfl cs rfl ?_; intro w1 hx1 hz1 hg1; have Hg1 := hid hg1; have X1 := hid hx1; have y1 := (boxCell hg1 1 hcs rfl).out; clear hz1 hg1 hx1)
  refine wp_region_planB w1.heap.size (.read 0 (.read 1 (.read 3 (.read 4 (.main 2 (.main 5 (.main 6 (.read 7 .done)))))))) (by kernel_rfl) (by kernel_rfl) ?_
  intro wD hxD
  have XB : Hid (Below w1.heap.size wD wD) := Below.refl _ _
  have XF : Hid (Below w1.heap.size w1 wD) := hxD
  have p27 := cell_laterB (boxCell Hg1.out 27 hcs rfl).out (Nat.le_refl _) XF.out
  have p28 := cell_laterB (boxCell Hg1.out 28 hcs rfl).out (Nat.le_refl _) XF.out
  repeat' (first
    | (refine walksB_move rfl rfl ?_; simp only [Act.put, Act.eval, List.setIfInBounds_toArray, List.set_cons_zero, List.set_cons_succ, Array.getD_eq_getD_getElem?, List.getElem?_toArray, List.getElem?_cons_zero, List.getElem?_cons_succ, Option.getD_some])
    | (refine walksB_assign rfl rfl ?_; simp only [Act.put, Act.eval, List.setIfInBounds_toArray, List.set_cons_zero, List.set_cons_succ, Array.getD_eq_getD_getElem?, List.getElem?_toArray, List.getElem?_cons_zero, List.getElem?_cons_succ, Option.getD_some])
    | (refine walksB_skip rfl rfl ?_; simp only [Act.put, List.setIfInBounds_toArray, List.set_cons_zero, List.set_cons_succ])
    | (refine walksB_unwanted rfl rfl ?_; simp only [Act.put, List.setIfInBounds_toArray, List.set_cons_zero, List.set_cons_succ])
    | (refine walksB_read (v := ?_) rfl rfl (fun w' hE => ?_) ?_; rotate_left 1; (· ((try (have hEx := Below.trans (Hid.out XB) hE)); go_simp; (try go_bits); with_reducible rfl)); simp only [Act.put, List.setIfInBounds_toArray, List.set_cons_zero, List.set_cons_succ])
    | (refine walksB_main rfl rfl (fun K hK => ?_); (first | (refine append_bytes_wp (.tmp 168) (.tmp 171) rfl _ _ _ _ rfl HS3.out _ _ _ _ rfl HS4.out (by have h3 := HN3.out; have h4 := HN4.out; have b0 := B0.out; have b1 := B1.out; have b2 := B2.out; have b3 := B3.out; have b4 := B4.out; omega) HB3.out ?_; intro A5 c5 w5 ho5 hb5; have HS5 := hid (own_base ho5 HB0.out); have HN5 := hid (app_len HN3.out HN4.out); have hy5 := Below.mono hb5 HB0.out; clear ho5 hb5; have XB' := hid (Below.trans (Hid.out XB) (hy5)); clear XB; have XB := XB'; clear XB')); refine hK _ _ (by first | assumption | exact Below.refl _ _) ?_; clear hK K; try simp only [Act.put, List.setIfInBounds_toArray, List.set_cons_zero, List.set_cons_succ])
    | (refine walksB_alt ?_ ?_)
    | (refine walksB_main rfl rfl (fun K hK => ?_); go_wp2_with (first | (go_at_call 67; have tok := HS3; clear tok; have hXX := Ext.trans X1.out (Below.trans XF.out XB.out); (with_reducible refine (rtext_own _ _ HM.out).mono ?_); clear hXX; rintro e w4 ⟨A4, n4, c4, rfl, hn4, hs4, hx4⟩; have HS4 := hid (own_sl hs4); have HN4 := hid hn4; have HS3 := hid (own_ext HS3.out hx4); have HB3 := hid (Nat.le_trans HB3.out (ext_sz hx4)); have hy4 := Below.mono hx4 (Nat.le_trans (Below.size XF.out) (Below.size XB.out)); clear hs4 hn4 hx4; have XB' := hid (Below.trans (Hid.out XB) (hy4)); clear XB; have XB := XB'; clear XB') | (go_at_call 63; (with_reducible refine (rinteger_own 10 10 rfl _ _ HC.out).mono ?_); rintro e w3 ⟨A3, n3, c3, rfl, hn3, hs3, hx3⟩; have HS3 := hid hs3; have HN3 := hid hn3; have HB3 := hid (ext_sz hx3); have HB0 := hid (Nat.le_trans (Below.size XF.out) (Below.size XB.out)); have hy3 := Below.mono hx3 HB0.out; clear hs3 hn3 hx3; have XB' := hid (Below.trans (Hid.out XB) (hy3)); clear XB; have XB := XB'; clear XB')); refine hK _ _ (by first | assumption | exact Below.refl _ _) ?_; clear hK K; try simp only [Act.put, List.setIfInBounds_toArray, List.set_cons_zero, List.set_cons_succ]))
  refine walksB_done ?_
  have HAc := hid (Acc.mk HS5.out HN5.out (Below.trans XF.out XB.out))
  clear p27
  clear p28
  (try clear y29); have y29 := (boxCell Hg1.out 29 hcs rfl).ext HAc.out.ext; skip
  by_cases hz : d.refs.n = 0
  all_goals
    have HZ := hid hz
    first
      | (have z0 : ¬ (0 < (d.refs.n : Int)) := (by omega); clear hz; have tok0 := z0; clear tok0)
      | (have z0 : 0 < (d.refs.n : Int) := (by omega); clear hz)
    go_wp2_with (first | (go_at_call 67; (with_reducible refine (rtext_own _ _ HT.out).mono ?_); rintro e w6 ⟨A6, n6, c6, rfl, hn6, hs6, hx6⟩; have HSd := hid (own_sl hs6); have HAc := hid (HAc.out.later hx6); clear hs6 hn6 hx6) | (at_builtin; refine append_bytes rfl (.tmp 173) (.tmp 176) rfl w1.heap.size _ _ _ rfl HAc.out.own _ _ _ _ rfl HSd.out (by have h1 := HAc.out.len; have h2 := HSd.out.len; simp only [List.length_append] at h1; have b0 := B0.out; have b1 := B1.out; have b2 := B2.out; have b3 := B3.out; have b4 := B4.out; omega) (ext_sz HAc.out.ext) ?_; intro v8 w8 ho8 hb8 _ _; obtain ⟨A8, c8, rfl⟩ := own_form ho8; have HAc := hid (HAc.out.push HSd.out ho8 hb8); clear HSd; (try clear y30); have y30 := (boxCell Hg1.out 30 hcs rfl).ext HAc.out.ext; clear ho8 hb8) | (go_at_call 84; have hXX := Ext.trans X1.out HAc.out.ext; (with_reducible refine (rtexts_any (Hm.out.refs.ext hXX) HA2.out HA3.out).mono ?_); clear hXX; rintro e w6 ⟨A6, n6, c6, rfl, hn6, hs6, hx6⟩; have HSd := hid (own_sl hs6); have HNd := hid hn6; have HAc := hid (HAc.out.later hx6); clear hs6 hn6 hx6) | (go_at_call 64; (with_reducible refine (rfield_own 163 163 rfl _ _ _ _ _ HSd.out (by have h1 := HNd.out; have h2 := B4.out; omega)).mono ?_); rintro e w6 ⟨A6, n6, c6, rfl, hn6, hs6, hx6⟩; have HSd := hid (own_sl hs6); have HAc := hid (HAc.out.later hx6); clear hs6 hn6 hx6) | (at_builtin; refine append_bytes rfl (.tmp 182) (.tmp 186) rfl w1.heap.size _ _ _ rfl HAc.out.own _ _ _ _ rfl HSd.out (by have h1 := HAc.out.len; have h2 := HSd.out.len; simp only [List.length_append] at h1; have b0 := B0.out; have b1 := B1.out; have b2 := B2.out; have b3 := B3.out; have b4 := B4.out; omega) (ext_sz HAc.out.ext) ?_; intro v8 w8 ho8 hb8 _ _; obtain ⟨A8, c8, rfl⟩ := own_form ho8; have HAc := hid (HAc.out.push HSd.out ho8 hb8); clear HSd; clear ho8 hb8))
    go_ret
    refine ⟨_, _, _, rfl, ?_, X1.out.trans HAc.out.ext⟩
    rw [HL.out]
    have h9 := HAc.out.sl
    first | rw [ansL_no (by rw [← hrl.out]; exact HZ.out)] | rw [ansL_yes (by rw [← hrl.out]; exact HZ.out)]
    simpa [List.append_assoc] using h9
set_option maxHeartbeats 1000000 in
theorem content_15 {m : Msg} {d : MsgD} {cs : Array Value} {S : Nat → Prop} (hcs : Hid (cs = (msgCells m d).toArray)) (w : World) (hm : MsgRows S w m d) (hf : MsgFits m) (hk : m.kind = 15) :
    Calls Try.prog 66 #[.agg cs] w (SlNew w (partsL m).flatten) := by
  have HL : Hid ((partsL m).flatten = (ansL m).flatten) := by show _ = _; unfold partsL; rw [hk]; rfl
  have Hm := hid hm
  have HC := hid hf.ok.code
  have HM := hid hf.ok.matched
  have HT := hid hf.ok.text
  have HA2 := hid hf.ok.refs.2
  have HA3 : Hid ((textsB m.refs).length ≤ 140737488350000) := hid (Nat.le_trans (texts_len (t := 4) hf.ok.refs) (show 1100000000000 ≤ 140737488350000 by decide))
  have hrl := hid hm.refs.len
  have B0 : Hid ((fieldB 10 (intB m.code)).length ≤ 14) := by show _ ≤ _; exact intF_len 10 m.code
  have B1 : Hid ((textB 4 m.matched).length ≤ 1100000) := by show _ ≤ _; have h1 := textB_len 4 m.matched; have h2 := hf.ok.matched; omega
  have B2 : Hid ((textB 4 m.text).length ≤ 1100000) := by show _ ≤ _; have h1 := textB_len 4 m.text; have h2 := hf.ok.text; omega
  have B3 : Hid ((fieldB 163 (textsB m.refs)).length ≤ 1200000000000) := by show _ ≤ _; have h1 := texts_len (t := 4) hf.ok.refs; have h2 := fieldB_length 163 (textsB m.refs); have h3 : (textsB m.refs).length = (m.refs.map (textB 4)).flatten.length := rfl; omega
  have B4 : Hid ((textsB m.refs).length ≤ 1200000000000) := by show _ ≤ _; have h1 := texts_len (t := 4) hf.ok.refs; have h3 : (textsB m.refs).length = (m.refs.map (textB 4)).flatten.length := rfl; omega
  have t0 : (m.kind == 0) = false := by rw [hk]; rfl
  have t3 : (m.kind == 3) = false := by rw [hk]; rfl
  have t6 : (m.kind == 6) = false := by rw [hk]; rfl
  have t4 : (m.kind == 4) = false := by rw [hk]; rfl
  have t8 : (m.kind == 8) = false := by rw [hk]; rfl
  have t10 : (m.kind == 10) = false := by rw [hk]; rfl
  have t12 : (m.kind == 12) = false := by rw [hk]; rfl
  have t14 : (m.kind == 14) = false := by rw [hk]; rfl
  have t16 : (m.kind == 16) = false := by rw [hk]; rfl
  have t19 : (m.kind == 19) = false := by rw [hk]; rfl
  have t1 : (m.kind == 1) = false := by rw [hk]; rfl
  have t5 : (m.kind == 5) = false := by rw [hk]; rfl
  have t7 : (m.kind == 7) = false := by rw [hk]; rfl
  have t9 : (m.kind == 9) = false := by rw [hk]; rfl
  have t11 : (m.kind == 11) = false := by rw [hk]; rfl
  have t13 : (m.kind == 13) = false := by rw [hk]; rfl
  have t15 : (m.kind == 15) = true := by rw [hk]; rfl
  clear hm hf hk
  go_enter Try.func66, Try.ntmps66
  go_wp2_with (refine box_arm rfl 30 (.tmp 0) rfl cs rfl ?_; intro w1 hx1 hz1 hg1; have Hg1 := hid hg1; have X1 := hid hx1; have y1 := (boxCell hg1 1 hcs rfl).out; clear hz1 hg1 hx1)
  refine wp_region_planB w1.heap.size (.read 0 (.read 1 (.read 3 (.read 4 (.main 2 (.main 5 (.main 6 (.read 7 .done)))))))) (by kernel_rfl) (by kernel_rfl) ?_
  intro wD hxD
  have XB : Hid (Below w1.heap.size wD wD) := Below.refl _ _
  have XF : Hid (Below w1.heap.size w1 wD) := hxD
  have p27 := cell_laterB (boxCell Hg1.out 27 hcs rfl).out (Nat.le_refl _) XF.out
  have p28 := cell_laterB (boxCell Hg1.out 28 hcs rfl).out (Nat.le_refl _) XF.out
  repeat' (first
    | (refine walksB_move rfl rfl ?_; simp only [Act.put, Act.eval, List.setIfInBounds_toArray, List.set_cons_zero, List.set_cons_succ, Array.getD_eq_getD_getElem?, List.getElem?_toArray, List.getElem?_cons_zero, List.getElem?_cons_succ, Option.getD_some])
    | (refine walksB_assign rfl rfl ?_; simp only [Act.put, Act.eval, List.setIfInBounds_toArray, List.set_cons_zero, List.set_cons_succ, Array.getD_eq_getD_getElem?, List.getElem?_toArray, List.getElem?_cons_zero, List.getElem?_cons_succ, Option.getD_some])
    | (refine walksB_skip rfl rfl ?_; simp only [Act.put, List.setIfInBounds_toArray, List.set_cons_zero, List.set_cons_succ])
    | (refine walksB_unwanted rfl rfl ?_; simp only [Act.put, List.setIfInBounds_toArray, List.set_cons_zero, List.set_cons_succ])
    | (refine walksB_read (v := ?_) rfl rfl (fun w' hE => ?_) ?_; rotate_left 1; (· ((try (have hEx := Below.trans (Hid.out XB) hE)); go_simp; (try go_bits); with_reducible rfl)); simp only [Act.put, List.setIfInBounds_toArray, List.set_cons_zero, List.set_cons_succ])
    | (refine walksB_main rfl rfl (fun K hK => ?_); (first | (refine append_bytes_wp (.tmp 168) (.tmp 171) rfl _ _ _ _ rfl HS3.out _ _ _ _ rfl HS4.out (by have h3 := HN3.out; have h4 := HN4.out; have b0 := B0.out; have b1 := B1.out; have b2 := B2.out; have b3 := B3.out; have b4 := B4.out; omega) HB3.out ?_; intro A5 c5 w5 ho5 hb5; have HS5 := hid (own_base ho5 HB0.out); have HN5 := hid (app_len HN3.out HN4.out); have hy5 := Below.mono hb5 HB0.out; clear ho5 hb5; have XB' := hid (Below.trans (Hid.out XB) (hy5)); clear XB; have XB := XB'; clear XB')); refine hK _ _ (by first | assumption | exact Below.refl _ _) ?_; clear hK K; try simp only [Act.put, List.setIfInBounds_toArray, List.set_cons_zero, List.set_cons_succ])
    | (refine walksB_alt ?_ ?_)
    | (refine walksB_main rfl rfl (fun K hK => ?_); go_wp2_with (first | (go_at_call 67; have tok := HS3; clear tok; have hXX := Ext.trans X1.out (Below.trans XF.out XB.out); (with_reducible refine (rtext_own _ _ HM.out).mono ?_); clear hXX; rintro e w4 ⟨A4, n4, c4, rfl, hn4, hs4, hx4⟩; have HS4 := hid (own_sl hs4); have HN4 := hid hn4; have HS3 := hid (own_ext HS3.out hx4); have HB3 := hid (Nat.le_trans HB3.out (ext_sz hx4)); have hy4 := Below.mono hx4 (Nat.le_trans (Below.size XF.out) (Below.size XB.out)); clear hs4 hn4 hx4; have XB' := hid (Below.trans (Hid.out XB) (hy4)); clear XB; have XB := XB'; clear XB') | (go_at_call 63; (with_reducible refine (rinteger_own 10 10 rfl _ _ HC.out).mono ?_); rintro e w3 ⟨A3, n3, c3, rfl, hn3, hs3, hx3⟩; have HS3 := hid hs3; have HN3 := hid hn3; have HB3 := hid (ext_sz hx3); have HB0 := hid (Nat.le_trans (Below.size XF.out) (Below.size XB.out)); have hy3 := Below.mono hx3 HB0.out; clear hs3 hn3 hx3; have XB' := hid (Below.trans (Hid.out XB) (hy3)); clear XB; have XB := XB'; clear XB')); refine hK _ _ (by first | assumption | exact Below.refl _ _) ?_; clear hK K; try simp only [Act.put, List.setIfInBounds_toArray, List.set_cons_zero, List.set_cons_succ]))
  refine walksB_done ?_
  have HAc := hid (Acc.mk HS5.out HN5.out (Below.trans XF.out XB.out))
  clear p27
  clear p28
  (try clear y29); have y29 := (boxCell Hg1.out 29 hcs rfl).ext HAc.out.ext; skip
  by_cases hz : d.refs.n = 0
  all_goals
    have HZ := hid hz
    first
      | (have z0 : ¬ (0 < (d.refs.n : Int)) := (by omega); clear hz; have tok0 := z0; clear tok0)
      | (have z0 : 0 < (d.refs.n : Int) := (by omega); clear hz)
    go_wp2_with (first | (go_at_call 67; (with_reducible refine (rtext_own _ _ HT.out).mono ?_); rintro e w6 ⟨A6, n6, c6, rfl, hn6, hs6, hx6⟩; have HSd := hid (own_sl hs6); have HAc := hid (HAc.out.later hx6); clear hs6 hn6 hx6) | (at_builtin; refine append_bytes rfl (.tmp 173) (.tmp 176) rfl w1.heap.size _ _ _ rfl HAc.out.own _ _ _ _ rfl HSd.out (by have h1 := HAc.out.len; have h2 := HSd.out.len; simp only [List.length_append] at h1; have b0 := B0.out; have b1 := B1.out; have b2 := B2.out; have b3 := B3.out; have b4 := B4.out; omega) (ext_sz HAc.out.ext) ?_; intro v8 w8 ho8 hb8 _ _; obtain ⟨A8, c8, rfl⟩ := own_form ho8; have HAc := hid (HAc.out.push HSd.out ho8 hb8); clear HSd; (try clear y30); have y30 := (boxCell Hg1.out 30 hcs rfl).ext HAc.out.ext; clear ho8 hb8) | (go_at_call 84; have hXX := Ext.trans X1.out HAc.out.ext; (with_reducible refine (rtexts_any (Hm.out.refs.ext hXX) HA2.out HA3.out).mono ?_); clear hXX; rintro e w6 ⟨A6, n6, c6, rfl, hn6, hs6, hx6⟩; have HSd := hid (own_sl hs6); have HNd := hid hn6; have HAc := hid (HAc.out.later hx6); clear hs6 hn6 hx6) | (go_at_call 64; (with_reducible refine (rfield_own 163 163 rfl _ _ _ _ _ HSd.out (by have h1 := HNd.out; have h2 := B4.out; omega)).mono ?_); rintro e w6 ⟨A6, n6, c6, rfl, hn6, hs6, hx6⟩; have HSd := hid (own_sl hs6); have HAc := hid (HAc.out.later hx6); clear hs6 hn6 hx6) | (at_builtin; refine append_bytes rfl (.tmp 182) (.tmp 186) rfl w1.heap.size _ _ _ rfl HAc.out.own _ _ _ _ rfl HSd.out (by have h1 := HAc.out.len; have h2 := HSd.out.len; simp only [List.length_append] at h1; have b0 := B0.out; have b1 := B1.out; have b2 := B2.out; have b3 := B3.out; have b4 := B4.out; omega) (ext_sz HAc.out.ext) ?_; intro v8 w8 ho8 hb8 _ _; obtain ⟨A8, c8, rfl⟩ := own_form ho8; have HAc := hid (HAc.out.push HSd.out ho8 hb8); clear HSd; clear ho8 hb8))
    go_ret
    refine ⟨_, _, _, rfl, ?_, X1.out.trans HAc.out.ext⟩
    rw [HL.out]
    have h9 := HAc.out.sl
    first | rw [ansL_no (by rw [← hrl.out]; exact HZ.out)] | rw [ansL_yes (by rw [← hrl.out]; exact HZ.out)]
    simpa [List.append_assoc] using h9
set_option maxHeartbeats 1000000 in
theorem content_24 {m : Msg} {d : MsgD} {cs : Array Value} {S : Nat → Prop} (hcs : Hid (cs = (msgCells m d).toArray)) (w : World) (hm : MsgRows S w m d) (hf : MsgFits m) (hk : m.kind = 24) :
    Calls Try.prog 66 #[.agg cs] w (SlNew w (partsL m).flatten) := by
  have HL : Hid ((partsL m).flatten = (ansL m).flatten) := by show _ = _; unfold partsL; rw [hk]; rfl
  have Hm := hid hm
  have HC := hid hf.ok.code
  have HM := hid hf.ok.matched
  have HT := hid hf.ok.text
  have HA2 := hid hf.ok.refs.2
  have HA3 : Hid ((textsB m.refs).length ≤ 140737488350000) := hid (Nat.le_trans (texts_len (t := 4) hf.ok.refs) (show 1100000000000 ≤ 140737488350000 by decide))
  have hrl := hid hm.refs.len
  have B0 : Hid ((fieldB 10 (intB m.code)).length ≤ 14) := by show _ ≤ _; exact intF_len 10 m.code
  have B1 : Hid ((textB 4 m.matched).length ≤ 1100000) := by show _ ≤ _; have h1 := textB_len 4 m.matched; have h2 := hf.ok.matched; omega
  have B2 : Hid ((textB 4 m.text).length ≤ 1100000) := by show _ ≤ _; have h1 := textB_len 4 m.text; have h2 := hf.ok.text; omega
  have B3 : Hid ((fieldB 163 (textsB m.refs)).length ≤ 1200000000000) := by show _ ≤ _; have h1 := texts_len (t := 4) hf.ok.refs; have h2 := fieldB_length 163 (textsB m.refs); have h3 : (textsB m.refs).length = (m.refs.map (textB 4)).flatten.length := rfl; omega
  have B4 : Hid ((textsB m.refs).length ≤ 1200000000000) := by show _ ≤ _; have h1 := texts_len (t := 4) hf.ok.refs; have h3 : (textsB m.refs).length = (m.refs.map (textB 4)).flatten.length := rfl; omega
  have t0 : (m.kind == 0) = false := by rw [hk]; rfl
  have t3 : (m.kind == 3) = false := by rw [hk]; rfl
  have t6 : (m.kind == 6) = false := by rw [hk]; rfl
  have t4 : (m.kind == 4) = false := by rw [hk]; rfl
  have t8 : (m.kind == 8) = false := by rw [hk]; rfl
  have t10 : (m.kind == 10) = false := by rw [hk]; rfl
  have t12 : (m.kind == 12) = false := by rw [hk]; rfl
  have t14 : (m.kind == 14) = false := by rw [hk]; rfl
  have t16 : (m.kind == 16) = false := by rw [hk]; rfl
  have t19 : (m.kind == 19) = false := by rw [hk]; rfl
  have t1 : (m.kind == 1) = false := by rw [hk]; rfl
  have t5 : (m.kind == 5) = false := by rw [hk]; rfl
  have t7 : (m.kind == 7) = false := by rw [hk]; rfl
  have t9 : (m.kind == 9) = false := by rw [hk]; rfl
  have t11 : (m.kind == 11) = false := by rw [hk]; rfl
  have t13 : (m.kind == 13) = false := by rw [hk]; rfl
  have t15 : (m.kind == 15) = false := by rw [hk]; rfl
  have t24 : (m.kind == 24) = true := by rw [hk]; rfl
  clear hm hf hk
  go_enter Try.func66, Try.ntmps66
  go_wp2_with (refine box_arm rfl 30 (.tmp 0) rfl cs rfl ?_; intro w1 hx1 hz1 hg1; have Hg1 := hid hg1; have X1 := hid hx1; have y1 := (boxCell hg1 1 hcs rfl).out; clear hz1 hg1 hx1)
  refine wp_region_planB w1.heap.size (.read 0 (.read 1 (.read 3 (.read 4 (.main 2 (.main 5 (.main 6 (.read 7 .done)))))))) (by kernel_rfl) (by kernel_rfl) ?_
  intro wD hxD
  have XB : Hid (Below w1.heap.size wD wD) := Below.refl _ _
  have XF : Hid (Below w1.heap.size w1 wD) := hxD
  have p27 := cell_laterB (boxCell Hg1.out 27 hcs rfl).out (Nat.le_refl _) XF.out
  have p28 := cell_laterB (boxCell Hg1.out 28 hcs rfl).out (Nat.le_refl _) XF.out
  repeat' (first
    | (refine walksB_move rfl rfl ?_; simp only [Act.put, Act.eval, List.setIfInBounds_toArray, List.set_cons_zero, List.set_cons_succ, Array.getD_eq_getD_getElem?, List.getElem?_toArray, List.getElem?_cons_zero, List.getElem?_cons_succ, Option.getD_some])
    | (refine walksB_assign rfl rfl ?_; simp only [Act.put, Act.eval, List.setIfInBounds_toArray, List.set_cons_zero, List.set_cons_succ, Array.getD_eq_getD_getElem?, List.getElem?_toArray, List.getElem?_cons_zero, List.getElem?_cons_succ, Option.getD_some])
    | (refine walksB_skip rfl rfl ?_; simp only [Act.put, List.setIfInBounds_toArray, List.set_cons_zero, List.set_cons_succ])
    | (refine walksB_unwanted rfl rfl ?_; simp only [Act.put, List.setIfInBounds_toArray, List.set_cons_zero, List.set_cons_succ])
    | (refine walksB_read (v := ?_) rfl rfl (fun w' hE => ?_) ?_; rotate_left 1; (· ((try (have hEx := Below.trans (Hid.out XB) hE)); go_simp; (try go_bits); with_reducible rfl)); simp only [Act.put, List.setIfInBounds_toArray, List.set_cons_zero, List.set_cons_succ])
    | (refine walksB_main rfl rfl (fun K hK => ?_); (first | (refine append_bytes_wp (.tmp 168) (.tmp 171) rfl _ _ _ _ rfl HS3.out _ _ _ _ rfl HS4.out (by have h3 := HN3.out; have h4 := HN4.out; have b0 := B0.out; have b1 := B1.out; have b2 := B2.out; have b3 := B3.out; have b4 := B4.out; omega) HB3.out ?_; intro A5 c5 w5 ho5 hb5; have HS5 := hid (own_base ho5 HB0.out); have HN5 := hid (app_len HN3.out HN4.out); have hy5 := Below.mono hb5 HB0.out; clear ho5 hb5; have XB' := hid (Below.trans (Hid.out XB) (hy5)); clear XB; have XB := XB'; clear XB')); refine hK _ _ (by first | assumption | exact Below.refl _ _) ?_; clear hK K; try simp only [Act.put, List.setIfInBounds_toArray, List.set_cons_zero, List.set_cons_succ])
    | (refine walksB_alt ?_ ?_)
    | (refine walksB_main rfl rfl (fun K hK => ?_); go_wp2_with (first | (go_at_call 67; have tok := HS3; clear tok; have hXX := Ext.trans X1.out (Below.trans XF.out XB.out); (with_reducible refine (rtext_own _ _ HM.out).mono ?_); clear hXX; rintro e w4 ⟨A4, n4, c4, rfl, hn4, hs4, hx4⟩; have HS4 := hid (own_sl hs4); have HN4 := hid hn4; have HS3 := hid (own_ext HS3.out hx4); have HB3 := hid (Nat.le_trans HB3.out (ext_sz hx4)); have hy4 := Below.mono hx4 (Nat.le_trans (Below.size XF.out) (Below.size XB.out)); clear hs4 hn4 hx4; have XB' := hid (Below.trans (Hid.out XB) (hy4)); clear XB; have XB := XB'; clear XB') | (go_at_call 63; (with_reducible refine (rinteger_own 10 10 rfl _ _ HC.out).mono ?_); rintro e w3 ⟨A3, n3, c3, rfl, hn3, hs3, hx3⟩; have HS3 := hid hs3; have HN3 := hid hn3; have HB3 := hid (ext_sz hx3); have HB0 := hid (Nat.le_trans (Below.size XF.out) (Below.size XB.out)); have hy3 := Below.mono hx3 HB0.out; clear hs3 hn3 hx3; have XB' := hid (Below.trans (Hid.out XB) (hy3)); clear XB; have XB := XB'; clear XB')); refine hK _ _ (by first | assumption | exact Below.refl _ _) ?_; clear hK K; try simp only [Act.put, List.setIfInBounds_toArray, List.set_cons_zero, List.set_cons_succ]))
  refine walksB_done ?_
  have HAc := hid (Acc.mk HS5.out HN5.out (Below.trans XF.out XB.out))
  clear p27
  clear p28
  (try clear y29); have y29 := (boxCell Hg1.out 29 hcs rfl).ext HAc.out.ext; skip
  by_cases hz : d.refs.n = 0
  all_goals
    have HZ := hid hz
    first
      | (have z0 : ¬ (0 < (d.refs.n : Int)) := (by omega); clear hz; have tok0 := z0; clear tok0)
      | (have z0 : 0 < (d.refs.n : Int) := (by omega); clear hz)
    go_wp2_with (first | (go_at_call 67; (with_reducible refine (rtext_own _ _ HT.out).mono ?_); rintro e w6 ⟨A6, n6, c6, rfl, hn6, hs6, hx6⟩; have HSd := hid (own_sl hs6); have HAc := hid (HAc.out.later hx6); clear hs6 hn6 hx6) | (at_builtin; refine append_bytes rfl (.tmp 173) (.tmp 176) rfl w1.heap.size _ _ _ rfl HAc.out.own _ _ _ _ rfl HSd.out (by have h1 := HAc.out.len; have h2 := HSd.out.len; simp only [List.length_append] at h1; have b0 := B0.out; have b1 := B1.out; have b2 := B2.out; have b3 := B3.out; have b4 := B4.out; omega) (ext_sz HAc.out.ext) ?_; intro v8 w8 ho8 hb8 _ _; obtain ⟨A8, c8, rfl⟩ := own_form ho8; have HAc := hid (HAc.out.push HSd.out ho8 hb8); clear HSd; (try clear y30); have y30 := (boxCell Hg1.out 30 hcs rfl).ext HAc.out.ext; clear ho8 hb8) | (go_at_call 84; have hXX := Ext.trans X1.out HAc.out.ext; (with_reducible refine (rtexts_any (Hm.out.refs.ext hXX) HA2.out HA3.out).mono ?_); clear hXX; rintro e w6 ⟨A6, n6, c6, rfl, hn6, hs6, hx6⟩; have HSd := hid (own_sl hs6); have HNd := hid hn6; have HAc := hid (HAc.out.later hx6); clear hs6 hn6 hx6) | (go_at_call 64; (with_reducible refine (rfield_own 163 163 rfl _ _ _ _ _ HSd.out (by have h1 := HNd.out; have h2 := B4.out; omega)).mono ?_); rintro e w6 ⟨A6, n6, c6, rfl, hn6, hs6, hx6⟩; have HSd := hid (own_sl hs6); have HAc := hid (HAc.out.later hx6); clear hs6 hn6 hx6) | (at_builtin; refine append_bytes rfl (.tmp 182) (.tmp 186) rfl w1.heap.size _ _ _ rfl HAc.out.own _ _ _ _ rfl HSd.out (by have h1 := HAc.out.len; have h2 := HSd.out.len; simp only [List.length_append] at h1; have b0 := B0.out; have b1 := B1.out; have b2 := B2.out; have b3 := B3.out; have b4 := B4.out; omega) (ext_sz HAc.out.ext) ?_; intro v8 w8 ho8 hb8 _ _; obtain ⟨A8, c8, rfl⟩ := own_form ho8; have HAc := hid (HAc.out.push HSd.out ho8 hb8); clear HSd; clear ho8 hb8))
    go_ret
    refine ⟨_, _, _, rfl, ?_, X1.out.trans HAc.out.ext⟩
    rw [HL.out]
    have h9 := HAc.out.sl
    first | rw [ansL_no (by rw [← hrl.out]; exact HZ.out)] | rw [ansL_yes (by rw [← hrl.out]; exact HZ.out)]
    simpa [List.append_assoc] using h9
set_option maxHeartbeats 1000000 in
theorem content_14 {m : Msg} {d : MsgD} {cs : Array Value} {S : Nat → Prop} (hcs : Hid (cs = (msgCells m d).toArray)) (w : World) (hm : MsgRows S w m d) (hf : MsgFits m) (hk : m.kind = 14) :
    Calls Try.prog 66 #[.agg cs] w (SlNew w (partsL m).flatten) := by
  have HL : Hid ((partsL m).flatten = textB 4 m.name ++ fieldB 48 (textB 4 m.attr ++ textB 4 m.value)) := by show _ = _; unfold partsL; rw [hk]; simp
  have Hm := hid hm
  have HN := hid hf.ok.name
  have HA := hid hf.ok.attr
  have HV := hid hf.ok.value
  have HW : Hid ((textB 4 m.attr ++ textB 4 m.value).length ≤ 3000000) := by
    have e1 := textB_len 4 m.attr
    have e2 := textB_len 4 m.value
    have e3 := hf.ok.attr
    have e4 := hf.ok.value
    show _ ≤ _
    rw [List.length_append]
    omega
  have HX : Hid ((textB 4 m.name).length + (fieldB 48 (textB 4 m.attr ++ textB 4 m.value)).length ≤ 9000000) := by
    have e1 := textB_len 4 m.name
    have e2 := fieldB_length 48 (textB 4 m.attr ++ textB 4 m.value)
    have e3 := hf.ok.name
    have e4 := HW.out
    show _ ≤ _
    omega
  have t0 : (m.kind == 0) = false := by rw [hk]; rfl
  have t3 : (m.kind == 3) = false := by rw [hk]; rfl
  have t6 : (m.kind == 6) = false := by rw [hk]; rfl
  have t4 : (m.kind == 4) = false := by rw [hk]; rfl
  have t8 : (m.kind == 8) = false := by rw [hk]; rfl
  have t10 : (m.kind == 10) = false := by rw [hk]; rfl
  have t12 : (m.kind == 12) = false := by rw [hk]; rfl
  have t14 : (m.kind == 14) = true := by rw [hk]; rfl
  clear hm hf hk
  go_enter Try.func66, Try.ntmps66
  go_wp2_with (refine box_arm rfl 30 (.tmp 0) rfl cs rfl ?_; intro w1 hx1 hz1 hg1; have Hg1 := hid hg1; have X1 := hid hx1; have y1 := (boxCell hg1 1 hcs rfl).out; clear hz1 hg1 hx1)
  refine wp_region_planB w1.heap.size (.read 0 (.read 1 (.read 3 (.read 4 (.read 6 (.read 7 (.main 2 (.main 5 (.main 8 (.main 9 (.main 10 (.main 11 (.read 12 .done))))))))))))) (by kernel_rfl) (by kernel_rfl) ?_
  intro wD hxD
  have XB : Hid (Below w1.heap.size wD wD) := Below.refl _ _
  have XF : Hid (Below w1.heap.size w1 wD) := hxD
  have p2 := cell_laterB (boxCell Hg1.out 2 hcs rfl).out (Nat.le_refl _) XF.out
  have p24 := cell_laterB (boxCell Hg1.out 24 hcs rfl).out (Nat.le_refl _) XF.out
  have p25 := cell_laterB (boxCell Hg1.out 25 hcs rfl).out (Nat.le_refl _) XF.out
  repeat' (first
    | (refine walksB_move rfl rfl ?_; simp only [Act.put, Act.eval, List.setIfInBounds_toArray, List.set_cons_zero, List.set_cons_succ, Array.getD_eq_getD_getElem?, List.getElem?_toArray, List.getElem?_cons_zero, List.getElem?_cons_succ, Option.getD_some])
    | (refine walksB_assign rfl rfl ?_; simp only [Act.put, Act.eval, List.setIfInBounds_toArray, List.set_cons_zero, List.set_cons_succ, Array.getD_eq_getD_getElem?, List.getElem?_toArray, List.getElem?_cons_zero, List.getElem?_cons_succ, Option.getD_some])
    | (refine walksB_skip rfl rfl ?_; simp only [Act.put, List.setIfInBounds_toArray, List.set_cons_zero, List.set_cons_succ])
    | (refine walksB_unwanted rfl rfl ?_; simp only [Act.put, List.setIfInBounds_toArray, List.set_cons_zero, List.set_cons_succ])
    | (refine walksB_read (v := ?_) rfl rfl (fun w' hE => ?_) ?_; rotate_left 1; (· ((try (have hEx := Below.trans (Hid.out XB) hE)); go_simp; (try go_bits); with_reducible rfl)); simp only [Act.put, List.setIfInBounds_toArray, List.set_cons_zero, List.set_cons_succ])
    | (refine walksB_main rfl rfl (fun K hK => ?_); (first | (refine append_bytes_wp (.tmp 140) (.tmp 143) rfl _ _ _ _ rfl HS2.out _ _ _ _ rfl HS3.out (by have h2 := HN2.out; have h3 := HN3.out; have h4 := HW.out; rw [List.length_append] at h4; omega) HB2.out ?_; intro A6 c6 w6 ho6 hb6; have HS4 := hid ho6; have HS1 := hid (own_stay HS1.out HK1.out hb6); have HB1 := hid (Nat.le_trans HB1.out (Below.size hb6)); have hy6 := Below.mono hb6 HB20.out; clear ho6 hb6; have XB' := hid (Below.trans (Hid.out XB) (hy6)); clear XB; have XB := XB'; clear XB') | (refine append_bytes_wp (.tmp 137) (.tmp 145) rfl _ _ _ _ rfl HS1.out _ _ _ _ rfl HS5.out (by have h2 := HN1.out; have h3 := HN5.out; have h4 := HX.out; omega) HB1.out ?_; intro A8 c8 w8 ho8 hb8; have HS8 := hid (own_base ho8 HB10.out); have HN8 := hid (app_len HN1.out HN5.out); have hy8 := Below.mono hb8 HB10.out; clear ho8 hb8; have XB' := hid (Below.trans (Hid.out XB) (hy8)); clear XB; have XB := XB'; clear XB')); refine hK _ _ (by first | assumption | exact Below.refl _ _) ?_; clear hK K; try simp only [Act.put, List.setIfInBounds_toArray, List.set_cons_zero, List.set_cons_succ])
    | (refine walksB_alt ?_ ?_)
    | (refine walksB_main rfl rfl (fun K hK => ?_); go_wp2_with (first | (go_at_call 67; (have tok := HS2; clear tok; with_reducible refine (rtext_own _ _ HV.out).mono ?_); rintro e w5 ⟨A5, n5, c5, rfl, hn5, hs5, hx5⟩; have HS3 := hid (own_sl hs5); have HN3 := hid hn5; have HS2 := hid (own_ext HS2.out hx5); have HS1 := hid (own_ext HS1.out hx5); have HB1 := hid (Nat.le_trans HB1.out (ext_sz hx5)); have HB2 := hid (Nat.le_trans HB2.out (ext_sz hx5)); have hy5 := Below.mono hx5 (Nat.le_trans (Below.size XF.out) (Below.size XB.out)); clear hs5 hn5 hx5; have XB' := hid (Below.trans (Hid.out XB) (hy5)); clear XB; have XB := XB'; clear XB') | (go_at_call 67; (have tok := HS1; clear tok; with_reducible refine (rtext_own _ _ HA.out).mono ?_); rintro e w4 ⟨A4, n4, c4, rfl, hn4, hs4, hx4⟩; have HS2 := hid hs4; have HN2 := hid hn4; have HK1 := hid (own_blk HS1.out); have HB20 := hid (Nat.le_trans (Below.size XF.out) (Below.size XB.out)); have HS1 := hid (own_ext HS1.out hx4); have HB1 := hid (Nat.le_trans HB1.out (ext_sz hx4)); have HB2 := hid (ext_sz hx4); have hy4 := Below.mono hx4 HB20.out; clear hs4 hn4 hx4; have XB' := hid (Below.trans (Hid.out XB) (hy4)); clear XB; have XB := XB'; clear XB') | (go_at_call 67; (with_reducible refine (rtext_own _ _ HN.out).mono ?_); rintro e w3 ⟨A3, n3, c3, rfl, hn3, hs3, hx3⟩; have HS1 := hid hs3; have HN1 := hid hn3; have HB10 := hid (Nat.le_trans (Below.size XF.out) (Below.size XB.out)); have HB1 := hid (ext_sz hx3); have hy3 := Below.mono hx3 HB10.out; clear hs3 hn3 hx3; have XB' := hid (Below.trans (Hid.out XB) (hy3)); clear XB; have XB := XB'; clear XB') | (go_at_call 64; (with_reducible refine (rfield_own 48 48 rfl _ _ _ _ _ (own_sl HS4.out) (by have h2 := HN2.out; have h3 := HN3.out; have h4 := HW.out; rw [List.length_append] at h4; omega)).mono ?_); rintro e w7 ⟨A7, n7, c7, rfl, hn7, hs7, hx7⟩; have HS5 := hid (own_sl hs7); have HN5 := hid hn7; have HS1 := hid (own_ext HS1.out hx7); have HB1 := hid (Nat.le_trans HB1.out (ext_sz hx7)); have hy7 := Below.mono hx7 (Nat.le_trans (Below.size XF.out) (Below.size XB.out)); clear hs7 hn7 hx7; have XB' := hid (Below.trans (Hid.out XB) (hy7)); clear XB; have XB := XB'; clear XB')); refine hK _ _ (by first | assumption | exact Below.refl _ _) ?_; clear hK K; try simp only [Act.put, List.setIfInBounds_toArray, List.set_cons_zero, List.set_cons_succ]))
  refine walksB_done ?_
  have HAc := hid (Acc.mk HS8.out HN8.out (Below.trans XF.out XB.out))
  clear p2 p24 p25
  go_wp2
  go_ret
  refine ⟨_, _, _, rfl, ?_, X1.out.trans HAc.out.ext⟩
  rw [HL.out]
  have h9 := HAc.out.sl
  simpa only [List.append_assoc] using h9
set_option maxHeartbeats 1000000 in
theorem content_6 {m : Msg} {d : MsgD} {cs : Array Value} {S : Nat → Prop} (hcs : Hid (cs = (msgCells m d).toArray)) (w : World) (hm : MsgRows S w m d) (hf : MsgFits m) (hk : m.kind = 6) :
    Calls Try.prog 66 #[.agg cs] w (SlNew w (partsL m).flatten) := by
  have HL : Hid ((partsL m).flatten = textB 4 m.name ++ fieldB 48 (m.chgs.map chgB).flatten) := by show _ = _; unfold partsL; rw [hk]; rw [if_neg (by decide), if_neg (by decide), if_pos rfl]; simp
  have Hm := hid hm
  have HN := hid hf.ok.name
  have HC1 := hid hf.chgs.1
  have hrl := hid hm.chgs.len
  have hnn : d.chgs.n ≤ 9223372036854775807 := by have := hm.chgs.cap; have := hm.chgs.most; simp only [maxLen] at this; omega
  have HT : Hid ((m.chgs.map chgB).flatten.length ≤ 100000000000000) := hf.chgs.2
  have HX : Hid ((textB 4 m.name).length + (fieldB 48 (m.chgs.map chgB).flatten).length ≤ 110000000000000) := by
    have e1 := textB_len 4 m.name
    have e2 := fieldB_length 48 (m.chgs.map chgB).flatten
    have e3 := hf.ok.name
    have e4 := hf.chgs.2
    show _ ≤ _
    omega
  obtain ⟨CA, hCA⟩ : ∃ CA, CA = d.chgs.A := ⟨_, rfl⟩
  have HCA := hid hCA
  have HRc := hid hm.chgs
  rw [← hCA] at HRc
  have t0 : (m.kind == 0) = false := by rw [hk]; rfl
  have t3 : (m.kind == 3) = false := by rw [hk]; rfl
  have t6 : (m.kind == 6) = true := by rw [hk]; rfl
  clear hm hf hk
  go_enter Try.func66, Try.ntmps66
  go_wp2_with (refine box_arm rfl 30 (.tmp 0) rfl cs rfl ?_; intro w1 hx1 hz1 hg1; have Hg1 := hid hg1; have X1 := hid hx1; have y1 := (boxCell hg1 1 hcs rfl).out; have y19 := (boxCell hg1 19 hcs rfl).out; rw [← HCA.out] at y19; have Y19 := hid y19; clear hz1 hg1 hx1)
  clear y19 hCA
  go_loopw [4, 68] (fun v i wr => ∃ j : Nat, j ≤ d.chgs.n ∧ i = .int .i64 j ∧ Hid (Grows w1 wr v ((m.chgs.take j).map chgB).flatten)) (fun _ i _ => d.chgs.n - (intOf i).toNat)
  case atStart => exact ⟨0, by omega, rfl, Grows.nil (Ext.refl _)⟩
  case round =>
    obtain ⟨j, hj, rfl, HG⟩ := hrel
    obtain ⟨mm, hm, ho⟩ := HG.out.own
    by_cases hlt : j < d.chgs.n
    · obtain ⟨b1, o1, v1, x1, hA, gx, -, ⟨A1, n1, c1, rfl, r1⟩, q1⟩ := (HRc.out.ext X1.out).at_ hlt
      subst hA
      have e10 := q1 0 _ rfl
      have e11 := q1 1 _ rfl
      have e12 := q1 2 _ rfl
      simp only [Elem.chg, Nat.add_zero] at e10 e11 e12
      have R1 := hid r1
      have HX1 := hid (HC1.out x1 (List.mem_of_getElem? gx))
      have HFt := hid (flat_take (f := chgB) gx)
      have HLt := hid (flat_le chgB m.chgs (j + 1))
      have HO := hid ho
      have HM := hid hm
      have HW : Hid ((fieldB 10 (intB x1.op) ++ attB x1.att).length ≤ 140737488320000) := by
        have h1 := chg_len HX1.out
        rw [two_len] at h1
        show _ ≤ _
        rw [List.length_append]
        exact h1
      have E10 := hid e10
      have E11 := hid e11
      have E12 := hid e12
      clear q1 r1 gx ho hm e10 e11 e12
      go_wp2
      refine wp_region_planB w1.heap.size (.read 0 (.read 1 (.read 2 (.read 3 (.read 4 (.read 5 (.read 6 (.read 8 (.read 9 (.read 10 (.read 11 (.read 12 (.read 13 (.main 7 (.main 14 (.main 15 (.main 16 (.main 17 (.read 18 .done))))))))))))))))))) (by kernel_rfl) (by kernel_rfl) ?_
      intro wD hxD
      have XB : Hid (Below w1.heap.size wD wD) := Below.refl _ _
      have XF : Hid (Below w1.heap.size w1 wD) := Ext.trans HG.out.ext hxD
      have XG := hid hxD
      have p19 := cell_laterB Y19.out (Nat.le_refl _) XF.out
      have p10 := cell_laterB E10.out (Nat.le_refl _) XF.out
      have p11 := cell_laterB E11.out (Nat.le_refl _) XF.out
      have p12 := cell_laterB E12.out (Nat.le_refl _) XF.out
      have HO := hid (own_ext HO.out hxD)
      have HCB := hid (chgB_app x1)
      have HLt2 : Hid (mm + (fieldB 48 (fieldB 10 (intB x1.op) ++ attB x1.att)).length ≤ 100000000000000) := by
        have h1 := HLt.out
        have h2 := HT.out
        have h3 := HM.out
        rw [HFt.out, HCB.out, List.length_append] at h1
        show _ ≤ _
        omega
      repeat' (first
        | (refine walksB_move rfl rfl ?_; simp only [Act.put, Act.eval, List.setIfInBounds_toArray, List.set_cons_zero, List.set_cons_succ, Array.getD_eq_getD_getElem?, List.getElem?_toArray, List.getElem?_cons_zero, List.getElem?_cons_succ, Option.getD_some])
        | (refine walksB_assign rfl rfl ?_; simp only [Act.put, Act.eval, List.setIfInBounds_toArray, List.set_cons_zero, List.set_cons_succ, Array.getD_eq_getD_getElem?, List.getElem?_toArray, List.getElem?_cons_zero, List.getElem?_cons_succ, Option.getD_some])
        | (refine walksB_skip rfl rfl ?_; simp only [Act.put, List.setIfInBounds_toArray, List.set_cons_zero, List.set_cons_succ])
        | (refine walksB_unwanted rfl rfl ?_; simp only [Act.put, List.setIfInBounds_toArray, List.set_cons_zero, List.set_cons_succ])
        | (refine walksB_read (v := ?_) rfl rfl (fun w' hE => ?_) ?_; rotate_left 1; (· ((try (have hEx := Below.trans (Hid.out XB) hE)); go_simp; (try go_bits); with_reducible rfl)); simp only [Act.put, List.setIfInBounds_toArray, List.set_cons_zero, List.set_cons_succ])
        | (refine walksB_main rfl rfl (fun K hK => ?_); (first | (refine append_bytes_wp (.tmp 78) (.tmp 85) rfl _ _ _ _ rfl HS3.out _ _ _ _ rfl HS4.out (by have h3 := HN3.out; have h4 := HN4.out; have h5 := HW.out; rw [List.length_append] at h5; omega) HB3.out ?_; intro A5 c5 w5 ho5 hb5; have HS5 := hid ho5; have HO := hid (own_stay HO.out HK0.out hb5); have hy5 := Below.mono hb5 HB30.out; clear ho5 hb5; have XB' := hid (Below.trans (Hid.out XB) (hy5)); clear XB; have XB := XB'; clear XB') | (refine append_bytes_wp (.tmp 71) (.tmp 87) rfl w1.heap.size _ mm _ rfl HO.out _ _ _ _ rfl HS6.out (by have h3 := HN6.out; have h4 := HLt2.out; omega) (Nat.le_trans (Below.size XF.out) (Below.size XB.out)) ?_; intro A7 c7 w7 ho7 hb7; have HS7 := hid ho7; have hy7 := hb7; clear ho7 hb7; have XB' := hid (Below.trans (Hid.out XB) (hy7)); clear XB; have XB := XB'; clear XB')); refine hK _ _ (by first | assumption | exact Below.refl _ _) ?_; clear hK K; try simp only [Act.put, List.setIfInBounds_toArray, List.set_cons_zero, List.set_cons_succ])
        | (refine walksB_alt ?_ ?_)
        | (refine walksB_main rfl rfl (fun K hK => ?_); go_wp2_with (first | (go_at_call 63; (with_reducible refine (rinteger_own 10 10 rfl _ _ HX1.out.op).mono ?_); rintro e w3 ⟨A3, n3, c3, rfl, hn3, hs3, hx3⟩; have HS3 := hid hs3; have HN3 := hid hn3; have HK0 := hid (own_blk HO.out); have HB30 := hid (Nat.le_trans (Below.size XF.out) (Below.size XB.out)); have HO := hid (own_ext HO.out hx3); have HB3 := hid (ext_sz hx3); have hy3 := Below.mono hx3 HB30.out; clear hs3 hn3 hx3; have XB' := hid (Below.trans (Hid.out XB) (hy3)); clear XB; have XB := XB'; clear XB') | (go_at_call 85; have hXX : Ext w1 _ := Below.trans XF.out XB.out; (with_reducible refine (rattrib_any (a := x1.att) (R1.out.ext hXX) HX1.out.att).mono ?_); clear hXX; rintro e w4 ⟨A4, n4, c4, rfl, hn4, hs4, hx4⟩; have HS4 := hid (own_sl hs4); have HN4 := hid hn4; have HS3 := hid (own_ext HS3.out hx4); have HO := hid (own_ext HO.out hx4); have HB3 := hid (Nat.le_trans HB3.out (ext_sz hx4)); have hy4 := Below.mono hx4 (Nat.le_trans (Below.size XF.out) (Below.size XB.out)); clear hs4 hn4 hx4; have XB' := hid (Below.trans (Hid.out XB) (hy4)); clear XB; have XB := XB'; clear XB') | (go_at_call 64; (with_reducible refine (rfield_own 48 48 rfl _ _ _ _ _ (own_sl HS5.out) (by have h3 := HN3.out; have h4 := HN4.out; have h5 := HW.out; rw [List.length_append] at h5; omega)).mono ?_); rintro e w6 ⟨A6, n6, c6, rfl, hn6, hs6, hx6⟩; have HS6 := hid (own_sl hs6); have HN6 := hid hn6; have HO := hid (own_ext HO.out hx6); have hy6 := Below.mono hx6 (Nat.le_trans (Below.size XF.out) (Below.size XB.out)); clear hs6 hn6 hx6; have XB' := hid (Below.trans (Hid.out XB) (hy6)); clear XB; have XB := XB'; clear XB')); refine hK _ _ (by first | assumption | exact Below.refl _ _) ?_; clear hK K; try simp only [Act.put, List.setIfInBounds_toArray, List.set_cons_zero, List.set_cons_succ]))
      refine walksB_done ?_
      clear p19 p10 p11 p12
      go_wp2
      refine ⟨⟨j + 1, by omega, by go_num, ⟨⟨mm + n6, ?_, ?_⟩, ?_⟩⟩, by simp [intOf]; omega⟩
      · rw [HFt.out, HCB.out, List.length_append, ← HM.out, ← HN6.out]
      · rw [HFt.out, HCB.out]; exact HS7.out
      · exact Below.trans XF.out XB.out
    · obtain hjn : j = d.chgs.n := by omega
      have hall : (m.chgs.take j).map chgB = m.chgs.map chgB := by rw [List.take_of_length_le (by rw [hjn, hrl.out]; exact Nat.le_refl _)]
      rw [hall] at hm ho
      obtain ⟨A4, c4, rfl⟩ := own_form ho
      have HO := hid ho
      have HM := hid hm
      have Y := hid HG.out.ext
      have y2 := (boxCell Hg1.out 2 hcs rfl).ext Y.out
      clear hall ho hm hjn
      go_wp2_with (first
        | (go_at_call 67; (with_reducible refine (rtext_own _ _ HN.out).mono ?_); rintro e w3 ⟨A3, n3, c3, rfl, hn3, hs3, hx3⟩; have HS3 := hid hs3; have HN3 := hid hn3; have HB30 := hid Y.out; have HB3 := hid (ext_sz hx3); have HO := hid (own_ext HO.out hx3); have Y := hid (Y.out.trans hx3); clear hs3 hn3 hx3)
        | (go_at_call 64; (with_reducible refine (rfield_own 48 48 rfl _ _ _ _ _ (own_sl HO.out) (by have h1 := HM.out; have h2 := HT.out; omega)).mono ?_); rintro e w6 ⟨A6, n6, c6, rfl, hn6, hs6, hx6⟩; have HS6 := hid (own_sl hs6); have HN6 := hid hn6; have HS3 := hid (own_ext HS3.out hx6); have HB3 := hid (Nat.le_trans HB3.out (ext_sz hx6)); have Y := hid (Y.out.trans hx6); clear hs6 hn6 hx6)
        | (at_builtin; refine append_bytes rfl (.tmp 92) (.tmp 94) rfl _ _ _ _ rfl HS3.out _ _ _ _ rfl HS6.out (by have h1 := HN3.out; have h2 := HN6.out; have h3 := HX.out; omega) HB3.out ?_; intro v8 w8 ho8 hb8 _ _; obtain ⟨A8, c8, rfl⟩ := own_form ho8; have HS8 := hid (own_sl ho8); have Y : Hid (Ext w1 w8) := hid (Below.trans Y.out (hb8.mono (ext_sz HB30.out))); clear ho8 hb8))
      go_ret
      exact ⟨_, _, _, rfl, by rw [HL.out]; exact HS8.out, X1.out.trans Y.out⟩
end Go.Proofs.Ytabaeiolpbdjnaa
/- The walk of the reference's bytes. -/
namespace Go.Proofs.Ytabaeiolpbdjnaa
open Go.RowKit
set_option maxRecDepth 100000
set_option linter.unusedSimpArgs false
set_option linter.unusedVariables false

theorem content_any {m : Msg} {d : MsgD} {cs : Array Value} {S : Nat → Prop} (hcs : Hid (cs = (msgCells m d).toArray)) (w : World) (hm : MsgRows S w m d) (hf : MsgFits m) (hk : knownB m.kind = true) :
    Calls Try.prog 66 #[.agg cs] w (SlNew w (partsL m).flatten) := by
  rcases known_kind hk with h | h | h | h | h | h | h | h | h | h | h | h | h | h | h | h | h | h | h
  · exact content_0 hcs w hm hf h
  · exact content_1 hcs w hm hf h
  · exact content_2 hcs w hm hf h
  · exact content_3 hcs w hm hf h
  · exact content_4 hcs w hm hf h
  · exact content_5 hcs w hm hf h
  · exact content_6 hcs w hm hf h
  · exact content_7 hcs w hm hf h
  · exact content_8 hcs w hm hf h
  · exact content_9 hcs w hm hf h
  · exact content_10 hcs w hm hf h
  · exact content_11 hcs w hm hf h
  · exact content_12 hcs w hm hf h
  · exact content_13 hcs w hm hf h
  · exact content_14 hcs w hm hf h
  · exact content_15 hcs w hm hf h
  · exact content_16 hcs w hm hf h
  · exact content_19 hcs w hm hf h
  · exact content_24 hcs w hm hf h
theorem rowB {w1 w' : World} {g : Nat} {cs : Array Value} {T : TypeId} (hg : w1.heap[g]? = some (.cells cs T (0, 0))) (hx : Below w1.heap.size w1 w') : w'.heap[g]? = some (.cells cs T (0, 0)) := by
  rw [hx.block g (row_lt hg)]
  exact hg
theorem own_blkA {w w' : World} {o : Obj} {b : Nat} {e : TypeId} {size : Nat} {v : Value} {n : Nat} {xs : List Value} (h : w.ownsRow b e size v n xs) (hx : Ext (w.alloc o) w') : ∀ k, v.ownBlock = some k → k < (w.alloc o).heap.size := own_blk (own_ext h (Ext.alloc _ _))
theorem box_z {w w' : World} {cs : Array Value} {T : TypeId} (hx : Ext (w.alloc (.cells cs T)) w') (i : Nat) {v : Value} (hv : cs[i]? = some v) : w'.cell? ⟨w.heap.size, i, none⟩ = some v := cell_later (by rw [box_a]; exact hv) _ hx
set_option maxHeartbeats 4000000 in
theorem rbytes_any {m : Msg} {d : MsgD} {cs : Array Value} {S : Nat → Prop} (hcs : Hid (cs = (msgCells m d).toArray)) (w : World) (hm : MsgRows S w m d) (hf : MsgFits m) (hk : knownB m.kind = true) :
    Calls Try.prog 24 #[.agg cs] w (BytesOwn w (msgB m)) := by
  have Hm := hid hm
  have Zc : Hid ((Try.prog.info? 30).map (·.size) = some cs.size) := by show _ = _; rw [hcs.out]; kernel_rfl
  have HI := hid hf.ok.id
  have HFi := hid hf
  have HK := hid hk
  have hk24 : Hid (0 ≤ m.kind ∧ m.kind ≤ 24) := by have := known_kind hk; show _ ∧ _; omega
  have HP := hid (parts_len hf)
  have HCl := hid (ctls_len hf.ok)
  have HCt := hid hf.ok.ctls.2
  have hrl := hid hm.ctls.len
  have hnn : d.ctls.n ≤ 9223372036854775807 := by have := hm.ctls.cap; have := hm.ctls.most; simp only [maxLen] at this; omega
  have BI : Hid ((fieldB 2 (intB m.id)).length ≤ 14) := by show _ ≤ _; exact intF_len 2 m.id
  have BO : Hid ((fieldB (tagB m.kind) (partsL m).flatten).length ≤ 110000000000006) := by
    have h1 := fieldB_length (tagB m.kind) (partsL m).flatten
    have h2 := HP.out
    show _ ≤ _
    omega
  have BC : Hid ((fieldB 160 (m.ctls.map ctlB).flatten).length ≤ 4000000000006) := by
    have h1 := fieldB_length 160 (m.ctls.map ctlB).flatten
    have h2 := HCl.out
    show _ ≤ _
    omega
  obtain ⟨CA, hCA⟩ : ∃ CA, CA = d.ctls.A := ⟨_, rfl⟩
  have HCA := hid hCA
  have HRc := hid hm.ctls
  rw [← hCA] at HRc
  clear hm hf hk hCA
  go_enter Try.func24, Try.ntmps24
  go_wp2_with (refine box_arm rfl 30 (.tmp 0) rfl cs rfl ?_; intro w1 hx1 hz1 hg1; have Hg1 := hid hg1; have X1 := hid hx1; have y31 := (boxCell hg1 31 hcs rfl).out; rw [← HCA.out] at y31; have Y31 := hid y31; clear y31 hz1 hg1 hx1)
  refine wp_region_planB w1.heap.size (.read 0 (.read 1 (.read 3 (.read 4 (.read 6 (.main 2 (.main 5 (.main 7 (.main 8 (.main 9 (.read 10 .done))))))))))) (by kernel_rfl) (by kernel_rfl) ?_
  intro wD hxD
  have XB : Hid (Below w1.heap.size wD wD) := Below.refl _ _
  have XF : Hid (Below w1.heap.size w1 wD) := hxD
  have p0 := cell_laterB (boxCell Hg1.out 0 hcs rfl).out (Nat.le_refl _) XF.out
  have p1 := cell_laterB (boxCell Hg1.out 1 hcs rfl).out (Nat.le_refl _) XF.out
  repeat' (first
    | (refine walksB_move rfl rfl ?_; simp only [Act.put, Act.eval, List.setIfInBounds_toArray, List.set_cons_zero, List.set_cons_succ, Array.getD_eq_getD_getElem?, List.getElem?_toArray, List.getElem?_cons_zero, List.getElem?_cons_succ, Option.getD_some])
    | (refine walksB_assign rfl rfl ?_; simp only [Act.put, Act.eval, List.setIfInBounds_toArray, List.set_cons_zero, List.set_cons_succ, Array.getD_eq_getD_getElem?, List.getElem?_toArray, List.getElem?_cons_zero, List.getElem?_cons_succ, Option.getD_some])
    | (refine walksB_skip rfl rfl ?_; simp only [Act.put, List.setIfInBounds_toArray, List.set_cons_zero, List.set_cons_succ])
    | (refine walksB_read (v := .agg cs) rfl rfl (fun w' hE => run_load_row 30 (.tmp 1) rfl _ rfl _ cs _ (rowB Hg1.out (Below.trans XF.out (Below.trans XB.out hE))) Try.underlying30 rfl Zc.out) ?_; simp only [Act.put, List.setIfInBounds_toArray, List.set_cons_zero, List.set_cons_succ])
    | (refine walksB_unwanted rfl rfl ?_; simp only [Act.put, List.setIfInBounds_toArray, List.set_cons_zero, List.set_cons_succ])
    | (refine walksB_read (v := ?_) rfl rfl (fun w' hE => ?_) ?_; rotate_left 1; (· ((try (have hEx := Below.trans (Hid.out XB) hE)); go_simp; (try go_bits); with_reducible rfl)); simp only [Act.put, List.setIfInBounds_toArray, List.set_cons_zero, List.set_cons_succ])
    | (refine walksB_main rfl rfl (fun K hK => ?_); (first | (refine append_bytes_wp (.tmp 10) (.tmp 16) rfl _ _ _ _ rfl HS3.out _ _ _ _ rfl HS6.out (by have h1 := HN3.out; have h2 := HN6.out; have h3 := BI.out; have h4 := BO.out; omega) HB3.out ?_; intro A7 c7 w7 ho7 hb7; have HS7 := hid (own_base ho7 HB30.out); have HN7 := hid (app_len HN3.out HN6.out); have hy7 := Below.mono hb7 HB30.out; clear ho7 hb7; have XB' := hid (Below.trans (Hid.out XB) (hy7)); clear XB; have XB := XB'; clear XB')); refine hK _ _ (by first | assumption | exact Below.refl _ _) ?_; clear hK K; try simp only [Act.put, List.setIfInBounds_toArray, List.set_cons_zero, List.set_cons_succ])
    | (refine walksB_alt ?_ ?_)
    | (refine walksB_main rfl rfl (fun K hK => ?_); go_wp2_with (first | (go_at_call 63; (with_reducible refine (rinteger_own 2 2 rfl _ _ HI.out).mono ?_); rintro e w3 ⟨A3, n3, c3, rfl, hn3, hs3, hx3⟩; have HS3 := hid hs3; have HN3 := hid hn3; have HB30 := hid (Nat.le_trans (Below.size XF.out) (Below.size XB.out)); have HB3 := hid (ext_sz hx3); have hy3 := Below.mono hx3 HB30.out; clear hs3 hn3 hx3; have XB' := hid (Below.trans (Hid.out XB) (hy3)); clear XB; have XB := XB'; clear XB') | (go_at_call 65; (with_reducible refine (rtag_any _ _ hk24.out.1 hk24.out.2).mono ?_); rintro e w4 ⟨rfl, rfl⟩) | (go_at_call 66; have hXX := Ext.trans X1.out (Below.trans XF.out XB.out); (with_reducible refine (content_any hcs _ (Hm.out.ext hXX) HFi.out HK.out).mono ?_); clear hXX; rintro e w5 ⟨A5, n5, c5, rfl, hs5, hx5⟩; have HS5 := hid hs5; have HS3 := hid (own_ext HS3.out hx5); have HB3 := hid (Nat.le_trans HB3.out (ext_sz hx5)); have hy5 := Below.mono hx5 (Nat.le_trans (Below.size XF.out) (Below.size XB.out)); clear hs5 hx5; have XB' := hid (Below.trans (Hid.out XB) (hy5)); clear XB; have XB := XB'; clear XB') | (go_at_call 64; (with_reducible refine (rfield_own (tagB m.kind) _ rfl _ _ _ _ _ HS5.out (by have h1 := HS5.out.len; have h2 := HP.out; omega)).mono ?_); rintro e w6 ⟨A6, n6, c6, rfl, hn6, hs6, hx6⟩; have HS6 := hid (own_sl hs6); have HN6 := hid hn6; have HS3 := hid (own_ext HS3.out hx6); have HB3 := hid (Nat.le_trans HB3.out (ext_sz hx6)); have hy6 := Below.mono hx6 (Nat.le_trans (Below.size XF.out) (Below.size XB.out)); clear hs6 hn6 hx6; have XB' := hid (Below.trans (Hid.out XB) (hy6)); clear XB; have XB := XB'; clear XB')); refine hK _ _ (by first | assumption | exact Below.refl _ _) ?_; clear hK K; try simp only [Act.put, List.setIfInBounds_toArray, List.set_cons_zero, List.set_cons_succ]))
  refine walksB_done ?_
  have HAc := hid (Acc.mk HS7.out HN7.out (Below.trans XF.out XB.out))
  clear p0 p1
  have y31 := cell_later Y31.out _ HAc.out.ext
  by_cases hz : d.ctls.n = 0
  · have HB : Hid (msgB m = fieldB 48 (fieldB 2 (intB m.id) ++ fieldB (tagB m.kind) (partsL m).flatten)) := by show _ = _; unfold msgB; rw [bodyL_no (by rw [← hrl.out]; exact hz)]; simp
    have z0 : ¬ (0 < (d.ctls.n : Int)) := by omega
    clear hz
    go_wp2_with (go_at_call 64; (with_reducible refine (rfield_own 48 48 rfl _ _ _ _ _ HAc.out.sl (by have h1 := HAc.out.len; have h3 := BI.out; have h4 := BO.out; rw [List.length_append] at h1; omega)).mono ?_); rintro e w9 ⟨A9, n9, c9, rfl, hn9, hs9, hx9⟩; have HN9 := hid hn9; have HS9 := hid hs9; have HB9 := hid (ext_sz (X1.out.trans HAc.out.ext)); have X9 := hid ((X1.out.trans HAc.out.ext).trans hx9); clear hs9 hn9 hx9)
    go_ret
    rw [HB.out]
    exact ⟨_, _, _, rfl, HN9.out, own_base HS9.out HB9.out, X9.out⟩
  · have HB : Hid (msgB m = fieldB 48 ((fieldB 2 (intB m.id) ++ fieldB (tagB m.kind) (partsL m).flatten) ++ fieldB 160 (m.ctls.map ctlB).flatten)) := by show _ = _; unfold msgB; rw [bodyL_yes (by rw [← hrl.out]; exact hz)]; simp
    have z0 : 0 < (d.ctls.n : Int) := by omega
    have z0n : 0 < d.ctls.n := by omega
    have z0b : decide (0 < d.ctls.n) = true := decide_eq_true z0n
    clear hz
    go_wp2
    go_loopw [4, 25] (fun v i wr => ∃ j : Nat, j ≤ d.ctls.n ∧ i = .int .i64 j ∧ Hid (Grows w7 wr v ((m.ctls.take j).map ctlB).flatten)) (fun _ i _ => d.ctls.n - (intOf i).toNat)
    case atStart => exact ⟨0, by omega, rfl, Grows.nil (Ext.refl _)⟩
    case round =>
      clear y31
      obtain ⟨j, hj, rfl, HG⟩ := hrel
      obtain ⟨mm, hm, ho⟩ := HG.out.own
      have HO := hid ho
      have HM := hid hm
      clear ho hm
      have Y := hid (HAc.out.ext.trans HG.out.ext)
      by_cases hlt : j < d.ctls.n
      · have y31 := cell_later Y31.out _ Y.out
        obtain ⟨b1, o1, v1, x1, hA, gx, -, R1, q1⟩ := (HRc.out.ext (X1.out.trans Y.out)).at_ hlt
        subst hA
        have hv1 : v1 = [.string x1.oid, .bool x1.crit, .bool x1.has, .string x1.val] := R1
        subst hv1
        have e10 := q1 0 _ rfl
        have e11 := q1 1 _ rfl
        have e12 := q1 2 _ rfl
        have e13 := q1 3 _ rfl
        simp only [Elem.ctl, Nat.add_zero] at e10 e11 e12 e13
        have Hx := HCt.out x1 (List.mem_of_getElem? gx)
        have HFt := hid (flat_take (f := ctlB) gx)
        have HLt := hid (flat_le ctlB m.ctls (j + 1))
        clear q1 R1 gx
        obtain ⟨oid, crit, has, val⟩ := x1
        obtain ⟨ho1, hv1⟩ := Hx
        simp only at ho1 hv1 e10 e11 e12 e13
        have HO1 := hid ho1
        have HV1 := hid hv1
        clear ho1 hv1
        cases crit <;> cases has
        all_goals
          go_wp2_with (first
            | (go_at_call 67; have tok := HAi; clear tok; (with_reducible refine (rtext_own _ _ HV1.out).mono ?_); rintro e w3 ⟨A4, n4, c4, rfl, -, hs3, hx3⟩; have HSd := hid (own_sl hs3); have HAi := hid (HAi.out.later hx3); have HO := hid (own_ext HO.out hx3); (try clear z1); (try clear z2); (try clear z3); have z1 := box_z HAi.out.ext 1 rfl; have z2 := box_z HAi.out.ext 2 rfl; have z3 := box_z HAi.out.ext 3 rfl; clear hs3 hx3)
            | (go_at_call 67; (with_reducible refine (rtext_own _ _ HO1.out).mono ?_); rintro e w3 ⟨A3, n3, c3, rfl, hn3, hs3, hx3⟩; have HK0 := hid (own_blkA HO.out hx3); have HAi := hid (Acc.mk hs3 hn3 hx3); have HO := hid (own_ext (own_ext HO.out (Ext.alloc _ _)) hx3); (try clear z1); (try clear z2); (try clear z3); have z1 := box_z HAi.out.ext 1 rfl; have z2 := box_z HAi.out.ext 2 rfl; have z3 := box_z HAi.out.ext 3 rfl; clear hs3 hn3 hx3)
            | (go_at_call 68; (with_reducible refine (rboolean_any _ _).mono ?_); rintro e w4 ⟨A4, n4, c4, rfl, -, hs4, hx4⟩; have HSd := hid (own_sl hs4); have HAi := hid (HAi.out.later hx4); have HO := hid (own_ext HO.out hx4); (try clear z1); (try clear z2); (try clear z3); have z1 := box_z HAi.out.ext 1 rfl; have z2 := box_z HAi.out.ext 2 rfl; have z3 := box_z HAi.out.ext 3 rfl; clear hs4 hx4)
            | (at_builtin; refine append_bytes rfl (.tmp 38) (.tmp 39) rfl _ _ _ _ rfl HAi.out.own _ _ _ _ rfl HSd.out (by have h1 := HAi.out.len; have h2 := HSd.out.len; (try simp only [List.length_append] at h1); have b1 := textB_len 4 oid; have b2 := textB_len 4 val; have b3 := fieldB_length 1 (boolB true); have b4 : (boolB true).length = 1 := rfl; have b5 := HO1.out; have b6 := HV1.out; omega) (ext_sz HAi.out.ext) ?_; intro v8 w8 ho8 hb8 _ _; obtain ⟨A8, c8, rfl⟩ := own_form ho8; have HO := hid (own_stay HO.out HK0.out hb8); have HAi := hid (HAi.out.push HSd.out ho8 hb8); (try clear z1); (try clear z2); (try clear z3); have z1 := box_z HAi.out.ext 1 rfl; have z2 := box_z HAi.out.ext 2 rfl; have z3 := box_z HAi.out.ext 3 rfl; clear ho8 hb8)
            | (at_builtin; refine append_bytes rfl (.tmp 43) (.tmp 46) rfl _ _ _ _ rfl HAi.out.own _ _ _ _ rfl HSd.out (by have h1 := HAi.out.len; have h2 := HSd.out.len; (try simp only [List.length_append] at h1); have b1 := textB_len 4 oid; have b2 := textB_len 4 val; have b3 := fieldB_length 1 (boolB true); have b4 : (boolB true).length = 1 := rfl; have b5 := HO1.out; have b6 := HV1.out; omega) (ext_sz HAi.out.ext) ?_; intro v8 w8 ho8 hb8 _ _; obtain ⟨A8, c8, rfl⟩ := own_form ho8; have HO := hid (own_stay HO.out HK0.out hb8); have HAi := hid (HAi.out.push HSd.out ho8 hb8); (try clear z1); (try clear z2); (try clear z3); have z1 := box_z HAi.out.ext 1 rfl; have z2 := box_z HAi.out.ext 2 rfl; have z3 := box_z HAi.out.ext 3 rfl; clear ho8 hb8)
            | (go_at_call 64; (with_reducible refine (rfield_own 48 48 rfl _ _ _ _ _ HAi.out.sl (by have h1 := HAi.out.len; (try simp only [List.length_append] at h1); have b1 := textB_len 4 oid; have b2 := textB_len 4 val; have b3 := fieldB_length 1 (boolB true); have b4 : (boolB true).length = 1 := rfl; have b5 := HO1.out; have b6 := HV1.out; omega)).mono ?_); rintro e w5 ⟨A5, n5, c5, rfl, hn5, hs5, hx5⟩; have HSf := hid (own_sl hs5); have HNf := hid hn5; have HAi := hid (HAi.out.later hx5); have HO := hid (own_ext HO.out hx5); (try clear z1); (try clear z2); (try clear z3); clear hs5 hn5 hx5)
            | (at_builtin; refine append_bytes rfl (.tmp 48) (.tmp 50) rfl w7.heap.size _ mm _ rfl HO.out _ _ _ _ rfl HSf.out (by have h1 := HNf.out; have h2 := HM.out; have h3 := HLt.out; have h4 := HCl.out; rw [HFt.out, List.length_append] at h3; simp only [ctlB, ctlL, ↓reduceIte, Bool.false_eq_true, List.append_nil, List.flatten_append, List.flatten_cons, List.flatten_nil, List.append_assoc, List.cons_append, List.nil_append] at h1 h3; omega) (Nat.le_trans (ext_sz (HG.out.ext.trans (Ext.alloc _ _))) (ext_sz HAi.out.ext)) ?_; intro v9 w9 ho9 hb9 _ _; have HO9 := hid ho9; have Y9 : Hid (Ext w7 w9) := hid (Below.trans ((HG.out.ext.trans (Ext.alloc _ _)).trans HAi.out.ext) hb9); clear ho9 hb9))
          refine ⟨⟨j + 1, by omega, by go_num, ⟨⟨mm + n5, ?_, ?_⟩, Y9.out⟩⟩, by simp [intOf]; omega⟩
          · rw [HFt.out, List.length_append, ← HM.out, HNf.out]
            simp [ctlB, ctlL]
          · rw [HFt.out]
            have h9 := HO9.out
            simpa [ctlB, ctlL] using h9
      · obtain hjn : j = d.ctls.n := by omega
        have hall : (m.ctls.take j).map ctlB = m.ctls.map ctlB := by rw [List.take_of_length_le (by rw [hjn, hrl.out]; exact Nat.le_refl _)]
        have hm := HM.out
        have ho := HO.out
        rw [hall] at hm ho
        clear HO HM
        obtain ⟨A4, c4, rfl⟩ := own_form ho
        have HO := hid (own_sl ho)
        have HM := hid hm
        have HAc := hid (HAc.out.later HG.out.ext)
        clear hall ho hm hjn
        go_wp2_with (first
          | (go_at_call 64; have tok := HO; clear tok; (with_reducible refine (rfield_own 160 160 rfl _ _ _ _ _ HO.out (by have h1 := HM.out; have h2 := HCl.out; omega)).mono ?_); clear HO; rintro e w6 ⟨A6, n6, c6, rfl, hn6, hs6, hx6⟩; have HSd := hid (own_sl hs6); have HAc := hid (HAc.out.later hx6); clear hs6 hn6 hx6)
          | (at_builtin; refine append_bytes rfl (.tmp 53) (.tmp 55) rfl w1.heap.size _ _ _ rfl HAc.out.own _ _ _ _ rfl HSd.out (by have h1 := HAc.out.len; have h2 := HSd.out.len; have h3 := BI.out; have h4 := BO.out; have h5 := BC.out; rw [List.length_append] at h1; omega) (ext_sz HAc.out.ext) ?_; intro v8 w8 ho8 hb8 _ _; obtain ⟨A8, c8, rfl⟩ := own_form ho8; have HAc := hid (HAc.out.push HSd.out ho8 hb8); clear ho8 hb8)
          | (go_at_call 64; (with_reducible refine (rfield_own 48 48 rfl _ _ _ _ _ HAc.out.sl (by have h1 := HAc.out.len; have h3 := BI.out; have h4 := BO.out; have h5 := BC.out; rw [List.length_append, List.length_append] at h1; omega)).mono ?_); rintro e w9 ⟨A9, n9, c9, rfl, hn9, hs9, hx9⟩; have HN9 := hid hn9; have HS9 := hid hs9; have HB9 := hid (ext_sz (X1.out.trans HAc.out.ext)); have X9 := hid ((X1.out.trans HAc.out.ext).trans hx9); clear hs9 hn9 hx9))
        go_ret
        rw [HB.out]
        exact ⟨_, _, _, rfl, HN9.out, own_base HS9.out HB9.out, X9.out⟩
end Go.Proofs.Ytabaeiolpbdjnaa
