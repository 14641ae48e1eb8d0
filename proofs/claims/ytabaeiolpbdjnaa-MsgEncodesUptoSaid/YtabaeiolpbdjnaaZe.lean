/- Rs, Ri, in one text. -/
import Derived.Test.YtabaeiolpbdjnaaMk
import Derived.Test.YtabaeiolpbdjnaaPe
import Derived.Test.YtabaeiolpbdjnaaCe
import Derived.Test.YtabaeiolpbdjnaaRh
/- The walk of the reference's Small of messages: it tells that the attributes' values are few; a message that is formed, and small, fits. -/
namespace Go.Proofs.Ytabaeiolpbdjnaa
open Go.RowKit
set_option maxRecDepth 100000
set_option linter.unusedSimpArgs false
set_option linter.unusedVariables false

def attCnt (l : List Att) : Nat := (l.map fun a => 1 + a.vals.length).sum
def chgCnt (l : List Chg) : Nat := (l.map fun a => 1 + a.att.vals.length).sum
theorem sum_take {α : Type} (f : α → Nat) {l : List α} {j : Nat} {x : α} (h : l[j]? = some x) : ((l.take (j + 1)).map f).sum = ((l.take j).map f).sum + f x := by
  rw [List.take_add_one, h]
  simp
theorem sum_le {α : Type} (f : α → Nat) (l : List α) (j : Nat) : ((l.take j).map f).sum ≤ (l.map f).sum := by
  have h := congrArg (fun l => (l.map f).sum) (List.take_append_drop j l)
  simp only [List.map_append, List.sum_append] at h
  omega
theorem sum_bd {α : Type} (f : α → Nat) (C : Nat) : ∀ {l : List α}, (∀ x ∈ l, f x ≤ C) → (l.map f).sum ≤ C * l.length
  | [], _ => by simp
  | x :: l, h => by
    have h1 := h x (by simp)
    have h2 := sum_bd f C (l := l) (fun y hy => h y (by simp [hy]))
    simp only [List.map_cons, List.sum_cons, List.length_cons, Nat.mul_add]
    omega
theorem attCnt_bd {m : Msg} (h : MsgOk m) : attCnt m.list ≤ 1099512676352 := by
  have h1 := sum_bd (fun a : Att => 1 + a.vals.length) 1048577 (l := m.list) (fun x hx => by have := (h.list.2 x hx).2.1; omega)
  have h2 := h.list.1
  unfold attCnt
  omega
theorem chgCnt_bd {m : Msg} (h : MsgOk m) : chgCnt m.chgs ≤ 1099512676352 := by
  have h1 := sum_bd (fun a : Chg => 1 + a.att.vals.length) 1048577 (l := m.chgs) (fun x hx => by have := (h.chgs.2 x hx).2.2.1; omega)
  have h2 := h.chgs.1
  unfold chgCnt
  omega
def SmallOut (w : World) (m : Msg) (e : Ending) (w' : World) : Prop := ∃ r : Bool, e = .returned (.bool r) ∧ (r = true → attCnt m.list + chgCnt m.chgs ≤ 5000) ∧ Ext w w'
theorem smallout_no {w w' : World} {m : Msg} (h : Ext w w') : SmallOut w m (.returned (.bool false)) w' := ⟨false, rfl, (fun h => by cases h), h⟩
theorem smallout_yes {w w' : World} {m : Msg} {r : Bool} (hb : attCnt m.list + chgCnt m.chgs ≤ 5000) (h : Ext w w') : SmallOut w m (.returned (.bool r)) w' := ⟨r, rfl, fun _ => hb, h⟩
set_option maxHeartbeats 4000000 in
theorem msgsmall_few {m : Msg} {d : MsgD} {cs : Array Value} {S : Nat → Prop} (hcs : Hid (cs = (msgCells m d).toArray)) (w : World) (hm : MsgRows S w m d) (ho : MsgOk m) :
    Calls Try.prog 6 #[.agg cs] w (SmallOut w m) := by
  have Hm := hid hm
  have nl : d.list.n ≤ 9223372036854775807 := by have := hm.list.cap; have := hm.list.most; simp only [maxLen] at this; omega
  have nc : d.chgs.n ≤ 9223372036854775807 := by have := hm.chgs.cap; have := hm.chgs.most; simp only [maxLen] at this; omega
  have BA := hid (attCnt_bd ho)
  have BC := hid (chgCnt_bd ho)
  have rl := hid hm.list.len
  have rc := hid hm.chgs.len
  have ka : d.attrs.n ≤ 1048576 := by have := hm.attrs.len; have := ho.attrs.1; omega
  have kr : d.refs.n ≤ 1048576 := by have := hm.refs.len; have := ho.refs.1; omega
  have kc : d.ctls.n ≤ 1048576 := by have := hm.ctls.len; have := ho.ctls.1; omega
  clear hm ho
  go_enter Try.func6, Try.ntmps6
  go_wp2_with (refine box_arm rfl 30 (.tmp 0) rfl cs rfl ?_; intro w1 hx1 hz1 hg1; have Hg1 := hid hg1; clear hz1 hg1; have X1 := hid hx1; clear hx1; have p18 := (boxCell Hg1.out 18 hcs rfl).out; have p19 := (boxCell Hg1.out 19 hcs rfl).out; have p17 := (boxCell Hg1.out 17 hcs rfl).out; have p30 := (boxCell Hg1.out 30 hcs rfl).out; have p31 := (boxCell Hg1.out 31 hcs rfl).out)
  go_loop [3, 9] (fun s i => ∃ j : Nat, j ≤ d.list.n ∧ i = .int .i64 j ∧ s = .int .i64 (attCnt (m.list.take j) : Int)) (fun _ i => d.list.n - (intOf i).toNat)
  case atStart => exact ⟨0, by omega, rfl, by simp [attCnt]⟩
  case round =>
    obtain ⟨j, hj, rfl, rfl⟩ := hrel
    by_cases hlt : j < d.list.n
    · obtain ⟨b1, o1, v1, x1, hA, g1, _, ⟨A1, n1, c1, rfl, r1⟩, q1⟩ := (Hm.out.list.ext X1.out).at_ hlt
      have e11 := q1 1 _ rfl
      have HN := hid r1.len
      have HT : Hid (attCnt (m.list.take (j + 1)) = attCnt (m.list.take j) + (1 + x1.vals.length)) := sum_take _ g1
      have hb1 : attCnt (m.list.take (j + 1)) ≤ attCnt m.list := sum_le _ _ _
      obtain ⟨z, hz⟩ : ∃ z, z = attCnt (m.list.take j) := ⟨_, rfl⟩
      rw [← hz] at HT ⊢
      have hz1 : (z : Int) + 1 + (n1 : Int) ≤ 1099512676352 := by have h1 := HT.out; have h2 := BA.out; have h3 := HN.out; omega
      have hz2 : (0 : Int) ≤ (z : Int) := by omega
      have hz3 : (0 : Int) ≤ (n1 : Int) := by omega
      clear q1 g1 r1 hb1 hz
      simp only [Elem.att] at e11
      rw [hA] at p18
      go_wp2
      refine ⟨⟨j + 1, by omega, by go_num, ?_⟩, by simp [intOf]; omega⟩
      rw [HT.out, ← HN.out]
      congr 1
      omega
    · have Hj : Hid (j = d.list.n) := by show _ = _; omega
      have hge : ¬ (j : Int) < (d.list.n : Int) := by omega
      have HA9 : Hid (attCnt (m.list.take j) = attCnt m.list) := by show _ = _; rw [List.take_of_length_le (by rw [Hj.out, rl.out]; exact Nat.le_refl _)]
      obtain ⟨z, hz⟩ : ∃ z, z = attCnt (m.list.take j) := ⟨_, rfl⟩
      rw [← hz] at HA9 ⊢
      have hz1 : (z : Int) ≤ 1099512676352 := by have h1 := HA9.out; have h2 := BA.out; omega
      clear hz
      go_wp2
      go_loop [3, 26] (fun s i => ∃ q : Nat, q ≤ d.chgs.n ∧ i = .int .i64 q ∧ s = .int .i64 ((z : Int) + (chgCnt (m.chgs.take q) : Int))) (fun _ i => d.chgs.n - (intOf i).toNat)
      case atStart => exact ⟨0, by omega, rfl, by simp [chgCnt]⟩
      case round =>
        obtain ⟨q, hq, rfl, rfl⟩ := hrel
        by_cases hlt2 : q < d.chgs.n
        · obtain ⟨b1, o1, v1, x1, hA, g1, _, ⟨A1, n1, c1, rfl, r1⟩, q1⟩ := (Hm.out.chgs.ext X1.out).at_ hlt2
          have e12 := q1 2 _ rfl
          have HN := hid r1.len
          have HT : Hid (chgCnt (m.chgs.take (q + 1)) = chgCnt (m.chgs.take q) + (1 + x1.att.vals.length)) := sum_take _ g1
          have hb1 : chgCnt (m.chgs.take (q + 1)) ≤ chgCnt m.chgs := sum_le _ _ _
          obtain ⟨y, hy⟩ : ∃ y, y = chgCnt (m.chgs.take q) := ⟨_, rfl⟩
          rw [← hy] at HT ⊢
          have hy1 : (z : Int) + (y : Int) + 1 + (n1 : Int) ≤ 4199512676352 := by have h1 := HT.out; have h2 := BC.out; have h3 := HN.out; omega
          have hy2 : (0 : Int) ≤ (z : Int) + (y : Int) := by omega
          have hy3 : (0 : Int) ≤ (n1 : Int) := by omega
          clear q1 g1 r1 hb1 hy
          simp only [Elem.chg] at e12
          rw [hA] at p19
          go_wp2
          refine ⟨⟨q + 1, by omega, by go_num, ?_⟩, by simp [intOf]; omega⟩
          rw [HT.out, ← HN.out]
          congr 1
          omega
        · have hge2 : ¬ (q : Int) < (d.chgs.n : Int) := by omega
          have HC9 : Hid (chgCnt (m.chgs.take q) = chgCnt m.chgs) := by show _ = _; rw [List.take_of_length_le (by have := rc.out; omega)]
          obtain ⟨y, hy⟩ : ∃ y, y = chgCnt (m.chgs.take q) := ⟨_, rfl⟩
          rw [← hy] at HC9 ⊢
          have hy1 : (y : Int) ≤ 1099512676352 := by have h1 := HC9.out; have h2 := BC.out; omega
          clear hy
          have HC : Hid (Calls Try.prog 12 #[.agg #[.int .i64 m.fil.kind, .string m.fil.attr, .string m.fil.value, .string m.fil.first, .string m.fil.last, .slice d.any.A d.any.n d.any.c, .slice d.parts.A d.parts.n d.parts.c]] w1 (SomeB w1)) := smallfil_any (Hm.out.ext X1.out).fil
          have p10 := (boxCell Hg1.out 10 hcs rfl).out; have p11 := (boxCell Hg1.out 11 hcs rfl).out; have p12 := (boxCell Hg1.out 12 hcs rfl).out; have p13 := (boxCell Hg1.out 13 hcs rfl).out; have p14 := (boxCell Hg1.out 14 hcs rfl).out; have p15 := (boxCell Hg1.out 15 hcs rfl).out; have p16 := (boxCell Hg1.out 16 hcs rfl).out
          by_cases h5 : (z : Int) + (y : Int) + (d.attrs.n : Int) + (d.refs.n : Int) + (d.ctls.n : Int) ≤ 5000
          · have HB5 : Hid (attCnt m.list + chgCnt m.chgs ≤ 5000) := by have h1 := HA9.out; have h2 := HC9.out; show _ ≤ _; omega
            go_wp2_with (go_at_call 12; (with_reducible refine HC.out.mono ?_); rintro e w4 ⟨r4, rfl, hx4⟩)
            go_ret
            exact smallout_yes HB5.out (X1.out.trans hx4)
          · go_wp2_with (go_at_call 12; (with_reducible refine HC.out.mono ?_); rintro e w4 ⟨r4, rfl, hx4⟩)
            go_ret
            exact smallout_no X1.out
theorem attB_bd {a : Att} (h : AttOk a) : (attB a).length ≤ 1048600 * (1 + a.vals.length) := by
  have h1 := textB_len 4 a.type
  have h2 := fieldB_length 49 (textsB a.vals)
  have h3 := flat_sum (f := textB 4) (g := fun _ => 1) (C := 1048582) (l := a.vals) (fun x hx => by
    have := textB_len 4 x
    have := h.2.2 x hx
    omega)
  rw [ones_sum] at h3
  have h4 := fieldB_length 48 ([textB 4 a.type, fieldB 49 (textsB a.vals)] : List (List UInt8)).flatten
  rw [two_len] at h4
  have h5 := h.1
  have h6 : (textsB a.vals).length = (a.vals.map (textB 4)).flatten.length := rfl
  unfold attB
  omega
theorem attFits_of {a : Att} (h : AttOk a) : AttFits a := ⟨h.1, h.2.2, Nat.le_trans (texts_len h.2) (by decide)⟩
theorem fits_of {m : Msg} (ho : MsgOk m) (hc : attCnt m.list + chgCnt m.chgs ≤ 5000) (hs : soundB (fbM m) m = true) : MsgFits m := by
  refine ⟨ho, ⟨fun a ha => attFits_of (ho.list.2 a ha), ?_⟩, ⟨fun a ha => ⟨(ho.chgs.2 a ha).1, attFits_of (ho.chgs.2 a ha).2⟩, ?_⟩, fun hk => ?_⟩
  · have h1 := flat_sum (f := attB) (g := fun a => 1 + a.vals.length) (C := 1048600) (l := m.list) (fun x hx => attB_bd (ho.list.2 x hx))
    unfold attCnt at hc
    omega
  · have h1 := flat_sum (f := chgB) (g := fun a => 1 + a.att.vals.length) (C := 1048700) (l := m.chgs) (fun x hx => by
      have e1 := attB_bd (ho.chgs.2 x hx).2
      have e2 := intF_len 10 x.op
      have e3 := fieldB_length 48 ([fieldB 10 (intB x.op), attB x.att] : List (List UInt8)).flatten
      rw [two_len] at e3
      unfold chgB
      omega)
    unfold chgCnt at hc
    omega
  · have hf : fbM m = true := by
      cases hf : fbM m
      · exfalso
        rw [sound_f4 (m := m) (fb := fbM m) (by rw [hf, hk]; rfl)] at hs
        cases hs
      · rfl
    unfold fbM at hf
    rw [Bool.and_eq_true, decide_eq_true_iff] at hf
    refine ⟨?_, hf.1⟩
    have h1 := Fil.fok_eq m.fil 20 (by omega)
    have h2 := hf.2
    rw [show (1 : Nat) = 21 - 20 from rfl, h1, Bool.and_eq_true] at h2
    exact h2.2
theorem known_of {m : Msg} {fb : Bool} (hs : soundB fb m = true) : knownB m.kind = true := by
  cases hk : knownB m.kind
  · rw [sound_f2 (by rw [hk]; rfl)] at hs
    cases hs
  · rfl
end Go.Proofs.Ytabaeiolpbdjnaa
/- The walk of the reference's Encode of messages. -/
namespace Go.Proofs.Ytabaeiolpbdjnaa
open Go.RowKit
set_option maxRecDepth 100000
set_option linter.unusedSimpArgs false
set_option linter.unusedVariables false

theorem rencode_unsound {m : Msg} {d : MsgD} {cs : Array Value} {S : Nat → Prop} (hcs : Hid (cs = (msgCells m d).toArray)) (w : World) (hm : MsgRows S w m d) (ho : MsgOk m) (hs : soundB (fbM m) m = false) :
    Calls Try.prog 9 #[.agg cs] w fun e w' => e = .returned (.tuple #[.slice none 0 0, .int .i64 1]) ∧ Ext w w' := by
  have Hm := hid hm
  have Zc : Hid ((Try.prog.info? 30).map (·.size) = some cs.size) := by show _ = _; rw [hcs.out]; kernel_rfl
  have HS := hid hs
  clear hm hs
  go_enter Try.func9, Try.ntmps9
  go_wp2_with (first
    | (refine box_arm rfl 30 (.tmp 0) rfl cs rfl ?_; intro w1 hx1 hz1 hg1; have Hg1 := hid hg1; have X1 := hid hx1; clear hz1 hg1 hx1)
    | (refine wpList_load_row rfl 30 (.tmp 1) rfl w.heap.size rfl _ _ _ _ Hg1.out Try.underlying30 rfl Zc.out ?_)
    | (go_at_call 23; (with_reducible refine (rformed_msg hcs _ (Hm.out.ext X1.out) ho).mono ?_); rintro e w2 ⟨he, hx2⟩; rw [HS.out] at he; subst he))
  go_ret2
  exact ⟨rfl, X1.out.trans hx2⟩
set_option maxHeartbeats 2000000 in
theorem rencode_sound {m : Msg} {d : MsgD} {cs : Array Value} {S : Nat → Prop} (hcs : Hid (cs = (msgCells m d).toArray)) (w : World) (hm : MsgRows S w m d) (hf : MsgFits m) (hk : knownB m.kind = true) (hs : soundB (fbM m) m = true) :
    Calls Try.prog 9 #[.agg cs] w fun e w' => ∃ A n c, e = .returned (.tuple #[.slice A n c, .int .i64 (if (msgB m).length ≤ 16384 then 0 else 1)]) ∧ Sl w' A n c (if (msgB m).length ≤ 16384 then msgB m else []) ∧ Ext w w' := by
  have Hm := hid hm
  have Zc : Hid ((Try.prog.info? 30).map (·.size) = some cs.size) := by show _ = _; rw [hcs.out]; kernel_rfl
  have HS := hid hs
  have HO := hid hf.ok
  have HFi := hid hf
  have HK := hid hk
  obtain ⟨T, hT⟩ : ∃ T : List UInt8 → World → Ending → World → Prop, T = fun xs w e w' => ∃ A n c, e = .returned (.tuple #[.slice A n c, .int .i64 (if xs.length ≤ 16384 then 0 else 1)]) ∧ Sl w' A n c (if xs.length ≤ 16384 then xs else []) ∧ Ext w w' := ⟨_, rfl⟩
  have hg : Calls Try.prog 9 #[.agg cs] w (T (msgB m) w) := by
    have HT := hid hT
    clear hm hs hf hk hT
    go_enter Try.func9, Try.ntmps9
    go_wp2_with (first
      | (refine box_arm rfl 30 (.tmp 0) rfl cs rfl ?_; intro w1 hx1 hz1 hg1; have Hg1 := hid hg1; have X1 := hid hx1; clear hz1 hg1 hx1)
      | (have chk := X2; clear chk; refine wpList_load_row rfl 30 (.tmp 1) rfl w.heap.size rfl _ _ _ _ (row_later Hg1.out X2.out) Try.underlying30 rfl Zc.out ?_)
      | (refine wpList_load_row rfl 30 (.tmp 1) rfl w.heap.size rfl _ _ _ _ Hg1.out Try.underlying30 rfl Zc.out ?_)
      | (go_at_call 23; (with_reducible refine (rformed_msg hcs _ (Hm.out.ext X1.out) HO.out).mono ?_); rintro e w2 ⟨he, hx2⟩; rw [HS.out] at he; subst he; have X2 := hid hx2; clear hx2)
      | (go_at_call 24; (with_reducible refine (rbytes_any hcs _ (Hm.out.ext (X1.out.trans X2.out)) HFi.out HK.out).mono ?_); rintro e w3 ⟨A9, n9, c9, rfl, hn9, hs9, hx9⟩; have HN9 := hid hn9; have HS9 := hid (own_sl hs9); have Y := hid (X2.out.trans hx9); clear hs9 hn9 hx9))
    all_goals
      try go_ret2
      rw [HT.out]
      first
        | (have hle : (msgB m).length ≤ 16384 := by have h1 := HN9.out; omega
           exact ⟨_, _, _, by rw [if_pos hle]; rfl, by rw [if_pos hle]; exact HS9.out, X1.out.trans Y.out⟩)
        | (have hle : ¬ (msgB m).length ≤ 16384 := by have h1 := HN9.out; omega
           exact ⟨_, _, _, by rw [if_neg hle]; rfl, by rw [if_neg hle]; exact Sl.nil _, X1.out.trans Y.out⟩)
  rw [hT] at hg
  exact hg
end Go.Proofs.Ytabaeiolpbdjnaa
