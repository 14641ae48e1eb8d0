import Derived.Test.YtencmdpjiafnaaaGreatDoorZ09
import Derived.Test.YtencmdpjiafnaaaGreatDoorZ10
import Derived.Test.YtencmdpjiafnaaaGreatDoorZ11
import Derived.Lib.SplitLaws
import Derived.Lib.AppendIntMem
/- What the walks call of Go's library, in the words of these texts. -/
namespace Go.Proofs.YtencmdpjiafnaaaGreatDoor
open Go.RowKit
set_option maxRecDepth 100000
set_option linter.unusedSimpArgs false
set_option linter.unusedVariables false

theorem strs_data (l : List (List UInt8)) : (strs l).map (·.data.toList) = l := by
  induction l with
  | nil => rfl
  | cons x t ih => exact congrArg (x :: ·) ih
theorem split_blank (s : ByteArray) (w : World) (hG : Gl w) (hs : s.size ≤ 4000000) :
    Calls Tryz.prog 232 #[.string s, .string ⟨#[32]⟩] w fun e w' => ∃ A n, e = .returned (.slice A n n) ∧ Row Elem.str (fun _ => True) w' A n n (strs (splitSp [] (bys s))) ∧ Ext w w' := by
  obtain ⟨m, hm⟩ := hG.maxlen
  refine (Tryz.strings_Split s ⟨#[32]⟩ m w (by omega) hm (by decide)).mono ?_
  rintro e w' ⟨rfl, rfl⟩
  have hlen := Lib.splitB_all ⟨#[32]⟩ (by decide) 0 _ s rfl
  have hle := Lib.countB_le ⟨#[32]⟩ (by decide) s.size s (Nat.le_refl _)
  have hd := Lib.splitB_data ⟨#[32]⟩ 0 (Lib.countB s ⟨#[32]⟩) s
  have h1 : Lib.splitB ⟨#[32]⟩ 0 (Lib.countB s ⟨#[32]⟩) s = strs (splitSp [] (bys s)) := by
    rw [← split_sp _ (bys s) (Nat.le_refl _)]
    have e : Lib.splitK [32] 0 (Lib.count (bys s) [32]) (bys s) = (Lib.splitB ⟨#[32]⟩ 0 (Lib.countB s ⟨#[32]⟩) s).map (·.data.toList) := hd.symm
    rw [e]
    show _ = List.map str (List.map _ _)
    rw [List.map_map]
    conv => lhs; rw [← List.map_id (Lib.splitB ⟨#[32]⟩ 0 (Lib.countB s ⟨#[32]⟩) s)]
    exact List.map_congr_left fun x _ => (str_bys x).symm
  have hl := lit_str w (Lib.splitB ⟨#[32]⟩ 0 (Lib.countB s ⟨#[32]⟩) s) 9 (by rw [hlen]; unfold maxLen; omega)
  rw [hlen] at hl
  rw [h1] at hl ⊢
  exact ⟨_, _, rfl, hl, Ext.alloc _ _⟩
theorem splitsays : SplitSays := split_blank
theorem join_any (l : List ByteArray) (sep : ByteArray) {S : Nat → Prop} {A : Option Addr} {n c : Nat} {w : World} (h : Row Elem.str S w A n c l) (hn : l.length ≤ 4000001) (hl : (Lib.join (l.map (·.data.toList)) sep.data.toList).length ≤ 140737488355328) :
    Calls Tryz.prog 61 #[.slice A n c, .string sep] w fun e w' => e = .returned (.string (str (Lib.join (l.map bys) (bys sep)))) ∧ Ext w w' := by
  have hlen := h.len
  rcases Nat.eq_zero_or_pos n with h0 | h0
  · have hnil : l = [] := h.nil_iff.1 h0
    subst hnil h0
    refine (Tryz.strings_Join_none A c sep w).mono ?_
    rintro e w' ⟨rfl, rfl⟩
    exact ⟨rfl, Ext.refl _⟩
  · obtain ⟨b, o, rfl, hc⟩ := h.str_cell h0
    have hc0 := hc 0 h0
    subst hlen
    refine (Tryz.strings_Join b o c l sep w (fun j x hj => ?_) (World.block_lt_of_cell? w _ hc0) (by omega) h.cap hl).mono ?_
    · have hj' := (List.getElem?_eq_some_iff.1 hj).1
      rw [hc j hj', hj]
      rfl
    · rintro e w' ⟨rfl, hx⟩
      exact ⟨rfl, hx⟩
theorem words_row (s : ByteArray) (w : World) (hG : Gl w) (hs : s.size ≤ 4000000) :
    Calls Tryz.prog 212 #[.string s] w fun e w' => ∃ A n c, e = .returned (.slice A n c) ∧ Row Elem.str (fun b => w.heap.size ≤ b) w' A n c (strs (wordsB (bys s))) ∧ Ext w w' := by
  refine (words_any splitsays s w hG hs).mono ?_
  rintro e w' ⟨v, rfl, hg⟩
  have hx := hg.ext
  obtain ⟨A, c, rfl, hr⟩ := hg.row
  exact ⟨A, _, c, rfl, hr, hx⟩
theorem splitSp_sum : ∀ (l cur : List UInt8), ((splitSp cur l).map List.length).sum ≤ cur.length + l.length
  | [], cur => by simp [splitSp]
  | c :: t, cur => by
    unfold splitSp
    split
    · have := splitSp_sum t []; simp only [List.map_cons, List.sum_cons, List.length_nil, List.length_cons] at this ⊢; omega
    · have := splitSp_sum t (cur ++ [c]); simp only [List.length_append, List.length_cons, List.length_nil] at this ⊢; omega
theorem joinSp_le : ∀ ws : List (List UInt8), (joinSp ws).length ≤ (ws.map List.length).sum + ws.length
  | [] => by simp [joinSp]
  | [x] => by simp [joinSp]
  | x :: y :: t => by
    have := joinSp_le (y :: t)
    simp only [joinSp, List.length_append, List.length_cons, List.map_cons, List.sum_cons] at this ⊢
    omega
theorem filter_sum (p : List UInt8 → Bool) : ∀ l : List (List UInt8), ((l.filter p).map List.length).sum ≤ (l.map List.length).sum
  | [] => by simp
  | x :: t => by
    have := filter_sum p t
    rw [List.filter_cons]
    split <;> simp only [List.map_cons, List.sum_cons] <;> omega
theorem words_le (v : List UInt8) : (joinSp (wordsB v)).length ≤ 2 * v.length + 1 := by
  have h1 := joinSp_le (wordsB v)
  have h2 := filter_sum (fun x => decide (x ≠ [])) (splitSp [] v)
  have h3 := splitSp_sum v []
  have h4 := splitSp_length v []
  have h5 : (wordsB v).length ≤ (splitSp [] v).length := List.length_filter_le _ _
  have h6 : ((wordsB v).map List.length).sum ≤ ((splitSp [] v).map List.length).sum := h2
  simp only [List.length_nil] at h3
  omega
theorem wordsB_len (v : List UInt8) : (wordsB v).length ≤ v.length + 1 := Nat.le_trans (List.length_filter_le _ _) (splitSp_length v [])
theorem strs_bys (l : List (List UInt8)) : (strs l).map bys = l := strs_data l
theorem ext_bytes (w : World) (e : TypeId) (s : ByteArray) : Ext w (Lib.bytesWorld w e s) := by
  refine ⟨?_, ?_, ?_, by rw [Lib.bytesWorld_size]; omega, fun k hk => Lib.bytesWorld_at_old w e s k hk⟩
  all_goals
    simp only [Lib.bytesWorld, World.freeze, World.alloc, World.drew]
    split <;> rfl
theorem parseint_ok (s : ByteArray) (n : Int) (w : World) (hs : s.size ≤ 4000000) (h : Lib.parseIntB 64 (bys s) = .ok n) :
    Calls Tryz.prog 199 #[.string s, .int .i64 10, .int .i64 64] w fun e w' => e = .returned (.tuple #[.int .i64 n, .nilIface]) ∧ Ext w w' := by
  refine (Tryz.strconv_ParseInt_10_at64_ok s (by omega) n h w).mono ?_
  rintro e w' ⟨rfl, rfl | ⟨t, rfl⟩⟩
  · exact ⟨rfl, Ext.refl _⟩
  · exact ⟨rfl, ext_bytes _ _ _⟩
theorem parseint_bad (s : ByteArray) (w : World) (hG : Gl w) (hs : s.size ≤ 4000000) (h : ∀ n, Lib.parseIntB 64 (bys s) ≠ .ok n) :
    Calls Tryz.prog 199 #[.string s, .int .i64 10, .int .i64 64] w fun e w' => (∃ n tp a, e = .returned (.tuple #[.int .i64 n, .iface tp (.pointer (some a))])) ∧ Ext w w' := by
  obtain ⟨-, ⟨t1, p1, h1⟩, ⟨t2, p2, h2⟩, -⟩ := hG
  rcases hp : Lib.parseIntB 64 (bys s) with n | _ | _
  · exact absurd hp (h n)
  · refine (Any.strconv_ParseInt_10_at64_syntax_var Tryz.laysC174 s (by omega) hp t1 p1 w h1).mono ?_
    rintro e w' ⟨N, rfl, _, _, hx⟩
    exact ⟨⟨_, _, _, rfl⟩, hx⟩
  · refine (Tryz.strconv_ParseInt_10_at64_range_var s (by omega) hp t2 p2 w h2).mono ?_
    rintro e w' ⟨N, rfl, _, _, hx⟩
    exact ⟨⟨_, _, _, rfl⟩, hx⟩
theorem formatint_any (n : Int) (w : World) (hG : Gl w) (h0 : -9223372036854775808 ≤ n) (h1 : n ≤ 9223372036854775807) :
    Calls Tryz.prog 200 #[.int .i64 n, .int .i64 10] w fun e w' => e = .returned (.string (str (Lib.itoa n))) ∧ Ext w w' := by
  refine (Tryz.strconv_FormatInt_10 n h0 h1 w hG.pow).mono ?_
  rintro e w' ⟨rfl, k, os, rfl⟩
  exact ⟨rfl, Lib.below_grow _ _ (Nat.le_refl _) _ _⟩
theorem trimdash_any (s : ByteArray) (w : World) :
    Calls Tryz.prog 213 #[.string s, .string ⟨#[45]⟩] w fun e w' => e = .returned (.string (str (digsB (bys s)))) ∧ w' = w := by
  refine (Tryz.strings_TrimPrefix s ⟨#[45]⟩ w).mono ?_
  rintro e w' ⟨rfl, rfl⟩
  refine ⟨?_, rfl⟩
  have e : Lib.trimPrefix s.data.toList (ByteArray.mk #[45]).data.toList = digsB (bys s) := trim_dash (bys s)
  rw [e]
theorem indexbyte_no (s : ByteArray) (k : Int) (c : UInt8) (hc : k.toNat.toUInt8 = c) (w : World) (h : c ∉ bys s) :
    Calls Tryz.prog 179 #[.string s, .int .u8 k] w fun e w' => e = .returned (.int .i64 (-1)) ∧ w' = w := by
  refine (Tryz.strings_IndexByte s k w).mono ?_
  rintro e w' ⟨rfl, rfl⟩
  have e : Lib.indexByte s.data.toList (k.toNat.toUInt8) = -1 := idxB_none (by rw [hc]; exact h)
  rw [e]
  exact ⟨rfl, rfl⟩
theorem indexbyte_yes (s : ByteArray) (k : Int) (c : UInt8) (hc : k.toNat.toUInt8 = c) (w : World) (h : c ∈ bys s) :
    Calls Tryz.prog 179 #[.string s, .int .u8 k] w fun e w' => (∃ i : Nat, e = .returned (.int .i64 i)) ∧ w' = w := by
  refine (Tryz.strings_IndexByte s k w).mono ?_
  rintro e w' ⟨rfl, rfl⟩
  obtain ⟨i, e, _⟩ := idxB_some (l := s.data.toList) (c := k.toNat.toUInt8) (by rw [hc]; exact h)
  rw [e]
  exact ⟨⟨i, rfl⟩, rfl⟩
theorem indexbyte_at (s : ByteArray) (k : Int) (c : UInt8) (hc : k.toNat.toUInt8 = c) (n : Int) (h : Lib.indexByte (bys s) c = n) (w : World) :
    Calls Tryz.prog 179 #[.string s, .int .u8 k] w fun e w' => e = .returned (.int .i64 n) ∧ w' = w := by
  refine (Tryz.strings_IndexByte s k w).mono ?_
  rintro e w' ⟨rfl, rfl⟩
  have e : Lib.indexByte s.data.toList (k.toNat.toUInt8) = n := by rw [hc]; exact h
  rw [e]
  exact ⟨rfl, rfl⟩
theorem u8_back (x : UInt8) : ((x.toNat : Int)).toNat.toUInt8 = x := by rw [Int.toNat_natCast]; exact UInt8.ofNat_toNat
end Go.Proofs.YtencmdpjiafnaaaGreatDoor
/- Sorting pairs: a pair is read, and written, in a row of the call's own; the comparison; what a row keeps. -/
namespace Go.Proofs.YtencmdpjiafnaaaGreatDoor
open Go.RowKit
set_option maxRecDepth 100000
set_option linter.unusedSimpArgs false
set_option linter.unusedVariables false

abbrev avaV (x : Ava) : Value := .agg #[.string (str x.type), .string (str x.val)]
theorem run_load_ava (w : World) (g k : Nat) (x : Ava) (h0 : w.cell? ⟨g, k * 2, none⟩ = some (.string (str x.type))) (h1 : w.cell? ⟨g, k * 2 + 1, none⟩ = some (.string (str x.val))) :
    (Instr.loadAt 129 (.pointer (some ⟨g, k * 2, none⟩))).run Tryz.prog w = .ok (avaV x) w := by
  go_simp
theorem run_store_ava (w : World) (g k : Nat) (x : Ava) (c0 c1 : Value) (h0 : w.cell? ⟨g, k * 2, none⟩ = some c0) (h1 : w.cell? ⟨g, k * 2 + 1, none⟩ = some c1) (f0 : w.frozen? ⟨g, k * 2, none⟩ = false) (f1 : w.frozen? ⟨g, k * 2 + 1, none⟩ = false) :
    (Instr.storeAt 129 (.pointer (some ⟨g, k * 2, none⟩)) (avaV x)).run Tryz.prog w = .ok () ((w.setCell ⟨g, k * 2, none⟩ (.string (str x.type))).setCell ⟨g, k * 2 + 1, none⟩ (.string (str x.val))) := by
  go_simp
section
variable {w w0 : World} {o : Oper} {a : Act} {K : Act → World → Prop} {Q : Exit → Act → World → Prop} {g n cap : Nat} {l : List Ava}
theorem load_ava_wp (x : Operand) (ho : o.op = .load 129 x) (k : Nat) (hx : a.eval x = .pointer (some ⟨g, k * 2, none⟩)) (hG : GrowA 129 w0 w (.slice (some ⟨g, 0, none⟩) n cap) l) (y : Ava) (hy : l[k]? = some y)
    (h : K (a.put o.dst (avaV y)) w) : o.wp Tryz.prog a w K Q := by
  have hr : (execOp a.eval o).run Tryz.prog w = .ok (.value (avaV y)) w := by
    unfold execOp
    simp only [ho, hx, Sem.run_bind, run_load_ava w g k y (hG.at0 hy) (hG.at1 hy), Result.andThen_ok, Sem.run_pure]
  unfold Oper.wp
  rw [hr]
  exact h
theorem store_ava_wp (x y : Operand) (ho : o.op = .store 129 x y) (k : Nat) (hx : a.eval x = .pointer (some ⟨g, k * 2, none⟩)) (v : Ava) (hy : a.eval y = avaV v) (hG : GrowA 129 w0 w (.slice (some ⟨g, 0, none⟩) n cap) l) (hk : k < l.length)
    (h : ∀ w', GrowA 129 w0 w' (.slice (some ⟨g, 0, none⟩) n cap) (l.set k v) → Below w0.heap.size w w' → K (a.put o.dst undef) w') : o.wp Tryz.prog a w K Q := by
  have hl : l[k]? = some l[k] := List.getElem?_eq_getElem hk
  have hr : (execOp a.eval o).run Tryz.prog w = .ok .skip ((w.setCell ⟨g, k * 2, none⟩ (.string (str v.type))).setCell ⟨g, k * 2 + 1, none⟩ (.string (str v.val))) := by
    unfold execOp
    simp only [ho, hx, hy, Sem.run_bind, run_store_ava w g k v _ _ (hG.at0 hl) (hG.at1 hl) (hG.thaw _) (hG.thaw _), Result.andThen_ok, Sem.run_pure]
  unfold Oper.wp
  rw [hr]
  exact h _ (hG.put hk v) (((Below.refl _ _).setCell hG.new _).setCell hG.new _)
end
/-- The comparison of two pairs. -/
def cmpA (x y : Ava) : Int := Lib.compareBytes x.type y.type
theorem cmpA_lt (x y : Ava) : (cmpA x y < 0) ↔ ltB x.type y.type = true := by
  unfold cmpA
  rcases cmp_lt x.type y.type with ⟨h1, h2⟩ | ⟨h1, h2⟩ | ⟨h1, h2⟩
  · rw [h1, h2]; simp
  · rw [h1, h2, ltB_irrefl]; simp
  · rw [h1, ltB_asymm _ _ h2]; simp
set_option maxHeartbeats 1000000 in
theorem cmp_any (x y : Ava) (w : World) : Calls Tryz.prog 138 #[avaV x, avaV y] w fun e w' => e = .returned (.int .i64 (cmpA x y)) ∧ Ext w w' := by
  have HC : ∀ w, Calls Tryz.prog 139 #[.string (str x.type), .string (str y.type)] w fun e w' => e = .returned (.int .i64 (cmpA x y)) ∧ w' = w := fun w => (Tryz.strings_Compare (str x.type) (str y.type) w)
  go_enter Tryz.func138, Tryz.ntmps138
  go_wp2_with (go_at_call 139; (with_reducible refine (HC _).mono ?_); rintro e w1 ⟨rfl, rfl⟩)
  go_ret
  exact ⟨rfl, (Ext.alloc _ _).trans (Ext.alloc _ _)⟩
/-- A row of as many, all of them of the first. -/
def Sub (l l' : List Ava) : Prop := l'.length = l.length ∧ ∀ x ∈ l', x ∈ l
theorem Sub.refl (l : List Ava) : Sub l l := ⟨rfl, fun _ h => h⟩
theorem Sub.trans {a b c : List Ava} (h : Sub a b) (k : Sub b c) : Sub a c := ⟨k.1.trans h.1, fun x hx => h.2 x (k.2 x hx)⟩
theorem Sub.set {a b : List Ava} (h : Sub a b) (i : Nat) {x : Ava} (hx : x ∈ a) : Sub a (b.set i x) := by
  refine ⟨by rw [List.length_set]; exact h.1, fun y hy => ?_⟩
  rcases List.mem_or_eq_of_mem_set hy with h1 | h1
  · exact h.2 y h1
  · rw [h1]; exact hx
/-- Two change places. -/
def swapL (l : List Ava) (i j : Nat) : List Ava := match l[i]?, l[j]? with | some x, some y => (l.set i y).set j x | _, _ => l
theorem swapL_at {l : List Ava} {i j : Nat} {x y : Ava} (hi : l[i]? = some x) (hj : l[j]? = some y) : swapL l i j = (l.set i y).set j x := by unfold swapL; rw [hi, hj]
theorem swapL_sub (l : List Ava) (i j : Nat) : Sub l (swapL l i j) := by
  unfold swapL
  split
  · rename_i x y h1 h2
    exact ((Sub.refl l).set i (List.mem_of_getElem? h2)).set j (List.mem_of_getElem? h1)
  · exact Sub.refl l
end Go.Proofs.YtencmdpjiafnaaaGreatDoor
