import Derived.Test.YtencmdpjiafnaaaGreatDoorZ02
import Derived.Lib.ConvBytes
import Derived.Test.YtencmdpjiafnaaaGreatDoorZ01
/- '[]byte(s)' of any text: a new slice that reads as its bytes. -/
namespace Go.Proofs.YtencmdpjiafnaaaGreatDoor
open Go.RowKit

/-- The bytes of a text. -/
abbrev bys (s : ByteArray) : List UInt8 := s.data.toList
theorem bys_len (s : ByteArray) : (bys s).length = s.size := by obtain ⟨⟨l⟩⟩ := s; rfl
theorem str_emp {s : ByteArray} (h : s.size = 0) : s = ByteArray.empty := by
  obtain ⟨⟨l⟩⟩ := s
  cases l
  · rfl
  · simp [ByteArray.size] at h
/-- What the walk reads of a text's emptiness. -/
theorem emp_yes {s : ByteArray} (h : s.size = 0) : s.toList = [] := by
  rw [str_emp h, ByteArray.toList_eq]; rfl
theorem emp_no {s : ByteArray} (h : ¬ s.size = 0) : ¬ s.toList = [] := by
  intro e
  rw [ByteArray.toList_eq] at e
  apply h
  obtain ⟨⟨l⟩⟩ := s
  simp at e
  subst e
  rfl
theorem emp_nb {s : ByteArray} (h : ¬ s.size = 0) : s.toList.isEmpty = false := by rw [List.isEmpty_eq_false_iff]; exact emp_no h
/-- '[]byte(s)': the new block alone is new. -/
structure Fresh (w : World) (A : Option Addr) (w' : World) : Prop where
  at_ : A = some ⟨w.heap.size, 0, none⟩
  size : w'.heap.size = w.heap.size + 1
  ext : Ext w w'
theorem run_tobytes {P : Program} (w : World) (src dst e : TypeId) (s : ByteArray) (hs : P.underlying src = some .string) (hd : P.underlying dst = some (.slice e)) (he : P.underlying e = some (.int .u8)) (hm : s.size ≤ maxLen) :
    ∃ A c w', (convert src dst (.string s)).run P w = .ok (.slice A s.size c) w' ∧ Sl w' A s.size c (bys s) ∧ Fresh w A w' := by
  have hx : Ext w (Lib.bytesWorld w e s) := by
    refine ⟨?_, ?_, ?_, by rw [Lib.bytesWorld_size]; omega, fun k hk => Lib.bytesWorld_at_old w e s k hk⟩
    all_goals
      simp only [Lib.bytesWorld, World.freeze, World.alloc, World.drew]
      split <;> rfl
  refine ⟨_, _, _, Lib.run_convert_string_bytes w src dst e s hs hd he, ⟨(bys_len s).symm, grownCap_ge w s.size 0 e, grownCap_le_maxLen w s.size 0 e hm, ?_⟩, rfl, Lib.bytesWorld_size w e s, hx⟩
  refine .inr ⟨w.heap.size, 0, rfl, fun j u hj => ?_⟩
  have hl : j < s.size := by
    rw [← bys_len s]
    have := (List.getElem?_eq_some_iff.1 hj).1
    simpa using this
  rw [Nat.zero_add, Lib.bytesWorld_cell w e s j hl]
  rw [List.getElem?_map] at hj
  have : (bys s)[j]? = some ((bys s).getD j 0) := by
    rw [List.getD_eq_getElem?_getD, List.getElem?_eq_getElem (by rw [bys_len]; exact hl)]; rfl
  rw [this] at hj
  simpa [bv] using hj
section
variable {w : World} {ops : Array Oper} {rest : List Oper} {o : Oper} {a : Act} {Q : Exit → Act → World → Prop} {K : Act → World → Prop}
theorem tobytes_wp (x : Operand) (ho : o.op = .convert 9 141 x) (s : ByteArray) (hx : a.eval x = .string s) (hm : s.size ≤ maxLen)
    (h : ∀ A c w', Sl w' A s.size c (bys s) → Fresh w A w' → K (a.put o.dst (.slice A s.size c)) w') : o.wp Tryz.prog a w K Q := by
  obtain ⟨A, c, w', hr, h1, h2⟩ := run_tobytes (P := Tryz.prog) w _ _ _ s Tryz.underlying9 Tryz.underlying141 Tryz.underlying5 hm
  unfold Oper.wp execOp
  simp only [ho, hx, Sem.run_bind, hr, Result.andThen_ok, Sem.run_pure]
  exact h A c w' h1 h2
theorem tobytes_arm (hgd : o.guard = none) (x : Operand) (ho : o.op = .convert 9 141 x) (s : ByteArray) (hx : a.eval x = .string s) (hm : s.size ≤ maxLen)
    (h : ∀ A c w', Sl w' A s.size c (bys s) → Fresh w A w' → wpList Tryz.prog ops Q rest (a.put o.dst (.slice A s.size c)) w') : wpList Tryz.prog ops Q (o :: rest) a w :=
  wpList_plain hgd fun _ hK => tobytes_wp x ho s hx hm fun A c w' h1 h2 => hK _ _ (h A c w' h1 h2)
end
end Go.Proofs.YtencmdpjiafnaaaGreatDoor
/- The walks of rule's and of the reference's Lower: letters made small. -/
namespace Go.Proofs.YtencmdpjiafnaaaGreatDoor
open Go.RowKit
set_option maxRecDepth 100000
set_option linter.unusedSimpArgs false

/-- A text of so many bytes. -/
abbrev str (xs : List UInt8) : ByteArray := ⟨xs.toArray⟩
theorem bys_str (xs : List UInt8) : bys (str xs) = xs := by simp [bys]
theorem str_bys (s : ByteArray) : str (bys s) = s := by obtain ⟨⟨l⟩⟩ := s; rfl
theorem str_size (xs : List UInt8) : (str xs).size = xs.length := rfl
theorem str_inj {xs ys : List UInt8} : str xs = str ys ↔ xs = ys := ⟨fun h => by rw [← bys_str xs, h, bys_str], fun h => by rw [h]⟩

/-- A buffer of the call's own, in block g, made behind the world w: it reads as xs; all its cells may be written. -/
structure Buf (w w' : World) (g c : Nat) (xs : List UInt8) : Prop where
  new : w.heap.size ≤ g
  cells : ∀ j (_ : j < xs.length), w'.cell? ⟨g, j, none⟩ = some (.int .u8 (((xs[j]?).getD 0).toNat : Int))
  thaw : ∀ j (_ : j < xs.length), w'.frozen? ⟨g, j, none⟩ = false
  ext : Ext w w'
  cap : xs.length ≤ c
  most : c ≤ maxLen
theorem Buf.sl {w w' : World} {g c : Nat} {xs : List UInt8} (h : Buf w w' g c xs) : Sl w' (some ⟨g, 0, none⟩) xs.length c xs := by
  refine ⟨rfl, h.cap, h.most, .inr ⟨g, 0, rfl, fun j u hj => ?_⟩⟩
  have hl : j < xs.length := by have := (List.getElem?_eq_some_iff.1 hj).1; simpa using this
  rw [Nat.zero_add, h.cells j hl]
  rw [List.getElem?_map, List.getElem?_eq_getElem hl] at hj
  rw [List.getElem?_eq_getElem hl]
  simpa [bv] using hj
theorem Buf.set {w w' : World} {g c : Nat} {xs : List UInt8} (h : Buf w w' g c xs) (k : Nat) (b : UInt8) (hk : k < xs.length) : Buf w (w'.setCell ⟨g, k, none⟩ (.int .u8 (b.toNat : Int))) g c (xs.set k b) := by
  refine ⟨h.new, fun j hj => ?_, fun j hj => ?_, ?_, by simpa using h.cap, h.most⟩
  · rw [List.length_set] at hj
    by_cases e : k = j
    · subst e
      rw [World.cell?_setCell_same w' _ _ (h.cells k hk), List.getElem?_set_self hk]
      rfl
    · rw [World.cell?_setCell_other w' _ _ _ (by intro h; injection h; omega), List.getElem?_set_ne e]
      exact h.cells j hj
  · rw [List.length_set] at hj
    rw [World.frozen?_setCell]
    exact h.thaw j hj
  · refine ⟨h.ext.os, h.ext.tape, h.ext.output, by simpa using h.ext.size, fun k hk => ?_⟩
    rw [heap_setCell_other _ _ _ _ (by have := h.new; simp; omega)]
    exact h.ext.block k hk
theorem buf_new (w : World) (e : TypeId) (s : ByteArray) (hm : s.size ≤ maxLen) : Buf w (Lib.bytesWorld w e s) w.heap.size (grownCap w s.size 0 e) (bys s) := by
  refine ⟨Nat.le_refl _, fun j hj => ?_, fun j hj => ?_, ?_, by rw [bys_len]; exact grownCap_ge w s.size 0 e, grownCap_le_maxLen w s.size 0 e hm⟩
  · rw [bys_len] at hj
    rw [Lib.bytesWorld_cell w e s j hj, List.getD_eq_getElem?_getD]
  · rw [bys_len] at hj
    have : s.size ≤ (Lib.bytesCells w e s).size := by unfold Lib.bytesCells; rw [Array.size_append, Array.size_map]; show s.size ≤ s.size + _; omega
    simp [World.frozen?, Lib.bytesWorld_at_new]
    omega
  · refine ⟨?_, ?_, ?_, by rw [Lib.bytesWorld_size]; omega, fun k hk => Lib.bytesWorld_at_old w e s k hk⟩
    all_goals
      simp only [Lib.bytesWorld, World.freeze, World.alloc, World.drew]
      split <;> rfl
section
variable {w : World} {ops : Array Oper} {rest : List Oper} {o : Oper} {a : Act} {Q : Exit → Act → World → Prop} {K : Act → World → Prop}
theorem tobuf_wp (x : Operand) (ho : o.op = .convert 9 141 x) (s : ByteArray) (hx : a.eval x = .string s) (hm : s.size ≤ maxLen)
    (h : ∀ g c w', Buf w w' g c (bys s) → K (a.put o.dst (.slice (some ⟨g, 0, none⟩) s.size c)) w') : o.wp Tryz.prog a w K Q := by
  have hr := Lib.run_convert_string_bytes (P := Tryz.prog) w _ _ _ s Tryz.underlying9 Tryz.underlying141 Tryz.underlying5
  unfold Oper.wp execOp
  simp only [ho, hx, Sem.run_bind, hr, Result.andThen_ok, Sem.run_pure]
  exact h _ _ _ (buf_new w _ s hm)
theorem tobuf_arm (hgd : o.guard = none) (x : Operand) (ho : o.op = .convert 9 141 x) (s : ByteArray) (hx : a.eval x = .string s) (hm : s.size ≤ maxLen)
    (h : ∀ g c w', Buf w w' g c (bys s) → wpList Tryz.prog ops Q rest (a.put o.dst (.slice (some ⟨g, 0, none⟩) s.size c)) w') : wpList Tryz.prog ops Q (o :: rest) a w :=
  wpList_plain hgd fun _ hK => tobuf_wp x ho s hx hm fun g c w' h1 => hK _ _ (h g c w' h1)
end
/-- Half made small. -/
def mixL (k : Nat) (s : List UInt8) : List UInt8 := (s.take k).map loB ++ s.drop k
theorem mixL_length (k : Nat) (s : List UInt8) : (mixL k s).length = s.length := by simp [mixL]; omega
theorem mixL_zero (s : List UInt8) : mixL 0 s = s := by simp [mixL]
theorem mixL_all (s : List UInt8) : mixL s.length s = lowerB s := by simp [mixL, lowerB]
theorem mixL_get (k : Nat) (s : List UInt8) (j : Nat) (h : k ≤ j) (hk : k ≤ s.length) : (mixL k s)[j]? = s[j]? := by
  unfold mixL
  rw [List.getElem?_append_right (by simp; omega)]
  simp
  congr 1
  omega
theorem mixL_step (k : Nat) (s : List UInt8) (h : k < s.length) : (mixL k s).set k (loB (s[k]?.getD 0)) = mixL (k + 1) s := by
  unfold mixL
  rw [List.set_append_right _ _ (by simp; omega)]
  have e : k - (List.map loB (List.take k s)).length = 0 := by simp; omega
  rw [e, List.drop_eq_getElem_cons h, List.set_cons_zero, List.take_add_one, List.getElem?_eq_getElem h, List.map_append]
  simp
theorem mixL_skip (k : Nat) (s : List UInt8) (h : k < s.length) (hl : loB (s[k]?.getD 0) = s[k]?.getD 0) : mixL k s = mixL (k + 1) s := by
  rw [← mixL_step k s h, hl]
  apply List.ext_getElem?
  intro j
  by_cases e : k = j
  · subst e
    rw [List.getElem?_set_self (by rw [mixL_length]; exact h), mixL_get k s k (Nat.le_refl _) (by omega), List.getElem?_eq_getElem h]
    simp
  · rw [List.getElem?_set_ne e]
theorem lo_up {c : UInt8} (h : 65 ≤ (c.toNat : Int)) (k : (c.toNat : Int) ≤ 90) : loB c = UInt8.ofNat (c.toNat + 32) := by unfold loB; rw [if_pos (by omega)]
theorem lo_no {c : UInt8} (h : ¬ (65 ≤ (c.toNat : Int) ∧ (c.toNat : Int) ≤ 90)) : loB c = c := by unfold loB; rw [if_neg (by omega)]
theorem lo_bits {c : UInt8} (h : 65 ≤ (c.toNat : Int)) (k : (c.toNat : Int) ≤ 90) : bits BinOp.or IntKind.u8 (c.toNat : Int) 32 = ((loB c).toNat : Int) := by
  have hall : ∀ c : UInt8, 65 ≤ (c.toNat : Int) → (c.toNat : Int) ≤ 90 → bits BinOp.or IntKind.u8 (c.toNat : Int) 32 = ((loB c).toNat : Int) := by
    intro x
    obtain ⟨n, rfl⟩ : ∃ n : Fin 256, x = UInt8.ofFin n := ⟨x.toFin, rfl⟩
    revert n
    decide +kernel
  exact hall c h k
theorem lo_plus {c : UInt8} (h : 65 ≤ (c.toNat : Int)) (k : (c.toNat : Int) ≤ 90) : (c.toNat : Int) + 32 = ((loB c).toNat : Int) := by
  rw [lo_up h k, UInt8.toNat_ofNat']
  omega
theorem lower_done {w wr : World} {g c k n : Nat} {s : ByteArray} (hk : k = s.size) (hn : n = s.size) (h : Buf w wr g c (mixL k (bys s))) : Sl wr (some ⟨g, 0, none⟩) n c (lowerB (bys s)) := by
  subst hk hn
  have h1 := h.sl
  rw [mixL_length, bys_len] at h1
  rw [← bys_len s, mixL_all] at h1
  exact h1
set_option maxHeartbeats 1000000 in
theorem lower_any (s : ByteArray) (w : World) (hs : s.size ≤ maxLen) : Calls Tryz.prog 97 #[.string s] w fun e w' => e = .returned (.string (str (lowerB (bys s)))) ∧ Ext w w' := by
  have Hs := hid hs
  have hs63 : s.size ≤ 9223372036854775807 := by unfold maxLen at hs; omega
  clear hs
  go_enter Tryz.func97, Tryz.ntmps97
  go_wp2_with (refine tobuf_arm rfl (.tmp 6) rfl s rfl Hs.out ?_; intro g c w1 hb1; have HB1 := hid hb1; clear hb1)
  go_loopw [10] (fun i wr => ∃ k : Nat, k ≤ s.size ∧ i = .int .i64 k ∧ Hid (Buf w wr g c (mixL k (bys s)))) (fun i _ => s.size - (intOf i).toNat)
  case atStart => exact ⟨0, by omega, rfl, by rw [mixL_zero]; exact HB1⟩
  case round =>
    obtain ⟨k, hk, rfl, HB⟩ := hrel
    by_cases hlt : k < s.size
    · obtain ⟨x, hx⟩ : ∃ x, x = ((bys s)[k]?).getD 0 := ⟨_, rfl⟩
      have e1 : wr.cell? ⟨g, k, none⟩ = some (.int .u8 (x.toNat : Int)) := by
        rw [HB.out.cells k (by rw [mixL_length, bys_len]; exact hlt), mixL_get k _ k (Nat.le_refl _) (by rw [bys_len]; exact hk), hx]
      have f1 : wr.frozen? ⟨g, k, none⟩ = false := HB.out.thaw k (by rw [mixL_length, bys_len]; exact hlt)
      have hx1 : (x.toNat : Int) < 256 := by have := x.toNat_lt; omega
      have HX := hid hx
      clear hx
      by_cases h65 : 65 ≤ (x.toNat : Int)
      · by_cases h90 : (x.toNat : Int) ≤ 90
        · have t1 := lo_bits h65 h90
          have t2 := lo_plus h65 h90
          have HS : Hid (Buf w (wr.setCell ⟨g, k, none⟩ (.int .u8 ((loB x).toNat : Int))) g c (mixL (k + 1) (bys s))) := by
            have := HB.out.set k (loB x) (by rw [mixL_length, bys_len]; exact hlt)
            rw [HX.out, mixL_step k _ (by rw [bys_len]; exact hlt)] at this
            rw [HX.out]
            exact this
          go_wp2
          refine ⟨⟨k + 1, by omega, by go_num, ?_⟩, by simp [intOf]; omega⟩
          exact HS
        · have HS : Hid (Buf w wr g c (mixL (k + 1) (bys s))) := by
            show Buf _ _ _ _ _
            rw [← mixL_skip k _ (by rw [bys_len]; exact hlt) (by rw [← HX.out]; exact lo_no (by omega))]
            exact HB.out
          go_wp2
          exact ⟨⟨k + 1, by omega, by go_num, HS⟩, by simp [intOf]; omega⟩
      · have HS : Hid (Buf w wr g c (mixL (k + 1) (bys s))) := by
          show Buf _ _ _ _ _
          rw [← mixL_skip k _ (by rw [bys_len]; exact hlt) (by rw [← HX.out]; exact lo_no (by omega))]
          exact HB.out
        go_wp2
        exact ⟨⟨k + 1, by omega, by go_num, HS⟩, by simp [intOf]; omega⟩
    · obtain rfl : k = s.size := by omega
      have hC := (lower_done rfl rfl HB.out).conv wr (Ext.refl wr)
      go_wp2
      go_ret
      exact ⟨rfl, HB.out.ext⟩
set_option maxHeartbeats 1000000 in
theorem rlower_any (s : ByteArray) (w : World) (hs : s.size ≤ maxLen) : Calls Tryz.prog 165 #[.string s] w fun e w' => e = .returned (.string (str (lowerB (bys s)))) ∧ Ext w w' := by
  have Hs := hid hs
  have hs63 : s.size ≤ 9223372036854775807 := by unfold maxLen at hs; omega
  clear hs
  go_enter Tryz.func165, Tryz.ntmps165
  go_wp2_with (refine tobuf_arm rfl (.tmp 5) rfl s rfl Hs.out ?_; intro g c w1 hb1; have HB1 := hid hb1; clear hb1)
  go_loopw [9] (fun i wr => ∃ k : Nat, k ≤ s.size ∧ i = .int .i64 k ∧ Hid (Buf w wr g c (mixL k (bys s)))) (fun i _ => s.size - (intOf i).toNat)
  case atStart => exact ⟨0, by omega, rfl, by rw [mixL_zero]; exact HB1⟩
  case round =>
    obtain ⟨k, hk, rfl, HB⟩ := hrel
    by_cases hlt : k < s.size
    · obtain ⟨x, hx⟩ : ∃ x, x = ((bys s)[k]?).getD 0 := ⟨_, rfl⟩
      have e1 : wr.cell? ⟨g, k, none⟩ = some (.int .u8 (x.toNat : Int)) := by
        rw [HB.out.cells k (by rw [mixL_length, bys_len]; exact hlt), mixL_get k _ k (Nat.le_refl _) (by rw [bys_len]; exact hk), hx]
      have f1 : wr.frozen? ⟨g, k, none⟩ = false := HB.out.thaw k (by rw [mixL_length, bys_len]; exact hlt)
      have hx1 : (x.toNat : Int) < 256 := by have := x.toNat_lt; omega
      have HX := hid hx
      clear hx
      by_cases h65 : 65 ≤ (x.toNat : Int)
      · by_cases h90 : (x.toNat : Int) ≤ 90
        · have t1 := lo_bits h65 h90
          have t2 := lo_plus h65 h90
          have HS : Hid (Buf w (wr.setCell ⟨g, k, none⟩ (.int .u8 ((loB x).toNat : Int))) g c (mixL (k + 1) (bys s))) := by
            have := HB.out.set k (loB x) (by rw [mixL_length, bys_len]; exact hlt)
            rw [HX.out, mixL_step k _ (by rw [bys_len]; exact hlt)] at this
            rw [HX.out]
            exact this
          go_wp2
          refine ⟨⟨k + 1, by omega, by go_num, ?_⟩, by simp [intOf]; omega⟩
          exact HS
        · have HS : Hid (Buf w wr g c (mixL (k + 1) (bys s))) := by
            show Buf _ _ _ _ _
            rw [← mixL_skip k _ (by rw [bys_len]; exact hlt) (by rw [← HX.out]; exact lo_no (by omega))]
            exact HB.out
          go_wp2
          exact ⟨⟨k + 1, by omega, by go_num, HS⟩, by simp [intOf]; omega⟩
      · have HS : Hid (Buf w wr g c (mixL (k + 1) (bys s))) := by
          show Buf _ _ _ _ _
          rw [← mixL_skip k _ (by rw [bys_len]; exact hlt) (by rw [← HX.out]; exact lo_no (by omega))]
          exact HB.out
        go_wp2
        exact ⟨⟨k + 1, by omega, by go_num, HS⟩, by simp [intOf]; omega⟩
    · obtain rfl : k = s.size := by omega
      have hC := (lower_done rfl rfl HB.out).conv wr (Ext.refl wr)
      go_wp2
      go_ret
      exact ⟨rfl, HB.out.ext⟩
end Go.Proofs.YtencmdpjiafnaaaGreatDoor
/- Plain: names, whole: types, attributes with values, parts, and a name's normal form. No program in sight. -/
namespace Go.Proofs.YtencmdpjiafnaaaGreatDoor
set_option linter.unusedSimpArgs false

/-- The types that are known, each with its syntax. -/
def typTab : List (List UInt8 × Nat) :=
  [([111, 98, 106, 101, 99, 116, 67, 108, 97, 115, 115], 1), ([99, 110], 1), ([111, 117], 1), ([111], 1), ([100, 99], 1), ([117, 105, 100], 1),
   ([100, 101, 115, 99, 114, 105, 112, 116, 105, 111, 110], 1), ([109, 97, 105, 108], 1), ([117, 115, 101, 114, 80, 97, 115, 115, 119, 111, 114, 100], 2), ([114, 101, 102], 2),
   ([115, 101, 114, 105, 97, 108, 78, 117, 109, 98, 101, 114], 3), ([112, 111, 115, 105, 116, 105, 111, 110], 4),
   ([97, 108, 105, 97, 115, 101, 100, 79, 98, 106, 101, 99, 116, 78, 97, 109, 101], 5), ([109, 101, 109, 98, 101, 114], 5)]
def typeB (n : List UInt8) : List UInt8 × Nat := (typTab.find? fun p => lowerB p.1 == lowerB n).getD ([], 0)
/-- Syntax nought and the empty type are one. -/
theorem type_none (n : List UInt8) : (typeB n).1 = [] ↔ (typeB n).2 = 0 := by
  unfold typeB
  cases h : typTab.find? (fun p => lowerB p.1 == lowerB n) with
  | none => simp
  | some p =>
    have hm := List.mem_of_find?_eq_some h
    have hall : ∀ p ∈ typTab, (p.1 = [] ↔ p.2 = 0) := by decide
    simpa using hall p hm
/-- Each type is small in its own letters as itself: what is found is found again. -/
theorem type_again (n : List UInt8) (h : (typeB n).2 ≠ 0) : typeB (typeB n).1 = typeB n := by
  have hall : ∀ p ∈ typTab, typeB p.1 = p := by decide
  unfold typeB at h ⊢
  cases hf : typTab.find? (fun p => lowerB p.1 == lowerB n) with
  | none => rw [hf] at h; exact absurd rfl h
  | some p => exact hall p (List.mem_of_find?_eq_some hf)
structure Ava where
  type : List UInt8
  val : List UInt8
/-- What stands ahead of the first '=', and behind it. -/
def cutEq : List UInt8 → Option (List UInt8 × List UInt8)
  | [] => none
  | c :: t => if c = 61 then some ([], t) else (cutEq t).map fun p => (c :: p.1, p.2)
def avaB (p : List UInt8) : Option Ava :=
  match cutEq p with
  | none => none
  | some (a, b) => if (typeB a).2 = 0 then none else (valueB b).map fun v => ⟨(typeB a).1, v⟩
/-- Less, byte by byte. -/
def ltB : List UInt8 → List UInt8 → Bool
  | [], [] => false
  | [], _ :: _ => true
  | _ :: _, [] => false
  | a :: s, b :: t => if a.toNat < b.toNat then true else if b.toNat < a.toNat then false else ltB s t
def avaOk (a : Ava) : Bool := decide ((typeB a.type).1 = a.type) && (decide ((typeB a.type).2 = 1) || decide ((typeB a.type).2 = 3)) && (normB (typeB a.type).2 a.val).isSome
def risingB : List Ava → Bool
  | a :: b :: t => ltB a.type b.type && risingB (b :: t)
  | _ => true
def formedA (l : List Ava) : Bool := decide (1 ≤ l.length) && decide (l.length ≤ 3) && l.all avaOk && risingB l
def insA (a : Ava) : List Ava → List Ava
  | [] => [a]
  | b :: t => if ltB b.type a.type then b :: insA a t else a :: b :: t
def sortA (l : List Ava) : List Ava := l.foldl (fun o a => insA a o) []
def partB (s : List UInt8) : Option (List Ava) :=
  match (splitF 43 [] s).mapM avaB with
  | none => none
  | some l => if formedA (sortA l) then some (sortA l) else none
def normA (l : List Ava) : List Ava := l.map fun a => ⟨a.type, (normB (typeB a.type).2 a.val).getD []⟩
def printF : List Ava → List UInt8
  | [] => []
  | [a] => a.type ++ 61 :: writeF true a.val
  | a :: b :: t => a.type ++ 61 :: writeF true a.val ++ 43 :: printF (b :: t)
def printB (l : List Ava) : List UInt8 := if formedA l then printF l else []
def joinC : List (List UInt8) → List UInt8
  | [] => []
  | [x] => x
  | x :: y :: t => x ++ 44 :: joinC (y :: t)
inductive NameErr where
  | long
  | form
def partsB (s : List UInt8) : Except NameErr (List (List UInt8)) :=
  if 1000 < s.length then .error .long
  else if s = [] then .ok []
  else if 12 < (splitF 44 [] s).length then .error .long
  else
    match (splitF 44 [] s).mapM partB with
    | none => .error .form
    | some l =>
      let texts := l.map fun p => printB (normA p)
      if 1000 < (joinC texts).length then .error .long else .ok texts
theorem insA_length (a : Ava) : ∀ l : List Ava, (insA a l).length = l.length + 1
  | [] => rfl
  | b :: t => by
    unfold insA
    split
    · simp [insA_length a t]
    · simp
theorem sortA_length (l : List Ava) : (sortA l).length = l.length := by
  have h : ∀ (l o : List Ava), (l.foldl (fun o a => insA a o) o).length = o.length + l.length := by
    intro l
    induction l with
    | nil => intro o; simp
    | cons a t ih => intro o; simp only [List.foldl_cons, ih, insA_length, List.length_cons]; omega
  exact (h l []).trans (by simp)
/-- More than three are never a part. -/
theorem part_few (s : List UInt8) (h : 3 < (splitF 43 [] s).length) : partB s = none := by
  unfold partB
  cases hm : (splitF 43 [] s).mapM avaB with
  | none => rfl
  | some l =>
    have hl : l.length = (splitF 43 [] s).length := by
      have h9 : ∀ (x : List (List UInt8)) (l : List Ava), x.mapM avaB = some l → l.length = x.length := by
        intro x
        induction x with
        | nil => intro l h; simp at h; rw [h]; rfl
        | cons y t ih =>
          intro l h
          rw [List.mapM_cons] at h
          cases ha : avaB y with
          | none => rw [ha] at h; cases h
          | some v =>
            rw [ha] at h
            cases hb : t.mapM avaB with
            | none => rw [hb] at h; cases h
            | some w =>
              rw [hb] at h
              cases h
              simp [ih w hb]
      exact h9 _ l hm
    have hf : formedA (sortA l) = false := by
      unfold formedA
      rw [decide_eq_false (show ¬ (sortA l).length ≤ 3 by rw [sortA_length]; omega)]
      simp
    simp [hf]
end Go.Proofs.YtencmdpjiafnaaaGreatDoor
/- Plain: the order of texts; a stable sort of three at most answers, behind Formed, as the reference's insertion. No program in sight. -/
namespace Go.Proofs.YtencmdpjiafnaaaGreatDoor
set_option linter.unusedSimpArgs false

theorem ltB_irrefl : ∀ s : List UInt8, ltB s s = false
  | [] => rfl
  | a :: s => by simp [ltB, ltB_irrefl s]
theorem ltB_asymm : ∀ s t : List UInt8, ltB s t = true → ltB t s = false
  | [], [], h => by cases h
  | [], _ :: _, _ => rfl
  | _ :: _, [], h => by cases h
  | a :: s, b :: t, h => by
    unfold ltB at h ⊢
    by_cases h1 : a.toNat < b.toNat
    · rw [if_neg (by omega), if_pos h1]
    · rw [if_neg h1] at h
      by_cases h2 : b.toNat < a.toNat
      · rw [if_pos h2] at h; cases h
      · rw [if_neg h2] at h
        rw [if_neg h2, if_neg h1]
        exact ltB_asymm s t h
theorem ltB_tri : ∀ s t : List UInt8, ltB s t = false → ltB t s = false → s = t
  | [], [], _, _ => rfl
  | [], _ :: _, h, _ => by cases h
  | _ :: _, [], _, h => by cases h
  | a :: s, b :: t, h, k => by
    unfold ltB at h k
    by_cases h1 : a.toNat < b.toNat
    · rw [if_pos h1] at h; cases h
    · by_cases h2 : b.toNat < a.toNat
      · rw [if_pos h2] at k; cases k
      · rw [if_neg h1, if_neg h2] at h
        rw [if_neg h2, if_neg h1] at k
        have e : a = b := UInt8.toNat_inj.1 (by omega)
        rw [e, ltB_tri s t h k]
theorem ltB_trans : ∀ s t u : List UInt8, ltB s t = true → ltB t u = true → ltB s u = true
  | [], [], _, h, _ => by cases h
  | [], _ :: _, [], _, k => by cases k
  | [], _ :: _, _ :: _, _, _ => rfl
  | _ :: _, [], _, h, _ => by cases h
  | _ :: _, _ :: _, [], _, k => by cases k
  | a :: s, b :: t, c :: u, h, k => by
    unfold ltB at h k ⊢
    by_cases h1 : a.toNat < b.toNat
    · by_cases k1 : b.toNat < c.toNat
      · rw [if_pos (by omega)]
      · rw [if_neg k1] at k
        by_cases k2 : c.toNat < b.toNat
        · rw [if_pos k2] at k; cases k
        · rw [if_pos (by omega)]
    · rw [if_neg h1] at h
      by_cases h2 : b.toNat < a.toNat
      · rw [if_pos h2] at h; cases h
      · rw [if_neg h2] at h
        by_cases k1 : b.toNat < c.toNat
        · rw [if_pos (by omega)]
        · rw [if_neg k1] at k
          by_cases k2 : c.toNat < b.toNat
          · rw [if_pos k2] at k; cases k
          · rw [if_neg k2] at k
            rw [if_neg (by omega), if_neg (by omega)]
            exact ltB_trans s t u h k
/-- What a stable insertion from behind makes of three at most. -/
def sortP : List Ava → List Ava
  | [a, b] => if ltB b.type a.type then [b, a] else [a, b]
  | [a, b, c] =>
    if ltB b.type a.type then (if ltB c.type a.type then (if ltB c.type b.type then [c, b, a] else [b, c, a]) else [b, a, c])
    else (if ltB c.type b.type then (if ltB c.type a.type then [c, a, b] else [a, c, b]) else [a, b, c])
  | l => l
theorem formedA_no {l : List Ava} (h : risingB l = false) : formedA l = false := by simp [formedA, h]
def behindF (l : List Ava) : Option (List Ava) := if formedA l then some l else none
theorem behind_no {l k : List Ava} (h : risingB l = false) (g : risingB k = false) : behindF l = behindF k := by simp [behindF, formedA_no h, formedA_no g]
theorem ways (a b : Ava) : (ltB a.type b.type = true ∧ ltB b.type a.type = false) ∨ (ltB a.type b.type = false ∧ ltB b.type a.type = true) ∨ a.type = b.type := by
  cases h : ltB a.type b.type
  · cases g : ltB b.type a.type
    · exact .inr (.inr (ltB_tri _ _ h g))
    · exact .inr (.inl ⟨rfl, rfl⟩)
  · exact .inl ⟨rfl, ltB_asymm _ _ h⟩
set_option maxHeartbeats 2000000 in
theorem sortP_same (l : List Ava) (h : l.length ≤ 3) : behindF (sortP l) = behindF (sortA l) := by
  match l, h with
  | [], _ => rfl
  | [a], _ => rfl
  | [a, b], _ =>
    rcases ways a b with ⟨h1, h2⟩ | ⟨h1, h2⟩ | h1
    · simp [sortP, sortA, insA, h1, h2]
    · simp [sortP, sortA, insA, h1, h2]
    · refine behind_no ?_ ?_ <;> simp [sortP, sortA, insA, h1, ltB_irrefl, risingB]
  | [a, b, c], _ =>
    rcases ways a b with ⟨h1, h2⟩ | ⟨h1, h2⟩ | h1 <;> rcases ways b c with ⟨h3, h4⟩ | ⟨h3, h4⟩ | h3 <;> rcases ways a c with ⟨h5, h6⟩ | ⟨h5, h6⟩ | h5 <;>
      first
        | (have h9 := ltB_trans _ _ _ h1 h3; rw [h9] at h5; exact absurd h5 (by decide))
        | (have h9 := ltB_trans _ _ _ h2 h5; rw [h9] at h3; exact absurd h3 (by decide))
        | (have h9 := ltB_trans _ _ _ h4 h2; rw [h9] at h6; exact absurd h6 (by decide))
        | (simp [sortP, sortA, insA, h1, h2, h3, h4, h5, h6]; done)
        | (refine behind_no ?_ ?_ <;> (simp [sortP, sortA, insA, risingB, ltB_irrefl, *]; done))
        | (exfalso; simp_all [ltB_irrefl]; done)
end Go.Proofs.YtencmdpjiafnaaaGreatDoor
