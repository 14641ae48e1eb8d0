/- Ft, Fu, Fv, Fx, Fy, in one text. -/
import Derived.Test.YtabaeiolpbdjnaaCv
import Derived.Test.YtabaeiolpbdjnaaSh
import Derived.Test.YtabaeiolpbdjnaaDw
import Derived.Deep.Cut
import Derived.Deep.DeepCutAuto
import Derived.Test.YtabaeiolpbdjnaaMo
/- The walks of filter's fits, Attribute, own$1, and of the reference's fits, letter, Attr. -/
namespace Go.Proofs.Ytabaeiolpbdjnaa
open Go.RowKit
set_option maxRecDepth 100000

def fitsB (s : ByteArray) : Bool := decide (s.size ≠ 0) && decide (s.size ≤ 200)
theorem fits_any (s : ByteArray) (w : World) : Calls Try.prog 92 #[.string s] w fun e w' => e = .returned (.bool (fitsB s)) ∧ w = w' := by
  by_cases h0 : s.size = 0
  · have e1 := emp_yes h0
    have hf : Hid (fitsB s = false) := by show _ = _; simp [fitsB, h0]
    clear h0
    go_enter Try.func92, Try.ntmps92
    go_wp2
    go_ret
    exact ⟨by rw [hf.out]; rfl, rfl⟩
  · have e1 := emp_no h0
    by_cases h2 : s.size ≤ 200
    · have h3 : (s.size : Int) ≤ 200 := by omega
      have hf : Hid (fitsB s = true) := by show _ = _; simp [fitsB, h0, h2]
      clear h0 h2
      go_enter Try.func92, Try.ntmps92
      go_wp2
      go_ret
      exact ⟨by rw [hf.out]; simp [e1], rfl⟩
    · have h3 : ¬ (s.size : Int) ≤ 200 := by omega
      have hf : Hid (fitsB s = false) := by show _ = _; simp [fitsB, h2]
      clear h0 h2
      go_enter Try.func92, Try.ntmps92
      go_wp2
      go_ret
      exact ⟨by rw [hf.out]; rfl, rfl⟩
def letterB (c : UInt8) : Bool := (97 ≤ c && c ≤ 122) || (65 ≤ c && c ≤ 90)
def charB (i : Nat) (c : UInt8) : Bool := letterB c || (i != 0 && (c == 45 || (48 ≤ c && c ≤ 57)))
def attrB (s : ByteArray) : Bool := decide (1 ≤ s.size) && decide (s.size ≤ 40) && decide (∀ j, j < s.size → charB j ((bys s).getD j 0) = true)
theorem letter_bits : ∀ x : UInt8, letterB x = true ↔ 97 ≤ bits BinOp.or IntKind.u8 (x.toNat : Int) 32 ∧ bits BinOp.or IntKind.u8 (x.toNat : Int) 32 ≤ 122 := by
  intro x
  obtain ⟨n, rfl⟩ : ∃ n : Fin 256, x = UInt8.ofFin n := ⟨x.toFin, rfl⟩
  revert n
  decide +kernel
theorem attr_more {s : ByteArray} {k : Nat} {x : UInt8} (h : ∀ j, j < k → charB j ((bys s).getD j 0) = true) (hx : x = ((bys s)[k]?).getD 0) (hc : charB k x = true) : ∀ j, j < k + 1 → charB j ((bys s).getD j 0) = true := fun j hj => by
  rcases Nat.lt_or_ge j k with h1 | h1
  · exact h j h1
  · obtain rfl : j = k := by omega
    rw [List.getD_eq_getElem?_getD, ← hx]
    exact hc
theorem attr_none {s : ByteArray} {k : Nat} {x : UInt8} (hk : k < s.size) (hx : x = ((bys s)[k]?).getD 0) (hc : charB k x = false) : attrB s = false := by
  unfold attrB
  rw [Bool.and_eq_false_iff]
  right
  rw [decide_eq_false_iff_not]
  intro h
  have := h k hk
  rw [List.getD_eq_getElem?_getD, ← hx, hc] at this
  cases this
theorem attribute_any (s : ByteArray) (w : World) (hs : s.size ≤ maxLen) : Calls Try.prog 91 #[.string s] w fun e w' => e = .returned (.bool (attrB s)) ∧ Ext w w' := by
  have Hs := hid hs
  unfold maxLen at hs
  go_enter Try.func91, Try.ntmps91
  go_wp2_with (refine tobytes_arm rfl (.tmp 6) rfl s rfl Hs.out ?_; intro A c w1 hs1 hf1; have HS1 := hid hs1; have X1 := hid hf1.ext; clear hs1 hf1)
  go_loop [9] (fun i => ∃ k : Nat, k ≤ s.size ∧ i = .int .i64 k ∧ Hid (∀ j, j < k → charB j ((bys s).getD j 0) = true)) (fun i => s.size - (intOf i).toNat)
  case atStart => exact ⟨0, by omega, rfl, fun j hj => by omega⟩
  case round =>
    obtain ⟨k, hk, rfl, HK⟩ := hrel
    by_cases hlt : k < s.size
    · obtain ⟨b1, o1, rfl, c1⟩ := HS1.out.at_ (by omega)
      have e1 := c1 k hlt
      clear c1
      obtain ⟨x, hx⟩ : ∃ x, x = ((bys s)[k]?).getD 0 := ⟨_, rfl⟩
      rw [← hx] at e1
      have HX := hid hx
      have hx1 : (x.toNat : Int) < 256 := by have := x.toNat_lt; omega
      clear hx
      by_cases hL : letterB x = true
      · obtain ⟨l1, l2⟩ := (letter_bits x).1 hL
        have hC : Hid (charB k x = true) := by show _ = _; simp [charB, hL]
        clear hL
        go_wp2
        exact ⟨⟨k + 1, by omega, by go_num, attr_more HK.out HX.out hC.out⟩, by simp [intOf]; omega⟩
      · have hL' : letterB x = false := by simpa using hL
        have HL := hid hL'
        have hN := mt (letter_bits x).2 hL
        clear hL hL'
        have hT : (97 ≤ bits BinOp.or IntKind.u8 (x.toNat : Int) 32 ∧ decide (bits BinOp.or IntKind.u8 (x.toNat : Int) 32 ≤ 122) = false) ∨ bits BinOp.or IntKind.u8 (x.toNat : Int) 32 < 97 := by rw [decide_eq_false_iff_not]; omega
        clear hN
        by_cases h0 : k = 0
        · have hC : Hid (charB k x = false) := by show _ = _; simp [charB, HL.out, h0]
          have HZ := attr_none hlt HX.out hC.out
          have t0 : ((k : Int) == 0) = true := by rw [h0]; rfl
          clear h0
          have HZ' := hid HZ
          clear HZ
          rcases hT with ⟨l1, l2⟩ | l1
          all_goals
            go_wp2
            go_ret
            exact ⟨by rw [HZ'.out]; rfl, X1.out⟩
        · have t0 : ((k : Int) == 0) = false := by rw [beq_eq_false_iff_ne]; omega
          by_cases h4 : x = 45
          · have hC : Hid (charB k x = true) := by show _ = _; simp [charB, h0, h4]
            have t4 : ((x.toNat : Int) != 45) = false := by rw [h4]; rfl
            clear h0 h4
            rcases hT with ⟨l1, l2⟩ | l1
            all_goals
              go_wp2
              exact ⟨⟨k + 1, by omega, by go_num, attr_more HK.out HX.out hC.out⟩, by simp [intOf]; omega⟩
          · have t4 : ((x.toNat : Int) != 45) = true := by
              rw [bne_iff_ne]
              intro e
              exact h4 (UInt8.toNat_inj.1 (by simp; omega))
            by_cases h8 : 48 ≤ (x.toNat : Int)
            · by_cases h9 : (x.toNat : Int) ≤ 57
              · have hC : Hid (charB k x = true) := by show _ = _; simp [charB, h0, UInt8.le_iff_toNat_le]; right; right; omega
                clear h0 h4
                rcases hT with ⟨l1, l2⟩ | l1
                all_goals
                  go_wp2
                  exact ⟨⟨k + 1, by omega, by go_num, attr_more HK.out HX.out hC.out⟩, by simp [intOf]; omega⟩
              · have hC : Hid (charB k x = false) := by show _ = _; simp [charB, HL.out, h4, UInt8.le_iff_toNat_le]; intro; intro; omega
                have HZ' := hid (attr_none hlt HX.out hC.out)
                clear h0 h4
                rcases hT with ⟨l1, l2⟩ | l1
                all_goals
                  go_wp2
                  go_ret
                  exact ⟨by rw [HZ'.out]; rfl, X1.out⟩
            · have hC : Hid (charB k x = false) := by show _ = _; simp [charB, HL.out, h4, UInt8.le_iff_toNat_le]; intro; intro; omega
              have HZ' := hid (attr_none hlt HX.out hC.out)
              clear h0 h4
              rcases hT with ⟨l1, l2⟩ | l1
              all_goals
                go_wp2
                go_ret
                exact ⟨by rw [HZ'.out]; rfl, X1.out⟩
    · obtain rfl : k = s.size := by omega
      by_cases h0 : s.size = 0
      · have e1 := emp_yes h0
        have hC : Hid (attrB s = false) := by show _ = _; simp [attrB, h0]
        clear h0
        go_wp2
        go_ret
        exact ⟨by rw [hC.out]; rfl, X1.out⟩
      · have e1 := emp_no h0
        by_cases h4 : (s.size : Int) ≤ 40
        · have hC : Hid (attrB s = true) := by
            show _ = _
            unfold attrB
            rw [decide_eq_true (by omega), decide_eq_true (by omega), decide_eq_true HK.out]; rfl
          clear h0
          go_wp2
          go_ret
          exact ⟨by rw [hC.out]; simp [e1], X1.out⟩
        · have hC : Hid (attrB s = false) := by
            show _ = _
            unfold attrB
            rw [decide_eq_false (show ¬ s.size ≤ 40 by omega)]; simp
          clear h0
          go_wp2
          go_ret
          exact ⟨by rw [hC.out]; rfl, X1.out⟩
end Go.Proofs.Ytabaeiolpbdjnaa
/- The walks of filter's Nodes and of the reference's. -/
namespace Go.Proofs.Ytabaeiolpbdjnaa
open Go.RowKit
set_option maxRecDepth 100000

/-- How many filters stand in one, 41 where they are more. -/
noncomputable def Fil.nod : Fil → Nat
  | .mk _ _ _ _ _ _ parts => min (1 + (parts.attach.map fun x => Fil.nod x.1).sum) 41
  termination_by x => SizeOf.sizeOf x
  decreasing_by
    simp_wf
    have := List.sizeOf_lt_of_mem x.2
    omega
theorem Fil.nod_mk (k : Int) (a v f l : ByteArray) (any : List ByteArray) (parts : List Fil) : Fil.nod (.mk k a v f l any parts) = min (1 + (parts.map Fil.nod).sum) 41 := by
  rw [Fil.nod]
  congr 2
  exact congrArg List.sum (by simp)
theorem Fil.nod_le (x : Fil) : x.nod ≤ 41 := by
  obtain ⟨k, a, v, f, l, any, parts⟩ := x
  rw [Fil.nod_mk]
  omega
noncomputable def nodSum (l : List Fil) : Nat := (l.map Fil.nod).sum
theorem nodSum_take {l : List Fil} {j : Nat} {x : Fil} (h : l[j]? = some x) : nodSum (l.take (j + 1)) = nodSum (l.take j) + x.nod := by
  unfold nodSum
  rw [List.take_add_one, h]
  simp
theorem nodSum_le (l : List Fil) (j : Nat) : nodSum (l.take j) ≤ nodSum l := by
  have h := congrArg (fun l => (l.map Fil.nod).sum) (List.take_append_drop j l)
  simp only [List.map_append, List.sum_append] at h
  unfold nodSum
  omega
def NodSays (F : FuncId) (x : Fil) : Prop := ∀ (S : Nat → Prop) (vs : List Value) (w : World), FilAt S w vs x → Calls Try.prog F #[.agg vs.toArray] w fun e w' => e = .returned (.int .i64 (x.nod : Int)) ∧ Ext w w'
theorem ret_int_of {a b : Int} (h : a = b) : Ending.returned (.int .i64 a) = .returned (.int .i64 b) := by rw [h]
set_option maxHeartbeats 1000000 in
theorem nodes_any : ∀ x, NodSays 70 x := by
  refine Fil.ind fun k a v f l any parts ih => ?_
  intro S vs w h
  obtain ⟨A1, n1, c1, B1, m1, d1, rfl, r1, p1⟩ := FilAt.open_ h
  have hl := hid p1.len
  have hnl : m1 ≤ 9223372036854775807 := by have := p1.cap; have := p1.most; simp only [maxLen] at this; omega
  have IH := hid ih
  have HP := hid p1
  clear h ih r1 p1
  rw [Fil.nod_mk]
  go_enter Try.func70, Try.ntmps70
  go_wp2
  go_loopw [3, 9] (fun s i wr => ∃ j : Nat, j ≤ m1 ∧ i = .int .i64 j ∧ s = .int .i64 (1 + (nodSum (parts.take j) : Int)) ∧ nodSum (parts.take j) ≤ 39 ∧ Hid (Ext w wr)) (fun _ i _ => m1 - (intOf i).toNat)
  case atStart => exact ⟨0, by omega, rfl, by simp [nodSum], by simp [nodSum], Ext.alloc _ _⟩
  case round =>
    obtain ⟨j, hj, rfl, rfl, hle, hx⟩ := hrel
    by_cases hlt : j < m1
    · obtain ⟨b1, o1, v1, x1, rfl, g1, _, R1, q1⟩ := (HP.out.ext hx.out).at_ hlt
      have hsx := hid (IH.out x1 (List.mem_of_getElem? g1))
      have Hg := hid g1
      obtain ⟨ka, aa, va, fa, la, anya, pa⟩ := x1
      obtain ⟨A2, n2, c2, B2, m2, d2, rfl, -, -⟩ := FilAt.open_ R1
      have e10 := q1 0 _ rfl; have e11 := q1 1 _ rfl; have e12 := q1 2 _ rfl; have e13 := q1 3 _ rfl; have e14 := q1 4 _ rfl; have e15 := q1 5 _ rfl; have e16 := q1 6 _ rfl
      clear q1 g1
      simp only [Elem.fil, Nat.add_zero] at e10 e11 e12 e13 e14 e15 e16
      have HR1 : Hid (FilAt S wr _ _) := hid R1
      clear R1
      have hnk := Fil.nod_le (Fil.mk ka aa va fa la anya pa)
      have HT := hid (nodSum_take Hg.out)
      have HC : ∀ w2, Ext wr w2 → Calls Try.prog 70 #[.agg #[.int .i64 ka, .string aa, .string va, .string fa, .string la, .slice A2 n2 c2, .slice B2 m2 d2]] w2 fun e w' => e = .returned (.int .i64 ((Fil.mk ka aa va fa la anya pa).nod : Int)) ∧ Ext w2 w' := fun w2 hx2 => hsx.out _ _ _ (FilAt.ext HR1.out hx2)
      have HC' := hid HC
      clear HC
      have HL := hid (nodSum_le parts (j + 1))
      by_cases h40 : nodSum (parts.take j) + (Fil.mk ka aa va fa la anya pa).nod ≤ 39
      · have h41 : ¬ (40 : Int) < 1 + (nodSum (parts.take j) : Int) + ((Fil.mk ka aa va fa la anya pa).nod : Int) := by omega
        go_wp2_with (go_at_call 70; (with_reducible refine (HC'.out _ (Ext.alloc _ _)).mono ?_); rintro e w1 ⟨rfl, hx1⟩)
        exact ⟨⟨j + 1, by omega, by go_num, by rw [HT.out]; go_num, by rw [HT.out]; exact h40, hx.out.trans ((Ext.alloc _ _).trans hx1)⟩, by simp [intOf]; omega⟩
      · have h41 : (40 : Int) < 1 + (nodSum (parts.take j) : Int) + ((Fil.mk ka aa va fa la anya pa).nod : Int) := by omega
        go_wp2_with (go_at_call 70; (with_reducible refine (HC'.out _ (Ext.alloc _ _)).mono ?_); rintro e w1 ⟨rfl, hx1⟩)
        go_ret
        refine ⟨ret_int_of ?_, hx.out.trans ((Ext.alloc _ _).trans hx1)⟩
        have h1 := HT.out
        have h2 := HL.out
        unfold nodSum at h1 h2 h40
        omega
    · obtain rfl : j = m1 := by omega
      have h9 : nodSum (parts.take j) = nodSum parts := by rw [List.take_of_length_le (Nat.le_of_eq hl.out.symm)]
      go_wp2
      go_ret
      refine ⟨ret_int_of ?_, hx.out⟩
      rw [h9] at hle ⊢
      unfold nodSum at hle ⊢
      omega
set_option maxHeartbeats 1000000 in
theorem rnodes_any : ∀ x, NodSays 78 x := by
  refine Fil.ind fun k a v f l any parts ih => ?_
  intro S vs w h
  obtain ⟨A1, n1, c1, B1, m1, d1, rfl, r1, p1⟩ := FilAt.open_ h
  have hl := hid p1.len
  have hnl : m1 ≤ 9223372036854775807 := by have := p1.cap; have := p1.most; simp only [maxLen] at this; omega
  have IH := hid ih
  have HP := hid p1
  clear h ih r1 p1
  rw [Fil.nod_mk]
  go_enter Try.func78, Try.ntmps78
  go_wp2
  go_loopw [3, 8] (fun s i wr => ∃ j : Nat, j ≤ m1 ∧ i = .int .i64 j ∧ s = .int .i64 (1 + (nodSum (parts.take j) : Int)) ∧ nodSum (parts.take j) ≤ 80 ∧ Hid (Ext (w.alloc (.cells #[.int .i64 k, .string a, .string v, .string f, .string l, .slice A1 n1 c1, .slice B1 m1 d1] 25)) wr)) (fun _ i _ => m1 - (intOf i).toNat)
  case atStart => exact ⟨0, by omega, rfl, by simp [nodSum], by simp [nodSum], Ext.refl _⟩
  case round =>
    obtain ⟨j, hj, rfl, rfl, hle, hx⟩ := hrel
    have X1 : Hid (Ext w wr) := Ext.trans (Ext.alloc _ _) hx.out
    by_cases hlt : j < m1
    · have HL := hid (nodSum_le parts j)
      by_cases h40 : nodSum (parts.take j) ≤ 39
      · have h41 : ¬ (40 : Int) < 1 + (nodSum (parts.take j) : Int) := by omega
        have z6 := cell_later (box_a w #[.int .i64 k, .string a, .string v, .string f, .string l, .slice A1 n1 c1, .slice B1 m1 d1] 25 6) _ hx.out
        obtain ⟨b1, o1, v1, x1, rfl, g1, _, R1, q1⟩ := (HP.out.ext X1.out).at_ hlt
        have hsx := hid (IH.out x1 (List.mem_of_getElem? g1))
        have Hg := hid g1
        obtain ⟨ka, aa, va, fa, la, anya, pa⟩ := x1
        obtain ⟨A2, n2, c2, B2, m2, d2, rfl, -, -⟩ := FilAt.open_ R1
        have e10 := q1 0 _ rfl; have e11 := q1 1 _ rfl; have e12 := q1 2 _ rfl; have e13 := q1 3 _ rfl; have e14 := q1 4 _ rfl; have e15 := q1 5 _ rfl; have e16 := q1 6 _ rfl
        clear q1 g1
        simp only [Elem.fil, Nat.add_zero] at e10 e11 e12 e13 e14 e15 e16
        have HR1 : Hid (FilAt S wr _ _) := hid R1
        clear R1
        have hnk := Fil.nod_le (Fil.mk ka aa va fa la anya pa)
        have HT := hid (nodSum_take Hg.out)
        have HC : ∀ w2, Ext wr w2 → Calls Try.prog 78 #[.agg #[.int .i64 ka, .string aa, .string va, .string fa, .string la, .slice A2 n2 c2, .slice B2 m2 d2]] w2 fun e w' => e = .returned (.int .i64 ((Fil.mk ka aa va fa la anya pa).nod : Int)) ∧ Ext w2 w' := fun w2 hx2 => hsx.out _ _ _ (FilAt.ext HR1.out hx2)
        have HC' := hid HC
        clear HC
        go_wp2_with (go_at_call 78; (with_reducible refine (HC'.out _ (Ext.refl _)).mono ?_); rintro e w1 ⟨rfl, hx1⟩)
        exact ⟨⟨j + 1, by omega, by go_num, by rw [HT.out]; go_num, by rw [HT.out]; omega, hx.out.trans hx1⟩, by simp [intOf]; omega⟩
      · have h41 : (40 : Int) < 1 + (nodSum (parts.take j) : Int) := by omega
        go_wp2
        all_goals
          go_ret
          refine ⟨ret_int_of ?_, X1.out⟩
          have h2 := HL.out
          unfold nodSum at *
          omega
    · obtain rfl : j = m1 := by omega
      have h9 : nodSum (parts.take j) = nodSum parts := by rw [List.take_of_length_le (Nat.le_of_eq hl.out.symm)]
      have H9 := hid h9
      clear h9
      go_wp2
      all_goals
        go_ret
        refine ⟨ret_int_of ?_, X1.out⟩
        have h9 := H9.out
        unfold nodSum at *
        omega
end Go.Proofs.Ytabaeiolpbdjnaa
/- The walk of filter's own. -/
namespace Go.Proofs.Ytabaeiolpbdjnaa
open Go.RowKit
set_option maxRecDepth 100000

theorem ownf1_any (s : ByteArray) (w : World) : Calls Try.prog 93 #[.string s] w fun e w' => e = .returned (.bool (!(fitsB s))) ∧ w = w' := by
  cases hb : fitsB s
  all_goals
    have Hb := hid hb
    clear hb
    go_enter Try.func93, Try.ntmps93
    go_wp2_with (go_at_call 92; (with_reducible refine (fits_any _ _).mono ?_); rintro e w1 ⟨he, rfl⟩; rw [Hb.out] at he; subst he)
    go_ret
    exact ⟨rfl, rfl⟩
set_option maxHeartbeats 1000000 in
theorem ownindex_any {S : Nat → Prop} {A : Option Addr} {n c : Nat} {l : List ByteArray} {w : World} (h : Row Elem.str S w A n c l) :
    Calls Try.prog 89 #[.slice A n c, .func (.func 93) #[] #[]] w fun e w' => ∃ r : Int, e = .returned (.int .i64 r) ∧ decide (0 ≤ r) = l.any (fun s => !(fitsB s)) ∧ Ext w w' := by
  have hl := hid h.len
  have hnl : n ≤ 9223372036854775807 := by have := h.cap; have := h.most; simp only [maxLen] at this; omega
  obtain ⟨P, hP⟩ : ∃ P : ByteArray → Bool, P = fun s => !(fitsB s) := ⟨_, rfl⟩
  rw [← hP]
  have HP := hid hP
  clear hP
  go_enter Try.func89, Try.ntmps89
  go_wp2
  go_loopw [8] (fun i wr => ∃ j : Nat, j ≤ n ∧ i = .int .i64 j ∧ Hid ((l.take j).any P = false) ∧ Hid (Ext w wr)) (fun i _ => n - (intOf i).toNat)
  case atStart => exact ⟨0, by omega, rfl, by simp [Hid], Ext.refl w⟩
  case round =>
    obtain ⟨j, hj, rfl, Htk, hx⟩ := hrel
    by_cases hlt : j < n
    · obtain ⟨b1, o1, rfl, c1⟩ := (h.ext hx.out).str_cell (by omega)
      have e1 := c1 j hlt
      clear c1
      have g1 : l[j]? = some (l[j]?.getD ByteArray.empty) := by have := hl.out; rw [List.getElem?_eq_getElem (by omega)]; simp
      have Hg := hid g1
      clear g1
      generalize l[j]?.getD ByteArray.empty = x1 at *
      cases hp : P x1
      · have Hp := hid hp
        clear hp
        go_wp2_with (go_at_call 93; (with_reducible refine (ownf1_any _ _).mono ?_); rintro e w1 ⟨he, rfl⟩; rw [show (!(fitsB x1)) = false from by have := Hp.out; rw [HP.out] at this; exact this] at he; subst he)
        exact ⟨⟨j + 1, by omega, by go_num, any_take Htk.out Hg.out Hp.out, hx⟩, by simp [intOf]; omega⟩
      · have Hp := hid hp
        clear hp
        go_wp2_with (go_at_call 93; (with_reducible refine (ownf1_any _ _).mono ?_); rintro e w1 ⟨he, rfl⟩; rw [show (!(fitsB x1)) = true from by have := Hp.out; rw [HP.out] at this; exact this] at he; subst he)
        go_ret
        exact ret_int (by rw [any_at Hg.out Hp.out]; exact decide_eq_true (by omega)) hx.out
    · obtain rfl : j = n := by omega
      go_wp2
      go_ret
      have h9 := Htk.out
      rw [List.take_of_length_le (Nat.le_of_eq hl.out.symm)] at h9
      exact ret_int (by rw [h9]; rfl) hx.out
theorem owncontains_any {S : Nat → Prop} {A : Option Addr} {n c : Nat} {l : List ByteArray} {w : World} (h : Row Elem.str S w A n c l) :
    Calls Try.prog 72 #[.slice A n c, .func (.func 93) #[] #[]] w fun e w' => e = .returned (.bool (l.any (fun s => !(fitsB s)))) ∧ Ext w w' := by
  cases hb : l.any (fun s => !(fitsB s))
  all_goals
    have Hb := hid hb
    clear hb
    go_enter Try.func72, Try.ntmps72
    go_wp2_with (go_at_call 89; (with_reducible refine (ownindex_any h).mono ?_); rintro e w1 ⟨r, rfl, hr, hx1⟩; rw [Hb.out] at hr; have Hr := hid hr; clear hr)
    go_ret
    refine ⟨?_, hx1⟩
    have h9 := Hr.out
    simpa using h9
def empB (s : ByteArray) : Bool := s.toList.isEmpty
def piecesB (first last : ByteArray) (any : List ByteArray) : Bool := !(empB first) || !(empB last) || decide (0 < any.length)
def leafB (attr : ByteArray) (parts : List Fil) : Bool := decide (parts.length = 0) && attrB attr
/-- A filter has just what belongs to its kind. -/
def bareB : Fil → Bool
  | .mk k a v f l any parts =>
    if k = 0 ∨ k = 1 ∨ k = 2 then empB a && empB v && !(piecesB f l any) && (k != 2 || decide (parts.length = 1))
    else if k = 3 ∨ k = 5 ∨ k = 6 ∨ k = 8 then leafB a parts && fitsB v && !(piecesB f l any)
    else if k = 7 then leafB a parts && empB v && !(piecesB f l any)
    else if k = 4 then leafB a parts && empB v && piecesB f l any && decide (f.size ≤ 200) && decide (l.size ≤ 200) && !(any.any fun s => !(fitsB s))
    else false
set_option maxHeartbeats 1000000 in
theorem own_filter {k : Int} {a v f l : ByteArray} {any : List ByteArray} {parts : List Fil} {S : Nat → Prop} {vs : List Value} {w : World} (h : FilAt S w vs (.mk k a v f l any parts)) (ha : a.size ≤ maxLen) :
    Calls Try.prog 88 #[.agg vs.toArray] w fun e w' => e = .returned (.bool (bareB (.mk k a v f l any parts))) ∧ Ext w w' := by
  obtain ⟨A1, n1, c1, B1, m1, d1, rfl, r1, p1⟩ := FilAt.open_ h
  have hl := hid p1.len
  have hn := hid r1.len
  have HR := hid r1
  have HA := hid ha
  clear h p1 r1 ha
  go_enter Try.func88, Try.ntmps88
  go_upto_region 1 with fail
  go_cut [3] (fun c wx => c = .bool (piecesB f l any) ∧ wx = w.alloc (.cells #[.int .i64 k, .string a, .string v, .string f, .string l, .slice A1 n1 c1, .slice B1 m1 d1] 39))
  case first =>
    as_aux_lemma =>
      go_wp2
      all_goals
        go_meet
        refine ⟨?_, rfl⟩
        have hn' : any.length = n1 := hn.out.symm
        simp only [piecesB, empB, hn']
        clear hn'
        simp [*]
  case rest =>
    obtain ⟨rfl, rfl⟩ := hcut
    go_upto_region 2 with fail
    go_cut [4] (fun c wx => c = .bool (leafB a parts) ∧ Hid (Ext (w.alloc (.cells #[.int .i64 k, .string a, .string v, .string f, .string l, .slice A1 n1 c1, .slice B1 m1 d1] 39)) wx))
    case first =>
      as_aux_lemma =>
        by_cases hz : m1 = 0
        · have z0 : ((m1 : Int) == 0) = true := by rw [hz]; rfl
          have HZ := hid hz
          clear hz
          go_wp2_with (go_at_call 91; (with_reducible refine (attribute_any _ _ HA.out).mono ?_); rintro e w1 ⟨rfl, hx1⟩)
          go_meet
          exact ⟨by simp [leafB, ← hl.out, HZ.out], hx1⟩
        · have z0 : ((m1 : Int) == 0) = false := by rw [beq_eq_false_iff_ne]; omega
          have HZ := hid hz
          clear hz
          go_wp2
          go_meet
          exact ⟨by simp [leafB, ← hl.out, HZ.out], Ext.refl _⟩
    case rest =>
      obtain ⟨rfl, hx⟩ := hcut
      have y0 := cell_later (box_a w #[.int .i64 k, .string a, .string v, .string f, .string l, .slice A1 n1 c1, .slice B1 m1 d1] 39 0) _ hx.out
      have y1 := cell_later (box_a w #[.int .i64 k, .string a, .string v, .string f, .string l, .slice A1 n1 c1, .slice B1 m1 d1] 39 1) _ hx.out
      have y2 := cell_later (box_a w #[.int .i64 k, .string a, .string v, .string f, .string l, .slice A1 n1 c1, .slice B1 m1 d1] 39 2) _ hx.out
      have y3 := cell_later (box_a w #[.int .i64 k, .string a, .string v, .string f, .string l, .slice A1 n1 c1, .slice B1 m1 d1] 39 3) _ hx.out
      have y4 := cell_later (box_a w #[.int .i64 k, .string a, .string v, .string f, .string l, .slice A1 n1 c1, .slice B1 m1 d1] 39 4) _ hx.out
      have y5 := cell_later (box_a w #[.int .i64 k, .string a, .string v, .string f, .string l, .slice A1 n1 c1, .slice B1 m1 d1] 39 5) _ hx.out
      have y6 := cell_later (box_a w #[.int .i64 k, .string a, .string v, .string f, .string l, .slice A1 n1 c1, .slice B1 m1 d1] 39 6) _ hx.out
      have X1 : Hid (Ext w wc) := Ext.trans (Ext.alloc _ _) hx.out
      clear hx
      have hk : (k = 0 ∨ k = 1 ∨ k = 2) ∨ (k = 3 ∨ k = 5 ∨ k = 6 ∨ k = 8) ∨ k = 7 ∨ k = 4 ∨ ((k == 0) = false ∧ (k == 1) = false ∧ (k == 2) = false ∧ (k == 3) = false ∧ (k == 4) = false ∧ (k == 5) = false ∧ (k == 6) = false ∧ (k == 7) = false ∧ (k == 8) = false) := by
        simp only [beq_eq_false_iff_ne]
        omega
      rcases hk with (rfl | rfl | rfl) | (rfl | rfl | rfl | rfl) | rfl | rfl | ⟨k0, k1, k2, k3, k4, k5, k6, k7, k8⟩
      case inl.inl =>
        cases hp : piecesB f l any
        all_goals
          have HQ := hid hp
          go_wp2
          all_goals
            go_ret
            refine ⟨?_, X1.out⟩
            have hl' : parts.length = m1 := hl.out.symm
            simp only [bareB, empB, hl']
            clear hl'
            simp [*]
            try (rw [Bool.eq_iff_iff, beq_iff_eq, decide_eq_true_iff]; omega)
      case inl.inr.inl =>
        cases hp : piecesB f l any
        all_goals
          have HQ := hid hp
          go_wp2
          all_goals
            go_ret
            refine ⟨?_, X1.out⟩
            have hl' : parts.length = m1 := hl.out.symm
            simp only [bareB, empB, hl']
            clear hl'
            simp [*]
            try (rw [Bool.eq_iff_iff, beq_iff_eq, decide_eq_true_iff]; omega)
      case inl.inr.inr =>
        cases hp : piecesB f l any
        all_goals
          have HQ := hid hp
          go_wp2
          all_goals
            go_ret
            refine ⟨?_, X1.out⟩
            have hl' : parts.length = m1 := hl.out.symm
            simp only [bareB, empB, hl']
            clear hl'
            simp [*]
            try (rw [Bool.eq_iff_iff, beq_iff_eq, decide_eq_true_iff]; omega)
      case inr.inl.inl =>
        cases hp : piecesB f l any <;> cases hq : leafB a parts <;> cases hv : fitsB v
        all_goals
          have Hv := hid hv
          clear hv
          go_wp2_with (go_at_call 92; (with_reducible refine (fits_any _ _).mono ?_); rintro e w1 ⟨he, rfl⟩; rw [Hv.out] at he; subst he)
          go_ret
          refine ⟨?_, X1.out⟩
          have hv := Hv.out
          simp only [bareB, empB]
          simp [*]
      case inr.inl.inr.inl =>
        cases hp : piecesB f l any <;> cases hq : leafB a parts <;> cases hv : fitsB v
        all_goals
          have Hv := hid hv
          clear hv
          go_wp2_with (go_at_call 92; (with_reducible refine (fits_any _ _).mono ?_); rintro e w1 ⟨he, rfl⟩; rw [Hv.out] at he; subst he)
          go_ret
          refine ⟨?_, X1.out⟩
          have hv := Hv.out
          simp only [bareB, empB]
          simp [*]
      case inr.inl.inr.inr.inl =>
        cases hp : piecesB f l any <;> cases hq : leafB a parts <;> cases hv : fitsB v
        all_goals
          have Hv := hid hv
          clear hv
          go_wp2_with (go_at_call 92; (with_reducible refine (fits_any _ _).mono ?_); rintro e w1 ⟨he, rfl⟩; rw [Hv.out] at he; subst he)
          go_ret
          refine ⟨?_, X1.out⟩
          have hv := Hv.out
          simp only [bareB, empB]
          simp [*]
      case inr.inl.inr.inr.inr =>
        cases hp : piecesB f l any <;> cases hq : leafB a parts <;> cases hv : fitsB v
        all_goals
          have Hv := hid hv
          clear hv
          go_wp2_with (go_at_call 92; (with_reducible refine (fits_any _ _).mono ?_); rintro e w1 ⟨he, rfl⟩; rw [Hv.out] at he; subst he)
          go_ret
          refine ⟨?_, X1.out⟩
          have hv := Hv.out
          simp only [bareB, empB]
          simp [*]
      case inr.inr.inl =>
        cases hp : piecesB f l any <;> cases hq : leafB a parts
        all_goals
          go_wp2
          all_goals
            go_ret
            refine ⟨?_, X1.out⟩
            simp only [bareB, empB]
            simp [*]
      case inr.inr.inr.inl =>
        cases hp : piecesB f l any <;> cases hq : leafB a parts <;> cases hv : any.any fun s => !(fitsB s)
        all_goals
          have Hv := hid hv
          clear hv
          go_wp2_with (go_at_call 72; (with_reducible refine (owncontains_any (HR.out.ext X1.out)).mono ?_); rintro e w1 ⟨he, hx1⟩; rw [Hv.out] at he; subst he)
          all_goals
            go_ret
            refine ⟨?_, by first | exact X1.out | exact X1.out.trans hx1⟩
            have hv := Hv.out
            simp only [bareB, empB]
            simp [*]
            try omega
      case inr.inr.inr.inr =>
        have hf : Hid (bareB (.mk k a v f l any parts) = false) := by
          show _ = _
          simp only [beq_eq_false_iff_ne] at k0 k1 k2 k3 k4 k5 k6 k7 k8
          simp [bareB, k0, k1, k2, k3, k4, k5, k6, k7, k8]
        go_wp2
        go_ret
        exact ⟨by rw [hf.out]; rfl, X1.out⟩
end Go.Proofs.Ytabaeiolpbdjnaa
/- The walks of the reference's letter, fits, Attr and bare. -/
namespace Go.Proofs.Ytabaeiolpbdjnaa
open Go.RowKit
set_option maxRecDepth 100000

theorem letter_any (c : UInt8) (w : World) : Calls Try.prog 96 #[.int .u8 (c.toNat : Int)] w fun e w' => e = .returned (.bool (letterB c)) ∧ w = w' := by
  have h0 : (c.toNat : Int) < 256 := by have := c.toNat_lt; omega
  obtain ⟨r, hr⟩ : ∃ r, letterB c = r := ⟨_, rfl⟩
  rw [hr]
  have hq := hr
  simp only [letterB, UInt8.le_iff_toNat_le] at hr
  have HR := hid hr
  clear hr hq
  by_cases h1 : 97 ≤ (c.toNat : Int) <;> by_cases h2 : (c.toNat : Int) ≤ 122 <;> by_cases h3 : 65 ≤ (c.toNat : Int) <;> by_cases h4 : (c.toNat : Int) ≤ 90 <;> (try (exfalso; omega)) <;>
    (go_enter Try.func96, Try.ntmps96
     go_wp2
     go_ret
     refine ⟨?_, rfl⟩
     have hr := HR.out
     subst hr
     (try rw [show (decide ((97 : UInt8).toNat ≤ c.toNat)) = true from decide_eq_true (by simp; omega)])
     (try rw [show (decide ((97 : UInt8).toNat ≤ c.toNat)) = false from decide_eq_false (by simp; omega)])
     (try rw [show (decide (c.toNat ≤ (122 : UInt8).toNat)) = true from decide_eq_true (by simp; omega)])
     (try rw [show (decide (c.toNat ≤ (122 : UInt8).toNat)) = false from decide_eq_false (by simp; omega)])
     (try rw [show (decide ((65 : UInt8).toNat ≤ c.toNat)) = true from decide_eq_true (by simp; omega)])
     (try rw [show (decide ((65 : UInt8).toNat ≤ c.toNat)) = false from decide_eq_false (by simp; omega)])
     (try rw [show (decide (c.toNat ≤ (90 : UInt8).toNat)) = true from decide_eq_true (by simp; omega)])
     (try rw [show (decide (c.toNat ≤ (90 : UInt8).toNat)) = false from decide_eq_false (by simp; omega)])
     rfl)
theorem rfits_any (s : ByteArray) (w : World) : Calls Try.prog 95 #[.string s] w fun e w' => e = .returned (.bool (fitsB s)) ∧ w = w' := by
  by_cases h0 : 1 ≤ (s.size : Int) <;> by_cases h2 : (s.size : Int) ≤ 200 <;> (try (exfalso; omega))
  all_goals
    have hf : Hid (fitsB s = (decide (s.size ≠ 0) && decide (s.size ≤ 200))) := rfl
    go_enter Try.func95, Try.ntmps95
    go_wp2
    go_ret
    refine ⟨?_, rfl⟩
    rw [hf.out]
    first
      | rw [decide_eq_true (show s.size ≠ 0 by omega)]
      | rw [decide_eq_false (show ¬ s.size ≠ 0 by omega)]
    first
      | rw [decide_eq_true (show s.size ≤ 200 by omega)]
      | rw [decide_eq_false (show ¬ s.size ≤ 200 by omega)]
    first | rfl | simp [h0, h2]
theorem attr_first {s : ByteArray} (h : 0 < s.size) (hc : letterB ((bys s).getD 0 0) = false) : attrB s = false := attr_none (k := 0) h (x := (bys s).getD 0 0) (by simp [List.getD_eq_getElem?_getD]) (by unfold charB; rw [hc]; rfl)
theorem idx_bys (s : ByteArray) (k : Nat) (h : k < s.size) : s[k] = (bys s).getD k 0 := by
  rw [List.getD_eq_getElem?_getD, List.getElem?_eq_getElem (by rw [bys_len]; exact h)]
  rfl
set_option maxHeartbeats 1000000 in
theorem rattr_any (s : ByteArray) (w : World) (hs : s.size ≤ maxLen) : Calls Try.prog 94 #[.string s] w fun e w' => e = .returned (.bool (attrB s)) ∧ w = w' := by
  unfold maxLen at hs
  by_cases h0 : 1 ≤ s.size
  case neg =>
    have hC : Hid (attrB s = false) := by show _ = _; simp [attrB, h0]
    have h1 : (s.size : Int) < 1 := by omega
    clear h0
    go_enter Try.func94, Try.ntmps94
    go_wp2
    go_ret
    exact ⟨by rw [hC.out]; rfl, rfl⟩
  by_cases h4 : s.size ≤ 40
  case neg =>
    have hC : Hid (attrB s = false) := by show _ = _; simp [attrB, h4]
    have h1 : ¬ (s.size : Int) < 1 := by omega
    have h2 : 40 < (s.size : Int) := by omega
    clear h0 h4
    go_enter Try.func94, Try.ntmps94
    go_wp2
    go_ret
    exact ⟨by rw [hC.out]; rfl, rfl⟩
  have h1 : ¬ (s.size : Int) < 1 := by omega
  have h2 : ¬ 40 < (s.size : Int) := by omega
  have h3 : 0 < s.size := by omega
  have H4 := hid h4
  clear h4 h0
  have hx0 := idx_bys s 0 h3
  have HX0 := hid hx0
  clear hx0
  cases hl : letterB (s[0])
  case false =>
    have hC : Hid (attrB s = false) := by rw [HX0.out] at hl; exact attr_first h3 hl
    have HL := hid hl
    clear hl
    go_enter Try.func94, Try.ntmps94
    go_wp2_with (go_at_call 96; (with_reducible refine (letter_any _ _).mono ?_); rintro e w1 ⟨he, rfl⟩; rw [HL.out] at he; subst he)
    go_ret
    exact ⟨by rw [hC.out]; rfl, rfl⟩
  case true =>
    have HL := hid hl
    clear hl
    go_enter Try.func94, Try.ntmps94
    go_wp2_with (go_at_call 96; (with_reducible refine (letter_any _ _).mono ?_); rintro e w1 ⟨he, rfl⟩; rw [HL.out] at he; subst he)
    go_loop [3] (fun i => ∃ k : Nat, k ≤ s.size ∧ i = .int .i64 k ∧ Hid (∀ j, j < k → charB j ((bys s).getD j 0) = true)) (fun i => s.size - (intOf i).toNat)
    case atStart => exact ⟨0, by omega, rfl, fun j hj => by omega⟩
    case round =>
      obtain ⟨k, hk, rfl, HK⟩ := hrel
      by_cases hlt : k < s.size
      · have HX := hid (idx_bys s k hlt)
        have hx1 : (s[k].toNat : Int) < 256 := by have := s[k].toNat_lt; omega
        have HX' : Hid (s[k] = ((bys s)[k]?).getD 0) := by show _ = _; rw [HX.out, List.getD_eq_getElem?_getD]
        cases hl : letterB (s[k])
        case true =>
          have hC : Hid (charB k s[k] = true) := by show _ = _; simp [charB, hl]
          have HLK := hid hl
          clear hl
          go_wp2_with (go_at_call 96; (with_reducible refine (letter_any _ _).mono ?_); rintro e w1 ⟨he, rfl⟩; rw [HLK.out] at he; subst he)
          exact ⟨⟨k + 1, by omega, by go_num, attr_more HK.out HX'.out hC.out⟩, by simp [intOf]; omega⟩
        case false =>
          have HLK := hid hl
          have hk0 : Hid (k ≠ 0) := fun e => by
            subst e
            rw [HL.out] at hl
            cases hl
          clear hl
          by_cases h4 : s[k] = 45
          · have hC : Hid (charB k s[k] = true) := by show _ = _; simp [charB, hk0.out, h4]
            have t4 : ((s[k].toNat : Int) != 45) = false := by rw [h4]; rfl
            clear h4
            go_wp2_with (go_at_call 96; (with_reducible refine (letter_any _ _).mono ?_); rintro e w1 ⟨he, rfl⟩; rw [HLK.out] at he; subst he)
            all_goals exact ⟨⟨k + 1, by omega, by go_num, attr_more HK.out HX'.out hC.out⟩, by simp [intOf]; omega⟩
          · have t4 : ((s[k].toNat : Int) != 45) = true := by
              rw [bne_iff_ne]
              intro e
              exact h4 (UInt8.toNat_inj.1 (by simp; omega))
            by_cases h8 : 48 ≤ (s[k].toNat : Int) ∧ (s[k].toNat : Int) ≤ 57
            · obtain ⟨h8, h9⟩ := h8
              have hC : Hid (charB k s[k] = true) := by show _ = _; simp [charB, hk0.out, UInt8.le_iff_toNat_le]; right; right; omega
              clear h4
              go_wp2_with (go_at_call 96; (with_reducible refine (letter_any _ _).mono ?_); rintro e w1 ⟨he, rfl⟩; rw [HLK.out] at he; subst he)
              exact ⟨⟨k + 1, by omega, by go_num, attr_more HK.out HX'.out hC.out⟩, by simp [intOf]; omega⟩
            · have hC : Hid (charB k s[k] = false) := by show _ = _; simp [charB, HLK.out, h4, UInt8.le_iff_toNat_le]; intro; intro; omega
              have HZ' := hid (attr_none hlt HX'.out hC.out)
              have h8' : (s[k].toNat : Int) < 48 ∨ (48 ≤ (s[k].toNat : Int) ∧ decide ((s[k].toNat : Int) ≤ 57) = false) := by rw [decide_eq_false_iff_not]; omega
              clear h4 h8
              rcases h8' with h8 | ⟨h8, h9⟩
              all_goals
                go_wp2_with (go_at_call 96; (with_reducible refine (letter_any _ _).mono ?_); rintro e w1 ⟨he, rfl⟩; rw [HLK.out] at he; subst he)
                go_ret
                exact ⟨by rw [HZ'.out]; rfl, rfl⟩
      · obtain rfl : k = s.size := by omega
        have hC : Hid (attrB s = true) := by
          show _ = _
          unfold attrB
          rw [decide_eq_true (by omega), decide_eq_true H4.out, decide_eq_true HK.out]; rfl
        go_wp2
        go_ret
        exact ⟨by rw [hC.out]; rfl, rfl⟩
set_option maxHeartbeats 2000000 in
theorem rbare_any {k : Int} {a v f l : ByteArray} {any : List ByteArray} {parts : List Fil} {S : Nat → Prop} {vs : List Value} {w : World} (h : FilAt S w vs (.mk k a v f l any parts)) (ha : a.size ≤ maxLen) :
    Calls Try.prog 90 #[.agg vs.toArray] w fun e w' => e = .returned (.bool (bareB (.mk k a v f l any parts))) ∧ Ext w w' := by
  obtain ⟨A1, n1, c1, B1, m1, d1, rfl, r1, p1⟩ := FilAt.open_ h
  have hl := hid p1.len
  have hn := hid r1.len
  have hnn : n1 ≤ 9223372036854775807 := by have := r1.cap; have := r1.most; simp only [maxLen] at this; omega
  have HR := hid r1
  have HA := hid ha
  clear h p1 r1 ha
  go_enter Try.func90, Try.ntmps90
  go_upto_region 1 with fail
  go_cut [3] (fun c wx => c = .bool (piecesB f l any) ∧ wx = w.alloc (.cells #[.int .i64 k, .string a, .string v, .string f, .string l, .slice A1 n1 c1, .slice B1 m1 d1] 25))
  case first =>
    as_aux_lemma =>
      go_wp2
      all_goals
        go_meet
        refine ⟨?_, rfl⟩
        have hn' : any.length = n1 := hn.out.symm
        simp only [piecesB, empB, hn']
        clear hn'
        simp [*]
  case rest =>
    obtain ⟨rfl, rfl⟩ := hcut
    have X1 : Hid (Ext w (w.alloc (.cells #[.int .i64 k, .string a, .string v, .string f, .string l, .slice A1 n1 c1, .slice B1 m1 d1] 25))) := Ext.alloc _ _
    have hk : (k = 0 ∨ k = 1 ∨ k = 2) ∨ (k = 3 ∨ k = 5 ∨ k = 6 ∨ k = 8) ∨ k = 7 ∨ k = 4 ∨ ((k == 0) = false ∧ (k == 1) = false ∧ (k == 2) = false ∧ (k == 3) = false ∧ (k == 4) = false ∧ (k == 5) = false ∧ (k == 6) = false ∧ (k == 7) = false ∧ (k == 8) = false) := by
      simp only [beq_eq_false_iff_ne]
      omega
    rcases hk with (rfl | rfl | rfl) | (rfl | rfl | rfl | rfl) | rfl | rfl | ⟨k0, k1, k2, k3, k4, k5, k6, k7, k8⟩
    case inl.inl =>
      cases hp : piecesB f l any
      all_goals
        go_wp2
        all_goals
          go_ret
          refine ⟨?_, X1.out⟩
          have hl' : parts.length = m1 := hl.out.symm
          simp only [bareB, empB, hl']
          clear hl'
          simp [*]
          try (rw [Bool.eq_iff_iff, beq_iff_eq, decide_eq_true_iff]; omega)
    case inl.inr.inl =>
      cases hp : piecesB f l any
      all_goals
        go_wp2
        all_goals
          go_ret
          refine ⟨?_, X1.out⟩
          have hl' : parts.length = m1 := hl.out.symm
          simp only [bareB, empB, hl']
          clear hl'
          simp [*]
          try (rw [Bool.eq_iff_iff, beq_iff_eq, decide_eq_true_iff]; omega)
    case inl.inr.inr =>
      cases hp : piecesB f l any
      all_goals
        go_wp2
        all_goals
          go_ret
          refine ⟨?_, X1.out⟩
          have hl' : parts.length = m1 := hl.out.symm
          simp only [bareB, empB, hl']
          clear hl'
          simp [*]
          try (rw [Bool.eq_iff_iff, beq_iff_eq, decide_eq_true_iff]; omega)
    case inr.inl.inl =>
      cases hp : piecesB f l any <;> cases hq : attrB a <;> cases hv : fitsB v
      all_goals
        have Hv := hid hv
        have Hq := hid hq
        clear hv hq
        go_wp2_with (first | (go_at_call 94; (with_reducible refine (rattr_any _ _ HA.out).mono ?_); rintro e w1 ⟨he, rfl⟩; rw [Hq.out] at he; subst he) | (go_at_call 95; (with_reducible refine (rfits_any _ _).mono ?_); rintro e w1 ⟨he, rfl⟩; rw [Hv.out] at he; subst he))
        go_ret
        refine ⟨?_, X1.out⟩
        have hv := Hv.out
        have hq := Hq.out
        have hl' : parts.length = m1 := hl.out.symm
        simp only [bareB, empB, leafB, hl']
        clear hl'
        simp [*]
        try (rw [Bool.eq_iff_iff, beq_iff_eq, decide_eq_true_iff]; omega)
    case inr.inl.inr.inl =>
      cases hp : piecesB f l any <;> cases hq : attrB a <;> cases hv : fitsB v
      all_goals
        have Hv := hid hv
        have Hq := hid hq
        clear hv hq
        go_wp2_with (first | (go_at_call 94; (with_reducible refine (rattr_any _ _ HA.out).mono ?_); rintro e w1 ⟨he, rfl⟩; rw [Hq.out] at he; subst he) | (go_at_call 95; (with_reducible refine (rfits_any _ _).mono ?_); rintro e w1 ⟨he, rfl⟩; rw [Hv.out] at he; subst he))
        go_ret
        refine ⟨?_, X1.out⟩
        have hv := Hv.out
        have hq := Hq.out
        have hl' : parts.length = m1 := hl.out.symm
        simp only [bareB, empB, leafB, hl']
        clear hl'
        simp [*]
        try (rw [Bool.eq_iff_iff, beq_iff_eq, decide_eq_true_iff]; omega)
    case inr.inl.inr.inr.inl =>
      cases hp : piecesB f l any <;> cases hq : attrB a <;> cases hv : fitsB v
      all_goals
        have Hv := hid hv
        have Hq := hid hq
        clear hv hq
        go_wp2_with (first | (go_at_call 94; (with_reducible refine (rattr_any _ _ HA.out).mono ?_); rintro e w1 ⟨he, rfl⟩; rw [Hq.out] at he; subst he) | (go_at_call 95; (with_reducible refine (rfits_any _ _).mono ?_); rintro e w1 ⟨he, rfl⟩; rw [Hv.out] at he; subst he))
        go_ret
        refine ⟨?_, X1.out⟩
        have hv := Hv.out
        have hq := Hq.out
        have hl' : parts.length = m1 := hl.out.symm
        simp only [bareB, empB, leafB, hl']
        clear hl'
        simp [*]
        try (rw [Bool.eq_iff_iff, beq_iff_eq, decide_eq_true_iff]; omega)
    case inr.inl.inr.inr.inr =>
      cases hp : piecesB f l any <;> cases hq : attrB a <;> cases hv : fitsB v
      all_goals
        have Hv := hid hv
        have Hq := hid hq
        clear hv hq
        go_wp2_with (first | (go_at_call 94; (with_reducible refine (rattr_any _ _ HA.out).mono ?_); rintro e w1 ⟨he, rfl⟩; rw [Hq.out] at he; subst he) | (go_at_call 95; (with_reducible refine (rfits_any _ _).mono ?_); rintro e w1 ⟨he, rfl⟩; rw [Hv.out] at he; subst he))
        go_ret
        refine ⟨?_, X1.out⟩
        have hv := Hv.out
        have hq := Hq.out
        have hl' : parts.length = m1 := hl.out.symm
        simp only [bareB, empB, leafB, hl']
        clear hl'
        simp [*]
        try (rw [Bool.eq_iff_iff, beq_iff_eq, decide_eq_true_iff]; omega)
    case inr.inr.inl =>
      cases hp : piecesB f l any <;> cases hq : attrB a
      all_goals
        have Hq := hid hq
        clear hq
        go_wp2_with (go_at_call 94; (with_reducible refine (rattr_any _ _ HA.out).mono ?_); rintro e w1 ⟨he, rfl⟩; rw [Hq.out] at he; subst he)
        all_goals
          go_ret
          refine ⟨?_, X1.out⟩
          have hq := Hq.out
          have hl' : parts.length = m1 := hl.out.symm
          simp only [bareB, empB, leafB, hl']
          clear hl'
          simp [*]
          try (rw [Bool.eq_iff_iff, beq_iff_eq, decide_eq_true_iff]; omega)
    case inr.inr.inr.inl =>
      have Z5 := hid (box_a w #[.int .i64 4, .string a, .string v, .string f, .string l, .slice A1 n1 c1, .slice B1 m1 d1] 25 5)
      go_wp2
      go_loop [104] (fun i => ∃ j : Nat, j ≤ n1 ∧ i = .int .i64 j ∧ Hid ((any.take j).any (fun s => !(fitsB s)) = false)) (fun i => n1 - (intOf i).toNat)
      case atStart => exact ⟨0, by omega, rfl, by simp [Hid]⟩
      case round =>
        obtain ⟨j, hj, rfl, Htk⟩ := hrel
        by_cases hlt : j < n1
        · obtain ⟨b1, o1, rfl, c1⟩ := (HR.out.ext X1.out).str_cell (by omega)
          have e1 := c1 j hlt
          clear c1
          have g1 : any[j]? = some (any[j]?.getD ByteArray.empty) := by have := hn.out; rw [List.getElem?_eq_getElem (by omega)]; simp
          have Hg := hid g1
          clear g1
          generalize any[j]?.getD ByteArray.empty = x1 at *
          cases hp : fitsB x1
          · have Hp := hid hp
            clear hp
            go_wp2_with (go_at_call 95; (with_reducible refine (rfits_any _ _).mono ?_); rintro e w1 ⟨he, rfl⟩; rw [Hp.out] at he; subst he)
            go_ret
            refine ⟨?_, X1.out⟩
            have h9 : any.any (fun s => !(fitsB s)) = true := any_at Hg.out (by rw [Hp.out]; rfl)
            simp only [bareB, h9]
            simp
          · have Hp := hid hp
            clear hp
            go_wp2_with (go_at_call 95; (with_reducible refine (rfits_any _ _).mono ?_); rintro e w1 ⟨he, rfl⟩; rw [Hp.out] at he; subst he)
            exact ⟨⟨j + 1, by omega, by go_num, any_take Htk.out Hg.out (by rw [Hp.out]; rfl)⟩, by simp [intOf]; omega⟩
        · obtain rfl : j = n1 := by omega
          have H9 : Hid (any.any (fun s => !(fitsB s)) = false) := by
            have h9 := Htk.out
            rw [List.take_of_length_le (Nat.le_of_eq hn.out.symm)] at h9
            exact h9
          clear Htk
          cases hp : piecesB f l any <;> cases hq : attrB a
          all_goals
            have Hq := hid hq
            clear hq
            go_wp2_with (go_at_call 94; (with_reducible refine (rattr_any _ _ HA.out).mono ?_); rintro e w1 ⟨he, rfl⟩; rw [Hq.out] at he; subst he)
            all_goals
              go_ret
              refine ⟨?_, by first | exact X1.out | exact Ext.alloc _ _⟩
              have hq := Hq.out
              have h9 := H9.out
              have hl' : parts.length = m1 := hl.out.symm
              simp only [bareB, empB, leafB, hl', h9]
              clear hl' h9
              simp [*]
              try (first | (intros; omega) | (rw [Bool.eq_iff_iff]; simp; omega))
    case inr.inr.inr.inr =>
      have hf : Hid (bareB (.mk k a v f l any parts) = false) := by
        show _ = _
        simp only [beq_eq_false_iff_ne] at k0 k1 k2 k3 k4 k5 k6 k7 k8
        simp [bareB, k0, k1, k2, k3, k4, k5, k6, k7, k8]
      go_wp2
      go_ret
      exact ⟨by rw [hf.out]; rfl, X1.out⟩
end Go.Proofs.Ytabaeiolpbdjnaa
/- The walks of filter's formed and Formed, and of the reference's all, deep and Formed. -/
namespace Go.Proofs.Ytabaeiolpbdjnaa
open Go.RowKit
set_option maxRecDepth 100000

/-- A filter is formed, at a depth. -/
def Fil.fok : Nat → Fil → Bool
  | d, .mk k a v f l any parts => decide (d ≤ 20) && bareB (.mk k a v f l any parts) && parts.attach.all fun x => Fil.fok (d + 1) x.1
  termination_by _ x => SizeOf.sizeOf x
  decreasing_by
    simp_wf
    have := List.sizeOf_lt_of_mem x.2
    omega
theorem Fil.fok_mk (d : Nat) (k : Int) (a v f l : ByteArray) (any : List ByteArray) (parts : List Fil) : Fil.fok d (.mk k a v f l any parts) = (decide (d ≤ 20) && bareB (.mk k a v f l any parts) && parts.all (Fil.fok (d + 1))) := by
  rw [Fil.fok]
  congr 1
  simp
/-- .. at whatever depth. -/
def Fil.allok : Fil → Bool
  | .mk k a v f l any parts => bareB (.mk k a v f l any parts) && parts.attach.all fun x => Fil.allok x.1
  termination_by x => SizeOf.sizeOf x
  decreasing_by
    simp_wf
    have := List.sizeOf_lt_of_mem x.2
    omega
theorem Fil.allok_mk (k : Int) (a v f l : ByteArray) (any : List ByteArray) (parts : List Fil) : Fil.allok (.mk k a v f l any parts) = (bareB (.mk k a v f l any parts) && parts.all Fil.allok) := by
  rw [Fil.allok]
  congr 1
  simp
def maxOf (l : List Nat) : Nat := l.foldl max 0
/-- How deep a filter is, at most so deep and one. -/
def Fil.dep : Nat → Fil → Nat
  | 0, _ => 1
  | n + 1, .mk _ _ _ _ _ _ parts => maxOf (parts.map (Fil.dep n)) + 1
theorem maxOf_snoc (l : List Nat) (x : Nat) : maxOf (l ++ [x]) = max (maxOf l) x := by simp [maxOf]
theorem foldl_max_le (l : List Nat) : ∀ a b : Nat, l.foldl max a ≤ b ↔ a ≤ b ∧ ∀ x ∈ l, x ≤ b := by
  induction l with
  | nil => intro a b; simp
  | cons x l ih =>
    intro a b
    rw [List.foldl_cons, ih, Nat.max_le]
    simp only [List.mem_cons, forall_eq_or_imp]
    exact and_assoc
theorem maxOf_le (l : List Nat) (b : Nat) : maxOf l ≤ b ↔ ∀ x ∈ l, x ≤ b := by
  unfold maxOf
  rw [foldl_max_le]
  exact ⟨fun h => h.2, fun h => ⟨Nat.zero_le _, h⟩⟩
theorem Fil.dep_le : ∀ n x, Fil.dep n x ≤ n + 1
  | 0, x => by simp [Fil.dep]
  | n + 1, .mk _ _ _ _ _ _ parts => by
    rw [Fil.dep]
    have : maxOf (parts.map (Fil.dep n)) ≤ n + 1 := by
      rw [maxOf_le]
      intro y hy
      obtain ⟨x, _, rfl⟩ := List.mem_map.1 hy
      exact Fil.dep_le n x
    omega
theorem Fil.dep_pos : ∀ n x, 1 ≤ Fil.dep n x
  | 0, x => by simp [Fil.dep]
  | n + 1, .mk _ _ _ _ _ _ parts => by rw [Fil.dep]; omega
theorem Fil.fok_eq : ∀ x (n : Nat), n ≤ 20 → Fil.fok (21 - n) x = (decide (Fil.dep n x ≤ n) && Fil.allok x) := by
  intro x
  induction x using Fil.ind with
  | h k a v f l any parts ih =>
    intro n hn
    rw [Fil.fok_mk, Fil.allok_mk]
    rcases n with _ | n
    · simp [Fil.dep]
    · rw [Fil.dep]
      rw [decide_eq_true (show 21 - (n + 1) ≤ 20 by omega), show 21 - (n + 1) + 1 = 21 - n by omega, Bool.true_and]
      have h1 : parts.all (Fil.fok (21 - n)) = (decide (maxOf (parts.map (Fil.dep n)) + 1 ≤ n + 1) && parts.all Fil.allok) := by
        rw [Bool.eq_iff_iff, Bool.and_eq_true, decide_eq_true_iff, List.all_eq_true, List.all_eq_true, Nat.add_le_add_iff_right, maxOf_le]
        constructor
        · intro h
          refine ⟨fun y hy => ?_, fun y hy => ?_⟩
          · obtain ⟨x, hx, rfl⟩ := List.mem_map.1 hy
            have := h x hx
            rw [ih x hx n (by omega), Bool.and_eq_true, decide_eq_true_iff] at this
            exact this.1
          · have := h y hy
            rw [ih y hy n (by omega), Bool.and_eq_true] at this
            exact this.2
        · rintro ⟨h1, h2⟩ y hy
          rw [ih y hy n (by omega), Bool.and_eq_true, decide_eq_true_iff]
          exact ⟨h1 _ (List.mem_map.2 ⟨y, hy, rfl⟩), h2 y hy⟩
      rw [h1]
      cases bareB (.mk k a v f l any parts) <;> cases decide (maxOf (parts.map (Fil.dep n)) + 1 ≤ n + 1) <;> rfl
theorem all_more {α : Type} {p : α → Bool} {l : List α} {j : Nat} {x : α} (h : (l.take j).all p = true) (hx : l[j]? = some x) (hp : p x = true) : (l.take (j + 1)).all p = true := by
  rw [List.take_add_one, hx]
  simp only [Option.toList, List.all_append, h, List.all_cons, hp, List.all_nil, Bool.and_self]
theorem all_none {α : Type} {p : α → Bool} {l : List α} {j : Nat} {x : α} (hx : l[j]? = some x) (hp : p x = false) : l.all p = false := by
  rw [List.all_eq_false]
  exact ⟨x, List.mem_of_getElem? hx, by rw [hp]; simp⟩
/-- The texts that are looked at letter by letter are not too long. -/
inductive FilSz : Fil → Prop where
  | mk {k : Int} {a v f l : ByteArray} {any : List ByteArray} {parts : List Fil} (h1 : a.size ≤ maxLen) (h3 : ∀ x ∈ parts, FilSz x) : FilSz (.mk k a v f l any parts)
theorem FilBd.sz : ∀ {x : Fil}, FilBd x → FilSz x := by
  intro x
  induction x using Fil.ind with
  | h k a v f l any parts ih =>
    rintro ⟨_, h1, _, _, _, _, h2, h3⟩
    exact ⟨by unfold maxLen; omega, fun x hx => ih x hx (h3 x hx)⟩
def FokSays (x : Fil) : Prop := FilSz x → ∀ (S : Nat → Prop) (vs : List Value) (d : Nat) (w : World), d ≤ 21 → FilAt S w vs x → Calls Try.prog 71 #[.agg vs.toArray, .int .i64 (d : Int)] w fun e w' => e = .returned (.bool (Fil.fok d x)) ∧ Ext w w'
set_option maxHeartbeats 1000000 in
theorem fok_any : ∀ x, FokSays x := by
  refine Fil.ind fun k a v f l any parts ih => ?_
  rintro ⟨hsa, hsp⟩ S vs d w hd h
  have HF := hid h
  have HA := hid hsa
  obtain ⟨A1, n1, c1, B1, m1, d1, rfl, r1, p1⟩ := FilAt.open_ h
  have hl := hid p1.len
  have hnl : m1 ≤ 9223372036854775807 := by have := p1.cap; have := p1.most; simp only [maxLen] at this; omega
  have IH := hid ih
  have HB := hid hsp
  have HP := hid p1
  have HD := hid hd
  have HE := hid (Fil.fok_mk d k a v f l any parts)
  have hdn : (0 : Int) ≤ (d : Int) := by omega
  have hd21 : (d : Int) ≤ 21 := by omega
  clear h ih r1 p1 hd hsa hsp
  by_cases h20 : d ≤ 20
  case neg =>
    have h20' : 20 < (d : Int) := by omega
    have hf : Hid (Fil.fok d (.mk k a v f l any parts) = false) := by show _ = _; rw [HE.out, decide_eq_false h20]; rfl
    clear h20
    go_enter Try.func71, Try.ntmps71
    go_wp2
    go_ret
    exact ⟨by rw [hf.out]; rfl, Ext.alloc _ _⟩
  have h20' : ¬ 20 < (d : Int) := by omega
  have H20 := hid h20
  clear h20
  cases hb : bareB (.mk k a v f l any parts)
  case false =>
    have hf : Hid (Fil.fok d (.mk k a v f l any parts) = false) := by show _ = _; rw [HE.out, hb]; simp
    have Hb := hid hb
    clear hb
    go_enter Try.func71, Try.ntmps71
    go_wp2_with (go_at_call 88; (with_reducible refine (own_filter (HF.out.ext (Ext.alloc _ _)) HA.out).mono ?_); rintro e w1 ⟨he, hx1⟩; rw [Hb.out] at he; subst he)
    go_ret
    exact ⟨by rw [hf.out]; rfl, (Ext.alloc _ _).trans hx1⟩
  case true =>
    have Hb := hid hb
    clear hb
    go_enter Try.func71, Try.ntmps71
    go_wp2_with (go_at_call 88; (with_reducible refine (own_filter (HF.out.ext (Ext.alloc _ _)) HA.out).mono ?_); rintro e w1 ⟨he, hx1⟩; rw [Hb.out] at he; subst he; have z6 := cell_later (box_a w #[.int .i64 k, .string a, .string v, .string f, .string l, .slice A1 n1 c1, .slice B1 m1 d1] 39 6) _ hx1)
    have X1 : Hid (Ext w w1) := Ext.trans (Ext.alloc _ _) hx1
    clear z6
    go_loopw [17] (fun i wr => ∃ j : Nat, j ≤ m1 ∧ i = .int .i64 j ∧ Hid ((parts.take j).all (Fil.fok (d + 1)) = true) ∧ Hid (Ext w wr)) (fun i _ => m1 - (intOf i).toNat)
    case atStart => exact ⟨0, by omega, rfl, by simp [Hid], X1⟩
    case round =>
      obtain ⟨j, hj, rfl, Htk, hx⟩ := hrel
      by_cases hlt : j < m1
      · obtain ⟨b1, o1, v1, x1, rfl, g1, _, R1, q1⟩ := (HP.out.ext hx.out).at_ hlt
        have hsx := hid (IH.out x1 (List.mem_of_getElem? g1))
        have Hg := hid g1
        have HB1 := hid (HB.out x1 (List.mem_of_getElem? g1))
        obtain ⟨ka, aa, va, fa, la, anya, pa⟩ := x1
        obtain ⟨A2, n2, c2, B2, m2, d2, rfl, -, -⟩ := FilAt.open_ R1
        have e10 := q1 0 _ rfl; have e11 := q1 1 _ rfl; have e12 := q1 2 _ rfl; have e13 := q1 3 _ rfl; have e14 := q1 4 _ rfl; have e15 := q1 5 _ rfl; have e16 := q1 6 _ rfl
        clear q1 g1
        simp only [Elem.fil, Nat.add_zero] at e10 e11 e12 e13 e14 e15 e16
        have HR1 : Hid (FilAt S wr _ _) := hid R1
        clear R1
        have HC : ∀ w2, Ext wr w2 → Calls Try.prog 71 #[.agg #[.int .i64 ka, .string aa, .string va, .string fa, .string la, .slice A2 n2 c2, .slice B2 m2 d2], .int .i64 ((d : Int) + 1)] w2 fun e w' => e = .returned (.bool (Fil.fok (d + 1) (Fil.mk ka aa va fa la anya pa))) ∧ Ext w2 w' := fun w2 hx2 => hsx.out HB1.out _ _ (d + 1) _ (by have := H20.out; omega) (FilAt.ext HR1.out hx2)
        have HC' := hid HC
        clear HC
        cases hp : Fil.fok (d + 1) (Fil.mk ka aa va fa la anya pa)
        · have Hp := hid hp
          clear hp
          go_wp2_with (go_at_call 71; (with_reducible refine (HC'.out _ (Ext.alloc _ _)).mono ?_); rintro e w3 ⟨he, hx3⟩; rw [Hp.out] at he; subst he)
          go_ret
          refine ⟨?_, hx.out.trans ((Ext.alloc _ _).trans hx3)⟩
          rw [HE.out, all_none Hg.out Hp.out]
          simp
        · have Hp := hid hp
          clear hp
          go_wp2_with (go_at_call 71; (with_reducible refine (HC'.out _ (Ext.alloc _ _)).mono ?_); rintro e w3 ⟨he, hx3⟩; rw [Hp.out] at he; subst he)
          exact ⟨⟨j + 1, by omega, by go_num, all_more Htk.out Hg.out Hp.out, hx.out.trans ((Ext.alloc _ _).trans hx3)⟩, by simp [intOf]; omega⟩
      · obtain rfl : j = m1 := by omega
        have H9 : Hid (Fil.fok d (.mk k a v f l any parts) = true) := by
          show _ = _
          have h9 := Htk.out
          rw [List.take_of_length_le (Nat.le_of_eq hl.out.symm)] at h9
          rw [HE.out, h9, Hb.out, decide_eq_true H20.out]
          rfl
        go_wp2
        go_ret
        exact ⟨by rw [H9.out]; rfl, hx.out⟩
def AllSays (x : Fil) : Prop := FilSz x → ∀ (S : Nat → Prop) (vs : List Value) (w : World), FilAt S w vs x → Calls Try.prog 80 #[.agg vs.toArray] w fun e w' => e = .returned (.bool (Fil.allok x)) ∧ Ext w w'
set_option maxHeartbeats 1000000 in
theorem allok_any : ∀ x, AllSays x := by
  refine Fil.ind fun k a v f l any parts ih => ?_
  rintro ⟨hsa, hsp⟩ S vs w h
  have HF := hid h
  have HA := hid hsa
  obtain ⟨A1, n1, c1, B1, m1, d1, rfl, r1, p1⟩ := FilAt.open_ h
  have hl := hid p1.len
  have hnl : m1 ≤ 9223372036854775807 := by have := p1.cap; have := p1.most; simp only [maxLen] at this; omega
  have IH := hid ih
  have HB := hid hsp
  have HP := hid p1
  have HE := hid (Fil.allok_mk k a v f l any parts)
  clear h ih r1 p1 hsa hsp
  cases hb : bareB (.mk k a v f l any parts)
  case false =>
    have hf : Hid (Fil.allok (.mk k a v f l any parts) = false) := by show _ = _; rw [HE.out, hb]; simp
    have Hb := hid hb
    clear hb
    go_enter Try.func80, Try.ntmps80
    go_wp2_with (go_at_call 90; (with_reducible refine (rbare_any (HF.out.ext (Ext.alloc _ _)) HA.out).mono ?_); rintro e w1 ⟨he, hx1⟩; rw [Hb.out] at he; subst he)
    go_ret
    exact ⟨by rw [hf.out]; rfl, (Ext.alloc _ _).trans hx1⟩
  case true =>
    have Hb := hid hb
    clear hb
    go_enter Try.func80, Try.ntmps80
    go_wp2_with (go_at_call 90; (with_reducible refine (rbare_any (HF.out.ext (Ext.alloc _ _)) HA.out).mono ?_); rintro e w1 ⟨he, hx1⟩; rw [Hb.out] at he; subst he; have z6 := cell_later (box_a w #[.int .i64 k, .string a, .string v, .string f, .string l, .slice A1 n1 c1, .slice B1 m1 d1] 25 6) _ hx1)
    have X1 : Hid (Ext w w1) := Ext.trans (Ext.alloc _ _) hx1
    have Z6 := hid z6
    clear z6
    go_loopw [10] (fun i wr => ∃ j : Nat, j ≤ m1 ∧ i = .int .i64 j ∧ Hid ((parts.take j).all Fil.allok = true) ∧ Hid (Ext w1 wr)) (fun i _ => m1 - (intOf i).toNat)
    case atStart => exact ⟨0, by omega, rfl, by simp [Hid], Ext.refl _⟩
    case round =>
      obtain ⟨j, hj, rfl, Htk, hx⟩ := hrel
      by_cases hlt : j < m1
      · have z6 := cell_later Z6.out _ hx.out
        obtain ⟨b1, o1, v1, x1, rfl, g1, _, R1, q1⟩ := (HP.out.ext (X1.out.trans hx.out)).at_ hlt
        have hsx := hid (IH.out x1 (List.mem_of_getElem? g1))
        have Hg := hid g1
        have HB1 := hid (HB.out x1 (List.mem_of_getElem? g1))
        obtain ⟨ka, aa, va, fa, la, anya, pa⟩ := x1
        obtain ⟨A2, n2, c2, B2, m2, d2, rfl, -, -⟩ := FilAt.open_ R1
        have e10 := q1 0 _ rfl; have e11 := q1 1 _ rfl; have e12 := q1 2 _ rfl; have e13 := q1 3 _ rfl; have e14 := q1 4 _ rfl; have e15 := q1 5 _ rfl; have e16 := q1 6 _ rfl
        clear q1 g1
        simp only [Elem.fil, Nat.add_zero] at e10 e11 e12 e13 e14 e15 e16
        have HR1 : Hid (FilAt S wr _ _) := hid R1
        clear R1
        have HC : ∀ w2, Ext wr w2 → Calls Try.prog 80 #[.agg #[.int .i64 ka, .string aa, .string va, .string fa, .string la, .slice A2 n2 c2, .slice B2 m2 d2]] w2 fun e w' => e = .returned (.bool (Fil.allok (Fil.mk ka aa va fa la anya pa))) ∧ Ext w2 w' := fun w2 hx2 => hsx.out HB1.out _ _ _ (FilAt.ext HR1.out hx2)
        have HC' := hid HC
        clear HC
        cases hp : Fil.allok (Fil.mk ka aa va fa la anya pa)
        · have Hp := hid hp
          clear hp
          go_wp2_with (go_at_call 80; (with_reducible refine (HC'.out _ (Ext.refl _)).mono ?_); rintro e w3 ⟨he, hx3⟩; rw [Hp.out] at he; subst he)
          go_ret
          refine ⟨?_, X1.out.trans (hx.out.trans hx3)⟩
          rw [HE.out, all_none Hg.out Hp.out]
          simp
        · have Hp := hid hp
          clear hp
          go_wp2_with (go_at_call 80; (with_reducible refine (HC'.out _ (Ext.refl _)).mono ?_); rintro e w3 ⟨he, hx3⟩; rw [Hp.out] at he; subst he)
          exact ⟨⟨j + 1, by omega, by go_num, all_more Htk.out Hg.out Hp.out, hx.out.trans hx3⟩, by simp [intOf]; omega⟩
      · obtain rfl : j = m1 := by omega
        have H9 : Hid (Fil.allok (.mk k a v f l any parts) = true) := by
          show _ = _
          have h9 := Htk.out
          rw [List.take_of_length_le (Nat.le_of_eq hl.out.symm)] at h9
          rw [HE.out, h9, Hb.out]
          rfl
        go_wp2
        go_ret
        exact ⟨by rw [H9.out]; rfl, X1.out.trans hx.out⟩
def DepSays (x : Fil) : Prop := ∀ (S : Nat → Prop) (vs : List Value) (n : Nat) (w : World), n ≤ 20 → FilAt S w vs x → Calls Try.prog 79 #[.agg vs.toArray, .int .i64 (n : Int)] w fun e w' => e = .returned (.int .i64 (Fil.dep n x : Int)) ∧ Ext w w'
theorem dep_take {n : Nat} {l : List Fil} {j : Nat} {x : Fil} (h : l[j]? = some x) : maxOf ((l.take (j + 1)).map (Fil.dep n)) = max (maxOf ((l.take j).map (Fil.dep n))) (Fil.dep n x) := by
  rw [List.take_add_one, h]
  simp only [Option.toList, List.map_append, List.map_cons, List.map_nil, maxOf_snoc]
theorem dep_bd (n : Nat) (l : List Fil) : maxOf (l.map (Fil.dep n)) ≤ n + 1 := by
  rw [maxOf_le]
  intro y hy
  obtain ⟨x, _, rfl⟩ := List.mem_map.1 hy
  exact Fil.dep_le n x
set_option maxHeartbeats 1000000 in
theorem dep_any : ∀ x, DepSays x := by
  refine Fil.ind fun k a v f l any parts ih => ?_
  intro S vs n w hn h
  obtain ⟨A1, n1, c1, B1, m1, d1, rfl, r1, p1⟩ := FilAt.open_ h
  have hl := hid p1.len
  have hnl : m1 ≤ 9223372036854775807 := by have := p1.cap; have := p1.most; simp only [maxLen] at this; omega
  have IH := hid ih
  have HB : Hid (∀ x ∈ parts, True) := fun _ _ => trivial
  have HP := hid p1
  clear h ih r1 p1
  rcases n with _ | n
  · go_enter Try.func79, Try.ntmps79
    go_wp2
    go_ret
    exact ⟨by simp [Fil.dep], Ext.alloc _ _⟩
  · have hn0 : (((n + 1 : Nat) : Int) == 0) = false := by rw [beq_eq_false_iff_ne]; omega
    have hn1 : Hid (((n + 1 : Nat) : Int) - 1 = (n : Int)) := by show _ = _; omega
    obtain ⟨N, hN⟩ : ∃ N : Int, N = ((n + 1 : Nat) : Int) := ⟨_, rfl⟩
    rw [← hN] at hn0 hn1 ⊢
    have hN1 : 1 ≤ N := by omega
    have hN2 : N ≤ 20 := by omega
    have HN := hid hn
    clear hN hn
    go_enter Try.func79, Try.ntmps79
    go_wp2
    go_loopw [5, 12] (fun s i wr => ∃ j : Nat, j ≤ m1 ∧ i = .int .i64 j ∧ s = .int .i64 (maxOf ((parts.take j).map (Fil.dep n)) : Int) ∧ Hid (Ext (w.alloc (.cells #[.int .i64 k, .string a, .string v, .string f, .string l, .slice A1 n1 c1, .slice B1 m1 d1] 25)) wr)) (fun _ i _ => m1 - (intOf i).toNat)
    case atStart => exact ⟨0, by omega, rfl, by simp [maxOf], Ext.refl _⟩
    case round =>
      obtain ⟨j, hj, rfl, rfl, hx⟩ := hrel
      have X1 : Hid (Ext w wr) := Ext.trans (Ext.alloc _ _) hx.out
      by_cases hlt : j < m1
      · have z6 := cell_later (box_a w #[.int .i64 k, .string a, .string v, .string f, .string l, .slice A1 n1 c1, .slice B1 m1 d1] 25 6) _ hx.out
        obtain ⟨b1, o1, v1, x1, rfl, g1, _, R1, q1⟩ := (HP.out.ext X1.out).at_ hlt
        have hsx := hid (IH.out x1 (List.mem_of_getElem? g1))
        have Hg := hid g1
        have HB1 := hid (HB.out x1 (List.mem_of_getElem? g1))
        obtain ⟨ka, aa, va, fa, la, anya, pa⟩ := x1
        obtain ⟨A2, n2, c2, B2, m2, d2, rfl, -, -⟩ := FilAt.open_ R1
        have e10 := q1 0 _ rfl; have e11 := q1 1 _ rfl; have e12 := q1 2 _ rfl; have e13 := q1 3 _ rfl; have e14 := q1 4 _ rfl; have e15 := q1 5 _ rfl; have e16 := q1 6 _ rfl
        clear q1 g1
        simp only [Elem.fil, Nat.add_zero] at e10 e11 e12 e13 e14 e15 e16
        have HR1 : Hid (FilAt S wr _ _) := hid R1
        clear R1
        have HT := hid (dep_take (n := n) Hg.out)
        have HC : ∀ w2, Ext wr w2 → Calls Try.prog 79 #[.agg #[.int .i64 ka, .string aa, .string va, .string fa, .string la, .slice A2 n2 c2, .slice B2 m2 d2], .int .i64 (N - 1)] w2 fun e w' => e = .returned (.int .i64 (Fil.dep n (Fil.mk ka aa va fa la anya pa) : Int)) ∧ Ext w2 w' := fun w2 hx2 => by
          rw [hn1.out]
          exact hsx.out _ _ n _ (by have := HN.out; omega) (FilAt.ext HR1.out hx2)
        have HC' := hid HC
        clear HC
        obtain ⟨q, hq⟩ : ∃ q, q = Fil.dep n (Fil.mk ka aa va fa la anya pa) := ⟨_, rfl⟩
        rw [← hq] at HC' HT
        obtain ⟨p, hp⟩ : ∃ p, p = maxOf ((parts.take j).map (Fil.dep n)) := ⟨_, rfl⟩
        rw [← hp] at HT ⊢
        clear hq hp
        go_wp2_with (go_at_call 79; (with_reducible refine (HC'.out _ (Ext.refl _)).mono ?_); rintro e w3 ⟨rfl, hx3⟩)
        refine ⟨⟨j + 1, by omega, by go_num, ?_, hx.out.trans hx3⟩, by simp [intOf]; omega⟩
        rw [HT.out]
        congr 1
        split <;> omega
      · obtain rfl : j = m1 := by omega
        have hb := dep_bd n (parts.take j)
        have hn20 := HN.out
        have h9 : Hid ((Fil.dep (n + 1) (.mk k a v f l any parts) : Int) = (maxOf ((parts.take j).map (Fil.dep n)) : Int) + 1) := by
          show _ = _
          rw [Fil.dep, List.take_of_length_le (Nat.le_of_eq hl.out.symm)]
          omega
        obtain ⟨p, hp⟩ : ∃ p, p = maxOf ((parts.take j).map (Fil.dep n)) := ⟨_, rfl⟩
        rw [← hp] at h9 hb ⊢
        have hb' : (p : Int) ≤ 21 := by omega
        clear hp hb hn20
        go_wp2
        go_ret
        exact ⟨by rw [h9.out]; rfl, X1.out⟩
theorem fformed_any {x : Fil} {S : Nat → Prop} {vs : List Value} {w : World} (h : FilAt S w vs x) (hz : FilSz x) :
    Calls Try.prog 41 #[.agg vs.toArray] w fun e w' => e = .returned (.bool (decide (x.nod ≤ 40) && Fil.fok 1 x)) ∧ Ext w w' := by
  obtain ⟨k, a, v, f, l, any, parts⟩ := x
  have HF := hid h
  have HZ := hid hz
  obtain ⟨A1, n1, c1, B1, m1, d1, rfl, -, -⟩ := FilAt.open_ h
  obtain ⟨x, hx⟩ : ∃ x, x = Fil.mk k a v f l any parts := ⟨_, rfl⟩
  rw [← hx] at HF HZ ⊢
  have hn := Fil.nod_le x
  have HC1 : Hid (∀ w2, Ext w w2 → Calls Try.prog 70 #[.agg #[.int .i64 k, .string a, .string v, .string f, .string l, .slice A1 n1 c1, .slice B1 m1 d1]] w2 fun e w' => e = .returned (.int .i64 (x.nod : Int)) ∧ Ext w2 w') := fun w2 hx2 => nodes_any x _ _ _ (HF.out.ext hx2)
  have HC2 : Hid (∀ w2, Ext w w2 → Calls Try.prog 71 #[.agg #[.int .i64 k, .string a, .string v, .string f, .string l, .slice A1 n1 c1, .slice B1 m1 d1], .int .i64 1] w2 fun e w' => e = .returned (.bool (Fil.fok 1 x)) ∧ Ext w2 w') := fun w2 hx2 => fok_any x HZ.out _ _ 1 _ (by omega) (HF.out.ext hx2)
  clear h hz hx
  by_cases h4 : x.nod ≤ 40
  · have h4' : (x.nod : Int) ≤ 40 := by omega
    have H4 := hid (decide_eq_true h4)
    clear h4
    cases hp : Fil.fok 1 x
    all_goals
      have Hp := hid hp
      clear hp
      go_enter Try.func41, Try.ntmps41
      go_wp2_with (first
        | (go_at_call 70; (with_reducible refine (HC1.out _ (Ext.alloc _ _)).mono ?_); rintro e w1 ⟨rfl, hx1⟩; have bc := bcell hx1)
        | (go_at_call 71; (with_reducible refine (HC2.out _ ((Ext.alloc _ _).trans hx1)).mono ?_); rintro e w2 ⟨he, hx2⟩; rw [Hp.out] at he; subst he))
      go_ret
      exact ⟨by rw [H4.out]; rfl, (Ext.alloc _ _).trans (hx1.trans hx2)⟩
  · have h4' : 40 < (x.nod : Int) := by omega
    have H4 := hid (decide_eq_false h4)
    clear h4
    go_enter Try.func41, Try.ntmps41
    go_wp2_with (go_at_call 70; (with_reducible refine (HC1.out _ (Ext.alloc _ _)).mono ?_); rintro e w1 ⟨rfl, hx1⟩)
    go_ret
    exact ⟨by rw [H4.out]; rfl, (Ext.alloc _ _).trans hx1⟩
theorem rformed_any {x : Fil} {S : Nat → Prop} {vs : List Value} {w : World} (h : FilAt S w vs x) (hz : FilSz x) :
    Calls Try.prog 60 #[.agg vs.toArray] w fun e w' => e = .returned (.bool (decide (x.nod ≤ 40) && Fil.fok 1 x)) ∧ Ext w w' := by
  have HQ := hid (Fil.fok_eq x 20 (by omega))
  obtain ⟨k, a, v, f, l, any, parts⟩ := x
  have HF := hid h
  have HZ := hid hz
  obtain ⟨A1, n1, c1, B1, m1, d1, rfl, -, -⟩ := FilAt.open_ h
  obtain ⟨x, hx⟩ : ∃ x, x = Fil.mk k a v f l any parts := ⟨_, rfl⟩
  rw [← hx] at HF HZ HQ ⊢
  have hn := Fil.nod_le x
  have hd := Fil.dep_le 20 x
  have HC1 : Hid (∀ w2, Ext w w2 → Calls Try.prog 78 #[.agg #[.int .i64 k, .string a, .string v, .string f, .string l, .slice A1 n1 c1, .slice B1 m1 d1]] w2 fun e w' => e = .returned (.int .i64 (x.nod : Int)) ∧ Ext w2 w') := fun w2 hx2 => rnodes_any x _ _ _ (HF.out.ext hx2)
  have HC2 : Hid (∀ w2, Ext w w2 → Calls Try.prog 79 #[.agg #[.int .i64 k, .string a, .string v, .string f, .string l, .slice A1 n1 c1, .slice B1 m1 d1], .int .i64 20] w2 fun e w' => e = .returned (.int .i64 (Fil.dep 20 x : Int)) ∧ Ext w2 w') := fun w2 hx2 => dep_any x _ _ 20 _ (by omega) (HF.out.ext hx2)
  have HC3 : Hid (∀ w2, Ext w w2 → Calls Try.prog 80 #[.agg #[.int .i64 k, .string a, .string v, .string f, .string l, .slice A1 n1 c1, .slice B1 m1 d1]] w2 fun e w' => e = .returned (.bool (Fil.allok x)) ∧ Ext w2 w') := fun w2 hx2 => allok_any x HZ.out _ _ _ (HF.out.ext hx2)
  clear h hz hx
  by_cases h4 : x.nod ≤ 40
  · have h4' : (x.nod : Int) ≤ 40 := by omega
    have H4 := hid (decide_eq_true h4)
    clear h4
    by_cases h5 : Fil.dep 20 x ≤ 20
    · have h5' : (Fil.dep 20 x : Int) ≤ 20 := by omega
      have H5 := hid (decide_eq_true h5)
      clear h5
      cases hp : Fil.allok x
      all_goals
        have Hp := hid hp
        clear hp
        go_enter Try.func60, Try.ntmps60
        go_wp2_with (first
          | (go_at_call 78; (with_reducible refine (HC1.out _ (Ext.alloc _ _)).mono ?_); rintro e w1 ⟨rfl, hx1⟩; have bc := bcell hx1)
          | (go_at_call 79; (with_reducible refine (HC2.out _ ((Ext.alloc _ _).trans hx1)).mono ?_); rintro e w2 ⟨rfl, hx2⟩; have bc2 := bcell (hx1.trans hx2))
          | (go_at_call 80; (with_reducible refine (HC3.out _ ((Ext.alloc _ _).trans (hx1.trans hx2))).mono ?_); rintro e w3 ⟨he, hx3⟩; rw [Hp.out] at he; subst he))
        go_ret
        exact ⟨by rw [H4.out, show (1 : Nat) = 21 - 20 from rfl, HQ.out, H5.out, Hp.out]; rfl, (Ext.alloc _ _).trans (hx1.trans (hx2.trans hx3))⟩
    · have h5' : 20 < (Fil.dep 20 x : Int) := by omega
      have H5 := hid (decide_eq_false h5)
      clear h5
      go_enter Try.func60, Try.ntmps60
      go_wp2_with (first
        | (go_at_call 78; (with_reducible refine (HC1.out _ (Ext.alloc _ _)).mono ?_); rintro e w1 ⟨rfl, hx1⟩; have bc := bcell hx1)
        | (go_at_call 79; (with_reducible refine (HC2.out _ ((Ext.alloc _ _).trans hx1)).mono ?_); rintro e w2 ⟨rfl, hx2⟩))
      go_ret
      exact ⟨by rw [H4.out, show (1 : Nat) = 21 - 20 from rfl, HQ.out, H5.out]; rfl, (Ext.alloc _ _).trans (hx1.trans hx2)⟩
  · have h4' : 40 < (x.nod : Int) := by omega
    have H4 := hid (decide_eq_false h4)
    clear h4
    go_enter Try.func60, Try.ntmps60
    go_wp2_with (go_at_call 78; (with_reducible refine (HC1.out _ (Ext.alloc _ _)).mono ?_); rintro e w1 ⟨rfl, hx1⟩)
    go_ret
    exact ⟨by rw [H4.out]; rfl, (Ext.alloc _ _).trans hx1⟩
end Go.Proofs.Ytabaeiolpbdjnaa
