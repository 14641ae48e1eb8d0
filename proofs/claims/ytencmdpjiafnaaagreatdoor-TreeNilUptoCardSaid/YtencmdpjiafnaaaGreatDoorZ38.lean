import Derived.Test.YtencmdpjiafnaaaGreatDoorZ34
import Derived.Test.YtencmdpjiafnaaaGreatDoorZ19
import Derived.Test.YtencmdpjiafnaaaGreatDoorZ36
import Derived.Test.YtencmdpjiafnaaaGreatDoorZ37
import Derived.Test.YtencmdpjiafnaaaGreatDoorZ30
import Derived.Test.YtencmdpjiafnaaaGreatDoorZ06
/- The walk of vergerref09's Small: it answers. (Split off Sm.) -/
namespace Go.Proofs.YtencmdpjiafnaaaGreatDoor
open Go.RowKit
set_option maxRecDepth 100000
set_option linter.unusedSimpArgs false
set_option linter.unusedVariables false

def BoolSays (w : World) (e : Ending) (w' : World) : Prop := ∃ b : Bool, e = .returned (.bool b) ∧ Ext w w'
theorem BoolSays.of {w w' : World} {e : Ending} {b : Bool} (h : e = .returned (.bool b)) (hx : Ext w w') : BoolSays w e w' := ⟨b, h, hx⟩
set_option maxHeartbeats 2000000 in
theorem rsmall09_any {S : Nat → Prop} {A : Option Addr} {n c : Nat} {w : World} {l : List Ent} (h : Row Elem.ent S w A n c l) : Calls Tryz.prog 7 #[.slice A n c] w (BoolSays w) := by
  have HR := hid h
  have hn : n ≤ 9223372036854775807 := by have := h.cap; have := h.most; simp only [maxLen] at this; omega
  clear h
  go_enter Tryz.func7, Tryz.ntmps7
  go_wp2
  go_loopw [3, 9] (fun z i wr => ∃ (j : Nat) (y : Int), j ≤ n ∧ i = .int .i64 j ∧ z = .int .i64 y ∧ Hid (Ext w wr)) (fun _ i _ => n - (intOf i).toNat)
  case atStart => exact ⟨0, 0, by omega, rfl, rfl, Ext.refl _⟩
  case round =>
    obtain ⟨j, y, hj, rfl, rfl, hx⟩ := hrel
    by_cases hlt : j < n
    · obtain ⟨b1, o1, v1, x1, rfl, g1, -, ⟨A1, n1, c1, rfl, r1⟩, q1⟩ := (HR.out.ext hx.out).at_ hlt
      have e10 := q1 0 _ rfl
      have e11 := q1 1 _ rfl
      simp only [Elem.ent, Nat.add_zero] at e10 e11
      have R1 := hid r1
      have hn1 : n1 ≤ 9223372036854775807 := by have := r1.cap; have := r1.most; simp only [maxLen] at this; omega
      clear q1 g1 r1
      go_wp2
      obtain ⟨wo, hwo⟩ : ∃ x, x = wr := ⟨_, rfl⟩
      subst hwo
      go_loopw [3, 28] (fun z i wr => ∃ (k : Nat) (y : Int), k ≤ n1 ∧ i = .int .i64 k ∧ z = .int .i64 y ∧ wr = wo) (fun _ i _ => n1 - (intOf i).toNat)
      case atStart => exact ⟨0, _, by omega, rfl, rfl, rfl⟩
      case round =>
        obtain ⟨k, y2, hk, rfl, rfl, rfl⟩ := hrel
        by_cases hlt2 : k < n1
        · obtain ⟨b2, o2, v2, x2, rfl, g2, -, ⟨A2, n2, c2, rfl, r2⟩, q2⟩ := R1.out.at_ hlt2
          have e20 := q2 0 _ rfl
          have e21 := q2 1 _ rfl
          simp only [Elem.att, Nat.add_zero] at e20 e21
          have R2 := hid r2
          have hn2 : n2 ≤ 9223372036854775807 := by have := r2.cap; have := r2.most; simp only [maxLen] at this; omega
          clear q2 g2 r2
          go_wp2
          obtain ⟨wp, hwp⟩ : ∃ x, x = wr := ⟨_, rfl⟩
          subst hwp
          go_loopw [3, 54] (fun z i wr => ∃ (p : Nat) (y : Int), p ≤ n2 ∧ i = .int .i64 p ∧ z = .int .i64 y ∧ wr = wp) (fun _ i _ => n2 - (intOf i).toNat)
          case atStart => exact ⟨0, _, by omega, rfl, rfl, rfl⟩
          case round =>
            obtain ⟨p, y3, hp, rfl, rfl, rfl⟩ := hrel
            by_cases hlt3 : p < n2
            · obtain ⟨b3, o3, rfl, c3⟩ := R2.out.str_cell (by omega)
              have e30 := c3 p hlt3
              clear c3
              generalize x2.vals[p]?.getD ByteArray.empty = s3 at *
              go_wp2
              exact ⟨⟨p + 1, _, by omega, by go_num, rfl, by first | rfl | trivial⟩, by simp [intOf]; omega⟩
            · obtain rfl : p = n2 := by omega
              go_wp2
              exact ⟨⟨k + 1, _, by omega, by go_num, rfl, by first | rfl | trivial⟩, by simp [intOf]; omega⟩
        · obtain rfl : k = n1 := by omega
          go_wp2
          all_goals first
            | (go_ret; exact BoolSays.of rfl (hx.out))
            | exact ⟨⟨j + 1, _, by omega, by go_num, rfl, hx⟩, by simp [intOf]; omega⟩
    · obtain rfl : j = n := by omega
      go_wp2
      go_ret
      exact BoolSays.of rfl (hx.out)
end Go.Proofs.YtencmdpjiafnaaaGreatDoor
/- The reference's empty tree: At, Get, parent, name, Delete, Modify, Rename; Sorted at one entry. -/
namespace Go.Proofs.YtencmdpjiafnaaaGreatDoor
open Go.RowKit
set_option maxRecDepth 100000
set_option linter.unusedSimpArgs false
set_option linter.unusedVariables false

/-- An int, some one. -/
def IntSays' (w : World) (e : Ending) (w' : World) : Prop := ∃ k : Int, e = .returned (.int .i64 k) ∧ Ext w w'
theorem IntSays'.of {w w' : World} {e : Ending} {k : Int} (h : e = .returned (.int .i64 k)) (hx : Ext w w') : IntSays' w e w' := ⟨k, h, hx⟩
theorem at_nil (s : ByteArray) (w : World) (hG : Gl w) : Calls Tryz.prog 30 #[.slice none 0 0, .string s] w fun e w' => e = .returned (.int .i64 (-1)) ∧ Ext w w' := by
  have HN := rnormal06_any s w hG
  unfold NormalSays at HN
  clear hG
  generalize str (normalS (bys s)) = q at *
  generalize codeR (partsB (bys s)) = cd at *
  go_enter Tryz.func30, Tryz.ntmps30
  go_wp2_with (go_at_call 42; (with_reducible refine HN.mono ?_); rintro e w1 ⟨rfl, hx1⟩; have HX1 := hid hx1; clear hx1)
  go_loopw [15] (fun i wr => i = .int .i64 0 ∧ wr = w1) (fun _ _ => 0)
  case atStart => exact ⟨rfl, rfl⟩
  case round =>
    obtain ⟨rfl, rfl⟩ := hrel
    go_wp2
    go_ret
    exact ⟨rfl, HX1.out⟩
set_option maxHeartbeats 1000000 in
theorem get_nil (s : ByteArray) (g : Nat) (w : World) (hG : Gl w) (h : w.cell? ⟨g, 0, none⟩ = some (.slice none 0 0)) :
    Calls Tryz.prog 14 #[.pointer (some ⟨g, 0, none⟩), .string s] w fun e w' => e = .returned (.tuple #[.agg #[.string ⟨#[]⟩, .slice none 0 0], .bool false]) ∧ Ext w w' := by
  have HA : ∀ w, Gl w → Calls Tryz.prog 30 #[.slice none 0 0, .string s] w fun e w' => e = .returned (.int .i64 (-1)) ∧ Ext w w' := fun w hG => at_nil s w hG
  have HG := hid hG
  have HB0 := hid (Bx.make (Ext.refl w) #[.string ⟨#[]⟩, .slice none 0 0] 38)
  have c0 := cell_later h _ (Ext.alloc w (.cells #[.string ⟨#[]⟩, .slice none 0 0] 38))
  clear hG h
  go_enter Tryz.func14, Tryz.ntmps14
  go_wp2_with (go_at_call 30; (with_reducible refine (HA _ (HG.out.ext (Ext.alloc _ _))).mono ?_); rintro e w1 ⟨rfl, hx1⟩; have HB1 := hid (HB0.out.later hx1); have r0 := HB1.out.cell (i := 0) rfl; have r1 := HB1.out.cell (i := 1) rfl; have f0 := HB1.out.frozen 0; have f1 := HB1.out.frozen 1; clear hx1)
  (try simp only [Exit.inBlock, Exit.then])
  refine ret_cell_tmp _ rfl rfl ((HB1.out.set0 (.string ⟨#[]⟩)).set1 (.slice none 0 0)) Tryz.underlying38 rfl (by kernel_rfl) rfl ?_
  exact ⟨rfl, ((HB1.out.set0 (.string ⟨#[]⟩)).set1 (.slice none 0 0)).ext⟩
set_option maxHeartbeats 1000000 in
theorem parent_nil (s : ByteArray) (g : Nat) (w : World) (hG : Gl w) (h : w.cell? ⟨g, 0, none⟩ = some (.slice none 0 0)) :
    Calls Tryz.prog 76 #[.pointer (some ⟨g, 0, none⟩), .string s] w (IntSays' w) := by
  have HGT := get_nil s g w hG h
  clear hG h
  by_cases hz : s.size = 0
  · have s2 := emp_yes hz
    clear hz
    go_enter Tryz.func76, Tryz.ntmps76
    go_wp2
    go_ret
    exact IntSays'.of rfl (Ext.refl _)
  · have s2 := emp_nb hz
    clear hz
    go_enter Tryz.func76, Tryz.ntmps76
    go_wp2_with (go_at_call 14; (with_reducible refine HGT.mono ?_); rintro e w1 ⟨rfl, hx1⟩; have HX1 := hid hx1; clear hx1)
    go_ret
    exact IntSays'.of rfl (HX1.out.trans (Ext.alloc _ _))
def RNameSays (w : World) (e : Ending) (w' : World) : Prop := ∃ (q : ByteArray) (b : Bool), e = .returned (.tuple #[.string q, .bool b]) ∧ Ext w w'
theorem RNameSays.of {w w' : World} {e : Ending} {q : ByteArray} {b : Bool} (h : e = .returned (.tuple #[.string q, .bool b])) (hx : Ext w w') : RNameSays w e w' := ⟨q, b, h, hx⟩
theorem rname_any (s : ByteArray) (w : World) (hG : Gl w) : Calls Tryz.prog 78 #[.string s] w (RNameSays w) := by
  have HN := rnormal06_any s w hG
  unfold NormalSays at HN
  clear hG
  generalize str (normalS (bys s)) = q at *
  generalize codeR (partsB (bys s)) = cd at *
  go_enter Tryz.func78, Tryz.ntmps78
  go_wp2_with (go_at_call 42; (with_reducible refine HN.mono ?_); rintro e w1 ⟨rfl, hx1⟩; have HX1 := hid hx1; clear hx1)
  all_goals
    go_ret2
    exact RNameSays.of rfl HX1.out
set_option maxHeartbeats 1000000 in
theorem rdelete_nil (s : ByteArray)  (g : Nat) (w : World) (hG : Gl w) (h : w.cell? ⟨g, 0, none⟩ = some (.slice none 0 0)) :
    Calls Tryz.prog 45 #[.pointer (some ⟨g, 0, none⟩), .string s] w (IntSays' w) := by
  have HN : ∀ w, Gl w → Calls Tryz.prog 78 #[.string s] w (RNameSays w) := fun w hG => rname_any s w hG
  unfold RNameSays at HN
  have HA : ∀ q w, Gl w → Calls Tryz.prog 30 #[.slice none 0 0, .string q] w fun e w' => e = .returned (.int .i64 (-1)) ∧ Ext w w' := fun q w hG => at_nil q w hG
  have HG := hid hG
  have HC := hid h
  clear hG h
  go_enter Tryz.func45, Tryz.ntmps45
  go_wp2_with (first
    | (go_at_call 78; (with_reducible refine (HN _ HG.out).mono ?_); rintro e w1 ⟨q, b, rfl, hx1⟩; have HX1 := hid hx1; have c0 := cell_later HC.out _ hx1; clear hx1; cases b)
    | (go_at_call 30; (with_reducible refine (HA _ _ (HG.out.ext HX1.out)).mono ?_); rintro e w2 ⟨rfl, hx2⟩; have HX2 := hid (HX1.out.trans hx2); clear hx2))
  all_goals
    go_ret
    exact IntSays'.of rfl HX2.out
set_option maxHeartbeats 1000000 in
theorem rmodify_nil (s : ByteArray) (A : Option Addr) (n c : Nat) (g : Nat) (w : World) (hG : Gl w) (h : w.cell? ⟨g, 0, none⟩ = some (.slice none 0 0)) :
    Calls Tryz.prog 47 #[.pointer (some ⟨g, 0, none⟩), .string s, .slice A n c] w (IntSays' w) := by
  have HN : ∀ w, Gl w → Calls Tryz.prog 78 #[.string s] w (RNameSays w) := fun w hG => rname_any s w hG
  unfold RNameSays at HN
  have HA : ∀ q w, Gl w → Calls Tryz.prog 30 #[.slice none 0 0, .string q] w fun e w' => e = .returned (.int .i64 (-1)) ∧ Ext w w' := fun q w hG => at_nil q w hG
  have HG := hid hG
  have HC := hid h
  clear hG h
  go_enter Tryz.func47, Tryz.ntmps47
  go_wp2_with (first
    | (go_at_call 78; (with_reducible refine (HN _ HG.out).mono ?_); rintro e w1 ⟨q, b, rfl, hx1⟩; have HX1 := hid hx1; have c0 := cell_later HC.out _ hx1; clear hx1; cases b)
    | (go_at_call 30; (with_reducible refine (HA _ _ (HG.out.ext HX1.out)).mono ?_); rintro e w2 ⟨rfl, hx2⟩; have HX2 := hid (HX1.out.trans hx2); clear hx2))
  all_goals
    go_ret
    exact IntSays'.of rfl HX2.out
set_option maxHeartbeats 1000000 in
theorem rrename_nil (s p : ByteArray) (b0 : Bool) (u : ByteArray) (x : Bool) (g : Nat) (w : World) (hG : Gl w) (h : w.cell? ⟨g, 0, none⟩ = some (.slice none 0 0)) (hp : p.size ≤ 1000000) :
    Calls Tryz.prog 49 #[.pointer (some ⟨g, 0, none⟩), .string s, .string p, .bool b0, .string u, .bool x] w (IntSays' w) := by
  have HN : ∀ w, Gl w → Calls Tryz.prog 78 #[.string s] w (RNameSays w) := fun w hG => rname_any s w hG
  unfold RNameSays at HN
  have HA : ∀ q w, Gl w → Calls Tryz.prog 30 #[.slice none 0 0, .string q] w fun e w' => e = .returned (.int .i64 (-1)) ∧ Ext w w' := fun q w hG => at_nil q w hG
  have HM : ∀ w, Gl w → Calls Tryz.prog 42 #[.string u] w (NormalSays w (bys u)) := fun w hG => rnormal06_any u w hG
  unfold NormalSays at HM
  have HP : ∀ w, Gl w → Calls Tryz.prog 86 #[.string p] w (PartSays w (bys p)) := fun w hG => parsepart_any p w hG hp
  unfold PartSays at HP
  clear hp
  generalize str (normalS (bys u)) = nq at *
  generalize codeR (partsB (bys u)) = cd at *
  have HG := hid hG
  have HC := hid h
  clear hG h
  go_enter Tryz.func49, Tryz.ntmps49
  cases x
  all_goals
    go_wp2_with (first
      | (go_at_call 78; (with_reducible refine (HN _ HG.out).mono ?_); rintro e w1 ⟨q, b, rfl, hx1⟩; have HX1 := hid hx1; clear hx1; cases b)
      | (go_at_call 86; (with_reducible refine (HP _ (HG.out.ext HX1.out)).mono ?_); rintro e w2 ⟨A2, n2, c2, rfl, -, hx2⟩; have HX2 := hid (HX1.out.trans hx2); clear hx2)
      | (go_at_call 42; (with_reducible refine (HM _ (HG.out.ext HX2.out)).mono ?_); rintro e w3 ⟨rfl, hx3⟩; have HX3 := hid (HX2.out.trans hx3); have c0 := cell_later HC.out _ HX3.out; clear hx3)
      | (go_at_call 30; (with_reducible refine (HA _ _ (HG.out.ext HX3.out)).mono ?_); rintro e w4 ⟨rfl, hx4⟩; have HX4 := hid (HX3.out.trans hx4); clear hx4))
    all_goals
      go_ret
      first
        | exact IntSays'.of rfl HX4.out
        | exact IntSays'.of rfl HX3.out
        | exact IntSays'.of rfl HX1.out
end Go.Proofs.YtencmdpjiafnaaaGreatDoor
/- The walks of vergerref09's named, many, set. -/
namespace Go.Proofs.YtencmdpjiafnaaaGreatDoor
open Go.RowKit
set_option maxRecDepth 100000
set_option linter.unusedSimpArgs false
set_option linter.unusedVariables false

/-- Has an entry values alike its name's first part's pairs? -/
def namedZ (nm : List UInt8) (l : List Att) : Bool := match parseS nm with | .ok (p :: _) => p.all fun a => hasZ a.type a.val (valsE a.type l) | _ => false
theorem all_take {α : Type} {p : α → Bool} {l : List α} {j : Nat} {x : α} (h : (l.take j).all p = true) (hx : l[j]? = some x) (hp : p x = true) : (l.take (j + 1)).all p = true := by
  rw [List.take_add_one, hx]
  simp only [Option.toList, List.all_append, h, List.all_cons, hp, List.all_nil, Bool.and_self]
theorem all_not {α : Type} {p : α → Bool} {l : List α} {j : Nat} {x : α} (hx : l[j]? = some x) (hp : p x = false) : l.all p = false := by
  rw [Bool.eq_false_iff]
  intro h
  have := List.all_eq_true.1 h x (List.mem_of_getElem? hx)
  rw [hp] at this
  cases this
set_option maxHeartbeats 4000000 in
theorem rnamed_any {S : Nat → Prop} {A : Option Addr} {n c : Nat} {l : List Att} {w : World} (h : Row Elem.att S w A n c l) (nm : ByteArray) (hG : Gl w) (hv : ∀ a ∈ l, a.vals.length ≤ 8796093022208) :
    Calls Tryz.prog 65 #[.agg #[.string nm, .slice A n c]] w fun e w' => e = .returned (.bool (namedZ (bys nm) l)) ∧ Ext w w' := by
  have HG := hid hG
  have HPR : ∀ w, Gl w → Calls Tryz.prog 113 #[.string nm] w (RDnSays w (bys nm)) := fun w hG => rdnsparse_any nm w hG
  unfold RDnSays at HPR
  have HPF : Hid (∀ p, parseS (bys nm) = .ok p → ∀ q ∈ p, formedA q = true) := fun p hp => parse_formed hp
  have HD : Hid (namedZ (bys nm) l = match parseS (bys nm) with | .ok (p :: _) => p.all fun a => hasZ a.type a.val (valsE a.type l) | _ => false) := rfl
  have HH : ∀ (x : Ava) w', x.type.length ≤ 17 → Ext w w' → Calls Tryz.prog 68 #[.agg #[.string nm, .slice A n c], .string (str x.type), .string (str x.val)] w' fun e w'' => e = .returned (.bool (hasZ x.type x.val (valsE x.type l))) ∧ Ext w' w'' := fun x w' hx hxx => by
    have := rhas_any (h.ext hxx) (str x.type) nm (str x.val) (hG.ext hxx) (by rw [str_size]; omega) hv
    rwa [bys_str, bys_str] at this
  have HB0 := hid (Bx.make (Ext.refl w) #[.string nm, .slice A n c] 38)
  clear h hG hv
  generalize namedZ (bys nm) l = r at *
  cases hp : parseS (bys nm) with
  | error er =>
    rw [hp] at HD HPR
    have hne : (codeR (α := List (List Ava)) (.error er) != 0) = true := by cases er <;> rfl
    simp only at HD
    generalize codeR (α := List (List Ava)) (.error er) = cd at *
    clear hp HPF
    go_enter Tryz.func65, Tryz.ntmps65
    go_wp2_with (go_at_call 113; (with_reducible refine (HPR _ (HG.out.ext (Ext.alloc _ _))).mono ?_); rintro e w1 ⟨A1, n1, c1, rfl, -, hx1⟩; have HX1 := hid (HB0.out.ext.trans hx1); clear hx1)
    go_ret
    exact ⟨by rw [HD.out]; rfl, HX1.out⟩
  | ok p =>
    rw [hp] at HD HPR
    have HFM := hid (HPF.out p hp)
    simp only [okL, codeR] at HPR
    clear hp HPF
    cases p with
    | nil =>
      simp only at HD
      go_enter Tryz.func65, Tryz.ntmps65
      go_wp2_with (go_at_call 113; (with_reducible refine (HPR _ (HG.out.ext (Ext.alloc _ _))).mono ?_); rintro e w1 ⟨A1, n1, c1, rfl, hr1, hx1⟩; have HX1 := hid (HB0.out.ext.trans hx1); obtain rfl : n1 = 0 := hr1.len; clear hx1 hr1)
      go_ret
      exact ⟨by rw [HD.out]; rfl, HX1.out⟩
    | cons q rest =>
      simp only at HD
      have HTY := hid (formed_types (HFM.out q (by simp)))
      clear HFM
      generalize hP : (fun a : Ava => hasZ a.type a.val (valsE a.type l)) = P at *
      have HH2 : ∀ (x : Ava) w', x.type.length ≤ 17 → Ext w w' → Calls Tryz.prog 68 #[.agg #[.string nm, .slice A n c], .string (str x.type), .string (str x.val)] w' fun e w'' => e = .returned (.bool (P x)) ∧ Ext w' w'' := fun x w' hx hxx => by rw [← hP]; exact HH x w' hx hxx
      clear HH hP
      go_enter Tryz.func65, Tryz.ntmps65
      go_wp2_with (go_at_call 113; (with_reducible refine (HPR _ (HG.out.ext (Ext.alloc _ _))).mono ?_); rintro e w1 ⟨A1, n1, c1, rfl, hr1, hx1⟩; have HB1 := hid (HB0.out.later hx1); have hl1 : n1 = rest.length + 1 := hr1.len; have tl1 : ((n1 : Int) == 0) = false := (by rw [beq_eq_false_iff_ne]; omega); have tl2 : (0 : Int) < (n1 : Int) := (by omega); have tl3 : 0 < n1 := (by omega); obtain ⟨b1, o1, v1, x1, rfl, g1, -, ⟨A2, n2, c2, rfl, hr2⟩, q1⟩ := hr1.at_ (i := 0) (by omega); obtain rfl : x1 = q := (by simpa using g1.symm); have e1 := q1 0 _ rfl; simp only [Elem.part, Elem.slc, Nat.zero_mul, Nat.add_zero] at e1; have E1 := hid e1; have HR2 := hid hr2; have hn2 : n2 ≤ 9223372036854775807 := (by have := hr2.cap; have := hr2.most; simp only [maxLen] at this; omega); clear hx1 hr1 hl1 g1 q1 hr2)
      clear e1
      go_loopw [23] (fun i wr => ∃ j : Nat, j ≤ n2 ∧ i = .int .i64 j ∧ Hid ((x1.take j).all P = true) ∧ Hid (Ext w1 wr)) (fun i _ => n2 - (intOf i).toNat)
      case atStart => exact ⟨0, by omega, rfl, by simp [Hid], Ext.refl _⟩
      case round =>
        obtain ⟨j, hj, rfl, Htk, hx⟩ := hrel
        by_cases hlt : j < n2
        · obtain ⟨b2, o2, x, rfl, hx2, e2, e3⟩ := ava_at (HR2.out.ext hx.out) hlt
          have Hg := hid hx2
          have HTX := hid (HTY.out x (List.mem_of_getElem? hx2))
          obtain ⟨px, hpx⟩ : ∃ b, b = P x := ⟨_, rfl⟩
          have HHX : ∀ w', x.type.length ≤ 17 → Ext w w' → Calls Tryz.prog 68 #[.agg #[.string nm, .slice A n c], .string (str x.type), .string (str x.val)] w' fun e w'' => e = .returned (.bool px) ∧ Ext w' w'' := fun w' a b => by rw [hpx]; exact HH2 x w' a b
          have HPX := hid hpx
          clear hx2 HH2 hpx
          have tj : (j : Int) < (n2 : Int) := by omega
          cases px
          all_goals
            go_wp2
            refine wp_region_plan (.read 0 (.read 1 (.read 2 (.read 3 (.read 4 (.read 5 (.read 6 (.read 7 (.read 8 (.read 9 (.read 10 (.read 11 (.read 12 (.read 13 (.read 14 (.main 15 (.read 16 .done))))))))))))))))) (by kernel_rfl) (by kernel_rfl) ?_
            intro wD hxD
            have XE : Hid (Ext wD wD) := Ext.refl _
            have HBD := hid (HB1.out.later (hx.out.trans hxD))
            have c0 := cell_later (cell_later E1.out _ (hx.out.trans hxD))
            have c2' := cell_later (cell_later e2 _ hxD)
            have c3' := cell_later (cell_later e3 _ hxD)
            repeat' (first
              | (refine walks_move rfl rfl ?_; simp only [Act.put, Act.eval, List.setIfInBounds_toArray, List.set_cons_zero, List.set_cons_succ, Array.getD_eq_getD_getElem?, List.getElem?_toArray, List.getElem?_cons_zero, List.getElem?_cons_succ, Option.getD_some])
              | (refine walks_assign rfl rfl ?_; simp only [Act.put, Act.eval, List.setIfInBounds_toArray, List.set_cons_zero, List.set_cons_succ, Array.getD_eq_getD_getElem?, List.getElem?_toArray, List.getElem?_cons_zero, List.getElem?_cons_succ, Option.getD_some])
              | (refine walks_skip rfl rfl ?_; simp only [Act.put, List.setIfInBounds_toArray, List.set_cons_zero, List.set_cons_succ])
              | (refine walks_read (v := .agg #[.string nm, .slice A n c]) rfl rfl (fun w' hE => run_load_row 38 (.tmp 1) rfl _ rfl _ _ _ ((HBD.out.later (XE.out.trans hE)).blk) Tryz.underlying38 rfl (by kernel_rfl)) ?_; simp only [Act.put, List.setIfInBounds_toArray, List.set_cons_zero, List.set_cons_succ])
              | (refine walks_unwanted rfl rfl ?_; simp only [Act.put, List.setIfInBounds_toArray, List.set_cons_zero, List.set_cons_succ])
              | (refine walks_read (v := ?_) rfl rfl (fun w' hE => ?_) ?_; rotate_left 1; (· ((try (have hEx := Ext.trans (Hid.out XE) hE)); go_simp; (try go_bits); with_reducible rfl)); simp only [Act.put, List.setIfInBounds_toArray, List.set_cons_zero, List.set_cons_succ])
              | (refine walks_alt ?_ ?_)
              | (refine walks_main rfl rfl (fun K hK => ?_); go_wp2_with ((go_at_call 68; (with_reducible refine (HHX _ HTX.out (HBD.out.ext.trans XE.out)).mono ?_); rintro e w5 ⟨rfl, hx5⟩; have XE' := hid (Ext.trans (Hid.out XE) hx5); clear XE; have XE := XE'; clear XE')); refine hK _ _ (by first | assumption | exact Ext.alloc _ _ | exact Ext.refl _) ?_; clear hK K; try simp only [Act.put, List.setIfInBounds_toArray, List.set_cons_zero, List.set_cons_succ]))
            refine walks_done ?_
            have HXZ := hid (hx.out.trans (hxD.trans XE.out))
            go_wp2
            first
              | (go_ret; exact ⟨by rw [HD.out, all_not Hg.out HPX.out.symm]; rfl, HB1.out.ext.trans HXZ.out⟩)
              | exact ⟨⟨j + 1, by omega, by go_num, all_take Htk.out Hg.out HPX.out.symm, HXZ.out⟩, by simp [intOf]; omega⟩
        · obtain rfl : j = n2 := by omega
          have h9 := Htk.out
          rw [List.take_of_length_le (Nat.le_of_eq HR2.out.len.symm)] at h9
          have HF : Hid (r = true) := by show _ = _; rw [HD.out, h9]
          clear h9
          go_wp2
          go_ret
          exact ⟨by rw [HF.out]; rfl, HB1.out.ext.trans hx.out⟩
set_option maxHeartbeats 2000000 in
theorem rmany_any {S : Nat → Prop} {A : Option Addr} {n c : Nat} {l : List Att} {w : World} (h : Row Elem.att S w A n c l) (nm : ByteArray) :
    Calls Tryz.prog 131 #[.agg #[.string nm, .slice A n c]] w (BoolSays w) := by
  have HR := hid h
  have hn : n ≤ 9223372036854775807 := by have := h.cap; have := h.most; simp only [maxLen] at this; omega
  have HB0 := hid (Bx.make (Ext.refl w) #[.string nm, .slice A n c] 38)
  clear h
  go_enter Tryz.func131, Tryz.ntmps131
  go_wp2
  go_loopw [7] (fun i wr => ∃ j : Nat, j ≤ n ∧ i = .int .i64 j ∧ Hid (Bx w wr w.heap.size 38 #[.string nm, .slice A n c])) (fun i _ => n - (intOf i).toNat)
  case atStart => exact ⟨0, by omega, rfl, HB0.out⟩
  case round =>
    obtain ⟨j, hj, rfl, HB⟩ := hrel
    have p1 := HB.out.cell (i := 1) rfl
    by_cases hlt : j < n
    · obtain ⟨b1, o1, v1, x1, rfl, g1, -, ⟨A1, n1, c1, rfl, r1⟩, q1⟩ := (HR.out.ext HB.out.ext).at_ hlt
      have e10 := q1 0 _ rfl
      have e11 := q1 1 _ rfl
      simp only [Elem.att, Nat.add_zero] at e10 e11
      have tn : (20 : Int) < (n1 : Int) ∨ ¬ (20 : Int) < (n1 : Int) := Decidable.em _
      clear q1 g1 r1
      rcases tn with tn | tn
      all_goals
        go_wp2
        first
          | (go_ret; exact BoolSays.of rfl HB.out.ext)
          | exact ⟨⟨j + 1, by omega, by go_num, HB⟩, by simp [intOf]; omega⟩
    · obtain rfl : j = n := by omega
      go_wp2
      go_ret
      exact BoolSays.of rfl HB.out.ext
end Go.Proofs.YtencmdpjiafnaaaGreatDoor
