import Derived.Test.YtencmdpjiafnaaaGreatDoorZ44
import Derived.Test.YtencmdpjiafnaaaGreatDoorZ47
/- The walk of TreeNil. -/
namespace Go.Proofs.YtencmdpjiafnaaaGreatDoor
open Go.RowKit
set_option maxRecDepth 100000
set_option linter.unusedSimpArgs false
set_option linter.unusedVariables false

theorem Bx.grown2 {w w4 w5 : World} {g : Nat} {T : TypeId} {cs : Array Value} {k : Nat} (h : Bx w w4 g T cs) (hg : w4.grownBy w5 (some k)) (h1 : g < k) (h2 : w.heap.size ≤ k) : Bx w w5 g T cs :=
  h.grown hg (fun e => by injection e with e; omega) (Below.grown (Below.refl _ _) hg h.ext.size (fun j hj => by injection hj with hj; omega))
set_option maxHeartbeats 8000000 in
theorem treenil_any {A B : Option Addr} {n c m d : Nat} {o : Opr} {w : World} (ha : Row Elem.att (fun _ => True) w A n c o.atts) (hc : Row Elem.chg (fun _ => True) w B m d o.chgs) (hk : OprOk o) (hG : Gl w) :
    Calls Tryz.prog 5 #[.agg #[.int .i64 o.kind, .string o.name, .string o.part, .string o.sup, .bool o.flag, .bool o.has, .slice A n c, .slice B m d]] w fun e w' => e = .returned (.bool true) ∧ Ext w w' := by
  have HG := hid hG
  have HAW : ∀ w', Ext w w' → Calls Tryz.prog 6 #[] w' fun e w'' => e = .returned (.bool true) ∧ Ext w' w'' := fun w' hx => awake10_any w' (hG.ext hx)
  have HB0 := hid (Bx.make (Ext.refl w) #[.int .i64 o.kind, .string o.name, .string o.part, .string o.sup, .bool o.flag, .bool o.has, .slice A n c, .slice B m d] 48)
  have HFW : ∀ w1, Ext w w1 → Calls Tryz.prog 19 #[.slice (some ⟨w1.heap.size, 0, none⟩) 1 1] (w1.alloc (.cells #[.int .i64 o.kind, .string o.name, .string o.part, .string o.sup, .bool o.flag, .bool o.has, .slice A n c, .slice B m d] 48)) fun e w' =>
      ∃ b : Bool, e = .returned (.bool b) ∧ (b = true → o.part.size ≤ 3000) ∧ Ext (w1.alloc (.cells #[.int .i64 o.kind, .string o.name, .string o.part, .string o.sup, .bool o.flag, .bool o.has, .slice A n c, .slice B m d] 48)) w' := fun w1 hx => by
    have := few10_any (Row.one (E := Elem.opr) (S := fun _ => True) (v := [.int .i64 o.kind, .string o.name, .string o.part, .string o.sup, .bool o.flag, .bool o.has, .slice A n c, .slice B m d]) (x := o) ⟨A, n, c, B, m, d, rfl, ha.ext hx, hc.ext hx⟩ 48) (by have := hk.chgs.1; omega) (by have := hk.part; omega) (by have := hk.sup; omega)
    unfold FewSays at this
    exact this
  have HSN : ∀ w3, Ext w w3 → o.part.size ≤ 3000 → Calls Tryz.prog 20 #[.pointer none, .pointer (some ⟨w3.heap.size, 0, none⟩), .agg #[.int .i64 o.kind, .string o.name, .string o.part, .string o.sup, .bool o.flag, .bool o.has, .slice A n c, .slice B m d]] (w3.alloc (.cells #[.slice none 0 0] 54)) fun e w' =>
      ∃ k : Int, e = .returned (.tuple #[.int .i64 (wantK o.kind), .int .i64 k]) ∧ (w3.alloc (.cells #[.slice none 0 0] 54)).grownBy w' (some w3.heap.size) := fun w3 hx hp => by
    have hx4 := hx.trans (Ext.alloc w3 (.cells #[.slice none 0 0] 54))
    have := step_nil (ha.ext hx4) (hc.ext hx4) hk hp w3.heap.size (hG.ext hx4) (heap_alloc_new w3 _)
    unfold StepSays at this
    exact this
  clear ha hc hk hG
  by_cases h1 : o.kind < 1
  · have HK : Hid (wantK o.kind = 0) := by show _ = _; unfold wantK; rw [if_pos (.inl h1)]
    rw [HK.out] at HSN
    have t1 : decide (o.kind < 1) = true := decide_eq_true h1
    clear HK
    go_enter Tryz.func5, Tryz.ntmps5
    go_wp2_with (first
      | (go_at_call 6; first
          | (with_reducible refine (HAW _ HB3.out.ext).mono ?_; rintro e w9 ⟨rfl, hx9⟩; have HX9 := hid (HB3.out.ext.trans hx9); clear hx9)
          | (with_reducible refine (HAW _ HB0.out.ext).mono ?_; rintro e w1 ⟨rfl, hx1⟩; have HB1 := hid (HB0.out.later hx1); have b0 := HB1.out.cell (i := 0) rfl; have b1 := HB1.out.cell (i := 1) rfl; have b2 := HB1.out.cell (i := 2) rfl; have b3 := HB1.out.cell (i := 3) rfl; have b4 := HB1.out.cell (i := 4) rfl; have b5 := HB1.out.cell (i := 5) rfl; have b6 := HB1.out.cell (i := 6) rfl; have b7 := HB1.out.cell (i := 7) rfl; clear hx1))
      | (go_at_call 19; with_reducible refine (HFW _ HB1.out.ext).mono ?_; rintro e w3 ⟨fb, rfl, hfb, hx3⟩; have HB2 := hid (HB1.out.later (Ext.alloc _ (.cells #[.int .i64 o.kind, .string o.name, .string o.part, .string o.sup, .bool o.flag, .bool o.has, .slice A n c, .slice B m d] 48))); have HB3 := hid (HB2.out.later hx3); have HFB := hid hfb; have HG3 := hid (HG.out.ext HB3.out.ext); have HB4 := hid (HB3.out.later (Ext.alloc w3 (.cells #[.slice none 0 0] 54))); have d0 := HB4.out.cell (i := 0) rfl; have d1 := HB4.out.cell (i := 1) rfl; have d2 := HB4.out.cell (i := 2) rfl; have d3 := HB4.out.cell (i := 3) rfl; have d4 := HB4.out.cell (i := 4) rfl; have d5 := HB4.out.cell (i := 5) rfl; have d6 := HB4.out.cell (i := 6) rfl; have d7 := HB4.out.cell (i := 7) rfl; clear hfb hx3; cases fb)
      | (go_at_call 20; with_reducible refine (HSN _ HB3.out.ext (by have h := HFB.out; simpa using h)).mono ?_; rintro e w5 ⟨k, rfl, hg5⟩; have HB5 := hid (HB4.out.grown2 hg5 (by have := HB3.out.lt; omega) (by have := ext_sz HB3.out.ext; omega)); have d1 := HB5.out.cell (i := 1) rfl; clear hg5 d0 d2 d3 d4 d5 d6 d7)
      | (go_at_call 13; with_reducible refine (nil_get o.name _ (HG.out.ext HB5.out.ext)).mono ?_; rintro e w6 ⟨rfl, hx6⟩; have HB6 := hid ((HB5.out.later hx6).later (Ext.alloc w6 (.cells #[.string ⟨#[]⟩, .slice none 0 0] 38))); have d0 := HB6.out.cell (i := 0) rfl; have d1 := HB6.out.cell (i := 1) rfl; clear hx6)
      | (go_at_call 21; with_reducible refine (nil_len _).mono ?_; rintro e w7 ⟨rfl, hx7⟩; have HB7 := hid (HB6.out.later hx7); clear hx7)
      | (go_at_call 22; with_reducible refine (nil_all _).mono ?_; rintro e w8 ⟨rfl, hx8⟩; have HB8 := hid (HB7.out.later hx8); have d1 := HB8.out.cell (i := 1) rfl; clear hx8)
      | (go_at_call 17; with_reducible refine (nil_children o.name _ (HG.out.ext HB8.out.ext)).mono ?_; rintro e w9 ⟨rfl, hx9⟩; have HB9 := hid (HB8.out.later hx9); clear hx9)
      | (go_at_call 11; with_reducible refine (nil_copy _).mono ?_; rintro e w10 ⟨rfl, hx10⟩; have HB10 := hid (HB9.out.later hx10); clear hx10))
    all_goals
      go_ret
      first
        | exact ⟨rfl, HX9.out⟩
        | exact ⟨rfl, HB10.out.ext⟩
  · have t1 : decide (o.kind < 1) = false := decide_eq_false h1
    by_cases h4 : 4 < o.kind
    · have HK : Hid (wantK o.kind = 0) := by show _ = _; unfold wantK; rw [if_pos (.inr h4)]
      rw [HK.out] at HSN
      have t4 : decide (4 < o.kind) = true := decide_eq_true h4
      clear HK
      go_enter Tryz.func5, Tryz.ntmps5
      go_wp2_with (first
        | (go_at_call 6; first
            | (with_reducible refine (HAW _ HB3.out.ext).mono ?_; rintro e w9 ⟨rfl, hx9⟩; have HX9 := hid (HB3.out.ext.trans hx9); clear hx9)
            | (with_reducible refine (HAW _ HB0.out.ext).mono ?_; rintro e w1 ⟨rfl, hx1⟩; have HB1 := hid (HB0.out.later hx1); have b0 := HB1.out.cell (i := 0) rfl; have b1 := HB1.out.cell (i := 1) rfl; have b2 := HB1.out.cell (i := 2) rfl; have b3 := HB1.out.cell (i := 3) rfl; have b4 := HB1.out.cell (i := 4) rfl; have b5 := HB1.out.cell (i := 5) rfl; have b6 := HB1.out.cell (i := 6) rfl; have b7 := HB1.out.cell (i := 7) rfl; clear hx1))
        | (go_at_call 19; with_reducible refine (HFW _ HB1.out.ext).mono ?_; rintro e w3 ⟨fb, rfl, hfb, hx3⟩; have HB2 := hid (HB1.out.later (Ext.alloc _ (.cells #[.int .i64 o.kind, .string o.name, .string o.part, .string o.sup, .bool o.flag, .bool o.has, .slice A n c, .slice B m d] 48))); have HB3 := hid (HB2.out.later hx3); have HFB := hid hfb; have HG3 := hid (HG.out.ext HB3.out.ext); have HB4 := hid (HB3.out.later (Ext.alloc w3 (.cells #[.slice none 0 0] 54))); have d0 := HB4.out.cell (i := 0) rfl; have d1 := HB4.out.cell (i := 1) rfl; have d2 := HB4.out.cell (i := 2) rfl; have d3 := HB4.out.cell (i := 3) rfl; have d4 := HB4.out.cell (i := 4) rfl; have d5 := HB4.out.cell (i := 5) rfl; have d6 := HB4.out.cell (i := 6) rfl; have d7 := HB4.out.cell (i := 7) rfl; clear hfb hx3; cases fb)
        | (go_at_call 20; with_reducible refine (HSN _ HB3.out.ext (by have h := HFB.out; simpa using h)).mono ?_; rintro e w5 ⟨k, rfl, hg5⟩; have HB5 := hid (HB4.out.grown2 hg5 (by have := HB3.out.lt; omega) (by have := ext_sz HB3.out.ext; omega)); have d1 := HB5.out.cell (i := 1) rfl; clear hg5 d0 d2 d3 d4 d5 d6 d7)
        | (go_at_call 13; with_reducible refine (nil_get o.name _ (HG.out.ext HB5.out.ext)).mono ?_; rintro e w6 ⟨rfl, hx6⟩; have HB6 := hid ((HB5.out.later hx6).later (Ext.alloc w6 (.cells #[.string ⟨#[]⟩, .slice none 0 0] 38))); have d0 := HB6.out.cell (i := 0) rfl; have d1 := HB6.out.cell (i := 1) rfl; clear hx6)
        | (go_at_call 21; with_reducible refine (nil_len _).mono ?_; rintro e w7 ⟨rfl, hx7⟩; have HB7 := hid (HB6.out.later hx7); clear hx7)
        | (go_at_call 22; with_reducible refine (nil_all _).mono ?_; rintro e w8 ⟨rfl, hx8⟩; have HB8 := hid (HB7.out.later hx8); have d1 := HB8.out.cell (i := 1) rfl; clear hx8)
        | (go_at_call 17; with_reducible refine (nil_children o.name _ (HG.out.ext HB8.out.ext)).mono ?_; rintro e w9 ⟨rfl, hx9⟩; have HB9 := hid (HB8.out.later hx9); clear hx9)
        | (go_at_call 11; with_reducible refine (nil_copy _).mono ?_; rintro e w10 ⟨rfl, hx10⟩; have HB10 := hid (HB9.out.later hx10); clear hx10))
      all_goals
        go_ret
        first
          | exact ⟨rfl, HX9.out⟩
          | exact ⟨rfl, HB10.out.ext⟩
    · have HK : Hid (wantK o.kind = 1) := by show _ = _; unfold wantK; rw [if_neg (by omega)]
      rw [HK.out] at HSN
      have t4 : decide (4 < o.kind) = false := decide_eq_false h4
      clear HK
      go_enter Tryz.func5, Tryz.ntmps5
      go_wp2_with (first
        | (go_at_call 6; first
            | (with_reducible refine (HAW _ HB3.out.ext).mono ?_; rintro e w9 ⟨rfl, hx9⟩; have HX9 := hid (HB3.out.ext.trans hx9); clear hx9)
            | (with_reducible refine (HAW _ HB0.out.ext).mono ?_; rintro e w1 ⟨rfl, hx1⟩; have HB1 := hid (HB0.out.later hx1); have b0 := HB1.out.cell (i := 0) rfl; have b1 := HB1.out.cell (i := 1) rfl; have b2 := HB1.out.cell (i := 2) rfl; have b3 := HB1.out.cell (i := 3) rfl; have b4 := HB1.out.cell (i := 4) rfl; have b5 := HB1.out.cell (i := 5) rfl; have b6 := HB1.out.cell (i := 6) rfl; have b7 := HB1.out.cell (i := 7) rfl; clear hx1))
        | (go_at_call 19; with_reducible refine (HFW _ HB1.out.ext).mono ?_; rintro e w3 ⟨fb, rfl, hfb, hx3⟩; have HB2 := hid (HB1.out.later (Ext.alloc _ (.cells #[.int .i64 o.kind, .string o.name, .string o.part, .string o.sup, .bool o.flag, .bool o.has, .slice A n c, .slice B m d] 48))); have HB3 := hid (HB2.out.later hx3); have HFB := hid hfb; have HG3 := hid (HG.out.ext HB3.out.ext); have HB4 := hid (HB3.out.later (Ext.alloc w3 (.cells #[.slice none 0 0] 54))); have d0 := HB4.out.cell (i := 0) rfl; have d1 := HB4.out.cell (i := 1) rfl; have d2 := HB4.out.cell (i := 2) rfl; have d3 := HB4.out.cell (i := 3) rfl; have d4 := HB4.out.cell (i := 4) rfl; have d5 := HB4.out.cell (i := 5) rfl; have d6 := HB4.out.cell (i := 6) rfl; have d7 := HB4.out.cell (i := 7) rfl; clear hfb hx3; cases fb)
        | (go_at_call 20; with_reducible refine (HSN _ HB3.out.ext (by have h := HFB.out; simpa using h)).mono ?_; rintro e w5 ⟨k, rfl, hg5⟩; have HB5 := hid (HB4.out.grown2 hg5 (by have := HB3.out.lt; omega) (by have := ext_sz HB3.out.ext; omega)); have d1 := HB5.out.cell (i := 1) rfl; clear hg5 d0 d2 d3 d4 d5 d6 d7)
        | (go_at_call 13; with_reducible refine (nil_get o.name _ (HG.out.ext HB5.out.ext)).mono ?_; rintro e w6 ⟨rfl, hx6⟩; have HB6 := hid ((HB5.out.later hx6).later (Ext.alloc w6 (.cells #[.string ⟨#[]⟩, .slice none 0 0] 38))); have d0 := HB6.out.cell (i := 0) rfl; have d1 := HB6.out.cell (i := 1) rfl; clear hx6)
        | (go_at_call 21; with_reducible refine (nil_len _).mono ?_; rintro e w7 ⟨rfl, hx7⟩; have HB7 := hid (HB6.out.later hx7); clear hx7)
        | (go_at_call 22; with_reducible refine (nil_all _).mono ?_; rintro e w8 ⟨rfl, hx8⟩; have HB8 := hid (HB7.out.later hx8); have d1 := HB8.out.cell (i := 1) rfl; clear hx8)
        | (go_at_call 17; with_reducible refine (nil_children o.name _ (HG.out.ext HB8.out.ext)).mono ?_; rintro e w9 ⟨rfl, hx9⟩; have HB9 := hid (HB8.out.later hx9); clear hx9)
        | (go_at_call 11; with_reducible refine (nil_copy _).mono ?_; rintro e w10 ⟨rfl, hx10⟩; have HB10 := hid (HB9.out.later hx10); clear hx10))
      all_goals
        go_ret
        first
          | exact ⟨rfl, HX9.out⟩
          | exact ⟨rfl, HB10.out.ext⟩
end Go.Proofs.YtencmdpjiafnaaaGreatDoor
