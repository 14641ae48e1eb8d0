import Derived.Test.YtencmdpjiafnaaaGreatDoorZ36
import Derived.Test.YtencmdpjiafnaaaGreatDoorZ38
import Derived.Test.YtencmdpjiafnaaaGreatDoorZ41
import Derived.Test.YtencmdpjiafnaaaGreatDoorZ06
/- The walks of entry's pairs, named, judge. -/
namespace Go.Proofs.YtencmdpjiafnaaaGreatDoor
open Go.RowKit
set_option maxRecDepth 100000
set_option linter.unusedSimpArgs false
set_option linter.unusedVariables false

/-- A name's first part's pairs. -/
def pairsS (nm : List UInt8) : List Ava := match okL (parseS nm) with | [] => [] | p :: _ => p
set_option maxHeartbeats 1000000 in
theorem pairs_any (nm : ByteArray) (w : World) (hG : Gl w) : Calls Tryz.prog 101 #[.string nm] w fun e w' => ∃ A n c, e = .returned (.slice A n c) ∧ Row Elem.ava (fun b => w.heap.size ≤ b) w' A n c (pairsS (bys nm)) ∧ Ext w w' := by
  have HP := dnparse_any nm w hG
  unfold DnSays at HP
  have HD : Hid (pairsS (bys nm) = match okL (parseS (bys nm)) with | [] => [] | p :: _ => p) := rfl
  generalize okL (parseS (bys nm)) = l at *
  generalize codeR (parseS (bys nm)) = cd at *
  generalize pairsS (bys nm) = q at *
  clear hG
  cases l with
  | nil =>
    simp only at HD
    go_enter Tryz.func101, Tryz.ntmps101
    go_wp2_with (go_at_call 104; (with_reducible refine HP.mono ?_); rintro e w1 ⟨A1, n1, c1, rfl, hr1, hx1⟩; have HX1 := hid hx1; obtain rfl : n1 = 0 := hr1.len; clear hr1 hx1)
    go_ret
    exact ⟨none, 0, 0, rfl, by rw [HD.out]; exact Row.nil _ _ _, HX1.out.trans (Ext.alloc _ _)⟩
  | cons p rest =>
    simp only at HD
    go_enter Tryz.func101, Tryz.ntmps101
    go_wp2_with (go_at_call 104; (with_reducible refine HP.mono ?_); rintro e w1 ⟨A1, n1, c1, rfl, hr1, hx1⟩; have HX1 := hid hx1; have hl1 : n1 = rest.length + 1 := hr1.len; have tl1 : ((n1 : Int) == 0) = false := (by rw [beq_eq_false_iff_ne]; omega); have tl3 : 0 < n1 := (by omega); obtain ⟨b1, o1, v1, x1, rfl, g1, -, ⟨A2, n2, c2, rfl, hr2⟩, q1⟩ := hr1.at_ (i := 0) (by omega); obtain rfl : x1 = p := (by simpa using g1.symm); have e1 := q1 0 _ rfl; simp only [Elem.part, Elem.slc, Nat.zero_mul, Nat.add_zero] at e1; have e2 := cell_later e1 _ (Ext.alloc w1 (.cells #[.slice (some ⟨b1, o1, none⟩) n1 c1] 134)); have HR2 := hid hr2; clear hx1 hr1 hl1 g1 q1 hr2)
    go_ret
    exact ⟨A2, n2, c2, rfl, by rw [HD.out]; exact HR2.out.ext (Ext.alloc _ _), HX1.out.trans (Ext.alloc _ _)⟩
/-- Has an entry values alike its name's first part's pairs (types that are no names and no planes)? -/
def namedE (nm : List UInt8) (l : List Att) : Bool := !(pairsS nm).any fun a => !hasE a.type a.val (valsE a.type l)
theorem pairs_ok (nm : List UInt8) : ∀ a ∈ pairsS nm, a.type.length ≤ 17 ∧ (typeB a.type).2 ≠ 4 ∧ (typeB a.type).2 ≠ 5 := by
  intro a ha
  unfold pairsS at ha
  cases hp : parseS nm with
  | error er => rw [hp] at ha; simp [okL] at ha
  | ok l =>
    rw [hp] at ha
    cases l with
    | nil => simp [okL] at ha
    | cons p rest =>
      simp only [okL] at ha
      have hf := parse_formed hp p (by simp)
      have h1 := formed_ok hf a ha
      refine ⟨formed_types hf a ha, ?_⟩
      unfold avaOk at h1
      simp only [Bool.and_eq_true, Bool.or_eq_true, decide_eq_true_eq] at h1
      omega
set_option maxHeartbeats 1000000 in
theorem named1_any {S : Nat → Prop} {A : Option Addr} {n c : Nat} {l : List Att} {w : World} (h : Row Elem.att S w A n c l) (x : Ava) (nm : ByteArray) (g : Nat) (hG : Gl w) (hx : x.type.length ≤ 17 ∧ (typeB x.type).2 ≠ 4 ∧ (typeB x.type).2 ≠ 5) (hv : ∀ a ∈ l, a.vals.length ≤ 8796093022208)
    (h0 : w.cell? ⟨g, 0, none⟩ = some (.string nm)) (h1 : w.cell? ⟨g, 1, none⟩ = some (.slice A n c)) :
    Calls Tryz.prog 102 #[avaV x, .pointer (some ⟨g, 0, none⟩)] w fun e w' => e = .returned (.bool (!hasE x.type x.val (valsE x.type l))) ∧ Ext w w' := by
  have HH : ∀ w', Ext w w' → Calls Tryz.prog 103 #[.agg #[.string nm, .slice A n c], .string (str x.type), .string (str x.val)] w' fun e w'' => e = .returned (.bool (hasE x.type x.val (valsE x.type l))) ∧ Ext w' w'' := fun w' hxx => by
    have := has_any (h.ext hxx) (str x.type) nm (str x.val) (hG.ext hxx) (by rw [str_size]; omega) (by rw [bys_str]; exact hx.2.1) (by rw [bys_str]; exact hx.2.2) hv
    rwa [bys_str, bys_str] at this
  have e0 := cell_later h0 _ (Ext.alloc w (.cells #[.string (str x.type), .string (str x.val)] 129))
  have e1 := cell_later h1 _ (Ext.alloc w (.cells #[.string (str x.type), .string (str x.val)] 129))
  clear h hG hx hv h0 h1
  generalize hasE x.type x.val (valsE x.type l) = r at *
  unfold avaV
  go_enter Tryz.func102, Tryz.ntmps102
  go_wp2_with (go_at_call 103; (with_reducible refine (HH _ (Ext.alloc _ _)).mono ?_); rintro e w1 ⟨rfl, hx1⟩; have HX1 := hid ((Ext.alloc _ _).trans hx1); clear hx1)
  go_ret
  exact ⟨by cases r <;> rfl, HX1.out⟩
set_option maxHeartbeats 1000000 in
theorem indexava_any {S T : Nat → Prop} {A B : Option Addr} {n c m d : Nat} {ps : List Ava} {l : List Att} {w : World} (h : Row Elem.ava S w A n c ps) (k : Row Elem.att T w B m d l) (nm : ByteArray) (g : Nat) (hG : Gl w) (hx : ∀ x ∈ ps, x.type.length ≤ 17 ∧ (typeB x.type).2 ≠ 4 ∧ (typeB x.type).2 ≠ 5) (hv : ∀ a ∈ l, a.vals.length ≤ 8796093022208)
    (h0 : w.cell? ⟨g, 0, none⟩ = some (.string nm)) (h1 : w.cell? ⟨g, 1, none⟩ = some (.slice B m d)) :
    Calls Tryz.prog 159 #[.slice A n c, .func (.func 102) #[] #[.pointer (some ⟨g, 0, none⟩)]] w fun e w' =>
      ∃ r : Int, e = .returned (.int .i64 r) ∧ decide (0 ≤ r) = ps.any (fun a => !hasE a.type a.val (valsE a.type l)) ∧ Ext w w' := by
  have HR := hid h
  have hl := hid h.len
  have hnl : n ≤ 9223372036854775807 := by have := h.cap; have := h.most; simp only [maxLen] at this; omega
  have HC : ∀ x w', x ∈ ps → Ext w w' → Calls Tryz.prog 102 #[avaV x, .pointer (some ⟨g, 0, none⟩)] w' fun e w'' => e = .returned (.bool (!hasE x.type x.val (valsE x.type l))) ∧ Ext w' w'' := fun x w' hxm hxx =>
    named1_any (k.ext hxx) x nm g (hG.ext hxx) (hx x hxm) hv (cell_later h0 _ hxx) (cell_later h1 _ hxx)
  clear h k hG hx hv h0 h1
  generalize hP : (fun a : Ava => !hasE a.type a.val (valsE a.type l)) = P at *
  have HC2 : ∀ x w', x ∈ ps → Ext w w' → Calls Tryz.prog 102 #[.agg #[.string (str x.type), .string (str x.val)], .pointer (some ⟨g, 0, none⟩)] w' fun e w'' => e = .returned (.bool (P x)) ∧ Ext w' w'' := fun x w' hxm hxx => by rw [← hP]; exact HC x w' hxm hxx
  clear hP HC
  go_enter Tryz.func159, Tryz.ntmps159
  go_wp2
  go_loopw [8] (fun i wr => ∃ j : Nat, j ≤ n ∧ i = .int .i64 j ∧ Hid ((ps.take j).any P = false) ∧ Hid (Ext w wr)) (fun i _ => n - (intOf i).toNat)
  case atStart => exact ⟨0, by omega, rfl, by simp [Hid], Ext.refl w⟩
  case round =>
    obtain ⟨j, hj, rfl, Htk, hx⟩ := hrel
    by_cases hlt : j < n
    · obtain ⟨b1, o1, x, rfl, hx1, e1, e2⟩ := ava_at (HR.out.ext hx.out) hlt
      have Hg := hid hx1
      have HCX := HC2 x
      have HMX := hid (List.mem_of_getElem? hx1)
      clear hx1 HC2
      obtain ⟨px, hpx⟩ : ∃ b, b = P x := ⟨_, rfl⟩
      rw [← hpx] at HCX
      have HPX := hid hpx
      clear hpx
      cases px
      all_goals
        go_wp2_with (go_at_call 102; (with_reducible refine (HCX _ HMX.out hx.out).mono ?_); rintro e w1 ⟨rfl, hx1⟩; have HX1 := hid hx1; clear hx1)
        first
          | exact ⟨⟨j + 1, by omega, by go_num, any_take' Htk.out Hg.out HPX.out.symm, hx.out.trans HX1.out⟩, by simp [intOf]; omega⟩
          | (go_ret; exact ⟨_, rfl, by rw [any_at' Hg.out HPX.out.symm]; exact decide_eq_true (by omega), hx.out.trans HX1.out⟩)
    · obtain rfl : j = n := by omega
      go_wp2
      go_ret
      have h9 := Htk.out
      rw [List.take_of_length_le (Nat.le_of_eq hl.out.symm)] at h9
      exact ⟨_, rfl, by rw [h9]; rfl, hx.out⟩
set_option maxHeartbeats 1000000 in
theorem containsava_any {S T : Nat → Prop} {A B : Option Addr} {n c m d : Nat} {ps : List Ava} {l : List Att} {w : World} (h : Row Elem.ava S w A n c ps) (k : Row Elem.att T w B m d l) (nm : ByteArray) (g : Nat) (hG : Gl w) (hx : ∀ x ∈ ps, x.type.length ≤ 17 ∧ (typeB x.type).2 ≠ 4 ∧ (typeB x.type).2 ≠ 5) (hv : ∀ a ∈ l, a.vals.length ≤ 8796093022208)
    (h0 : w.cell? ⟨g, 0, none⟩ = some (.string nm)) (h1 : w.cell? ⟨g, 1, none⟩ = some (.slice B m d)) :
    Calls Tryz.prog 100 #[.slice A n c, .func (.func 102) #[] #[.pointer (some ⟨g, 0, none⟩)]] w fun e w' =>
      e = .returned (.bool (ps.any (fun a => !hasE a.type a.val (valsE a.type l)))) ∧ Ext w w' := by
  have HI := indexava_any h k nm g hG hx hv h0 h1
  clear h k hG hx hv h0 h1
  generalize ps.any (fun a => !hasE a.type a.val (valsE a.type l)) = r at *
  go_enter Tryz.func100, Tryz.ntmps100
  go_wp2_with (go_at_call 159; (with_reducible refine HI.mono ?_); rintro e w1 ⟨r1, rfl, hr, hx1⟩; have HRR := hid hr; have HX1 := hid hx1; clear hr hx1)
  go_ret
  exact ⟨by rw [← HRR.out]; rfl, HX1.out⟩
set_option maxHeartbeats 1000000 in
theorem named_any {S : Nat → Prop} {A : Option Addr} {n c : Nat} {l : List Att} {w : World} (h : Row Elem.att S w A n c l) (nm : ByteArray) (hG : Gl w) (hv : ∀ a ∈ l, a.vals.length ≤ 8796093022208) :
    Calls Tryz.prog 57 #[.agg #[.string nm, .slice A n c]] w fun e w' => e = .returned (.bool (namedE (bys nm) l)) ∧ Ext w w' := by
  have HB0 := hid (Bx.make (Ext.refl w) #[.string nm, .slice A n c] 38)
  have HP := pairs_any nm _ (hG.ext HB0.out.ext)
  have HOK := hid (pairs_ok (bys nm))
  have HD : Hid (namedE (bys nm) l = !(pairsS (bys nm)).any fun a => !hasE a.type a.val (valsE a.type l)) := rfl
  generalize namedE (bys nm) l = r at *
  generalize pairsS (bys nm) = ps at *
  have HC : ∀ A1 n1 c1 w1, Row Elem.ava (fun b => (w.alloc (.cells #[.string nm, .slice A n c] 38)).heap.size ≤ b) w1 A1 n1 c1 ps → Ext (w.alloc (.cells #[.string nm, .slice A n c] 38)) w1 → Calls Tryz.prog 100 #[.slice A1 n1 c1, .func (.func 102) #[] #[.pointer (some ⟨w.heap.size, 0, none⟩)]] w1 fun e w' =>
      e = .returned (.bool (ps.any (fun a => !hasE a.type a.val (valsE a.type l)))) ∧ Ext w1 w' := fun A1 n1 c1 w1 hr hx => by
    have hb := HB0.out.later hx
    exact containsava_any hr (h.ext hb.ext) nm w.heap.size (hG.ext hb.ext) HOK.out hv (hb.cell (i := 0) rfl) (hb.cell (i := 1) rfl)
  have hmf : ∀ (fn : Fn) (first cap : Array Value) (w : World), (Instr.makeFunc fn first cap).run Tryz.prog w = .ok (.func fn first cap) w := fun _ _ _ _ => rfl
  clear h hG hv
  generalize ps.any (fun a => !hasE a.type a.val (valsE a.type l)) = q at *
  go_enter Tryz.func57, Tryz.ntmps57
  go_wp2_with (first
    | (go_at_call 101; (with_reducible refine HP.mono ?_); rintro e w1 ⟨A1, n1, c1, rfl, hr1, hx1⟩; have HX1 := hid hx1; have HC1 := HC A1 n1 c1 w1 hr1 hx1; clear hr1 hx1)
    | (go_at_call 100; (with_reducible refine HC1.mono ?_); rintro e w2 ⟨rfl, hx2⟩; have HX2 := hid hx2; clear hx2))
  go_ret
  exact ⟨by rw [HD.out]; rfl, HB0.out.ext.trans (HX1.out.trans HX2.out)⟩
end Go.Proofs.YtencmdpjiafnaaaGreatDoor
/- The walks of entry's Copy, judge and done. -/
namespace Go.Proofs.YtencmdpjiafnaaaGreatDoor
open Go.RowKit
set_option maxRecDepth 100000
set_option linter.unusedSimpArgs false
set_option linter.unusedVariables false

theorem flat_setk {k : Nat} : ∀ {vss : List (List Value)} {j r : Nat} {v : List Value} (u : Value), (∀ v ∈ vss, v.length = k) → vss[j]? = some v → r < k → vss.flatten.set (j * k + r) u = (vss.set j (v.set r u)).flatten
  | [], j, r, v, u, _, h, _ => by simp at h
  | a :: l, 0, r, v, u, hl, h, hr => by
    simp at h
    subst h
    rw [Nat.zero_mul, Nat.zero_add, List.flatten_cons, List.set_cons_zero, List.flatten_cons, List.set_append_left _ _ (by rw [hl a (by simp)]; exact hr)]
  | a :: l, j + 1, r, v, u, hl, h, hr => by
    have ih := flat_setk (vss := l) (j := j) (r := r) (v := v) u (fun v hv => hl v (by simp [hv])) (by simpa using h) hr
    have ha := hl a (by simp)
    rw [List.flatten_cons, List.set_cons_succ, List.flatten_cons, ← ih, List.set_append_right _ _ (by rw [ha, Nat.succ_mul]; omega), ha]
    congr 2
    rw [Nat.succ_mul]; omega
section
variable {S : Nat → Prop} {T : TypeId} {w wr w' : World} {v : Value} {l : List Att} {g n cap : Nat}
theorem GrowM.form {α : Type} {E : Elem α} {L : Option Nat} {l : List α} (h : GrowM E S T L w wr v l) (hl : 0 < l.length) : ∃ g cap, v = .slice (some ⟨g, 0, none⟩) l.length cap := by
  obtain ⟨⟨vss, h1, h2, h3⟩, h4, h5⟩ := h
  rcases h2.2 with ⟨h', h0⟩ | ⟨g, cap, cur, h', hb, hg, hnc, hcm, hcs, htake⟩
  · omega
  · exact ⟨g, cap, h'⟩
theorem GrowM.att_at (h : GrowM Elem.att S T none w wr (.slice (some ⟨g, 0, none⟩) l.length cap) l) {j : Nat} {x : Att} (hj : l[j]? = some x) :
    ∃ A1 n1 c1, wr.cell? ⟨g, j * 2, none⟩ = some (.string x.type) ∧ wr.cell? ⟨g, j * 2 + 1, none⟩ = some (.slice A1 n1 c1) ∧ Row Elem.str (outer S (.slice (some ⟨g, 0, none⟩) l.length cap) none) wr A1 n1 c1 x.vals := by
  obtain ⟨⟨vss, h1, h2, h3⟩, h4, h5⟩ := h
  have hjl := (List.getElem?_eq_some_iff.1 hj).1
  have hv : vss[j]? = some (vss[j]'(by omega)) := List.getElem?_eq_getElem (by omega)
  obtain ⟨A1, n1, c1, e, hr⟩ := h3 j _ x hv hj
  have hk : ∀ v ∈ vss, v.length = 2 := fun v hv' => by
    obtain ⟨i, hi, rfl⟩ := List.mem_iff_getElem.1 hv'
    exact Elem.att.len (h3 i vss[i] (l[i]'(by omega)) (List.getElem?_eq_getElem hi) (List.getElem?_eq_getElem (by omega)))
  refine ⟨A1, n1, c1, ?_, ?_, hr⟩
  · rw [World.ownsRow.cellAt (size := 2) h2 (j * 2) (by omega)]
    have := flatten_at hk hv (j := 0) (u := .string x.type) (by rw [e]; rfl)
    simpa using this
  · rw [World.ownsRow.cellAt (size := 2) h2 (j * 2 + 1) (by omega)]
    exact flatten_at hk hv (j := 1) (u := .slice A1 n1 c1) (by rw [e]; rfl)
theorem GrowM.thaw {α : Type} {E : Elem α} {l : List α} (h : GrowM E S T none w wr (.slice (some ⟨g, 0, none⟩) l.length cap) l) (j : Nat) : wr.frozen? ⟨g, j, none⟩ = false := by
  obtain ⟨⟨vss, h1, h2, h3⟩, h4, h5⟩ := h
  exact World.ownsRow.frozenAt h2 j
/-- An attribute's values are laid anew, as they read. -/
theorem GrowM.putAtt (h : GrowM Elem.att S T none w wr (.slice (some ⟨g, 0, none⟩) l.length cap) l) {j : Nat} {x : Att} (hj : l[j]? = some x) {A' : Option Addr} {n' c' : Nat} (hr : Row Elem.str (outer S (.slice (some ⟨g, 0, none⟩) l.length cap) none) wr A' n' c' x.vals) :
    GrowM Elem.att S T none w (wr.setCell ⟨g, j * 2 + 1, none⟩ (.slice A' n' c')) (.slice (some ⟨g, 0, none⟩) l.length cap) l := by
  have hlt := h.lt (b := g) rfl
  obtain ⟨⟨vss, h1, h2, h3⟩, h4, h5⟩ := h
  have hjl := (List.getElem?_eq_some_iff.1 hj).1
  have hv : vss[j]? = some (vss[j]'(by omega)) := List.getElem?_eq_getElem (by omega)
  obtain ⟨A1, n1, c1, e, -⟩ := h3 j _ x hv hj
  have hk : ∀ v ∈ vss, v.length = 2 := fun v hv' => by
    obtain ⟨i, hi, rfl⟩ := List.mem_iff_getElem.1 hv'
    exact Elem.att.len (h3 i vss[i] (l[i]'(by omega)) (List.getElem?_eq_getElem hi) (List.getElem?_eq_getElem (by omega)))
  obtain ⟨k1, k2⟩ := World.ownsRow.stored h2 (j * 2 + 1) (.slice A' n' c')
  rw [flat_setk _ hk hv (by decide)] at k1
  have hkeep : ∀ b, outer S (.slice (some ⟨g, 0, none⟩) l.length cap) none b → (wr.setCell ⟨g, j * 2 + 1, none⟩ (.slice A' n' c')).heap[b]? = wr.heap[b]? := fun b hb => heap_setCell_other _ _ _ _ (fun e => hb.2.1 (by rw [e]; rfl))
  refine ⟨⟨_, by rw [List.length_set]; exact h1, k1, fun i u y hi hy => ?_⟩, h4.setCell hlt.1 _, fun g' hg => by cases hg⟩
  by_cases hij : j = i
  · subst hij
    rw [List.getElem?_set_self (by omega)] at hi
    rw [hj] at hy
    injection hi with hi
    injection hy with hy
    subst hi hy
    rw [e]
    exact ⟨A', n', c', rfl, hr.same fun b hb => hkeep b hb⟩
  · rw [List.getElem?_set_ne hij] at hi
    exact Elem.att.same (h3 i u y hi hy) fun b hb => hkeep b hb
end
theorem GrowM.base {α : Type} {E : Elem α} {S : Nat → Prop} {T : TypeId} {w0 w wr : World} {v : Value} {l : List α} (h : GrowM E S T none w wr v l) (hx : Ext w0 w) : GrowM E S T none w0 wr v l := by
  obtain ⟨⟨vss, h1, h2, h3⟩, h4, h5⟩ := h
  exact ⟨⟨vss, h1, own_base h2 (ext_sz hx), h3⟩, hx.trans h4, fun g hg => by cases hg⟩
/-- A store into a block that neither the row nor its elements are in. -/
theorem GrowM.other {α : Type} {E : Elem α} {S : Nat → Prop} {T : TypeId} {w wr : World} {v : Value} {l : List α} (h : GrowM E S T none w wr v l) {k : Nat} (hS : ¬ S k) (hv : v.ownBlock ≠ some k) (hk : w.heap.size ≤ k) (i : Nat) (z : Value) : GrowM E S T none w (wr.setCell ⟨k, i, none⟩ z) v l := by
  obtain ⟨⟨vss, h1, h2, h3⟩, h4, h5⟩ := h
  refine ⟨⟨vss, h1, ?_, fun i' u x hi hl => elem_keep (h3 i' u x hi hl) (fun b hb _ => heap_setCell_other _ _ _ _ (fun e => hS (by have e2 : b = k := e; rw [← e2]; exact hb.1))) (fun b hb _ => hb)⟩, h4.setCell hk _, fun g hg => by cases hg⟩
  obtain ⟨q1, q2⟩ := h2
  refine ⟨q1, ?_⟩
  rcases q2 with q2 | ⟨k', cap, cur, e1, e2, e3, e4⟩
  · exact .inl q2
  · refine .inr ⟨k', cap, cur, e1, e2, ?_, e4⟩
    rw [heap_setCell_other _ _ _ _ (fun e => hv (by rw [e1]; exact congrArg some e))]
    exact e3
def CopyESays (S : Nat → Prop) (w : World) (nm : ByteArray) (l : List Att) (e : Ending) (w' : World) : Prop := ∃ A n c, e = .returned (.agg #[.string nm, .slice A n c]) ∧ Row Elem.att (fun b => S b ∨ w.heap.size ≤ b) w' A n c l ∧ Ext w w'
set_option maxHeartbeats 8000000 in
theorem copy_any {S : Nat → Prop} {A : Option Addr} {n c : Nat} {l : List Att} {w : World} (h : Row Elem.att S w A n c l) (nm : ByteArray) (hl : l.length ≤ 4000000) (hv : ∀ a ∈ l, a.vals.length ≤ 8796093022208) :
    Calls Tryz.prog 26 #[.agg #[.string nm, .slice A n c]] w (CopyESays S w nm l) := by
  have HL := hid hl
  have HV := hid hv
  have HB0 := hid (((Bx.make (Ext.refl w) #[.string nm, .slice A n c] 38).later (Ext.alloc _ (.cells #[.string ⟨#[]⟩, .slice none 0 0] 38))))
  have HB1 := hid (Bx.make (Ext.alloc w (.cells #[.string nm, .slice A n c] 38)) #[.string ⟨#[]⟩, .slice none 0 0] 38)
  rw [show (w.alloc (.cells #[.string nm, .slice A n c] 38)).heap.size = w.heap.size + 1 by simp] at HB1
  have HCA : ∀ w', Ext w w' → Calls Tryz.prog 58 #[.slice A n c] w' fun e w'' => ∃ v, e = .returned v ∧ GrowM Elem.att (fun b => S b ∧ b < w.heap.size) 60 none w' w'' v l := fun w' hx => attclone_any (h.lt.ext hx) hl
  show Calls _ _ _ _ (fun e w' => CopyESays S w nm l e w')
  clear h hl hv
  go_enter Tryz.func26, Tryz.ntmps26
  go_wp2_with (go_at_call 58; (with_reducible refine (HCA _ HB0.out.ext).mono ?_); rintro e w2 ⟨v2, rfl, hg2⟩; obtain ⟨ln, hln⟩ : ∃ x, x = l.length := ⟨_, rfl⟩; obtain ⟨A2, c2, hv2, hr2⟩ := hg2.row; rw [← hln] at hv2; subst hv2; have HLN := hid hln; have HG2 := hid (hg2.mono (S' := fun x => (S x ∧ x < w.heap.size) ∨ w.heap.size + 2 ≤ x) (fun _ h => .inl h)); have HB2 := hid (HB0.out.later hg2.ext); have HB3 := hid (HB1.out.later hg2.ext); have p1 := HB2.out.cell (i := 1) rfl; have q1 := HB2.out.frozen 1; clear hg2 hr2 hln)
  have hz1 : ((w.alloc (.cells #[.string nm, .slice A n c] 38)).alloc (.cells #[.string ⟨#[]⟩, .slice none 0 0] 38)).heap.size = w.heap.size + 1 + 1 := by simp
  have HLOW : Hid (∀ b, (Value.slice A2 ln c2).ownBlock = some b → w.heap.size + 2 ≤ b) := fun b hb => by have := (HG2.out.lt hb).1; omega
  have HGW := hid ((HG2.out.base HB0.out.ext).other (k := w.heap.size) (by omega) (HG2.out.low (by omega)) (Nat.le_refl _) 1 (.slice A2 ln c2))
  have HBS := hid (HB2.out.set1 (.slice A2 ln c2))
  have HBT := hid (HB3.out.aside (Nat.le_refl _) (by omega) 1 (.slice A2 ln c2))
  have hln : ln ≤ 4000000 := by have h1 := HLN.out; have h2 := HL.out; omega
  clear hz1 HG2
  go_loopw [12] (fun i wr => ∃ j : Nat, j ≤ ln ∧ i = .int .i64 j ∧ Hid (GrowM Elem.att (fun x => (S x ∧ x < w.heap.size) ∨ w.heap.size + 2 ≤ x) 60 none w wr (.slice A2 ln c2) l) ∧ Hid (Bx w wr w.heap.size 38 #[.string nm, .slice A2 ln c2]) ∧ Hid (Bx w wr (w.heap.size + 1) 38 #[.string ⟨#[]⟩, .slice none 0 0])) (fun i _ => ln - (intOf i).toNat)
  case atStart => exact ⟨0, by omega, rfl, HGW.out, HBS.out, HBT.out⟩
  case round =>
    obtain ⟨j, hj, rfl, HGR, HBR, HBU⟩ := hrel
    clear p1 q1
    by_cases hlt : j < ln
    · obtain ⟨g, cap, hvf⟩ := HGR.out.form (by have := HLN.out; omega)
      obtain rfl := HLN.out
      injection hvf with y1 y2 y3
      subst y1 y3
      obtain ⟨x, hxj⟩ : ∃ x, l[j]? = some x := ⟨_, List.getElem?_eq_getElem hlt⟩
      obtain ⟨A1, n1, c1, e0, e1, hr1⟩ := HGR.out.att_at hxj
      have HXJ := hid hxj
      have HR1 := hid hr1
      have HGL := hid (HLOW.out g rfl)
      have HGT := hid (HGR.out.lt (b := g) rfl)
      have HCL : ∀ w', Ext wr w' → Calls Tryz.prog 59 #[.slice A1 n1 c1] w' fun e w'' => ∃ A' n' c', e = .returned (.slice A' n' c') ∧ Row Elem.str (fun b => w'.heap.size ≤ b) w'' A' n' c' x.vals ∧ Ext w' w'' := fun w' hx => strclone_any (hr1.ext hx) (HV.out x (List.mem_of_getElem? hxj))
      have HB4 := hid (Bx.make HBR.out.ext #[.string x.type, .slice A1 n1 c1] 60)
      clear hxj hr1
      go_wp2
      refine wp_region_planB g (.read 0 (.read 1 (.read 2 (.read 3 (.main 4 (.main 5 (.read 6 (.read 7 (.main 8 .done))))))))) (by kernel_rfl) (by kernel_rfl) ?_
      intro wD hxD
      have XB : Hid (Below g wD wD) := Below.refl _ _
      have HSW : Hid (g ≤ wD.heap.size) := by show _ ≤ _; have h1 := hxD.size; simp only [World.alloc, Array.size_push] at h1; have h2 := HGT.out.2; omega
      have HX1 := hid ((Ext.alloc wr (.cells #[.string x.type, .slice A1 n1 c1] 60)).trans hxD)
      have HB5 := hid (HB4.out.later hxD)
      have HBX := hid (HBR.out.later HX1.out)
      have hxf : Below g wr wD := Below.mono HX1.out (by have h2 := HGT.out.2; omega)
      have pe : ∀ w', Below g wD w' → w'.cell? ⟨w.heap.size, 1, none⟩ = some (.slice (some ⟨g, 0, none⟩) l.length c2) := cell_lb (HBR.out.cell (i := 1) rfl) (by have := HGL.out; show w.heap.size < g; omega) hxf
      clear hxf e0 e1
      repeat' (first
        | (refine walksB_move rfl rfl ?_; simp only [Act.put, Act.eval, List.setIfInBounds_toArray, List.set_cons_zero, List.set_cons_succ, Array.getD_eq_getD_getElem?, List.getElem?_toArray, List.getElem?_cons_zero, List.getElem?_cons_succ, Option.getD_some])
        | (refine walksB_assign rfl rfl ?_; simp only [Act.put, Act.eval, List.setIfInBounds_toArray, List.set_cons_zero, List.set_cons_succ, Array.getD_eq_getD_getElem?, List.getElem?_toArray, List.getElem?_cons_zero, List.getElem?_cons_succ, Option.getD_some])
        | (refine walksB_skip rfl rfl ?_; simp only [Act.put, List.setIfInBounds_toArray, List.set_cons_zero, List.set_cons_succ])
        | (refine walksB_unwanted rfl rfl ?_; simp only [Act.put, List.setIfInBounds_toArray, List.set_cons_zero, List.set_cons_succ])
        | (refine walksB_read (v := ?_) rfl rfl (fun w' hE => ?_) ?_; rotate_left 1; (· ((try (have hEx := Below.trans (Hid.out XB) hE)); go_simp; (try go_bits); with_reducible rfl)); simp only [Act.put, List.setIfInBounds_toArray, List.set_cons_zero, List.set_cons_succ])
        | (refine walksB_main rfl rfl (fun K hK => ?_); (first | (refine wp_load_cell 43 (.tmp 20) rfl ⟨wr.heap.size, 1, none⟩ rfl (.slice A1 n1 c1) (HB5.out.cell (i := 1) rfl) (fun _ => by kernel_rfl) ?_)); refine hK _ _ (by first | assumption | exact Below.refl _ _ | exact Below.mono (Ext.alloc _ _) (Hid.out HSW) | exact Below.setCell (p := ⟨_, _, _⟩) (Below.refl _ _) (Nat.le_refl _) _) ?_; clear hK K; try simp only [Act.put, List.setIfInBounds_toArray, List.set_cons_zero, List.set_cons_succ])
        | (refine walksB_alt ?_ ?_)
        | (refine walksB_main rfl rfl (fun K hK => ?_); go_wp2_with ((go_at_call 59; (with_reducible refine (HCL _ HX1.out).mono ?_); rintro e w5 ⟨A5, n5, c5, rfl, hr5, hx5⟩; have HX5 := hid (HX1.out.trans hx5); have HR5 := hid hr5; have hs5 := Below.mono hx5 (Hid.out HSW); have HG6 := hid (HGR.out.later HX5.out); obtain ⟨A6, n6, c6, -, e6, -⟩ := HG6.out.att_at HXJ.out; have f6 := HG6.out.thaw (j * 2 + 1); clear hr5 hx5; have XB' := hid (Below.trans (Hid.out XB) (hs5)); clear XB; have XB := XB'; clear XB')); refine hK _ _ (by first | assumption | exact Below.refl _ _ | exact Below.mono (Ext.alloc _ _) (Hid.out HSW) | exact Below.setCell (p := ⟨_, _, _⟩) (Below.refl _ _) (Nat.le_refl _) _) ?_; clear hK K; try simp only [Act.put, List.setIfInBounds_toArray, List.set_cons_zero, List.set_cons_succ]))
      all_goals
        refine walksB_done ?_
        go_wp2
        have hzx := HX1.out.size
        have hgt := HGT.out.2
        have hgl := HGL.out
        refine ⟨⟨j + 1, by omega, by go_num, HG6.out.putAtt HXJ.out (HR5.out.mono fun b _ hb => ?_), (HBR.out.later HX5.out).aside (by omega) (by omega) (j * 2 + 1) _, (HBU.out.later HX5.out).aside (by omega) (by omega) (j * 2 + 1) _⟩, by simp [intOf]; omega⟩
        have hb2 : wD.heap.size ≤ b := hb
        refine ⟨.inr (by omega), fun e => ?_, by simp⟩
        have e2 : some b = some g := e
        injection e2 with e2
        omega
    · obtain rfl : j = ln := by omega
      have n0 := HBR.out.cell (i := 0) rfl
      have n1 := HBR.out.cell (i := 1) rfl
      have r0 := HBU.out.cell (i := 0) rfl
      have r1 := HBU.out.cell (i := 1) rfl
      have f0 := HBU.out.frozen 0
      have f1 := HBU.out.frozen 1
      go_wp2
      (try simp only [Exit.inBlock, Exit.then])
      have HBF := (HBU.out.set0 (.string nm)).set1 (.slice A2 j c2)
      have hno : (Value.slice A2 j c2).ownBlock ≠ some (w.heap.size + 1) := fun e => by have := HLOW.out _ e; omega
      have HGF := (HGR.out.other (k := w.heap.size + 1) (by omega) hno (by omega) 0 (.string nm)).other (k := w.heap.size + 1) (by omega) hno (by omega) 1 (.slice A2 j c2)
      refine ret_cell1 _ rfl rfl HBF Tryz.underlying38 rfl (by kernel_rfl) rfl ?_
      obtain ⟨A9, c9, hv9, hr9⟩ := HGF.row
      injection hv9 with y1 y2 y3
      subst y1 y3
      refine ⟨A2, j, c2, rfl, ?_, HBF.ext⟩
      rw [← y2] at hr9
      refine hr9.mono (T := fun b => S b ∨ w.heap.size ≤ b) fun b _ hb => ?_
      rcases hb with (hb | hb) | hb
      · exact .inl hb.1
      · exact .inr (by omega)
      · exact .inr hb
end Go.Proofs.YtencmdpjiafnaaaGreatDoor
