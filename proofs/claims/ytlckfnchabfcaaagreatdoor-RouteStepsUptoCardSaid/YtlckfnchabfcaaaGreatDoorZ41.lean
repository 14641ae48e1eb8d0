import Derived.Test.YtlckfnchabfcaaaGreatDoorZ39
import Derived.Test.YtlckfnchabfcaaaGreatDoorZ40
import Derived.Test.YtlckfnchabfcaaaGreatDoorZ35
import Derived.Test.YtlckfnchabfcaaaGreatDoorZ11
/- The walks of dn.Depth, part.Deepest. -/
namespace Go.Proofs.YtlckfnchabfcaaaGreatDoor
open Go.RowKit
set_option maxRecDepth 100000
set_option linter.unusedSimpArgs false
set_option linter.unusedVariables false

set_option maxHeartbeats 1000000 in
theorem depth_any (s : ByteArray) (w : World) (hG : Gl w) : Calls Tryz.prog 47 #[.string s] w fun e w' => e = .returned (.int .i64 (depthS (bys s))) ∧ Ext w w' := by
  have HP := parts_any s w hG
  unfold TextsSays at HP
  have HD : Hid (depthS (bys s) = ((okL (partsB (bys s))).length : Int)) := rfl
  have HLS : ∀ (S : Nat → Prop) w A n c, Row Elem.str S w A n c (strs (okL (partsB (bys s)))) → n = (okL (partsB (bys s))).length := fun S w A n c h => by rw [h.len, List.length_map]
  generalize okL (partsB (bys s)) = l at *
  generalize codeR (partsB (bys s)) = cd at *
  go_enter Tryz.func47, Tryz.ntmps47
  go_wp2_with (go_at_call 43; (with_reducible refine HP.mono ?_); rintro e w1 ⟨A1, n1, c1, rfl, hr1, hx1⟩; have HN := hid (HLS _ _ _ _ _ hr1); have HX1 := hid hx1; clear hx1 hr1)
  go_ret
  exact ⟨by rw [HD.out, HN.out]; (try rfl), HX1.out⟩
set_option maxHeartbeats 2000000 in
theorem deepest_any {S : Nat → Prop} {A : Option Addr} {n c : Nat} {l : List CutR} {w : World} (h : Row Elem.cut S w A n c l) (name : ByteArray) (hG : Gl w) :
    Calls Tryz.prog 26 #[.slice A n c, .string name] w fun e w' => e = .returned (.int .i64 (deepF l (bys name))) ∧ Ext w w' := by
  have HG := hid hG
  have HR := hid h
  have HLN := hid h.len
  have hn : n ≤ 9223372036854775807 := by have := h.cap; have := h.most; simp only [maxLen] at this; omega
  have HD : ∀ (s : ByteArray) w, Gl w → Calls Tryz.prog 47 #[.string s] w fun e w' => e = .returned (.int .i64 (depthS (bys s))) ∧ Ext w w' := fun s w hG => depth_any s w hG
  have HU : ∀ (s : ByteArray) w, Gl w → Calls Tryz.prog 48 #[.string name, .string s] w fun e w' => e = .returned (.bool (underS (bys name) (bys s))) ∧ Ext w w' := fun s w hG => under_any name s w hG
  clear h hG
  go_enter Tryz.func26, Tryz.ntmps26
  go_wp2
  go_loopw [5, 6, 12] (fun b d i wr => ∃ (j : Nat), j ≤ n ∧ i = .int .i64 j ∧ b = .int .i64 (deepGo (bys name) 0 (-1, -1) (l.take j)).1 ∧ d = .int .i64 (deepGo (bys name) 0 (-1, -1) (l.take j)).2 ∧ Hid (Ext w wr)) (fun _ _ i _ => n - (intOf i).toNat)
  case atStart => exact ⟨0, by omega, rfl, rfl, rfl, Ext.refl _⟩
  case round =>
    obtain ⟨j, hj, rfl, rfl, rfl, hx⟩ := hrel
    by_cases hlt : j < n
    · obtain ⟨b1, o1, v1, x1, rfl, g1, -, r1, q1⟩ := (HR.out.ext hx.out).at_ hlt
      have HTK := hid (deepGo_take (nm := bys name) g1)
      have HDX := HD x1.name
      have HUX := HU x1.name
      have HSD : Hid (deepStep (bys name) j (deepGo (bys name) 0 (-1, -1) (l.take j)) x1 = if decide ((deepGo (bys name) 0 (-1, -1) (l.take j)).2 < depthS (bys x1.name)) && underS (bys name) (bys x1.name) then ((j : Int), depthS (bys x1.name)) else deepGo (bys name) 0 (-1, -1) (l.take j)) := rfl
      clear HD HU g1
      generalize depthS (bys x1.name) = dx at *
      generalize underS (bys name) (bys x1.name) = ux at *
      obtain ⟨nm1, sv1⟩ := x1
      cases r1
      have e10 := q1 0 _ rfl
      have e11 := q1 1 _ rfl
      simp only [Elem.cut, Nat.add_zero] at e10 e11
      simp only at HDX HUX
      clear q1
      have HB0 := hid (Bx.make hx.out #[.string nm1, .int .i64 sv1] 69)
      generalize deepGo (bys name) 0 (-1, -1) (l.take j) = st at *
      obtain ⟨st2, hst2⟩ : ∃ x, x = deepGo (bys name) 0 (-1, -1) (l.take (j + 1)) := ⟨_, rfl⟩
      rw [← hst2] at HTK
      have HS2 := hid hst2
      clear hst2
      obtain ⟨s1, s2⟩ := st
      obtain ⟨z1, z2⟩ := st2
      simp only at HSD
      by_cases hd : s2 < dx
      · rw [decide_eq_true hd, Bool.true_and] at HSD
        cases ux
        · rw [if_neg (by decide)] at HSD
          have HE := hid (HTK.out.trans HSD.out)
          go_wp2_with (first
            | (go_at_call 47; (with_reducible refine (HDX _ (HG.out.ext HB0.out.ext)).mono ?_); rintro e w1 ⟨rfl, hx1⟩; have HB1 := hid (HB0.out.later hx1); have a0 := HB1.out.cell (i := 0) rfl; clear hx1)
            | (go_at_call 48; (with_reducible refine (HUX _ (HG.out.ext HB1.out.ext)).mono ?_); rintro e w2 ⟨rfl, hx2⟩; have HX2 := hid (HB1.out.ext.trans hx2); clear hx2))
          obtain ⟨rfl, rfl⟩ : z1 = s1 ∧ z2 = s2 := by have := HE.out; injection this with a b; exact ⟨a, b⟩
          exact ⟨⟨j + 1, by omega, by go_num, by rw [← HS2.out], by rw [← HS2.out], HX2.out⟩, by simp [intOf]; omega⟩
        · rw [if_pos rfl] at HSD
          have HE := hid (HTK.out.trans HSD.out)
          go_wp2_with (first
            | (go_at_call 47; (with_reducible refine (HDX _ (HG.out.ext HB0.out.ext)).mono ?_); rintro e w1 ⟨rfl, hx1⟩; have HB1 := hid (HB0.out.later hx1); have a0 := HB1.out.cell (i := 0) rfl; clear hx1)
            | (go_at_call 48; (with_reducible refine (HUX _ (HG.out.ext HB1.out.ext)).mono ?_); rintro e w2 ⟨rfl, hx2⟩; have HX2 := hid (HB1.out.ext.trans hx2); clear hx2))
          obtain ⟨rfl, rfl⟩ : z1 = (j : Int) ∧ z2 = dx := by have := HE.out; injection this with a b; exact ⟨a, b⟩
          exact ⟨⟨j + 1, by omega, by go_num, by rw [← HS2.out], by rw [← HS2.out], HX2.out⟩, by simp [intOf]; omega⟩
      · rw [decide_eq_false hd, Bool.false_and, if_neg (by decide)] at HSD
        have HE := hid (HTK.out.trans HSD.out)
        go_wp2_with (first
          | (go_at_call 47; (with_reducible refine (HDX _ (HG.out.ext HB0.out.ext)).mono ?_); rintro e w1 ⟨rfl, hx1⟩; have HB1 := hid (HB0.out.later hx1); have a0 := HB1.out.cell (i := 0) rfl; clear hx1))
        obtain ⟨rfl, rfl⟩ : z1 = s1 ∧ z2 = s2 := by have := HE.out; injection this with a b; exact ⟨a, b⟩
        exact ⟨⟨j + 1, by omega, by go_num, by rw [← HS2.out], by rw [← HS2.out], HB1.out.ext⟩, by simp [intOf]; omega⟩
    · obtain rfl : j = n := by omega
      have HF : Hid (deepF l (bys name) = (deepGo (bys name) 0 (-1, -1) (l.take j)).1) := by show _ = _; rw [List.take_of_length_le (Nat.le_of_eq HLN.out.symm)]; rfl
      go_wp2
      go_ret
      exact ⟨by rw [HF.out]; (try rfl), hx.out⟩
end Go.Proofs.YtlckfnchabfcaaaGreatDoor
/- A row of the call's own, of whatever elements: an element is appended. Nothing of the program's functions is named. -/
namespace Go.Proofs.YtlckfnchabfcaaaGreatDoor
open Go.RowKit
set_option maxRecDepth 100000
set_option linter.unusedSimpArgs false
set_option linter.unusedVariables false

/-- An owned row's cells are one list. -/
theorem own_cells_one {w : World} {base : Nat} {e : TypeId} {size n : Nat} {v : Value} {xs ys : List Value} (h : w.ownsRow base e size v n xs) (k : w.ownsRow base e size v n ys) : ys = xs := by
  rcases k.2 with ⟨_, z1⟩ | ⟨g, cap, cur, e3, e4, e5, e6, e7, e8, e9⟩
  · have z2 := k.1
    have z3 := h.1
    rw [z1, Nat.zero_mul] at z2 z3
    rw [List.eq_nil_of_length_eq_zero z2, List.eq_nil_of_length_eq_zero z3]
  · rcases h.2 with ⟨z0, z1⟩ | ⟨g', cap', cur', f3, f4, f5, f6, f7, f8, f9⟩
    · rw [e3] at z0; cases z0
    · rw [e3] at f3
      injection f3 with f3 _ f3'
      injection f3 with f3
      injection f3 with f3
      subst f3
      rw [e5] at f5
      injection f5 with f5
      injection f5 with f5
      subst f5
      rw [← e9, ← f9]
section
variable {α : Type} {E : Elem α} {w w0 : World} {o : Oper} {a : Act} {K : Act → World → Prop} {Q : Exit → Act → World → Prop} {ops : Array Oper} {rest : List Oper}
theorem append_el_wp {T ST : TypeId} {z : Value} {bytes : Nat} (hu : Tryz.prog.underlying ST = some (.slice T)) (hinf : (Tryz.prog.info? T).map (fun i => (i.zero, i.size, i.bytes)) = some (some z, E.k, bytes)) (hzs : z.cells.size = E.k) (hby : bytes ≤ 1000)
    (s x : Operand) (ho : o.op = .call { callee := .builtin .append, args := #[s, x], argTypes := #[ST, ST] }) {L : Option Nat} (v : Value) (l : List α) (hs : a.eval s = v) (hg : GrowR E T L w0 w v l)
    {t : TypeId} {u : List Value} (y : α) (hE : E.R (inner w0 v L) w u y) (h1 : ∀ c ∈ u, c.oneCell' = true) {g : Nat} (hx : a.eval x = .slice (some ⟨g, 0, none⟩) 1 1) (hgs : g = w.heap.size) (hb : l.length ≤ 4000000)
    (h : ∀ v' w', GrowR E T L w0 w' v' (l ++ [y]) → (w.alloc (.cells u.toArray t)).grownBy w' v.ownBlock → Below w0.heap.size (w.alloc (.cells u.toArray t)) w' → K (a.put o.dst v') w') :
    o.wp Tryz.prog a (w.alloc (.cells u.toArray t)) K Q := by
  subst hgs
  have hg2 := hg.later (Ext.alloc w (.cells u.toArray t))
  have hk : u.length = E.k := E.len hE
  obtain ⟨⟨vss, q1, q2, q3⟩, q4, q5⟩ := hg2
  refine wp_append_sz s x ST ho w0.heap.size T z E.k bytes hu hinf hzs E.pos v l.length vss.flatten hs q2 _ 1 1 u hx (by rw [hk, Nat.one_mul]) (.inr ⟨_, 0, rfl, fun j c hj => by rw [Nat.zero_add, box_a]; simpa using hj⟩)
    h1 (by simp [maxLen]; omega) (Nat.le_trans (Nat.mul_le_mul (Nat.add_le_add_right hb 1) hby) (by decide)) (ext_sz q4) ?_
  intro v' w' p1 p2 p3
  have hE' : E.R (inner w0 v L) (w.alloc (.cells u.toArray t)) u y := elem_keep hE (fun b _ hlt => (Ext.alloc w (.cells u.toArray t)).block b hlt) (fun b hS _ => hS)
  obtain ⟨k1, k2⟩ := (hg.later (Ext.alloc w (.cells u.toArray t))).snoc (v' := v') (w' := w') hE' (fun vs' hvs' => by rw [own_cells_one q2 hvs']; exact p1) p2 p3
  exact h v' w' k1 p2 k2
theorem append_el {T ST : TypeId} {z : Value} {bytes : Nat} (hu : Tryz.prog.underlying ST = some (.slice T)) (hinf : (Tryz.prog.info? T).map (fun i => (i.zero, i.size, i.bytes)) = some (some z, E.k, bytes)) (hzs : z.cells.size = E.k) (hby : bytes ≤ 1000)
    (hgd : o.guard = none) (s x : Operand) (ho : o.op = .call { callee := .builtin .append, args := #[s, x], argTypes := #[ST, ST] }) {L : Option Nat} (v : Value) (l : List α) (hs : a.eval s = v) (hg : GrowR E T L w0 w v l)
    {t : TypeId} {u : List Value} (y : α) (hE : E.R (inner w0 v L) w u y) (h1 : ∀ c ∈ u, c.oneCell' = true) {g : Nat} (hx : a.eval x = .slice (some ⟨g, 0, none⟩) 1 1) (hgs : g = w.heap.size) (hb : l.length ≤ 4000000)
    (h : ∀ v' w', GrowR E T L w0 w' v' (l ++ [y]) → (w.alloc (.cells u.toArray t)).grownBy w' v.ownBlock → Below w0.heap.size (w.alloc (.cells u.toArray t)) w' → wpList Tryz.prog ops Q rest (a.put o.dst v') w') :
    wpList Tryz.prog ops Q (o :: rest) a (w.alloc (.cells u.toArray t)) :=
  wpList_plain hgd fun _ hK => append_el_wp hu hinf hzs hby s x ho v l hs hg y hE h1 hx hgs hb fun v' w' k1 k2 k3 => hK _ _ (h v' w' k1 k2 k3)
end
end Go.Proofs.YtlckfnchabfcaaaGreatDoor
/- The walks of route's find, Held, Nearer. -/
namespace Go.Proofs.YtlckfnchabfcaaaGreatDoor
open Go.RowKit
set_option maxRecDepth 100000
set_option linter.unusedSimpArgs false
set_option linter.unusedVariables false

theorem infoCut : (Tryz.prog.info? 69).map (fun i => (i.zero, i.size, i.bytes)) = some (some (.agg #[.string ByteArray.empty, .int .i64 0]), Elem.cut.k, 24) := by kernel_rfl
/-- A config in memory, as the package has it: its servers, its highest cuts. -/
structure CfgAt (S : Nat → Prop) (w : World) (A : Option Addr) (n c : Nat) (B : Option Addr) (m d : Nat) (s : List (List Cxt)) (t : List CutR) : Prop where
  srv : Row Elem.srw S w A n c s
  top : Row Elem.cut S w B m d t
theorem CfgAt.ext {S : Nat → Prop} {w w' : World} {A : Option Addr} {n c : Nat} {B : Option Addr} {m d : Nat} {s : List (List Cxt)} {t : List CutR} (h : CfgAt S w A n c B m d s t) (hx : Ext w w') : CfgAt S w' A n c B m d s t := ⟨h.srv.ext hx, h.top.ext hx⟩
def cutsOf (l : List Cxt) : List CutR := l.map fun x => ⟨x.name, 0⟩
theorem srvAt_of {s : List (List Cxt)} {t : List CutR} {k : Nat} {l : List Cxt} (h : s[k]? = some l) : srvAt (rtOf s t) (k : Int) = l.map fun x => (x.name, x.subs) := by
  unfold srvAt rtOf
  simp only [Int.toNat_natCast, List.getElem?_map, h]
  rfl
theorem cuts_of {s : List (List Cxt)} {t : List CutR} {k : Nat} {l : List Cxt} (h : s[k]? = some l) : ctxCuts (srvAt (rtOf s t) (k : Int)) = cutsOf l := by
  rw [srvAt_of h]
  unfold ctxCuts cutsOf
  rw [List.map_map]
  rfl
theorem subs_of {s : List (List Cxt)} {t : List CutR} {k q : Nat} {l : List Cxt} {x : Cxt} (h : s[k]? = some l) (hx : l[q]? = some x) : (((srvAt (rtOf s t) (k : Int))[q]?).map (·.2)).getD [] = x.subs := by
  rw [srvAt_of h, List.getElem?_map, hx]
  rfl
theorem find_bad {c : RtC} {s : Int} {nm : List UInt8} (h : codeR (partsB nm) ≠ 0 ∨ s < 0 ∨ (c.servers.length : Int) ≤ s) : findF c s nm = (-1, -1) := by unfold findF; rw [if_pos h]
theorem find_none {c : RtC} {s : Int} {nm : List UInt8} (h : deepF (ctxCuts (srvAt c s)) nm < 0) : findF c s nm = (-1, -1) := by
  unfold findF
  split
  · rfl
  · rfl
theorem find_some {c : RtC} {s : Int} {nm : List UInt8} (h : ¬ (codeR (partsB nm) ≠ 0 ∨ s < 0 ∨ (c.servers.length : Int) ≤ s)) (h2 : ¬ deepF (ctxCuts (srvAt c s)) nm < 0) :
    findF c s nm = (deepF (ctxCuts (srvAt c s)) nm, deepF (((srvAt c s)[(deepF (ctxCuts (srvAt c s)) nm).toNat]?.map (·.2)).getD []) nm) := by unfold findF; rw [if_neg h, if_neg h2]
def FindSays (w : World) (r : Int × Int) (e : Ending) (w' : World) : Prop := e = .returned (.tuple #[.int .i64 r.1, .int .i64 r.2]) ∧ Ext w w'
set_option maxHeartbeats 4000000 in
theorem find_route_any {S : Nat → Prop} {w : World} {A : Option Addr} {n c : Nat} {B : Option Addr} {m d : Nat} {s : List (List Cxt)} {t : List CutR} (h : CfgAt S w A n c B m d s t) (hG : Gl w) (server : Int) (name : ByteArray) (hs : ∀ l ∈ s, l.length ≤ 4000000) :
    Calls Tryz.prog 25 #[.agg #[.slice A n c, .slice B m d], .int .i64 server, .string name] w (FindSays w (findF (rtOf s t) server (bys name))) := by
  have HG := hid hG
  have HR := hid h.srv
  have HLN := hid h.srv.len
  have HSL := hid hs
  have hn : n ≤ 9223372036854775807 := by have := h.srv.cap; have := h.srv.most; simp only [maxLen] at this; omega
  have HN : ∀ w, Gl w → Calls Tryz.prog 20 #[.string name] w (NormalSays w (bys name)) := fun w hG => dnnormal_any name w hG
  have HDP : ∀ (T : Nat → Prop) A1 n1 c1 (l : List CutR) w1, Gl w1 → Row Elem.cut T w1 A1 n1 c1 l → Calls Tryz.prog 26 #[.slice A1 n1 c1, .string name] w1 fun e w' => e = .returned (.int .i64 (deepF l (bys name))) ∧ Ext w1 w' := fun T A1 n1 c1 l w1 hG hr => deepest_any hr name hG
  have HB0 := hid (Bx.make (Ext.refl w) #[.slice A n c, .slice B m d] 34)
  have HCL : Hid ((rtOf s t).servers.length = n) := by show _ = _; rw [h.srv.len]; simp [rtOf]
  unfold NormalSays at HN
  clear hG h hs
  by_cases hc : codeR (partsB (bys name)) = 0
  case neg =>
    have HF := hid (find_bad (c := rtOf s t) (s := server) (nm := bys name) (.inl hc))
    have e0 : (codeR (partsB (bys name)) != 0) = true := by rw [bne_iff_ne]; exact hc
    unfold FindSays
    rw [HF.out]
    clear hc
    generalize codeR (partsB (bys name)) = cd at *
    go_enter Tryz.func25, Tryz.ntmps25
    go_wp2_with
      (go_at_call 20; (with_reducible refine (HN _ (HG.out.ext (Ext.alloc _ _))).mono ?_); rintro e w1 ⟨rfl, hx1⟩; have HB1 := hid (HB0.out.later hx1); have a0 := HB1.out.cell (i := 0) rfl; have a1 := HB1.out.cell (i := 1) rfl; clear hx1)
    go_ret2
    exact ⟨rfl, HB1.out.ext⟩
  have HCD := hid hc
  have e0 : (codeR (partsB (bys name)) != 0) = false := by rw [hc]; rfl
  by_cases hneg : server < 0
  · have HF := hid (find_bad (c := rtOf s t) (s := server) (nm := bys name) (.inr (.inl hneg)))
    unfold FindSays
    rw [HF.out]
    clear hc HCD
    generalize codeR (partsB (bys name)) = cd at *
    go_enter Tryz.func25, Tryz.ntmps25
    go_wp2_with
      (go_at_call 20; (with_reducible refine (HN _ (HG.out.ext (Ext.alloc _ _))).mono ?_); rintro e w1 ⟨rfl, hx1⟩; have HB1 := hid (HB0.out.later hx1); have a0 := HB1.out.cell (i := 0) rfl; have a1 := HB1.out.cell (i := 1) rfl; clear hx1)
    go_ret2
    exact ⟨rfl, HB1.out.ext⟩
  obtain ⟨k, rfl⟩ : ∃ k : Nat, server = (k : Int) := ⟨server.toNat, by omega⟩
  by_cases hge : n ≤ k
  · have hge' : (n : Int) ≤ (k : Int) := by omega
    have HF := hid (find_bad (c := rtOf s t) (s := (k : Int)) (nm := bys name) (.inr (.inr (by rw [HCL.out]; exact hge'))))
    unfold FindSays
    rw [HF.out]
    clear hc HCD hge
    generalize codeR (partsB (bys name)) = cd at *
    go_enter Tryz.func25, Tryz.ntmps25
    go_wp2_with
      (go_at_call 20; (with_reducible refine (HN _ (HG.out.ext (Ext.alloc _ _))).mono ?_); rintro e w1 ⟨rfl, hx1⟩; have HB1 := hid (HB0.out.later hx1); have a0 := HB1.out.cell (i := 0) rfl; have a1 := HB1.out.cell (i := 1) rfl; clear hx1)
    go_ret2
    exact ⟨rfl, HB1.out.ext⟩
  have hlt : k < n := by omega
  have hge' : ¬ (n : Int) ≤ (k : Int) := by omega
  have hk0 : decide ((k : Int) < 0) = false := decide_eq_false (by omega)
  have hk1 : decide (n ≤ k) = false := decide_eq_false (by omega)
  obtain ⟨b1, o1, v1, x1, rfl, g1, -, ⟨A1, n1, c1, rfl, r1⟩, q1⟩ := HR.out.at_ hlt
  have e1 := q1 0 _ rfl
  simp only [Elem.srw, Elem.slc, Nat.add_zero, Nat.mul_one] at e1
  have E1 := hid e1
  have R1 := hid r1
  have Hg1 := hid g1
  have hn1 : n1 ≤ 9223372036854775807 := by have := r1.cap; have := r1.most; simp only [maxLen] at this; omega
  have HL1 : Hid (n1 ≤ 4000000) := by show _ ≤ _; rw [r1.len]; exact HSL.out x1 (List.mem_of_getElem? g1)
  have HFS : Hid (¬ deepF (cutsOf x1) (bys name) < 0 → findF (rtOf s t) (k : Int) (bys name) = (deepF (cutsOf x1) (bys name), deepF (((srvAt (rtOf s t) (k : Int))[(deepF (cutsOf x1) (bys name)).toNat]?.map (·.2)).getD []) (bys name))) := fun h => by
    rw [find_some (by rw [HCL.out]; rintro (h | h | h); exact h HCD.out; omega; omega) (by rw [cuts_of g1]; exact h), cuts_of g1]
  have HFN : Hid (deepF (cutsOf x1) (bys name) < 0 → findF (rtOf s t) (k : Int) (bys name) = (-1, -1)) := fun h => find_none (by rw [cuts_of g1]; exact h)
  have HDR := hid (deepF_range (cutsOf x1) (bys name))
  have HLC : Hid ((cutsOf x1).length = n1) := by show _ = _; rw [r1.len]; simp [cutsOf]
  clear hc HCD hge g1 r1 q1 e1 hneg
  unfold FindSays
  generalize codeR (partsB (bys name)) = cd at *
  go_enter Tryz.func25, Tryz.ntmps25
  have E2 := hid (fun w' hx => cell_later E1.out w' hx)
  go_wp2_with
    (go_at_call 20; (with_reducible refine (HN _ (HG.out.ext (Ext.alloc _ _))).mono ?_); rintro e w1 ⟨rfl, hx1⟩; have HB1 := hid (HB0.out.later hx1); have a0 := HB1.out.cell (i := 0) rfl; have a1 := HB1.out.cell (i := 1) rfl; have a2 := E2.out _ HB1.out.ext; clear hx1)
  clear a0 a1 a2
  go_loopw [10, 38] (fun v i wr => ∃ j : Nat, j ≤ n1 ∧ i = .int .i64 j ∧ Hid (GrowR Elem.cut 69 none w1 wr v (cutsOf (x1.take j)))) (fun _ i _ => n1 - (intOf i).toNat)
  case atStart => exact ⟨0, by omega, rfl, GrowR.nil (Ext.refl _) (fun g hg => by cases hg)⟩
  case round =>
    obtain ⟨j, hj, rfl, HGR⟩ := hrel
    have HXR := hid (HB1.out.ext.trans HGR.out.ext)
    by_cases hlt2 : j < n1
    · obtain ⟨b2, o2, v2, x2, rfl, g2, -, ⟨A2, n2, c2, B2, m2, d2, rfl, r2, s2⟩, q2⟩ := (R1.out.ext HXR.out).at_ hlt2
      have e20 := q2 0 _ rfl
      have e21 := q2 1 _ rfl
      have e22 := q2 2 _ rfl
      simp only [Elem.cxt, Nat.add_zero] at e20 e21 e22
      have Hg2 := hid g2
      clear q2 g2 r2 s2
      have HTK : Hid (cutsOf (x1.take (j + 1)) = cutsOf (x1.take j) ++ [⟨x2.name, 0⟩]) := by show _ = _; rw [List.take_add_one, Hg2.out]; simp [cutsOf]
      have HLT : Hid ((cutsOf (x1.take j)).length ≤ 4000000) := by show _ ≤ _; unfold cutsOf; rw [List.length_map, List.length_take]; have := HL1.out; omega
      generalize x2.name = nm2 at *
      go_wp2_with (at_builtin; refine append_el Tryz.underlying32 infoCut rfl (by decide) rfl _ _ rfl _ _ rfl (HGR.out.later (Ext.alloc _ _)) (u := [.string nm2, .int .i64 0]) ⟨nm2, 0⟩ rfl (by intro c hc; simp at hc; rcases hc with rfl | rfl <;> rfl) rfl (by simp) HLT.out ?_; intro v' w3 hg3 _ _; have HG3 := hid hg3; clear hg3)
      exact ⟨⟨j + 1, by omega, by go_num, by rw [HTK.out]; exact HG3⟩, by simp [intOf]; omega⟩
    · obtain rfl : j = n1 := by omega
      have hgr := HGR.out
      rw [List.take_of_length_le (Nat.le_of_eq R1.out.len.symm)] at hgr
      obtain ⟨A3, c3, rfl, hr3⟩ := hgr.row
      have HR3 := hid hr3
      have HGX := hid hgr.ext
      clear hgr hr3 HGR
      have HDQ : Calls Tryz.prog 26 #[.slice A3 (cutsOf x1).length c3, .string name] wr fun e w' => e = .returned (.int .i64 (deepF (cutsOf x1) (bys name))) ∧ Ext wr w' := HDP _ _ _ _ _ _ (HG.out.ext HXR.out) HR3.out
      by_cases hd : deepF (cutsOf x1) (bys name) < 0
      · have HF := hid (HFN.out hd)
        generalize deepF (cutsOf x1) (bys name) = dp at *
        go_wp2_with (go_at_call 26; (with_reducible refine HDQ.mono ?_); rintro e w4 ⟨rfl, hx4⟩; have HX4 := hid (HXR.out.trans hx4); clear hx4)
        go_ret2
        exact ⟨by rw [HF.out]; (try rfl), HX4.out⟩
      · have hfs := HFS.out (by omega)
        have hdr := HDR.out
        rw [HLC.out] at hdr
        obtain ⟨q, hq⟩ : ∃ q : Nat, deepF (cutsOf x1) (bys name) = (q : Int) := ⟨(deepF (cutsOf x1) (bys name)).toNat, by omega⟩
        have hqn : q < j := by omega
        rw [hq] at HDQ hfs
        simp only [Int.toNat_natCast] at hfs
        obtain ⟨b5, o5, v5, x5, hA5, g5, -, ⟨A5, n5, c5, B5, m5, d5, rfl, r5, s5⟩, q5⟩ := R1.out.at_ hqn
        subst hA5
        have HSB := hid (subs_of (t := t) Hg1.out g5)
        have E5 := hid (q5 2 _ rfl)
        have S5 := hid s5
        rw [HSB.out] at hfs
        have HF := hid hfs
        have HD5 : ∀ w', Ext w w' → Calls Tryz.prog 26 #[.slice B5 m5 d5, .string name] w' fun e w'' => e = .returned (.int .i64 (deepF x5.subs (bys name))) ∧ Ext w' w'' := fun w' hx => HDP _ _ _ _ _ _ (HG.out.ext hx) (S5.out.ext hx)
        have tq : ¬ ((q : Int) < 0) := by omega
        clear hd hq hdr hfs HDP g5 r5 s5 q5 HFS HFN HDR
        generalize deepF x5.subs (bys name) = d9 at *
        go_wp2_with (go_at_call 26; first
          | ((with_reducible refine HDQ.mono ?_); rintro e w4 ⟨rfl, hx4⟩; have HX4 := hid (HXR.out.trans hx4); have z0 := cell_later (HB1.out.cell (i := 0) rfl) _ (HGX.out.trans hx4); have z1 := E2.out _ HX4.out; have z2 := cell_later E5.out _ HX4.out; simp only [Elem.cxt] at z2; clear hx4)
          | ((with_reducible refine (HD5 _ HX4.out).mono ?_); rintro e w5 ⟨rfl, hx5⟩; have HX5 := hid (HX4.out.trans hx5); clear hx5))
        go_ret2
        exact ⟨by rw [HF.out]; (try rfl), HX5.out⟩
def HeldSays (w : World) (r : Int × Bool) (e : Ending) (w' : World) : Prop := e = .returned (.tuple #[.int .i64 r.1, .bool r.2]) ∧ Ext w w'
set_option maxHeartbeats 1000000 in
theorem held_any {S : Nat → Prop} {w : World} {A : Option Addr} {n c : Nat} {B : Option Addr} {m d : Nat} {s : List (List Cxt)} {t : List CutR} (h : CfgAt S w A n c B m d s t) (hG : Gl w) (server : Int) (name : ByteArray) (hs : ∀ l ∈ s, l.length ≤ 4000000) :
    Calls Tryz.prog 21 #[.agg #[.slice A n c, .slice B m d], .int .i64 server, .string name] w (HeldSays w (heldF (rtOf s t) server (bys name))) := by
  have HFI : ∀ w', Ext w w' → Calls Tryz.prog 25 #[.agg #[.slice A n c, .slice B m d], .int .i64 server, .string name] w' (FindSays w' (findF (rtOf s t) server (bys name))) := fun w' hx => find_route_any (h.ext hx) (hG.ext hx) server name hs
  have HD : Hid (heldF (rtOf s t) server (bys name) = if (findF (rtOf s t) server (bys name)).1 < 0 ∨ 0 ≤ (findF (rtOf s t) server (bys name)).2 then (0, false) else ((findF (rtOf s t) server (bys name)).1, true)) := rfl
  unfold FindSays at HFI
  unfold HeldSays
  clear h hG hs
  generalize heldF (rtOf s t) server (bys name) = R at *
  generalize findF (rtOf s t) server (bys name) = q at *
  obtain ⟨q1, q2⟩ := q
  simp only at HFI HD
  by_cases h1 : q1 < 0
  · rw [if_pos (.inl h1)] at HD
    go_enter Tryz.func21, Tryz.ntmps21
    go_wp2_with (go_at_call 25; (with_reducible refine (HFI _ (Ext.alloc _ _)).mono ?_); rintro e w1 ⟨rfl, hx1⟩; have HX1 := hid ((Ext.alloc _ _).trans hx1); clear hx1)
    go_ret2
    exact ⟨by rw [HD.out]; (try rfl), HX1.out⟩
  · by_cases h2 : 0 ≤ q2
    · rw [if_pos (.inr h2)] at HD
      go_enter Tryz.func21, Tryz.ntmps21
      go_wp2_with (go_at_call 25; (with_reducible refine (HFI _ (Ext.alloc _ _)).mono ?_); rintro e w1 ⟨rfl, hx1⟩; have HX1 := hid ((Ext.alloc _ _).trans hx1); clear hx1)
      go_ret2
      exact ⟨by rw [HD.out]; (try rfl), HX1.out⟩
    · rw [if_neg (by rintro (h | h); exact h1 h; exact h2 h)] at HD
      go_enter Tryz.func21, Tryz.ntmps21
      go_wp2_with (go_at_call 25; (with_reducible refine (HFI _ (Ext.alloc _ _)).mono ?_); rintro e w1 ⟨rfl, hx1⟩; have HX1 := hid ((Ext.alloc _ _).trans hx1); clear hx1)
      go_ret2
      exact ⟨by rw [HD.out]; (try rfl), HX1.out⟩
end Go.Proofs.YtlckfnchabfcaaaGreatDoor
