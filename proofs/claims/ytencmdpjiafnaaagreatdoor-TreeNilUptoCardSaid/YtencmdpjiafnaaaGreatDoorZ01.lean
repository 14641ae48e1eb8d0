import Derived.WalkKit
import Derived.OrdersHeld
import Derived.Tactics
/- A region that draws its order, sequentialised: operations that only read may be taken as soon as they can come up, because what they yield stays as it is in every later world (new blocks, nothing old written); the others come in the order in which they must. One walk of a plan serves every order. -/
namespace Go.Proofs.YtencmdpjiafnaaaGreatDoor
open Go.RowKit

/-- w' is w with new blocks: nothing that was there has turned. -/
def Ext (w w' : World) : Prop := Below w.heap.size w w'
theorem Ext.refl (w : World) : Ext w w := Below.refl _ _
theorem Ext.trans {a b c : World} (h : Ext a b) (k : Ext b c) : Ext a c := Below.trans h (Below.mono k h.size)
theorem Ext.drew (w : World) : Ext w w.drew := (Below.refl _ _).drew
theorem Ext.alloc (w : World) (o : Obj) : Ext w (w.alloc o) := (Below.refl _ _).alloc (Nat.le_refl _) o

/-- Nothing but what goes on. -/
def noExit : Exit → Act → World → Prop := fun _ _ _ => False

section
variable {P : Program} {ops : Array Oper} {md : Region.Mode} {Q : Act → World → Prop}

theorem wp_of_noExit {o : Oper} {a : Act} {w : World} {K : Act → World → Prop} {R : Exit → Act → World → Prop} (h : o.wp P a w K noExit) : o.wp P a w K R := by
  unfold Oper.wp at *
  generalize (execOp a.eval o).run P w = r at *
  cases r with
  | ok n w' =>
    cases n <;> simp only [Oper.upon] at h ⊢ <;> first | exact h | skip
    refine Calls.mono h fun e w'' he => ?_
    cases e with
    | returned v => exact he
    | panicked c => exact False.elim he
    | outgrown => obtain ⟨_, _, hf⟩ := he; exact False.elim hf
  | halt x w' => cases x <;> simp only [Oper.upon] at h ⊢ <;> first | exact h | exact False.elim h

/-- One operation of the region comes up; it neither panics nor runs out of room. -/
def comesUp (P : Program) (ops : Array Oper) (o : Oper) (K : Act → World → Prop) (a : Act) (w : World) : Prop :=
  if Region.wanted o (yielded ops a.tmps) then o.wp P a w K noExit else K (a.put o.dst undef) w

theorem comesUp.mono {o : Oper} {K K' : Act → World → Prop} {a : Act} {w : World} (h : comesUp P ops o K a w) (hk : ∀ a w, K a w → K' a w) : comesUp P ops o K' a w := by
  unfold comesUp at *
  split
  · rename_i hw; rw [if_pos hw] at h; exact Oper.wp_mono hk h
  · rename_i hw; rw [if_neg hw] at h; exact hk _ _ h

/-- What an operation yields in every later world. -/
def stays (P : Program) (ops : Array Oper) (o : Oper) (v : Value) (a : Act) (w : World) : Prop :=
  (Region.wanted o (yielded ops a.tmps) = true ∧ ∀ w', Ext w w' → (execOp a.eval o).run P w' = .ok (.value v) w') ∨
  (Region.wanted o (yielded ops a.tmps) = false ∧ v = undef)

theorem stays.comesUp {o : Oper} {v : Value} {a : Act} {w : World} {K : Act → World → Prop} (h : stays P ops o v a w) (hk : K (a.put o.dst v) w) : comesUp P ops o K a w := by
  unfold Go.Proofs.YtencmdpjiafnaaaGreatDoor.comesUp
  rcases h with ⟨hw, hv⟩ | ⟨hw, rfl⟩
  · rw [if_pos hw]; unfold Oper.wp; rw [hv w (Ext.refl w)]; exact hk
  · rw [if_neg (by simp [hw])]; exact hk
theorem stays.later {o : Oper} {v : Value} {a : Act} {w w' : World} (h : stays P ops o v a w) (hx : Ext w w') : stays P ops o v a w' := by
  rcases h with ⟨hw, hv⟩ | h
  · exact .inl ⟨hw, fun w2 h2 => hv w2 (hx.trans h2)⟩
  · exact .inr h
theorem stays.same {o : Oper} {v : Value} {a a' : Act} {w : World} (h : stays P ops o v a w) (he : execOp a'.eval o = execOp a.eval o)
    (hw : Region.wanted o (yielded ops a'.tmps) = Region.wanted o (yielded ops a.tmps)) : stays P ops o v a' w := by
  unfold stays at *
  rw [he, hw]
  exact h

/-- Whatever order is picked from here on, each step only adding to the world. -/
def anyOrder (P : Program) (md : Region.Mode) (ops : Array Oper) (Q : Act → World → Prop) : Nat → Array Bool → Act → World → Prop
  | 0, listed, a, w => Region.ready md ops listed = [] ∧ Q a w
  | fuel + 1, listed, a, w => (Region.ready md ops listed = [] → Q a w) ∧
    ∀ i ∈ Region.ready md ops listed, ∀ o, ops[i]? = some o → comesUp P ops o (fun a' w' => Ext w w' ∧ anyOrder P md ops Q fuel (listed.setIfInBounds i true) a' w') a w

theorem anyOrder.wpAny {R : Exit → Act → World → Prop} (hQ : ∀ a w, Q a w → R .normal a w) :
    ∀ (fuel : Nat) (listed : Array Bool) (a : Act) (w : World), anyOrder P md ops Q fuel listed a w → Go.wpAny P md ops R fuel listed a w
  | 0, _, _, _, h => ⟨h.1, hQ _ _ h.2⟩
  | fuel + 1, listed, a, w, h => by
    refine ⟨fun h0 => hQ _ _ (h.1 h0), fun i hi => ?_⟩
    obtain ⟨_, o, ho, _⟩ := mem_ready.1 hi
    have h1 := h.2 i hi o ho
    unfold comesUp at h1
    unfold wpOp
    simp only [ho]
    split
    · rename_i hw
      rw [if_pos hw] at h1
      exact .inl (wp_of_noExit (Oper.wp_mono (fun a' w' hh => anyOrder.wpAny hQ fuel _ a' w' hh.2) h1))
    · rename_i hw
      rw [if_neg hw] at h1
      exact anyOrder.wpAny hQ fuel _ _ _ h1.2

/-- Another operation, apart from it, comes up before it: it makes no difference. -/
theorem comesUp_before {oi oj : Oper} {v : Value} (hap : oi.apart ops oj = true) (hsi : ∀ cs b, oi.op ≠ .select cs b) (hsj : ∀ cs b, oj.op ≠ .select cs b)
    {K : Act → World → Prop} {a : Act} {w : World}
    (h : comesUp P ops oj K (a.put oi.dst v) w) :
    comesUp P ops oj (fun a' w' => (∀ w0, stays P ops oi v a w0 → stays P ops oi v a' w0) ∧ K (a'.put oi.dst v) w') a w := by
  obtain ⟨h1, h2, h3⟩ := Oper.apart_spec hap
  have keep : ∀ (b : Act) (u : Value), b.eval = a.eval → b.tmps = a.tmps → ∀ w0, stays P ops oi v a w0 → stays P ops oi v (b.put oj.dst u) w0 := fun b u hb ht w0 hs =>
    (hs.same (a' := b) (by rw [hb]) (by rw [ht])).same (execOp_put oi hsi b oj.dst u h3) (wanted_put oi b oj.dst u h3)
  unfold comesUp at *
  rw [wanted_put oj a oi.dst v h1] at h
  split
  · rename_i hw
    rw [if_pos hw] at h
    unfold Oper.wp at *
    rw [execOp_put oj hsj a oi.dst v h1] at h
    generalize (execOp a.eval oj).run P w = r at *
    cases r with
    | ok n w' =>
      cases n <;> simp only [Oper.upon] at h ⊢
      case value u => exact ⟨keep a u rfl rfl, by rw [← Act.put_comm a v u h2]; exact h⟩
      case skip => exact ⟨keep a _ rfl rfl, by rw [← Act.put_comm a v undef h2]; exact h⟩
      case defer d => exact ⟨keep { a with defers := d :: a.defers } _ rfl rfl, by rw [← Act.put_comm _ v undef h2, ← Act.put_defers]; exact h⟩
      case enter f args =>
        refine Calls.mono h fun e w'' he => ?_
        cases e with
        | returned u => exact ⟨keep a u rfl rfl, by rw [← Act.put_comm a v u h2]; exact he⟩
        | panicked c => exact he
        | outgrown => exact he
      case row row args => exact Rows.mono h fun u w'' he => ⟨keep a u rfl rfl, by rw [← Act.put_comm a v u h2]; exact he⟩
    | halt x w' => cases x <;> simp only [Oper.upon] at h ⊢ <;> exact h
  · rename_i hw
    rw [if_neg hw] at h
    exact ⟨keep a _ rfl rfl, by rw [← Act.put_comm a v undef h2]; exact h⟩

theorem anyOrder_first {i : Nat} {oi : Oper} {v : Value} (hi : ops[i]? = some oi) (hsel : ∀ (j : Nat) (o : Oper) cs b, ops[j]? = some o → o.op ≠ .select cs b) :
    ∀ (fuel : Nat) (listed : Array Bool) (a : Act) (w : World),
      (∀ j oj, ops[j]? = some oj → j ≠ i → listed.getD j true = false → (∀ e ∈ oj.after, Region.binds md e = true → e.on ≠ i) → oi.apart ops oj = true) →
      i ∈ Region.ready md ops listed → stays P ops oi v a w →
      anyOrder P md ops Q fuel (listed.setIfInBounds i true) (a.put oi.dst v) w → anyOrder P md ops Q (fuel + 1) listed a w := by
  intro fuel
  induction fuel with
  | zero =>
    intro listed a w _ hr hy H
    refine ⟨fun h => (by rw [h] at hr; cases hr), fun j hj o ho => ?_⟩
    by_cases hji : j = i
    · subst hji
      have : o = oi := by rw [hi] at ho; exact (Option.some.inj ho).symm
      subst this
      exact hy.comesUp ⟨Ext.refl w, H⟩
    · have := ready_mono hj hji
      rw [H.1] at this
      cases this
  | succ fuel ih =>
    intro listed a w hfree hr hy H
    refine ⟨fun h => (by rw [h] at hr; cases hr), fun j hj oj hoj => ?_⟩
    by_cases hji : j = i
    · subst hji
      have : oj = oi := by rw [hi] at hoj; exact (Option.some.inj hoj).symm
      subst this
      exact hy.comesUp ⟨Ext.refl w, H⟩
    · have h1 := H.2 j (ready_mono hj hji) oj hoj
      obtain ⟨hjun, oj', hoj', hall⟩ := mem_ready.1 hj
      have : oj' = oj := by rw [hoj] at hoj'; exact (Option.some.inj hoj').symm
      subst this
      have hnot : ∀ e ∈ oj'.after, Region.binds md e = true → e.on ≠ i := fun e he hb heq => by
        have h1 := hall e he hb
        have h0 := (mem_ready.1 hr).1
        rw [heq] at h1
        rcases Nat.lt_or_ge i listed.size with h' | h'
        · simp [h'] at h0 h1; rw [h0] at h1; cases h1
        · simp [Array.getElem?_eq_none h'] at h1
      have h2 := comesUp_before (hfree j oj' hoj hji hjun hnot) (fun cs b => hsel i oi cs b hi) (fun cs b => hsel j oj' cs b hoj) h1
      have hfree' : ∀ k ok, ops[k]? = some ok → k ≠ i → (listed.setIfInBounds j true).getD k true = false →
          (∀ e ∈ ok.after, Region.binds md e = true → e.on ≠ i) → oi.apart ops ok = true := fun k ok hk hki hun hno => by
        refine hfree k ok hk hki ?_ hno
        by_cases hjk : j = k
        · subst hjk; exact hjun
        · rw [getD_set_ne true hjk] at hun; exact hun
      refine h2.mono fun a' w' h3 => ⟨h3.2.1, ih (listed.setIfInBounds j true) a' w' hfree' (ready_mono hr (Ne.symm hji)) ((h3.1 w hy).later h3.2.1) ?_⟩
      rw [Array.setIfInBounds_comm _ _ hji]
      exact h3.2.2

/-- A plan: which operation comes next; where several may come up, none of which can be taken ahead: each of them. -/
inductive Plan where
  | done
  | read (i : Nat) (p : Plan)
  | main (i : Nat) (p : Plan)
  | alt (i : Nat) (p : Plan) (q : Plan)

/-- The operations with which the plan's alternatives begin. -/
def Plan.heads : Plan → List Nat
  | .main i _ => [i]
  | .alt i _ q => i :: q.heads
  | _ => []

/-- Does the plan serve every order? ('inAlt': the heads have been held against what may come up already.) -/
def Plan.fits (md : Region.Mode) (ops : Array Oper) : Bool → Plan → Array Bool → Bool
  | inAlt, .done, listed => !inAlt && (Region.ready md ops listed).isEmpty
  | inAlt, .read i p, listed => !inAlt && (Region.ready md ops listed).contains i && Region.free md ops listed i && Plan.fits md ops false p (listed.setIfInBounds i true)
  | inAlt, .main i p, listed => (inAlt || Region.ready md ops listed == [i]) && Plan.fits md ops false p (listed.setIfInBounds i true)
  | inAlt, .alt i p q, listed => (inAlt || Region.ready md ops listed == i :: q.heads) && Plan.fits md ops false p (listed.setIfInBounds i true) && Plan.fits md ops true q listed

def Plan.size : Plan → Nat
  | .done => 0
  | .read _ p | .main _ p => p.size + 1
  | .alt _ p q => max (p.size + 1) q.size

/-- The walk of a plan. -/
def walks (P : Program) (ops : Array Oper) (Q : Act → World → Prop) : Plan → Act → World → Prop
  | .done, a, w => Q a w
  | .read i p, a, w => ∃ o v, ops[i]? = some o ∧ stays P ops o v a w ∧ walks P ops Q p (a.put o.dst v) w
  | .main i p, a, w => ∃ o, ops[i]? = some o ∧ comesUp P ops o (fun a' w' => Ext w w' ∧ walks P ops Q p a' w') a w
  | .alt i p q, a, w => (∃ o, ops[i]? = some o ∧ comesUp P ops o (fun a' w' => Ext w w' ∧ walks P ops Q p a' w') a w) ∧ walks P ops Q q a w

theorem anyOrder_done {listed : Array Bool} {a : Act} {w : World} (hr : Region.ready md ops listed = []) (h : Q a w) : ∀ fuel, anyOrder P md ops Q fuel listed a w
  | 0 => ⟨hr, h⟩
  | _ + 1 => ⟨fun _ => h, by rw [hr]; simp⟩

theorem heads_ne {p : Plan} {listed : Array Bool} (h : p.fits md ops true listed = true) : ∃ i r, p.heads = i :: r := by
  cases p with
  | done => simp [Plan.fits] at h
  | read i p => simp [Plan.fits] at h
  | main i p => exact ⟨_, _, rfl⟩
  | alt i p q => exact ⟨_, _, rfl⟩

theorem anyOrder_of_plan (hs : Region.noSelect ops = true) : ∀ (fuel : Nat) (p : Plan),
    (∀ (listed : Array Bool) (a : Act) (w : World), p.size ≤ fuel → p.fits md ops false listed = true → walks P ops Q p a w → anyOrder P md ops Q fuel listed a w) ∧
    (∀ (listed : Array Bool) (a : Act) (w : World), p.size ≤ fuel + 1 → p.fits md ops true listed = true → walks P ops Q p a w →
      ∀ i ∈ p.heads, ∀ o, ops[i]? = some o → comesUp P ops o (fun a' w' => Ext w w' ∧ anyOrder P md ops Q fuel (listed.setIfInBounds i true) a' w') a w) := by
  have one : ∀ (fuel : Nat) (i : Nat) (p : Plan) (listed : Array Bool) (a : Act) (w : World),
      (∀ (a : Act) (w : World), walks P ops Q p a w → anyOrder P md ops Q fuel (listed.setIfInBounds i true) a w) →
      (∃ o, ops[i]? = some o ∧ comesUp P ops o (fun a' w' => Ext w w' ∧ walks P ops Q p a' w') a w) →
      ∀ o, ops[i]? = some o → comesUp P ops o (fun a' w' => Ext w w' ∧ anyOrder P md ops Q fuel (listed.setIfInBounds i true) a' w') a w := by
    intro fuel i p listed a w ih ⟨o, ho, hc⟩ o' ho'
    have : o' = o := by rw [ho] at ho'; exact (Option.some.inj ho').symm
    subst this
    exact hc.mono fun a' w' hh => ⟨hh.1, ih a' w' hh.2⟩
  have second : ∀ (fuel : Nat), (∀ (p : Plan) (listed : Array Bool) (a : Act) (w : World), p.size ≤ fuel → p.fits md ops false listed = true → walks P ops Q p a w → anyOrder P md ops Q fuel listed a w) →
      ∀ (p : Plan) (listed : Array Bool) (a : Act) (w : World), p.size ≤ fuel + 1 → p.fits md ops true listed = true → walks P ops Q p a w →
      ∀ i ∈ p.heads, ∀ o, ops[i]? = some o → comesUp P ops o (fun a' w' => Ext w w' ∧ anyOrder P md ops Q fuel (listed.setIfInBounds i true) a' w') a w := by
    intro fuel ih p
    induction p with
    | done => intro _ _ _ _ hf; simp [Plan.fits] at hf
    | read i p _ => intro _ _ _ _ hf; simp [Plan.fits] at hf
    | main i p _ =>
      intro listed a w hz hf hw j hj
      simp only [Plan.fits, Bool.true_or, Bool.true_and] at hf
      simp only [Plan.heads, List.mem_singleton] at hj
      subst hj
      exact one fuel j p listed a w (fun a' w' hh => ih p _ a' w' (by simp [Plan.size] at hz; omega) hf hh) hw
    | alt i p q _ ihq =>
      intro listed a w hz hf hw j hj
      simp only [Plan.fits, Bool.true_or, Bool.true_and, Bool.and_eq_true] at hf
      simp only [Plan.size] at hz
      simp only [Plan.heads, List.mem_cons] at hj
      rcases hj with hj | hj
      · subst hj
        exact one fuel j p listed a w (fun a' w' hh => ih p _ a' w' (by omega) hf.1 hh) hw.1
      · exact ihq listed a w (by omega) hf.2 hw.2 j hj
  have first : ∀ (fuel : Nat) (p : Plan) (listed : Array Bool) (a : Act) (w : World), p.size ≤ fuel → p.fits md ops false listed = true → walks P ops Q p a w → anyOrder P md ops Q fuel listed a w := by
    intro fuel
    induction fuel with
    | zero =>
      intro p listed a w hz hf hw
      cases p with
      | done => exact anyOrder_done (by simpa [Plan.fits] using hf) hw 0
      | read i p => simp [Plan.size] at hz
      | main i p => simp [Plan.size] at hz
      | alt i p q => simp [Plan.size] at hz
    | succ fuel ih =>
      intro p listed a w hz hf hw
      cases p with
      | done => exact anyOrder_done (by simpa [Plan.fits] using hf) hw _
      | read i p =>
        simp only [Plan.fits, Bool.not_false, Bool.true_and, Bool.and_eq_true] at hf
        obtain ⟨o, v, ho, hy, hw'⟩ := hw
        exact anyOrder_first ho (Region.noSelect_spec hs) fuel listed a w (Region.free_spec ho hf.1.2) (by simpa using hf.1.1) hy (ih p _ _ _ (by simp [Plan.size] at hz; omega) hf.2 hw')
      | main i p =>
        have hf0 := hf
        simp only [Plan.fits, Bool.false_or, Bool.and_eq_true, beq_iff_eq] at hf
        refine ⟨fun h0 => (by rw [hf.1] at h0; cases h0), fun j hj => ?_⟩
        rw [hf.1] at hj
        exact second fuel ih (.main i p) listed a w hz (by simp only [Plan.fits, Bool.true_or, Bool.true_and]; exact hf.2) hw j hj
      | alt i p q =>
        simp only [Plan.fits, Bool.false_or, Bool.and_eq_true, beq_iff_eq] at hf
        refine ⟨fun h0 => (by rw [hf.1.1] at h0; cases h0), fun j hj => ?_⟩
        rw [hf.1.1] at hj
        exact second fuel ih (.alt i p q) listed a w hz (by simp only [Plan.fits, Bool.true_or, Bool.true_and, Bool.and_eq_true]; exact ⟨hf.1.2, hf.2⟩) hw j hj
  intro fuel p
  exact ⟨first fuel p, second fuel (first fuel) p⟩

/-- THE REGION, BY A PLAN. -/
theorem wp_region_plan {id : Nat} {R : Exit → Act → World → Prop} {a : Act} {w : World} (p : Plan) (hm : P.follows .mixedOrders = true)
    (hf : (Region.noSelect ops && p.fits .any ops false (Array.replicate ops.size false) && decide (p.size ≤ ops.size)) = true)
    (h : ∀ wD, Ext w wD → walks P ops (R .normal) p a wD) : (Code.region id ops true).wp P R a w := by
  simp only [Bool.and_eq_true, decide_eq_true_eq] at hf
  exact wp_region_any hm (anyOrder.wpAny (Q := R .normal) (fun _ _ hq => hq) _ _ _ _ ((anyOrder_of_plan (md := .any) hf.1.1 ops.size p).1 _ _ _ hf.2 hf.1.2 (h w.drew (Ext.drew w))))

/-! The steps of the walk. -/
theorem walks_done {a : Act} {w : World} (h : Q a w) : walks P ops Q .done a w := h
theorem walks_read {i : Nat} {p : Plan} {a : Act} {w : World} {d : Option Tmp} {op : Op} {ty : TypeId} {pos : String} {af : Array Edge} {gd : Option (Nat × Bool)} {v : Value}
    (ho : ops[i]? = some ⟨d, op, ty, pos, af, gd⟩) (hw : Region.wanted ⟨d, op, ty, pos, af, gd⟩ (yielded ops a.tmps) = true)
    (hv : ∀ w', Ext w w' → (execOp a.eval ⟨d, op, ty, pos, af, gd⟩).run P w' = .ok (.value v) w') (h : walks P ops Q p (a.put d v) w) : walks P ops Q (.read i p) a w := ⟨_, v, ho, .inl ⟨hw, hv⟩, h⟩
theorem walks_skip {i : Nat} {p : Plan} {a : Act} {w : World} {d : Option Tmp} {op : Op} {ty : TypeId} {pos : String} {af : Array Edge} {gd : Option (Nat × Bool)}
    (ho : ops[i]? = some ⟨d, op, ty, pos, af, gd⟩) (hw : Region.wanted ⟨d, op, ty, pos, af, gd⟩ (yielded ops a.tmps) = false)
    (h : walks P ops Q p (a.put d undef) w) : walks P ops Q (.read i p) a w := ⟨_, undef, ho, .inr ⟨hw, rfl⟩, h⟩
theorem walks_move {i : Nat} {p : Plan} {a : Act} {w : World} {d : Option Tmp} {x : Operand} {ty : TypeId} {pos : String} {af : Array Edge} {gd : Option (Nat × Bool)}
    (ho : ops[i]? = some ⟨d, .move x, ty, pos, af, gd⟩) (hw : Region.wanted ⟨d, .move x, ty, pos, af, gd⟩ (yielded ops a.tmps) = true)
    (h : walks P ops Q p (a.put d (a.eval x)) w) : walks P ops Q (.read i p) a w := walks_read ho hw (fun _ _ => by simp [execOp]) h
theorem walks_assign {i : Nat} {p : Plan} {a : Act} {w : World} {d : Option Tmp} {x : Operand} {ty : TypeId} {pos : String} {af : Array Edge} {gd : Option (Nat × Bool)}
    (ho : ops[i]? = some ⟨d, .assign x, ty, pos, af, gd⟩) (hw : Region.wanted ⟨d, .assign x, ty, pos, af, gd⟩ (yielded ops a.tmps) = true)
    (h : walks P ops Q p (a.put d (a.eval x)) w) : walks P ops Q (.read i p) a w := walks_read ho hw (fun _ _ => by simp [execOp]) h
theorem walks_main {i : Nat} {p : Plan} {a : Act} {w : World} {d : Option Tmp} {op : Op} {ty : TypeId} {pos : String} {af : Array Edge} {gd : Option (Nat × Bool)}
    (ho : ops[i]? = some ⟨d, op, ty, pos, af, gd⟩) (hw : Region.wanted ⟨d, op, ty, pos, af, gd⟩ (yielded ops a.tmps) = true)
    (h : ∀ K : Act → World → Prop, (∀ a' w', Ext w w' → walks P ops Q p a' w' → K a' w') → Oper.wp P ⟨d, op, ty, pos, af, gd⟩ a w K noExit) : walks P ops Q (.main i p) a w := by
  refine ⟨_, ho, ?_⟩
  unfold comesUp
  rw [if_pos hw]
  exact h _ fun _ _ h1 h2 => ⟨h1, h2⟩
theorem walks_unwanted {i : Nat} {p : Plan} {a : Act} {w : World} {d : Option Tmp} {op : Op} {ty : TypeId} {pos : String} {af : Array Edge} {gd : Option (Nat × Bool)}
    (ho : ops[i]? = some ⟨d, op, ty, pos, af, gd⟩) (hw : Region.wanted ⟨d, op, ty, pos, af, gd⟩ (yielded ops a.tmps) = false)
    (h : walks P ops Q p (a.put d undef) w) : walks P ops Q (.main i p) a w := by
  refine ⟨_, ho, ?_⟩
  unfold comesUp
  rw [if_neg (by simp [hw])]
  exact ⟨Ext.refl w, h⟩
theorem walks_alt {i : Nat} {p q : Plan} {a : Act} {w : World} (h : walks P ops Q (.main i p) a w) (h' : walks P ops Q q a w) : walks P ops Q (.alt i p q) a w := ⟨h, h'⟩
end
end Go.Proofs.YtencmdpjiafnaaaGreatDoor
/- Plain: the words of a text, as the program joins them and as the reference reads them, are the same. No program in sight. -/
namespace Go.Proofs.YtencmdpjiafnaaaGreatDoor
set_option linter.unusedSimpArgs false

/-- The pieces between blanks. -/
def splitSp (cur : List UInt8) : List UInt8 → List (List UInt8)
  | [] => [cur]
  | c :: t => if c = 32 then cur :: splitSp [] t else splitSp (cur ++ [c]) t
def joinSp : List (List UInt8) → List UInt8
  | [] => []
  | [x] => x
  | x :: y :: t => x ++ 32 :: joinSp (y :: t)
def wordsB (l : List UInt8) : List (List UInt8) := (splitSp [] l).filter (fun x => decide (x ≠ []))
/-- The reference's reading. -/
def refSq (out : List UInt8) (gap : Bool) : List UInt8 → List UInt8
  | [] => out
  | c :: t => if c = 32 then refSq out true t else refSq ((if gap && decide (out ≠ []) then out ++ [32] else out) ++ [c]) false t
theorem joinSp_snoc (ws : List (List UInt8)) (x : List UInt8) (h : ws ≠ []) : joinSp (ws ++ [x]) = joinSp ws ++ 32 :: x := by
  induction ws with
  | nil => exact absurd rfl h
  | cons y t ih =>
    cases t with
    | nil => rfl
    | cons z t =>
      have h1 := ih (by simp)
      simp only [List.cons_append, joinSp] at h1 ⊢
      rw [h1]
      simp
theorem joinSp_grow (ws : List (List UInt8)) (x : List UInt8) (c : UInt8) : joinSp (ws ++ [x ++ [c]]) = joinSp (ws ++ [x]) ++ [c] := by
  by_cases h : ws = []
  · subst h
    rfl
  · rw [joinSp_snoc ws _ h, joinSp_snoc ws _ h]
    simp
theorem joinSp_ne (ws : List (List UInt8)) (h : ws ≠ []) (hn : ∀ x ∈ ws, x ≠ []) : joinSp ws ≠ [] := by
  cases ws with
  | nil => exact absurd rfl h
  | cons x t =>
    have hx := hn x (by simp)
    cases t with
    | nil => exact hx
    | cons y t => simp [joinSp]
theorem refSq_words (l : List UInt8) : ∀ (ws : List (List UInt8)), (∀ x ∈ ws, x ≠ []) →
    (∀ cur, cur ≠ [] → refSq (joinSp (ws ++ [cur])) false l = joinSp (ws ++ (splitSp cur l).filter (fun x => decide (x ≠ [])))) ∧
    (∀ gap, (gap = true ∨ ws = []) → refSq (joinSp ws) gap l = joinSp (ws ++ (splitSp [] l).filter (fun x => decide (x ≠ [])))) := by
  induction l with
  | nil =>
    intro ws hw
    refine ⟨fun cur hc => ?_, fun gap _ => ?_⟩
    · simp [refSq, splitSp, hc]
    · simp [refSq, splitSp]
  | cons c t ih =>
    intro ws hw
    refine ⟨fun cur hc => ?_, fun gap hg => ?_⟩
    · by_cases h : c = 32
      · have h1 := (ih (ws ++ [cur]) (by intro x hx; rcases List.mem_append.1 hx with h2 | h2; exact hw x h2; simp at h2; rw [h2]; exact hc)).2 true (.inl rfl)
        simp only [refSq, splitSp, h, if_true] at h1 ⊢
        rw [h1]
        simp [hc]
      · have h1 := (ih ws hw).1 (cur ++ [c]) (by simp)
        simp only [refSq, splitSp, h, if_false, Bool.false_and, Bool.false_eq_true] at h1 ⊢
        rw [← h1, joinSp_grow]
    · by_cases h : c = 32
      · have h1 := (ih ws hw).2 true (.inl rfl)
        simp only [refSq, splitSp, h, if_true] at h1 ⊢
        rw [h1]
        simp
      · have h1 := (ih ws hw).1 [c] (by simp)
        simp only [refSq, splitSp, h, if_false, List.nil_append] at h1 ⊢
        rw [← h1]
        congr 1
        by_cases hws : ws = []
        · subst hws
          simp [joinSp]
        · have hgt : gap = true := by rcases hg with hg | hg; exact hg; exact absurd hg hws
          have hne := joinSp_ne ws hws hw
          rw [joinSp_snoc ws _ hws, hgt]
          simp [hne]
theorem words_same (l : List UInt8) : refSq [] false l = joinSp (wordsB l) := (refSq_words l [] (by simp)).2 false (.inr rfl)
/-- A zero byte stands in the words just if it stands in the text. -/
theorem mem_joinSp (z : UInt8) (hz : z ≠ 32) : ∀ ws : List (List UInt8), z ∈ joinSp ws ↔ ∃ x ∈ ws, z ∈ x
  | [] => by simp [joinSp]
  | [x] => by simp [joinSp]
  | x :: y :: t => by
    have h := mem_joinSp z hz (y :: t)
    simp only [joinSp, List.mem_append, List.mem_cons, h, hz, false_or]
    simp
theorem mem_splitSp (z : UInt8) (hz : z ≠ 32) : ∀ (l cur : List UInt8), (∃ x ∈ splitSp cur l, z ∈ x) ↔ z ∈ cur ∨ z ∈ l
  | [], cur => by simp [splitSp]
  | c :: t, cur => by
    by_cases h : c = 32
    · have h1 := mem_splitSp z hz t []
      simp only [splitSp, h, if_true]
      simp only [List.mem_cons, exists_eq_or_imp, h1]
      simp [hz]
    · have h1 := mem_splitSp z hz t (cur ++ [c])
      simp only [splitSp, h, if_false]
      rw [h1]
      simp [or_assoc]
theorem mem_words (z : UInt8) (hz : z ≠ 32) (l : List UInt8) : z ∈ joinSp (wordsB l) ↔ z ∈ l := by
  rw [mem_joinSp z hz]
  have h := mem_splitSp z hz l []
  constructor
  · rintro ⟨x, hx, hzx⟩
    have := h.1 ⟨x, (List.mem_filter.1 hx).1, hzx⟩
    simpa using this
  · intro hl
    obtain ⟨x, hx, hzx⟩ := h.2 (.inr hl)
    exact ⟨x, List.mem_filter.2 ⟨hx, by simp; rintro rfl; simp at hzx⟩, hzx⟩
end Go.Proofs.YtencmdpjiafnaaaGreatDoor
/- Plain: names. What a text is cut into, what a value reads as, what it is written as, the types and the normal forms. No program in sight. -/
namespace Go.Proofs.YtencmdpjiafnaaaGreatDoor
set_option linter.unusedSimpArgs false

/-- The pieces of a text at a byte, those behind a backslash let be; 'cur' is the piece that is under way. -/
def splitF (sep : UInt8) (cur : List UInt8) : List UInt8 → List (List UInt8)
  | [] => [cur]
  | c :: t =>
    if c = sep then cur :: splitF sep [] t
    else if c = 92 then
      match t with
      | [] => [cur ++ [92]]
      | d :: t => splitF sep (cur ++ [92, d]) t
    else splitF sep (cur ++ [c]) t
def specB (c : UInt8) : Bool := c == 44 || c == 43 || c == 34 || c == 92 || c == 60 || c == 62 || c == 59
def hexB (c : UInt8) : Option Nat :=
  if 48 ≤ c.toNat ∧ c.toNat ≤ 57 then some (c.toNat - 48)
  else if 97 ≤ c.toNat ∧ c.toNat ≤ 102 then some (c.toNat - 87)
  else if 65 ≤ c.toNat ∧ c.toNat ≤ 70 then some (c.toNat - 55)
  else none
/-- What a value's text reads as, behind its first byte's test. -/
def readF (acc : List UInt8) : List UInt8 → Option (List UInt8)
  | [] => some acc
  | c :: t =>
    if c = 92 then
      match t with
      | [] => none
      | d :: t =>
        if specB d || d == 35 || d == 61 || d == 32 then readF (acc ++ [d]) t
        else
          match t with
          | [] => none
          | e :: t =>
            match hexB d, hexB e with
            | some a, some b => readF (acc ++ [UInt8.ofNat (16 * a + b)]) t
            | _, _ => none
    else if c == 0 || specB c || (c == 32 && t.isEmpty) then none
    else readF (acc ++ [c]) t
def valueB (s : List UInt8) : Option (List UInt8) := if s.head? = some 32 ∨ s.head? = some 35 then none else readF [] s
def digitB (n : Nat) : UInt8 := if n < 10 then UInt8.ofNat (48 + n) else UInt8.ofNat (87 + n)
/-- What a value is written as: 'fst' tells that the byte is the first. -/
def writeF (fst : Bool) : List UInt8 → List UInt8
  | [] => []
  | c :: t =>
    (if (c == 32 && (fst || t.isEmpty)) || (c == 35 && fst) || specB c then [92, c]
     else if c.toNat < 32 ∨ 126 < c.toNat then [92, digitB (c.toNat / 16), digitB (c.toNat % 16)]
     else [c]) ++ writeF false t
theorem splitF_length (sep : UInt8) : ∀ (n : Nat) (cur l : List UInt8), l.length ≤ n → (splitF sep cur l).length ≤ l.length + 1 ∧ 1 ≤ (splitF sep cur l).length ∧ ((splitF sep cur l).map List.length).sum ≤ cur.length + l.length
  | _, cur, [], _ => by simp [splitF]
  | 0, cur, c :: t, h => by simp at h
  | n + 1, cur, c :: t, h => by
    simp only [List.length_cons] at h
    by_cases h1 : c = sep
    · have h2 := splitF_length sep n [] t (by omega)
      unfold splitF
      rw [if_pos h1]
      simp only [List.length_cons, List.map_cons, List.sum_cons, List.length_nil] at h2 ⊢
      omega
    · by_cases h3 : c = 92
      · cases t with
        | nil =>
          unfold splitF
          rw [if_neg h1, if_pos h3]
          simp
        | cons d t =>
          have h2 := splitF_length sep n (cur ++ [92, d]) t (by simp at h; omega)
          unfold splitF
          rw [if_neg h1, if_pos h3]
          simp only [List.length_append, List.length_cons, List.length_nil] at h2 ⊢
          omega
      · have h2 := splitF_length sep n (cur ++ [c]) t (by omega)
        unfold splitF
        rw [if_neg h1, if_neg h3]
        simp only [List.length_append, List.length_cons, List.length_nil] at h2 ⊢
        omega
theorem readF_length : ∀ (n : Nat) (acc l r : List UInt8), l.length ≤ n → readF acc l = some r → r.length ≤ acc.length + l.length
  | _, acc, [], r, _, h => by
    simp only [readF, Option.some.injEq] at h
    rw [← h]
    omega
  | 0, acc, c :: t, r, hn, _ => by simp at hn
  | n + 1, acc, c :: t, r, hn, h => by
    simp only [List.length_cons] at hn ⊢
    unfold readF at h
    by_cases h1 : c = 92
    · rw [if_pos h1] at h
      cases t with
      | nil => cases h
      | cons d t =>
        simp only [List.length_cons] at hn ⊢
        by_cases h2 : (specB d || d == 35 || d == 61 || d == 32) = true
        · simp only [h2, if_true] at h
          have h3 := readF_length n _ t r (by omega) h
          simp only [List.length_append, List.length_cons, List.length_nil] at h3
          omega
        · simp only [h2, if_false, Bool.false_eq_true] at h
          cases t with
          | nil => cases h
          | cons e t =>
            simp only [List.length_cons] at hn ⊢
            cases h4 : hexB d with
            | none => simp only [h4] at h; cases h
            | some a =>
              cases h5 : hexB e with
              | none => simp only [h4, h5] at h; cases h
              | some b =>
                simp only [h4, h5] at h
                have h3 := readF_length n _ t r (by omega) h
                simp only [List.length_append, List.length_cons, List.length_nil] at h3
                omega
    · rw [if_neg h1] at h
      by_cases h2 : (c == 0 || specB c || (c == 32 && t.isEmpty)) = true
      · rw [if_pos h2] at h
        cases h
      · rw [if_neg h2] at h
        have h3 := readF_length n _ t r (by omega) h
        simp only [List.length_append, List.length_cons, List.length_nil] at h3
        omega
theorem writeF_length : ∀ (l : List UInt8) (b : Bool), (writeF b l).length ≤ 3 * l.length
  | [], _ => by simp [writeF]
  | c :: t, b => by
    have h := writeF_length t false
    simp only [writeF, List.length_append, List.length_cons]
    split <;> (try split) <;> simp only [List.length_cons, List.length_nil] <;> omega
/-- A letter made small, both ways. -/
def loB (c : UInt8) : UInt8 := if 65 ≤ c.toNat ∧ c.toNat ≤ 90 then UInt8.ofNat (c.toNat + 32) else c
def lowerB (l : List UInt8) : List UInt8 := l.map loB
theorem lo_or : ∀ n : Nat, n < 91 → 65 ≤ n → n ||| 32 = n + 32 := by decide
/-- The normal form of a text of words. -/
def textN (v : List UInt8) : Option (List UInt8) :=
  let t := joinSp (wordsB (lowerB v))
  if t = [] ∨ (0 : UInt8) ∈ t then none else some t
theorem textN_ref (v : List UInt8) : textN v = if refSq [] false (lowerB v) = [] ∨ (0 : UInt8) ∈ lowerB v then none else some (refSq [] false (lowerB v)) := by
  unfold textN
  rw [words_same]
  simp only [mem_words 0 (by decide)]
/-- Whole numbers of at most eighteen digits, written as short as may be. -/
def intB (v : List UInt8) : Bool :=
  let neg := decide (v.head? = some 45)
  let d := if neg then v.drop 1 else v
  decide (1 ≤ d.length) && decide (d.length ≤ 18) && !(decide (d.head? = some 48) && (decide (1 < d.length) || neg)) && d.all (fun c => decide (48 ≤ c.toNat) && decide (c.toNat ≤ 57))
def normB (syntax_ : Nat) (v : List UInt8) : Option (List UInt8) :=
  if v = [] ∨ 200 < v.length then none
  else if syntax_ = 1 then textN v
  else if syntax_ = 3 then (if intB v then some v else none)
  else none
end Go.Proofs.YtencmdpjiafnaaaGreatDoor
