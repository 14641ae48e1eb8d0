/- Lemmas of the walk. -/
import Derived.WalkKit
import Derived.OrdersHeld
import Derived.Tactics
import Derived.Test.YtioglicfndkgiaaGreatDoorRows
import Derived.WalkSpells
import Derived.Maps.AppendAt
import Derived.Deep.AppendLies
import Derived.Deep.Draws
import Derived.Laws.OwnMore
import Derived.Laws.BytesArg
import Derived.ArgAppend
set_option maxHeartbeats 40000000
set_option linter.unusedVariables false
set_option linter.unusedSimpArgs false
namespace Go.Proofs.YtioglicfndkgiaaGreatDoor
open Go.RowKit
def Ext (w w' : World) : Prop:=Below w.heap.size w w'
theorem Ext.refl (w : World) : Ext w w:=Below.refl _ _
theorem Ext.trans {a b c : World} (h : Ext a b) (k : Ext b c) : Ext a c:=Below.trans h (Below.mono k h.size)
theorem Ext.drew (w : World) : Ext w w.drew:=(Below.refl _ _).drew
theorem Ext.alloc (w : World) (o : Obj) : Ext w (w.alloc o):=(Below.refl _ _).alloc (Nat.le_refl _) o
theorem evp {α : Type} : (∀ (l : List α) (i : Nat) (a : α),l.toArray.setIfInBounds i a = (l.set i a).toArray) ∧ (∀ (a b : α) (l : List α),(a :: l).set 0 b = b :: l) ∧ (∀ (a b : α) (l : List α) (n : Nat),(a :: l).set (n + 1) b = a :: l.set n b):=
 ⟨fun _ _ _=>List.setIfInBounds_toArray ..,fun _ _ _=>rfl,fun _ _ _ _=>rfl⟩
theorem evs {α : Type} : (∀ (l : List α) (i : Nat) (a : α),l.toArray.setIfInBounds i a = (l.set i a).toArray) ∧ (∀ (a b : α) (l : List α),(a :: l).set 0 b = b :: l) ∧ (∀ (a b : α) (l : List α) (n : Nat),(a :: l).set (n + 1) b = a :: l.set n b) ∧
 (∀ (x : Array α) (i : Nat) (d : α),x.getD i d = x[i]?.getD d) ∧ (∀ (l : List α) (i : Nat),l.toArray[i]? = l[i]?) ∧ (∀ (a : α) (l : List α),(a :: l)[0]? = some a) ∧ (∀ (a : α) (l : List α) (i : Nat),(a :: l)[i + 1]? = l[i]?) ∧ (∀ (a d : α),(some a).getD d = a):=
 ⟨fun _ _ _=>List.setIfInBounds_toArray ..,fun _ _ _=>rfl,fun _ _ _ _=>rfl,fun _ _ _=>Array.getD_eq_getD_getElem? ..,fun _ _=>List.getElem?_toArray ..,fun _ _=>rfl,fun _ _ _=>List.getElem?_cons_succ ..,fun _ _=>rfl⟩
def zjU : Exit → Act → World → Prop:=fun _ _ _=>False
section
variable {P : Program} {ops : Array Oper} {md : Region.Mode} {Q : Act → World → Prop}
theorem zd8 {o : Oper} {a : Act} {w : World} {K : Act → World → Prop} {R : Exit → Act → World → Prop} (h : o.wp P a w K zjU) : o.wp P a w K R:=by
 unfold Oper.wp at *
 generalize (execOp a.eval o).run P w = r at *
 cases r with
 | ok n w'=>
  cases n <;> simp only [Oper.upon] at h ⊢ <;> first | exact h | skip
  refine Calls.mono h fun e w'' he=>?_
  cases e with
  | returned v=>exact he
  | panicked c=>exact False.elim he
  | outgrown=>obtain ⟨_,_,hf⟩:=he;exact False.elim hf
 | halt x w'=>cases x <;> simp only [Oper.upon] at h ⊢ <;> first | exact h | exact False.elim h
def comesUp (P : Program) (ops : Array Oper) (o : Oper) (K : Act → World → Prop) (a : Act) (w : World) : Prop:=
 if Region.wanted o (yielded ops a.tmps) then o.wp P a w K zjU else K (a.put o.dst undef) w
theorem comesUp.mono {o : Oper} {K K' : Act → World → Prop} {a : Act} {w : World} (h : comesUp P ops o K a w) (hk : ∀ a w,K a w → K' a w) : comesUp P ops o K' a w:=by
 unfold comesUp at *
 split
 ·rename_i hw;rw [if_pos hw] at h;exact Oper.wp_mono hk h
 ·rename_i hw;rw [if_neg hw] at h;exact hk _ _ h
def stays (P : Program) (ops : Array Oper) (o : Oper) (v : Value) (a : Act) (w : World) : Prop:=
 (Region.wanted o (yielded ops a.tmps) = true ∧ ∀ w',Ext w w' → (execOp a.eval o).run P w' = .ok (.value v) w') ∨
 (Region.wanted o (yielded ops a.tmps) = false ∧ v = undef)
theorem stays.comesUp {o : Oper} {v : Value} {a : Act} {w : World} {K : Act → World → Prop} (h : stays P ops o v a w) (hk : K (a.put o.dst v) w) : comesUp P ops o K a w:=by
 unfold Go.Proofs.YtioglicfndkgiaaGreatDoor.comesUp
 rcases h with ⟨hw,hv⟩ | ⟨hw,rfl⟩
 ·rw [if_pos hw];unfold Oper.wp;rw [hv w (Ext.refl w)];exact hk
 ·rw [if_neg (by simp [hw])];exact hk
theorem stays.later {o : Oper} {v : Value} {a : Act} {w w' : World} (h : stays P ops o v a w) (hx : Ext w w') : stays P ops o v a w':=by
 rcases h with ⟨hw,hv⟩ | h
 ·exact .inl ⟨hw,fun w2 h2=>hv w2 (hx.trans h2)⟩
 ·exact .inr h
theorem stays.same {o : Oper} {v : Value} {a a' : Act} {w : World} (h : stays P ops o v a w) (he : execOp a'.eval o = execOp a.eval o)
 (hw : Region.wanted o (yielded ops a'.tmps) = Region.wanted o (yielded ops a.tmps)) : stays P ops o v a' w:=by
 unfold stays at *
 rw [he,hw]
 exact h
def anyOrder (P : Program) (md : Region.Mode) (ops : Array Oper) (Q : Act → World → Prop) : Nat → Array Bool → Act → World → Prop
 | 0,listed,a,w=>Region.ready md ops listed = [] ∧ Q a w
 | fuel + 1,listed,a,w=>(Region.ready md ops listed = [] → Q a w) ∧
  ∀ i ∈ Region.ready md ops listed,∀ o,ops[i]? = some o → comesUp P ops o (fun a' w'=>Ext w w' ∧ anyOrder P md ops Q fuel (listed.setIfInBounds i true) a' w') a w
theorem anyOrder.wpAny {R : Exit → Act → World → Prop} (hQ : ∀ a w,Q a w → R .normal a w) :
 ∀ (fuel : Nat) (listed : Array Bool) (a : Act) (w : World),anyOrder P md ops Q fuel listed a w → Go.wpAny P md ops R fuel listed a w
 | 0,_,_,_,h=>⟨h.1,hQ _ _ h.2⟩
 | fuel + 1,listed,a,w,h=>by
  refine ⟨fun h0=>hQ _ _ (h.1 h0),fun i hi=>?_⟩
  obtain ⟨_,o,ho,_⟩:=mem_ready.1 hi
  have h1:=h.2 i hi o ho
  unfold comesUp at h1
  unfold wpOp
  simp only [ho]
  split
  ·rename_i hw
   rw [if_pos hw] at h1
   exact .inl (zd8 (Oper.wp_mono (fun a' w' hh=>anyOrder.wpAny hQ fuel _ a' w' hh.2) h1))
  ·rename_i hw
   rw [if_neg hw] at h1
   exact anyOrder.wpAny hQ fuel _ _ _ h1.2
theorem zhy {oi oj : Oper} {v : Value} (hap : oi.apart ops oj = true) (hsi : ∀ cs b,oi.op ≠ .select cs b) (hsj : ∀ cs b,oj.op ≠ .select cs b)
 {K : Act → World → Prop} {a : Act} {w : World}
 (h : comesUp P ops oj K (a.put oi.dst v) w) :
 comesUp P ops oj (fun a' w'=>(∀ w0,stays P ops oi v a w0 → stays P ops oi v a' w0) ∧ K (a'.put oi.dst v) w') a w:=by
 obtain ⟨h1,h2,h3⟩:=Oper.apart_spec hap
 have keep : ∀ (b : Act) (u : Value),b.eval = a.eval → b.tmps = a.tmps → ∀ w0,stays P ops oi v a w0 → stays P ops oi v (b.put oj.dst u) w0:=fun b u hb ht w0 hs=>
  (hs.same (a':=b) (by rw [hb]) (by rw [ht])).same (execOp_put oi hsi b oj.dst u h3) (wanted_put oi b oj.dst u h3)
 unfold comesUp at *
 rw [wanted_put oj a oi.dst v h1] at h
 split
 ·rename_i hw
  rw [if_pos hw] at h
  unfold Oper.wp at *
  rw [execOp_put oj hsj a oi.dst v h1] at h
  generalize (execOp a.eval oj).run P w = r at *
  cases r with
  | ok n w'=>
   cases n <;> simp only [Oper.upon] at h ⊢
   case value u=>exact ⟨keep a u rfl rfl,by rw [← Act.put_comm a v u h2];exact h⟩
   case skip=>exact ⟨keep a _ rfl rfl,by rw [← Act.put_comm a v undef h2];exact h⟩
   case defer d=>exact ⟨keep { a with defers:=d :: a.defers } _ rfl rfl,by rw [← Act.put_comm _ v undef h2,← Act.put_defers];exact h⟩
   case enter f args=>
    refine Calls.mono h fun e w'' he=>?_
    cases e with
    | returned u=>exact ⟨keep a u rfl rfl,by rw [← Act.put_comm a v u h2];exact he⟩
    | panicked c=>exact he
    | outgrown=>exact he
   case row row args=>exact Rows.mono h fun u w'' he=>⟨keep a u rfl rfl,by rw [← Act.put_comm a v u h2];exact he⟩
  | halt x w'=>cases x <;> simp only [Oper.upon] at h ⊢ <;> exact h
 ·rename_i hw
  rw [if_neg hw] at h
  exact ⟨keep a _ rfl rfl,by rw [← Act.put_comm a v undef h2];exact h⟩
theorem zhv {i : Nat} {oi : Oper} {v : Value} (hi : ops[i]? = some oi) (hsel : ∀ (j : Nat) (o : Oper) cs b,ops[j]? = some o → o.op ≠ .select cs b) :
 ∀ (fuel : Nat) (listed : Array Bool) (a : Act) (w : World),
  (∀ j oj,ops[j]? = some oj → j ≠ i → listed.getD j true = false → (∀ e ∈ oj.after,Region.binds md e = true → e.on ≠ i) → oi.apart ops oj = true) →
  i ∈ Region.ready md ops listed → stays P ops oi v a w →
  anyOrder P md ops Q fuel (listed.setIfInBounds i true) (a.put oi.dst v) w → anyOrder P md ops Q (fuel + 1) listed a w:=by
 intro fuel
 induction fuel with
 | zero=>
  intro listed a w _ hr hy H
  refine ⟨fun h=>(by rw [h] at hr;cases hr),fun j hj o ho=>?_⟩
  by_cases hji : j = i
  ·subst hji
   have : o = oi:=by rw [hi] at ho;exact (Option.some.inj ho).symm
   subst this
   exact hy.comesUp ⟨Ext.refl w,H⟩
  ·have:=ready_mono hj hji
   rw [H.1] at this
   cases this
 | succ fuel ih=>
  intro listed a w hfree hr hy H
  refine ⟨fun h=>(by rw [h] at hr;cases hr),fun j hj oj hoj=>?_⟩
  by_cases hji : j = i
  ·subst hji
   have : oj = oi:=by rw [hi] at hoj;exact (Option.some.inj hoj).symm
   subst this
   exact hy.comesUp ⟨Ext.refl w,H⟩
  ·have h1:=H.2 j (ready_mono hj hji) oj hoj
   obtain ⟨hjun,oj',hoj',hall⟩:=mem_ready.1 hj
   have : oj' = oj:=by rw [hoj] at hoj';exact (Option.some.inj hoj').symm
   subst this
   have hnot : ∀ e ∈ oj'.after,Region.binds md e = true → e.on ≠ i:=fun e he hb heq=>by
    have h1:=hall e he hb
    have h0:=(mem_ready.1 hr).1
    rw [heq] at h1
    rcases Nat.lt_or_ge i listed.size with h' | h'
    ·simp [h'] at h0 h1;rw [h0] at h1;cases h1
    ·simp [Array.getElem?_eq_none h'] at h1
   have h2:=zhy (hfree j oj' hoj hji hjun hnot) (fun cs b=>hsel i oi cs b hi) (fun cs b=>hsel j oj' cs b hoj) h1
   have hfree' : ∀ k ok,ops[k]? = some ok → k ≠ i → (listed.setIfInBounds j true).getD k true = false →
    (∀ e ∈ ok.after,Region.binds md e = true → e.on ≠ i) → oi.apart ops ok = true:=fun k ok hk hki hun hno=>by
    refine hfree k ok hk hki ?_ hno
    by_cases hjk : j = k
    ·subst hjk;exact hjun
    ·rw [getD_set_ne true hjk] at hun;exact hun
   refine h2.mono fun a' w' h3=>⟨h3.2.1,ih (listed.setIfInBounds j true) a' w' hfree' (ready_mono hr (Ne.symm hji)) ((h3.1 w hy).later h3.2.1) ?_⟩
   rw [Array.setIfInBounds_comm _ _ hji]
   exact h3.2.2
inductive Plan where
 | done
 | read (i : Nat) (p : Plan)
 | main (i : Nat) (p : Plan)
 | alt (i : Nat) (p : Plan) (q : Plan)
def Plan.heads : Plan → List Nat
 | .main i _=>[i]
 | .alt i _ q=>i :: q.heads
 | _=>[]
def Plan.fits (md : Region.Mode) (ops : Array Oper) : Bool → Plan → Array Bool → Bool
 | inAlt,.done,listed=>!inAlt && (Region.ready md ops listed).isEmpty
 | inAlt,.read i p,listed=>!inAlt && (Region.ready md ops listed).contains i && Region.free md ops listed i && Plan.fits md ops false p (listed.setIfInBounds i true)
 | inAlt,.main i p,listed=>(inAlt || Region.ready md ops listed == [i]) && Plan.fits md ops false p (listed.setIfInBounds i true)
 | inAlt,.alt i p q,listed=>(inAlt || Region.ready md ops listed == i :: q.heads) && Plan.fits md ops false p (listed.setIfInBounds i true) && Plan.fits md ops true q listed
def Plan.size : Plan → Nat
 | .done=>0
 | .read _ p | .main _ p=>p.size + 1
 | .alt _ p q=>max (p.size + 1) q.size
def zcv (P : Program) (ops : Array Oper) (Q : Act → World → Prop) : Plan → Act → World → Prop
 | .done,a,w=>Q a w
 | .read i p,a,w=>∃ o v,ops[i]? = some o ∧ stays P ops o v a w ∧ zcv P ops Q p (a.put o.dst v) w
 | .main i p,a,w=>∃ o,ops[i]? = some o ∧ comesUp P ops o (fun a' w'=>Ext w w' ∧ zcv P ops Q p a' w') a w
 | .alt i p q,a,w=>(∃ o,ops[i]? = some o ∧ comesUp P ops o (fun a' w'=>Ext w w' ∧ zcv P ops Q p a' w') a w) ∧ zcv P ops Q q a w
theorem zfb {listed : Array Bool} {a : Act} {w : World} (hr : Region.ready md ops listed = []) (h : Q a w) : ∀ fuel,anyOrder P md ops Q fuel listed a w
 | 0=>⟨hr,h⟩
 | _ + 1=>⟨fun _=>h,by rw [hr];simp⟩
theorem zgc (hs : Region.noSelect ops = true) : ∀ (fuel : Nat) (p : Plan),
 (∀ (listed : Array Bool) (a : Act) (w : World),p.size ≤ fuel → p.fits md ops false listed = true → zcv P ops Q p a w → anyOrder P md ops Q fuel listed a w) ∧
 (∀ (listed : Array Bool) (a : Act) (w : World),p.size ≤ fuel + 1 → p.fits md ops true listed = true → zcv P ops Q p a w →
   ∀ i ∈ p.heads,∀ o,ops[i]? = some o → comesUp P ops o (fun a' w'=>Ext w w' ∧ anyOrder P md ops Q fuel (listed.setIfInBounds i true) a' w') a w):=by
 have one : ∀ (fuel : Nat) (i : Nat) (p : Plan) (listed : Array Bool) (a : Act) (w : World),
  (∀ (a : Act) (w : World),zcv P ops Q p a w → anyOrder P md ops Q fuel (listed.setIfInBounds i true) a w) →
  (∃ o,ops[i]? = some o ∧ comesUp P ops o (fun a' w'=>Ext w w' ∧ zcv P ops Q p a' w') a w) →
  ∀ o,ops[i]? = some o → comesUp P ops o (fun a' w'=>Ext w w' ∧ anyOrder P md ops Q fuel (listed.setIfInBounds i true) a' w') a w:=by
  intro fuel i p listed a w ih ⟨o,ho,hc⟩ o' ho'
  have : o' = o:=by rw [ho] at ho';exact (Option.some.inj ho').symm
  subst this
  exact hc.mono fun a' w' hh=>⟨hh.1,ih a' w' hh.2⟩
 have second : ∀ (fuel : Nat),(∀ (p : Plan) (listed : Array Bool) (a : Act) (w : World),p.size ≤ fuel → p.fits md ops false listed = true → zcv P ops Q p a w → anyOrder P md ops Q fuel listed a w) →
  ∀ (p : Plan) (listed : Array Bool) (a : Act) (w : World),p.size ≤ fuel + 1 → p.fits md ops true listed = true → zcv P ops Q p a w →
  ∀ i ∈ p.heads,∀ o,ops[i]? = some o → comesUp P ops o (fun a' w'=>Ext w w' ∧ anyOrder P md ops Q fuel (listed.setIfInBounds i true) a' w') a w:=by
  intro fuel ih p
  induction p with
  | done=>intro _ _ _ _ hf;simp [Plan.fits] at hf
  | read i p _=>intro _ _ _ _ hf;simp [Plan.fits] at hf
  | main i p _=>
   intro listed a w hz hf hw j hj
   simp only [Plan.fits,Bool.true_or,Bool.true_and] at hf
   simp only [Plan.heads,List.mem_singleton] at hj
   subst hj
   exact one fuel j p listed a w (fun a' w' hh=>ih p _ a' w' (by simp [Plan.size] at hz;omega) hf hh) hw
  | alt i p q _ ihq=>
   intro listed a w hz hf hw j hj
   simp only [Plan.fits,Bool.true_or,Bool.true_and,Bool.and_eq_true] at hf
   simp only [Plan.size] at hz
   simp only [Plan.heads,List.mem_cons] at hj
   rcases hj with hj | hj
   ·subst hj
    exact one fuel j p listed a w (fun a' w' hh=>ih p _ a' w' (by omega) hf.1 hh) hw.1
   ·exact ihq listed a w (by omega) hf.2 hw.2 j hj
 have first : ∀ (fuel : Nat) (p : Plan) (listed : Array Bool) (a : Act) (w : World),p.size ≤ fuel → p.fits md ops false listed = true → zcv P ops Q p a w → anyOrder P md ops Q fuel listed a w:=by
  intro fuel
  induction fuel with
  | zero=>
   intro p listed a w hz hf hw
   cases p with
   | done=>exact zfb (by simpa [Plan.fits] using hf) hw 0
   | read i p=>simp [Plan.size] at hz
   | main i p=>simp [Plan.size] at hz
   | alt i p q=>simp [Plan.size] at hz
  | succ fuel ih=>
   intro p listed a w hz hf hw
   cases p with
   | done=>exact zfb (by simpa [Plan.fits] using hf) hw _
   | read i p=>
    simp only [Plan.fits,Bool.not_false,Bool.true_and,Bool.and_eq_true] at hf
    obtain ⟨o,v,ho,hy,hw'⟩:=hw
    exact zhv ho (Region.noSelect_spec hs) fuel listed a w (Region.free_spec ho hf.1.2) (by simpa using hf.1.1) hy (ih p _ _ _ (by simp [Plan.size] at hz;omega) hf.2 hw')
   | main i p=>
    have hf0:=hf
    simp only [Plan.fits,Bool.false_or,Bool.and_eq_true,beq_iff_eq] at hf
    refine ⟨fun h0=>(by rw [hf.1] at h0;cases h0),fun j hj=>?_⟩
    rw [hf.1] at hj
    exact second fuel ih (.main i p) listed a w hz (by simp only [Plan.fits,Bool.true_or,Bool.true_and];exact hf.2) hw j hj
   | alt i p q=>
    simp only [Plan.fits,Bool.false_or,Bool.and_eq_true,beq_iff_eq] at hf
    refine ⟨fun h0=>(by rw [hf.1.1] at h0;cases h0),fun j hj=>?_⟩
    rw [hf.1.1] at hj
    exact second fuel ih (.alt i p q) listed a w hz (by simp only [Plan.fits,Bool.true_or,Bool.true_and,Bool.and_eq_true];exact ⟨hf.1.2,hf.2⟩) hw j hj
 intro fuel p
 exact ⟨first fuel p,second fuel (first fuel) p⟩
theorem zac {id : Nat} {R : Exit → Act → World → Prop} {a : Act} {w : World} (p : Plan) (hm : P.follows .mixedOrders = true)
 (hf : (Region.noSelect ops && p.fits .any ops false (Array.replicate ops.size false) && decide (p.size ≤ ops.size)) = true)
 (h : ∀ wD,Ext w wD → zcv P ops (R .normal) p a wD) : (Code.region id ops true).wp P R a w:=by
 simp only [Bool.and_eq_true,decide_eq_true_eq] at hf
 exact wp_region_any hm (anyOrder.wpAny (Q:=R .normal) (fun _ _ hq=>hq) _ _ _ _ ((zgc (md:=.any) hf.1.1 ops.size p).1 _ _ _ hf.2 hf.1.2 (h w.drew (Ext.drew w))))
theorem zah {a : Act} {w : World} (h : Q a w) : zcv P ops Q .done a w:=h
theorem zag {i : Nat} {p : Plan} {a : Act} {w : World} {d : Option Tmp} {op : Op} {ty : TypeId} {pos : String} {af : Array Edge} {gd : Option (Nat × Bool)} {v : Value}
 (ho : ops[i]? = some ⟨d,op,ty,pos,af,gd⟩) (hw : Region.wanted ⟨d,op,ty,pos,af,gd⟩ (yielded ops a.tmps) = true)
 (hv : ∀ w',Ext w w' → (execOp a.eval ⟨d,op,ty,pos,af,gd⟩).run P w' = .ok (.value v) w') (h : zcv P ops Q p (a.put d v) w) : zcv P ops Q (.read i p) a w:=⟨_,v,ho,.inl ⟨hw,hv⟩,h⟩
theorem zaj {i : Nat} {p : Plan} {a : Act} {w : World} {d : Option Tmp} {op : Op} {ty : TypeId} {pos : String} {af : Array Edge} {gd : Option (Nat × Bool)}
 (ho : ops[i]? = some ⟨d,op,ty,pos,af,gd⟩) (hw : Region.wanted ⟨d,op,ty,pos,af,gd⟩ (yielded ops a.tmps) = false)
 (h : zcv P ops Q p (a.put d undef) w) : zcv P ops Q (.read i p) a w:=⟨_,undef,ho,.inr ⟨hw,rfl⟩,h⟩
theorem zak {i : Nat} {p : Plan} {a : Act} {w : World} {d : Option Tmp} {x : Operand} {ty : TypeId} {pos : String} {af : Array Edge} {gd : Option (Nat × Bool)}
 (ho : ops[i]? = some ⟨d,.move x,ty,pos,af,gd⟩) (hw : Region.wanted ⟨d,.move x,ty,pos,af,gd⟩ (yielded ops a.tmps) = true)
 (h : zcv P ops Q p (a.put d (a.eval x)) w) : zcv P ops Q (.read i p) a w:=zag ho hw (fun _ _=>by simp [execOp]) h
theorem zad {i : Nat} {p : Plan} {a : Act} {w : World} {d : Option Tmp} {x : Operand} {ty : TypeId} {pos : String} {af : Array Edge} {gd : Option (Nat × Bool)}
 (ho : ops[i]? = some ⟨d,.assign x,ty,pos,af,gd⟩) (hw : Region.wanted ⟨d,.assign x,ty,pos,af,gd⟩ (yielded ops a.tmps) = true)
 (h : zcv P ops Q p (a.put d (a.eval x)) w) : zcv P ops Q (.read i p) a w:=zag ho hw (fun _ _=>by simp [execOp]) h
theorem zai {i : Nat} {p : Plan} {a : Act} {w : World} {d : Option Tmp} {op : Op} {ty : TypeId} {pos : String} {af : Array Edge} {gd : Option (Nat × Bool)}
 (ho : ops[i]? = some ⟨d,op,ty,pos,af,gd⟩) (hw : Region.wanted ⟨d,op,ty,pos,af,gd⟩ (yielded ops a.tmps) = true)
 (h : ∀ K : Act → World → Prop,(∀ a' w',Ext w w' → zcv P ops Q p a' w' → K a' w') → Oper.wp P ⟨d,op,ty,pos,af,gd⟩ a w K zjU) : zcv P ops Q (.main i p) a w:=by
 refine ⟨_,ho,?_⟩
 unfold comesUp
 rw [if_pos hw]
 exact h _ fun _ _ h1 h2=>⟨h1,h2⟩
theorem zab {i : Nat} {p : Plan} {a : Act} {w : World} {d : Option Tmp} {op : Op} {ty : TypeId} {pos : String} {af : Array Edge} {gd : Option (Nat × Bool)}
 (ho : ops[i]? = some ⟨d,op,ty,pos,af,gd⟩) (hw : Region.wanted ⟨d,op,ty,pos,af,gd⟩ (yielded ops a.tmps) = false)
 (h : zcv P ops Q p (a.put d undef) w) : zcv P ops Q (.main i p) a w:=by
 refine ⟨_,ho,?_⟩
 unfold comesUp
 rw [if_neg (by simp [hw])]
 exact ⟨Ext.refl w,h⟩
end
end Go.Proofs.YtioglicfndkgiaaGreatDoor
namespace Go.Proofs.YtioglicfndkgiaaGreatDoor
open Go.RowKit
theorem hid {p : Prop} (h : p) : Hid p:=h
theorem zaa {w : World} {p : Addr} {v : Value} (h : w.cell? p = some v) : ∀ w',Ext w w' → w'.cell? p = some v:=fun _ hx=>(Below.cell hx (World.block_lt_of_cell? w p h)).trans h
theorem zel (b off j : Nat) : (⟨b,off,none⟩ : Addr).add j = ⟨b,off + j,none⟩:=by unfold Addr.add;split <;> simp_all
def Cells (w : World) (A : Option Addr) (vs : List Value) : Prop:=
 vs = [] ∨ ∃ b off,A = some ⟨b,off,none⟩ ∧ ∀ j u,vs[j]? = some u → w.cell? ⟨b,off + j,none⟩ = some u
section
variable {w w' : World} {A : Option Addr} {vs : List Value}
theorem Cells.keep (h : Cells w A vs) (hk : ∀ p : Addr,p.block < w.heap.size → w'.cell? p = w.cell? p) : Cells w' A vs:=by
 rcases h with h | ⟨b,off,hA,hc⟩
 ·exact .inl h
 ·refine .inr ⟨b,off,hA,fun j u hj=>?_⟩
  rw [hk _ (World.block_lt_of_cell? w _ (hc j u hj))]
  exact hc j u hj
theorem Cells.below (h : Cells w A vs) (hb : Below w.heap.size w w') : Cells w' A vs:=h.keep fun _ hp=>hb.cell hp
theorem Cells.take (h : Cells w A vs) (k : Nat) : Cells w A (vs.take k):=by
 rcases h with h | ⟨b,off,hA,hc⟩
 ·exact .inl (by simp [h])
 ·refine .inr ⟨b,off,hA,fun j u hj=>hc j u ?_⟩
  rw [List.getElem?_take] at hj
  split at hj
  ·exact hj
  ·cases hj
theorem Cells.drop (h : Cells w A vs) (k : Nat) : Cells w (A.map (·.add k)) (vs.drop k):=by
 rcases h with h | ⟨b,off,hA,hc⟩
 ·exact .inl (by simp [h])
 ·refine .inr ⟨b,off + k,by simp [hA,zel],fun j u hj=>?_⟩
  rw [List.getElem?_drop] at hj
  rw [Nat.add_assoc]
  exact hc _ u hj
def cutA (A : Option Addr) (k cap size : Nat) : Option Addr:=if cap = k then A else A.map (·.add (k * size))
theorem Cells.of_own {base : Nat} {e : TypeId} {n c : Nat} (h : w.ownsRow base e 1 (.slice A n c) n vs) : Cells w A vs:=by
 obtain ⟨h1,h2⟩:=h
 rcases h2 with ⟨hv,hn⟩ | ⟨g,cap,cur,hv,hb,hh,hnc,hcm,hsz,htk⟩
 ·subst hn;exact .inl (List.eq_nil_of_length_eq_zero (by simpa using h1))
 ·injection hv with hA _ _
  refine .inr ⟨g,0,hA,fun j u hj=>?_⟩
  rw [Nat.zero_add,cell_of_row w g j cur e (0,0) hh]
  rw [← htk,List.getElem?_take] at hj
  split at hj
  ·simpa using hj
  ·cases hj
theorem ziD {base : Nat} {e : TypeId} {n c : Nat} (h : w.ownsRow base e 1 (.slice A n c) n vs) : n ≤ c ∧ c ≤ maxLen:=by
 obtain ⟨h1,h2⟩:=h
 rcases h2 with ⟨hv,hn⟩ | ⟨g,cap,cur,hv,hb,hh,hnc,hcm,hsz,htk⟩
 ·injection hv with _ _ hc
  subst hn hc
  exact ⟨Nat.le_refl _,by simp [maxLen]⟩
 ·injection hv with hA _ hc
  subst hc
  exact ⟨hnc,hcm⟩
theorem zcV {base : Nat} {e : TypeId} {v : Value} {n : Nat} (h : w.ownsRow base e 1 v n vs) : ∃ A c,v = .slice A n c:=by
 rcases h.2 with ⟨rfl,rfl⟩ | ⟨g,cap,cur,rfl,_⟩
 ·exact ⟨_,_,rfl⟩
 ·exact ⟨_,_,rfl⟩
end
theorem zk5 {B : Nat} {a w : World} (h : Below B a w) (n : Nat) : Below B a (w.drewN n):=⟨h.os,h.tape,h.output,h.size,h.block⟩
def bv (b : UInt8) : Value:=.int .u8 (b.toNat : Int)
structure Sl (w : World) (A : Option Addr) (n c : Nat) (xs : List UInt8) : Prop where
 len : n = xs.length
 cap : n ≤ c
 most : c ≤ maxLen
 cells : Cells w A (xs.map bv)
section
variable {w w' : World} {A : Option Addr} {n c : Nat} {xs : List UInt8}
theorem Sl.below (h : Sl w A n c xs) (hb : Below w.heap.size w w') : Sl w' A n c xs:=⟨h.len,h.cap,h.most,h.cells.below hb⟩
theorem Sl.of_own {base : Nat} {e : TypeId} (h : w.ownsRow base e 1 (.slice A n c) n (xs.map bv)) : Sl w A n c xs:=
 ⟨by simpa using h.1.symm,(ziD h).1,(ziD h).2,Cells.of_own h⟩
end
theorem zo3 {P : Program} {w : World} {A : Option Addr} {n c : Nat} {xs : List UInt8} (h : Sl w A n c xs) (src dst e : Nat)
 (hs : P.underlying src = some (.slice e)) (he : P.underlying e = some (.int .u8)) (hd : P.underlying dst = some .string) :
 (convert src dst (.slice A n c)).run P w = .ok (.string ⟨xs.toArray⟩) w:=by
 obtain ⟨hn,_,_,h⟩:=h
 subst hn
 rw [run_convert_bytes_string w src dst e _ _ c hs he hd]
 rcases A with _ | a
 ·rcases h with h | ⟨b,off,hA,_⟩
  ·have h : xs = []:=by simpa using h
   subst h;simp [Conv.bytesToString];rfl
  ·cases hA
 ·have hl : (loadCells a xs.length).run P w = .ok ((xs.map fun b=>(b.toNat : Int)).map (Value.int .u8)).toArray w:=by
   have:=run_loadCells_list (P:=P) w a (xs.map bv) (fun j v hj=>by
    rcases h with h | ⟨b,off,hA,hc⟩
    ·have h : xs = []:=by simpa using h
     subst h;simp at hj
    ·injection hA with hA
     subst hA
     rw [zel]
     exact hc j v hj)
   simp only [List.length_map] at this
   rw [this]
   simp [bv,Function.comp_def]
  rw [run_bytesToString w a _ c _ hl,foldl_push_bytes]
  have : List.map ((fun n : Int=>UInt8.ofNat n.toNat) ∘ fun b : UInt8=>(b.toNat : Int)) xs = xs:=by
   conv=>rhs;rw [← List.map_id xs]
   apply List.map_congr_left
   intro b _
   simp
  simp [ByteArray.empty,ByteArray.emptyWithCapacity,this]
  rfl
theorem zgd {P : Program} (w : World) (base : Nat) (t ty e : TypeId) (i : TypeInfo) (z : Value) (bytes : Nat) (ht : P.underlying t = some (.slice e)) (hi : P.info? e = some i) (hz : i.zero = some z)
 (hsize : i.size = 1) (hby : i.bytes = bytes) (hzs : z.cells.size = 1)
 (v : Value) (n : Nat) (xs : List Value) (hown : w.ownsRow base e 1 v n xs)
 (A : Option Addr) (m c : Nat) (news : List Value) (hm : m = news.length) (hr : Cells w A news) (h1 : ∀ u ∈ news,u.oneCell' = true)
 (h63 : n + m ≤ maxLen) (hbytes : (n + m) * bytes ≤ 140737488355328) (hbase : base ≤ w.heap.size) :
 ∃ v' w',(Builtin.append_ #[t,t] ty #[v,.slice A m c]).run P w = .ok v' w' ∧ w'.ownsRow base e 1 v' (n + m) (xs ++ news) ∧ w.grownBy w' v.ownBlock ∧
  (v'.ownBlock = v.ownBlock ∨ v'.ownBlock = some w.heap.size):=by
 rcases A with _ | ad
 ·have hn : news = []:=by
   rcases hr with h | ⟨b,off,h,_⟩
   ·exact h
   ·cases h
  subst hn
  simp at hm
  subst hm
  refine ⟨v,w,?_,by simpa using hown,World.grownBy.refl w _,.inl rfl⟩
  rcases hown.2 with ⟨rfl,rfl⟩ | ⟨g,cap,cur,rfl,_,_,hnc,_⟩
  ·simp [Builtin.append_,run_underlying ht,sizeOf,typeInfo,hi,Builtin.lenOf,Builtin.firstCells]
  ·simp [Builtin.append_,run_underlying ht,sizeOf,typeInfo,hi,Builtin.lenOf,Builtin.firstCells,hnc,storeCells]
 ·have hcells : ∀ j u,news[j]? = some u → w.cell? (ad.add j) = some u:=by
   intro j u hu
   rcases hr with h | ⟨b,off,h,hc⟩
   ·subst h;simp at hu
   ·injection h with h
    subst h
    rw [zel]
    exact hc j u hu
  obtain ⟨v',w',hrun,h2,h3,_,h5⟩:=run_append_own_at (P:=P) w base t ty e i z 1 bytes ht hi hz hsize hby hzs (by decide) v n xs hown ad m c news (by simpa using hm.symm) hcells h1 h63 hbytes hbase
  exact ⟨v',w',hrun,h2,h3,h5⟩
theorem zcN {P : Program} {w : World} {o : Oper} {a : Act} {K : Act → World → Prop} {Q : Exit → Act → World → Prop} (s x : Operand) (t : TypeId)
 (ho : o.op = .call { callee:=.builtin .append,args:=#[s,x],argTypes:=#[t,t] })
 (base : Nat) (e : TypeId) (i : TypeInfo) (z : Value) (bytes : Nat) (ht : P.underlying t = some (.slice e)) (hi : P.info? e = some i) (hz : i.zero = some z)
 (hsize : i.size = 1) (hby : i.bytes = bytes) (hzs : z.cells.size = 1)
 (v : Value) (n : Nat) (xs : List Value) (hs : a.eval s = v) (hown : w.ownsRow base e 1 v n xs)
 (A : Option Addr) (m c : Nat) (news : List Value) (hx : a.eval x = .slice A m c) (hm : m = news.length) (hr : Cells w A news) (h1 : ∀ u ∈ news,u.oneCell' = true)
 (h63 : n + m ≤ maxLen) (hbytes : (n + m) * bytes ≤ 140737488355328) (hbase : base ≤ w.heap.size)
 (h : ∀ v' w',w'.ownsRow base e 1 v' (n + m) (xs ++ news) → w.grownBy w' v.ownBlock → (v'.ownBlock = v.ownBlock ∨ v'.ownBlock = some w.heap.size) → K (a.put o.dst v') w') : o.wp P a w K Q:=by
 obtain ⟨v',w',hrun,h2,h3,h4⟩:=zgd (P:=P) w base t o.type e i z bytes ht hi hz hsize hby hzs v n xs hown A m c news hm hr h1 h63 hbytes hbase
 unfold Oper.wp execOp
 simp only [ho,resolve,invoke,builtin,Sem.run_bind,Sem.run_pure,Result.andThen_ok,List.map_toArray,List.map_cons,List.map_nil,hs,hx,hrun]
 exact h v' w' h2 h3 h4
theorem zeW {P : Program} {w : World} {ops : Array Oper} {rest : List Oper} {o : Oper} {a : Act} {Q : Exit → Act → World → Prop} (hgd : o.guard = none) (s x : Operand) (t : TypeId)
 (ho : o.op = .call { callee:=.builtin .append,args:=#[s,x],argTypes:=#[t,t] })
 (base : Nat) (e : TypeId) (i : TypeInfo) (z : Value) (bytes : Nat) (ht : P.underlying t = some (.slice e)) (hi : P.info? e = some i) (hz : i.zero = some z)
 (hsize : i.size = 1) (hby : i.bytes = bytes) (hzs : z.cells.size = 1)
 (v : Value) (n : Nat) (xs : List Value) (hs : a.eval s = v) (hown : w.ownsRow base e 1 v n xs)
 (A : Option Addr) (m c : Nat) (news : List Value) (hx : a.eval x = .slice A m c) (hm : m = news.length) (hr : Cells w A news) (h1 : ∀ u ∈ news,u.oneCell' = true)
 (h63 : n + m ≤ maxLen) (hbytes : (n + m) * bytes ≤ 140737488355328) (hbase : base ≤ w.heap.size)
 (h : ∀ v' w',w'.ownsRow base e 1 v' (n + m) (xs ++ news) → w.grownBy w' v.ownBlock → (v'.ownBlock = v.ownBlock ∨ v'.ownBlock = some w.heap.size) → wpList P ops Q rest (a.put o.dst v') w') : wpList P ops Q (o :: rest) a w:=
 wpList_plain hgd fun _ hK=>zcN s x t ho base e i z bytes ht hi hz hsize hby hzs v n xs hs hown A m c news hx hm hr h1 h63 hbytes hbase fun v' w' h2 h3 h4=>hK _ _ (h v' w' h2 h3 h4)
theorem Tryz.infoByte : (Tryz.prog.info? 5).map (fun i=>(i.zero,i.size,i.bytes)) = some (some (.int .u8 0),1,1):=by kernel_rfl
theorem Sl.conv {w : World} {A : Option Addr} {n c : Nat} {xs : List UInt8} (h : Sl w A n c xs) : ∀ w',Ext w w' → (convert 129 9 (.slice A n c)).run Tryz.prog w' = .ok (.string ⟨xs.toArray⟩) w':=
 fun _ hb=>zo3 (h.below hb) _ _ _ Tryz.underlying129 Tryz.underlying5 Tryz.underlying9
theorem zf8 {w : World} {ops : Array Oper} {rest : List Oper} {o : Oper} {a : Act} {Q : Exit → Act → World → Prop} (hgd : o.guard = none) (s x : Operand)
 (ho : o.op = .call { callee:=.builtin .append,args:=#[s,x],argTypes:=#[129,129] })
 (base : Nat) (v : Value) (n : Nat) (xs : List UInt8) (hs : a.eval s = v) (hown : w.ownsRow base 5 1 v n (xs.map bv))
 (A : Option Addr) (m c : Nat) (ys : List UInt8) (hx : a.eval x = .slice A m c) (hy : Sl w A m c ys)
 (hbytes : n + m ≤ 140737488355328) (hbase : base ≤ w.heap.size)
 (h : ∀ v' w',w'.ownsRow base 5 1 v' (n + m) ((xs ++ ys).map bv) → Below base w w' → w.grownBy w' v.ownBlock → (v'.ownBlock = v.ownBlock ∨ v'.ownBlock = some w.heap.size) → wpList Tryz.prog ops Q rest (a.put o.dst v') w') : wpList Tryz.prog ops Q (o :: rest) a w:=by
 obtain ⟨i0,hi,hz0,hz1,hz2⟩:=info_parts Tryz.infoByte
 refine zeW hgd s x 129 ho base 5 i0 (.int .u8 0) 1 Tryz.underlying129 hi hz0 hz1 hz2 rfl v n (xs.map bv) hs hown A m c (ys.map bv) hx (by simpa using hy.len) hy.cells ?_ (by simp [maxLen];omega) (by omega) hbase ?_
 ·intro u hu
  obtain ⟨b,_,rfl⟩:=List.mem_map.1 hu
  rfl
 ·intro v' w' h1 h2 h3
  rw [← List.map_append] at h1
  exact h v' w' h1 ((Below.refl base w).grown h2 hbase (fun k hk=>(hown.lt k hk).1)) h2 h3
theorem zdv {w w' : World} {base : Nat} {e : TypeId} {size : Nat} {v : Value} {n : Nat} {xs : List Value} (h : w.ownsRow base e size v n xs) (hx : Ext w w') : w'.ownsRow base e size v n xs:=
 h.kept ⟨hx.os,hx.tape,hx.output,hx.size,fun k hk _=>hx.block k hk⟩ (row:=none) (by cases hv : v.ownBlock <;> simp)
theorem zoG (w : World) (xs : List UInt8) (n : Nat) (hn : n = xs.length) (hm : n ≤ maxLen) (base : Nat) (hb : base ≤ w.heap.size) :
 (w.alloc (.cells (xs.map bv).toArray 5)).ownsRow base 5 1 (.slice (some ⟨w.heap.size,0,none⟩) n n) n (xs.map bv):=by
 subst hn
 exact ⟨by simp,.inr ⟨w.heap.size,xs.length,_,rfl,hb,heap_alloc_new w _,Nat.le_refl _,hm,by simp,by rw [Nat.mul_one];exact List.take_of_length_le (by simp)⟩⟩
theorem zrW (z : Int) (h : 0 ≤ z ∧ z < 256) : Value.int .u8 z = bv (UInt8.ofNat z.toNat):=by
 unfold bv
 congr 1
 rw [UInt8.toNat_ofNat']
 omega
theorem zqE (w : World) (z : Int) (h : 0 ≤ z ∧ z < 256) (base : Nat) (hb : base ≤ w.heap.size) :
 (w.alloc (.cells #[.int .u8 z] 5)).ownsRow base 5 1 (.slice (some ⟨w.heap.size,0,none⟩) 1 1) 1 ([UInt8.ofNat z.toNat].map bv):=by
 rw [zrW z h]
 exact zoG w [UInt8.ofNat z.toNat] 1 rfl (by simp [maxLen]) base hb
theorem zqs (w : World) (z : Int) (h : 0 ≤ z ∧ z < 256) :
 Sl (w.alloc (.cells #[.int .u8 z] 5)) (some ⟨w.heap.size,0,none⟩) 1 1 [UInt8.ofNat z.toNat]:=Sl.of_own (zqE w z h 0 (Nat.zero_le _))
theorem zq6 {w : World} {o : Oper} {a : Act} {K : Act → World → Prop} {Q : Exit → Act → World → Prop} (x : Operand) (ho : o.op = .buildSlice 129 1 #[(0,x)]) (z : Int) (hx : a.eval x = .int .u8 z) (hz : 0 ≤ z ∧ z < 256)
 (h : ∀ A w',Ext w w' → Sl w' A 1 1 [UInt8.ofNat z.toNat] → K (a.put o.dst (.slice A 1 1)) w') : o.wp Tryz.prog a w K Q:=by
 have hr : (execOp a.eval o).run Tryz.prog w = .ok (.value (.slice (some ⟨w.heap.size,0,none⟩) 1 1)) (w.alloc (.cells #[.int .u8 z] 5)):=by
  unfold execOp
  simp only [ho,List.map_toArray,List.map_cons,List.map_nil,hx]
  kernel_rfl
 unfold Oper.wp
 rw [hr]
 exact h _ _ (Ext.alloc _ _) (zqs w z hz)
section
variable {w w' : World} {A : Option Addr} {n c : Nat} {xss : List (List UInt8)}
end
end Go.Proofs.YtioglicfndkgiaaGreatDoor
namespace Go.Proofs.YtioglicfndkgiaaGreatDoor
open Go.RowKit
section
variable {P : Program} {ops : Array Oper} {md : Region.Mode} {Q : Act → World → Prop} {B : Nat}
def staysB (B : Nat) (P : Program) (ops : Array Oper) (o : Oper) (v : Value) (a : Act) (w : World) : Prop:=
 (Region.wanted o (yielded ops a.tmps) = true ∧ ∀ w',Below B w w' → (execOp a.eval o).run P w' = .ok (.value v) w') ∨
 (Region.wanted o (yielded ops a.tmps) = false ∧ v = undef)
theorem staysB.comesUp {o : Oper} {v : Value} {a : Act} {w : World} {K : Act → World → Prop} (h : staysB B P ops o v a w) (hk : K (a.put o.dst v) w) : comesUp P ops o K a w:=by
 unfold Go.Proofs.YtioglicfndkgiaaGreatDoor.comesUp
 rcases h with ⟨hw,hv⟩ | ⟨hw,rfl⟩
 ·rw [if_pos hw];unfold Oper.wp;rw [hv w (Below.refl B w)];exact hk
 ·rw [if_neg (by simp [hw])];exact hk
theorem staysB.later {o : Oper} {v : Value} {a : Act} {w w' : World} (h : staysB B P ops o v a w) (hx : Below B w w') : staysB B P ops o v a w':=by
 rcases h with ⟨hw,hv⟩ | h
 ·exact .inl ⟨hw,fun w2 h2=>hv w2 (Below.trans hx h2)⟩
 ·exact .inr h
theorem staysB.same {o : Oper} {v : Value} {a a' : Act} {w : World} (h : staysB B P ops o v a w) (he : execOp a'.eval o = execOp a.eval o)
 (hw : Region.wanted o (yielded ops a'.tmps) = Region.wanted o (yielded ops a.tmps)) : staysB B P ops o v a' w:=by
 unfold staysB at *
 rw [he,hw]
 exact h
def anyOrderB (B : Nat) (P : Program) (md : Region.Mode) (ops : Array Oper) (Q : Act → World → Prop) : Nat → Array Bool → Act → World → Prop
 | 0,listed,a,w=>Region.ready md ops listed = [] ∧ Q a w
 | fuel + 1,listed,a,w=>(Region.ready md ops listed = [] → Q a w) ∧
  ∀ i ∈ Region.ready md ops listed,∀ o,ops[i]? = some o → comesUp P ops o (fun a' w'=>Below B w w' ∧ anyOrderB B P md ops Q fuel (listed.setIfInBounds i true) a' w') a w
theorem anyOrderB.wpAny {R : Exit → Act → World → Prop} (hQ : ∀ a w,Q a w → R .normal a w) :
 ∀ (fuel : Nat) (listed : Array Bool) (a : Act) (w : World),anyOrderB B P md ops Q fuel listed a w → Go.wpAny P md ops R fuel listed a w
 | 0,_,_,_,h=>⟨h.1,hQ _ _ h.2⟩
 | fuel + 1,listed,a,w,h=>by
  refine ⟨fun h0=>hQ _ _ (h.1 h0),fun i hi=>?_⟩
  obtain ⟨_,o,ho,_⟩:=mem_ready.1 hi
  have h1:=h.2 i hi o ho
  unfold comesUp at h1
  unfold wpOp
  simp only [ho]
  split
  ·rename_i hw
   rw [if_pos hw] at h1
   exact .inl (zd8 (Oper.wp_mono (fun a' w' hh=>anyOrderB.wpAny hQ fuel _ a' w' hh.2) h1))
  ·rename_i hw
   rw [if_neg hw] at h1
   exact anyOrderB.wpAny hQ fuel _ _ _ h1.2
theorem zhh {oi oj : Oper} {v : Value} (hap : oi.apart ops oj = true) (hsi : ∀ cs b,oi.op ≠ .select cs b) (hsj : ∀ cs b,oj.op ≠ .select cs b)
 {K : Act → World → Prop} {a : Act} {w : World}
 (h : comesUp P ops oj K (a.put oi.dst v) w) :
 comesUp P ops oj (fun a' w'=>(∀ w0,staysB B P ops oi v a w0 → staysB B P ops oi v a' w0) ∧ K (a'.put oi.dst v) w') a w:=by
 obtain ⟨h1,h2,h3⟩:=Oper.apart_spec hap
 have keep : ∀ (b : Act) (u : Value),b.eval = a.eval → b.tmps = a.tmps → ∀ w0,staysB B P ops oi v a w0 → staysB B P ops oi v (b.put oj.dst u) w0:=fun b u hb ht w0 hs=>
  (hs.same (a':=b) (by rw [hb]) (by rw [ht])).same (execOp_put oi hsi b oj.dst u h3) (wanted_put oi b oj.dst u h3)
 unfold comesUp at *
 rw [wanted_put oj a oi.dst v h1] at h
 split
 ·rename_i hw
  rw [if_pos hw] at h
  unfold Oper.wp at *
  rw [execOp_put oj hsj a oi.dst v h1] at h
  generalize (execOp a.eval oj).run P w = r at *
  cases r with
  | ok n w'=>
   cases n <;> simp only [Oper.upon] at h ⊢
   case value u=>exact ⟨keep a u rfl rfl,by rw [← Act.put_comm a v u h2];exact h⟩
   case skip=>exact ⟨keep a _ rfl rfl,by rw [← Act.put_comm a v undef h2];exact h⟩
   case defer d=>exact ⟨keep { a with defers:=d :: a.defers } _ rfl rfl,by rw [← Act.put_comm _ v undef h2,← Act.put_defers];exact h⟩
   case enter f args=>
    refine Calls.mono h fun e w'' he=>?_
    cases e with
    | returned u=>exact ⟨keep a u rfl rfl,by rw [← Act.put_comm a v u h2];exact he⟩
    | panicked c=>exact he
    | outgrown=>exact he
   case row row args=>exact Rows.mono h fun u w'' he=>⟨keep a u rfl rfl,by rw [← Act.put_comm a v u h2];exact he⟩
  | halt x w'=>cases x <;> simp only [Oper.upon] at h ⊢ <;> exact h
 ·rename_i hw
  rw [if_neg hw] at h
  exact ⟨keep a _ rfl rfl,by rw [← Act.put_comm a v undef h2];exact h⟩
theorem zhd {i : Nat} {oi : Oper} {v : Value} (hi : ops[i]? = some oi) (hsel : ∀ (j : Nat) (o : Oper) cs b,ops[j]? = some o → o.op ≠ .select cs b) :
 ∀ (fuel : Nat) (listed : Array Bool) (a : Act) (w : World),
  (∀ j oj,ops[j]? = some oj → j ≠ i → listed.getD j true = false → (∀ e ∈ oj.after,Region.binds md e = true → e.on ≠ i) → oi.apart ops oj = true) →
  i ∈ Region.ready md ops listed → staysB B P ops oi v a w →
  anyOrderB B P md ops Q fuel (listed.setIfInBounds i true) (a.put oi.dst v) w → anyOrderB B P md ops Q (fuel + 1) listed a w:=by
 intro fuel
 induction fuel with
 | zero=>
  intro listed a w _ hr hy H
  refine ⟨fun h=>(by rw [h] at hr;cases hr),fun j hj o ho=>?_⟩
  by_cases hji : j = i
  ·subst hji
   have : o = oi:=by rw [hi] at ho;exact (Option.some.inj ho).symm
   subst this
   exact hy.comesUp ⟨Below.refl B w,H⟩
  ·have:=ready_mono hj hji
   rw [H.1] at this
   cases this
 | succ fuel ih=>
  intro listed a w hfree hr hy H
  refine ⟨fun h=>(by rw [h] at hr;cases hr),fun j hj oj hoj=>?_⟩
  by_cases hji : j = i
  ·subst hji
   have : oj = oi:=by rw [hi] at hoj;exact (Option.some.inj hoj).symm
   subst this
   exact hy.comesUp ⟨Below.refl B w,H⟩
  ·have h1:=H.2 j (ready_mono hj hji) oj hoj
   obtain ⟨hjun,oj',hoj',hall⟩:=mem_ready.1 hj
   have : oj' = oj:=by rw [hoj] at hoj';exact (Option.some.inj hoj').symm
   subst this
   have hnot : ∀ e ∈ oj'.after,Region.binds md e = true → e.on ≠ i:=fun e he hb heq=>by
    have h1:=hall e he hb
    have h0:=(mem_ready.1 hr).1
    rw [heq] at h1
    rcases Nat.lt_or_ge i listed.size with h' | h'
    ·simp [h'] at h0 h1;rw [h0] at h1;cases h1
    ·simp [Array.getElem?_eq_none h'] at h1
   have h2:=zhh (B:=B) (hfree j oj' hoj hji hjun hnot) (fun cs b=>hsel i oi cs b hi) (fun cs b=>hsel j oj' cs b hoj) h1
   have hfree' : ∀ k ok,ops[k]? = some ok → k ≠ i → (listed.setIfInBounds j true).getD k true = false →
    (∀ e ∈ ok.after,Region.binds md e = true → e.on ≠ i) → oi.apart ops ok = true:=fun k ok hk hki hun hno=>by
    refine hfree k ok hk hki ?_ hno
    by_cases hjk : j = k
    ·subst hjk;exact hjun
    ·rw [getD_set_ne true hjk] at hun;exact hun
   refine h2.mono fun a' w' h3=>⟨h3.2.1,ih (listed.setIfInBounds j true) a' w' hfree' (ready_mono hr (Ne.symm hji)) ((h3.1 w hy).later h3.2.1) ?_⟩
   rw [Array.setIfInBounds_comm _ _ hji]
   exact h3.2.2
def zbA (B : Nat) (P : Program) (ops : Array Oper) (Q : Act → World → Prop) : Plan → Act → World → Prop
 | .done,a,w=>Q a w
 | .read i p,a,w=>∃ o v,ops[i]? = some o ∧ staysB B P ops o v a w ∧ zbA B P ops Q p (a.put o.dst v) w
 | .main i p,a,w=>∃ o,ops[i]? = some o ∧ comesUp P ops o (fun a' w'=>Below B w w' ∧ zbA B P ops Q p a' w') a w
 | .alt i p q,a,w=>(∃ o,ops[i]? = some o ∧ comesUp P ops o (fun a' w'=>Below B w w' ∧ zbA B P ops Q p a' w') a w) ∧ zbA B P ops Q q a w
theorem zeC {listed : Array Bool} {a : Act} {w : World} (hr : Region.ready md ops listed = []) (h : Q a w) : ∀ fuel,anyOrderB B P md ops Q fuel listed a w
 | 0=>⟨hr,h⟩
 | _ + 1=>⟨fun _=>h,by rw [hr];simp⟩
theorem zfG (hs : Region.noSelect ops = true) : ∀ (fuel : Nat) (p : Plan),
 (∀ (listed : Array Bool) (a : Act) (w : World),p.size ≤ fuel → p.fits md ops false listed = true → zbA B P ops Q p a w → anyOrderB B P md ops Q fuel listed a w) ∧
 (∀ (listed : Array Bool) (a : Act) (w : World),p.size ≤ fuel + 1 → p.fits md ops true listed = true → zbA B P ops Q p a w →
   ∀ i ∈ p.heads,∀ o,ops[i]? = some o → comesUp P ops o (fun a' w'=>Below B w w' ∧ anyOrderB B P md ops Q fuel (listed.setIfInBounds i true) a' w') a w):=by
 have one : ∀ (fuel : Nat) (i : Nat) (p : Plan) (listed : Array Bool) (a : Act) (w : World),
  (∀ (a : Act) (w : World),zbA B P ops Q p a w → anyOrderB B P md ops Q fuel (listed.setIfInBounds i true) a w) →
  (∃ o,ops[i]? = some o ∧ comesUp P ops o (fun a' w'=>Below B w w' ∧ zbA B P ops Q p a' w') a w) →
  ∀ o,ops[i]? = some o → comesUp P ops o (fun a' w'=>Below B w w' ∧ anyOrderB B P md ops Q fuel (listed.setIfInBounds i true) a' w') a w:=by
  intro fuel i p listed a w ih ⟨o,ho,hc⟩ o' ho'
  have : o' = o:=by rw [ho] at ho';exact (Option.some.inj ho').symm
  subst this
  exact hc.mono fun a' w' hh=>⟨hh.1,ih a' w' hh.2⟩
 have second : ∀ (fuel : Nat),(∀ (p : Plan) (listed : Array Bool) (a : Act) (w : World),p.size ≤ fuel → p.fits md ops false listed = true → zbA B P ops Q p a w → anyOrderB B P md ops Q fuel listed a w) →
  ∀ (p : Plan) (listed : Array Bool) (a : Act) (w : World),p.size ≤ fuel + 1 → p.fits md ops true listed = true → zbA B P ops Q p a w →
  ∀ i ∈ p.heads,∀ o,ops[i]? = some o → comesUp P ops o (fun a' w'=>Below B w w' ∧ anyOrderB B P md ops Q fuel (listed.setIfInBounds i true) a' w') a w:=by
  intro fuel ih p
  induction p with
  | done=>intro _ _ _ _ hf;simp [Plan.fits] at hf
  | read i p _=>intro _ _ _ _ hf;simp [Plan.fits] at hf
  | main i p _=>
   intro listed a w hz hf hw j hj
   simp only [Plan.fits,Bool.true_or,Bool.true_and] at hf
   simp only [Plan.heads,List.mem_singleton] at hj
   subst hj
   exact one fuel j p listed a w (fun a' w' hh=>ih p _ a' w' (by simp [Plan.size] at hz;omega) hf hh) hw
  | alt i p q _ ihq=>
   intro listed a w hz hf hw j hj
   simp only [Plan.fits,Bool.true_or,Bool.true_and,Bool.and_eq_true] at hf
   simp only [Plan.size] at hz
   simp only [Plan.heads,List.mem_cons] at hj
   rcases hj with hj | hj
   ·subst hj
    exact one fuel j p listed a w (fun a' w' hh=>ih p _ a' w' (by omega) hf.1 hh) hw.1
   ·exact ihq listed a w (by omega) hf.2 hw.2 j hj
 have first : ∀ (fuel : Nat) (p : Plan) (listed : Array Bool) (a : Act) (w : World),p.size ≤ fuel → p.fits md ops false listed = true → zbA B P ops Q p a w → anyOrderB B P md ops Q fuel listed a w:=by
  intro fuel
  induction fuel with
  | zero=>
   intro p listed a w hz hf hw
   cases p with
   | done=>exact zeC (by simpa [Plan.fits] using hf) hw 0
   | read i p=>simp [Plan.size] at hz
   | main i p=>simp [Plan.size] at hz
   | alt i p q=>simp [Plan.size] at hz
  | succ fuel ih=>
   intro p listed a w hz hf hw
   cases p with
   | done=>exact zeC (by simpa [Plan.fits] using hf) hw _
   | read i p=>
    simp only [Plan.fits,Bool.not_false,Bool.true_and,Bool.and_eq_true] at hf
    obtain ⟨o,v,ho,hy,hw'⟩:=hw
    exact zhd ho (Region.noSelect_spec hs) fuel listed a w (Region.free_spec ho hf.1.2) (by simpa using hf.1.1) hy (ih p _ _ _ (by simp [Plan.size] at hz;omega) hf.2 hw')
   | main i p=>
    have hf0:=hf
    simp only [Plan.fits,Bool.false_or,Bool.and_eq_true,beq_iff_eq] at hf
    refine ⟨fun h0=>(by rw [hf.1] at h0;cases h0),fun j hj=>?_⟩
    rw [hf.1] at hj
    exact second fuel ih (.main i p) listed a w hz (by simp only [Plan.fits,Bool.true_or,Bool.true_and];exact hf.2) hw j hj
   | alt i p q=>
    simp only [Plan.fits,Bool.false_or,Bool.and_eq_true,beq_iff_eq] at hf
    refine ⟨fun h0=>(by rw [hf.1.1] at h0;cases h0),fun j hj=>?_⟩
    rw [hf.1.1] at hj
    exact second fuel ih (.alt i p q) listed a w hz (by simp only [Plan.fits,Bool.true_or,Bool.true_and,Bool.and_eq_true];exact ⟨hf.1.2,hf.2⟩) hw j hj
 intro fuel p
 exact ⟨first fuel p,second fuel (first fuel) p⟩
theorem zap (B : Nat) {id : Nat} {R : Exit → Act → World → Prop} {a : Act} {w : World} (p : Plan) (hm : P.follows .mixedOrders = true)
 (hf : (Region.noSelect ops && p.fits .any ops false (Array.replicate ops.size false) && decide (p.size ≤ ops.size)) = true)
 (h : ∀ wD,Ext w wD → zbA B P ops (R .normal) p a wD) : (Code.region id ops true).wp P R a w:=by
 simp only [Bool.and_eq_true,decide_eq_true_eq] at hf
 exact wp_region_any hm (anyOrderB.wpAny (Q:=R .normal) (fun _ _ hq=>hq) _ _ _ _ ((zfG (md:=.any) hf.1.1 ops.size p).1 _ _ _ hf.2 hf.1.2 (h w.drew (Ext.drew w))))
theorem zaE {a : Act} {w : World} (h : Q a w) : zbA B P ops Q .done a w:=h
theorem zaA {i : Nat} {p : Plan} {a : Act} {w : World} {d : Option Tmp} {op : Op} {ty : TypeId} {pos : String} {af : Array Edge} {gd : Option (Nat × Bool)} {v : Value}
 (ho : ops[i]? = some ⟨d,op,ty,pos,af,gd⟩) (hw : Region.wanted ⟨d,op,ty,pos,af,gd⟩ (yielded ops a.tmps) = true)
 (hv : ∀ w',Below B w w' → (execOp a.eval ⟨d,op,ty,pos,af,gd⟩).run P w' = .ok (.value v) w') (h : zbA B P ops Q p (a.put d v) w) : zbA B P ops Q (.read i p) a w:=⟨_,v,ho,.inl ⟨hw,hv⟩,h⟩
theorem zaF {i : Nat} {p : Plan} {a : Act} {w : World} {d : Option Tmp} {x : Operand} {ty : TypeId} {pos : String} {af : Array Edge} {gd : Option (Nat × Bool)}
 (ho : ops[i]? = some ⟨d,.move x,ty,pos,af,gd⟩) (hw : Region.wanted ⟨d,.move x,ty,pos,af,gd⟩ (yielded ops a.tmps) = true)
 (h : zbA B P ops Q p (a.put d (a.eval x)) w) : zbA B P ops Q (.read i p) a w:=zaA ho hw (fun _ _=>by simp [execOp]) h
theorem zav {i : Nat} {p : Plan} {a : Act} {w : World} {d : Option Tmp} {x : Operand} {ty : TypeId} {pos : String} {af : Array Edge} {gd : Option (Nat × Bool)}
 (ho : ops[i]? = some ⟨d,.assign x,ty,pos,af,gd⟩) (hw : Region.wanted ⟨d,.assign x,ty,pos,af,gd⟩ (yielded ops a.tmps) = true)
 (h : zbA B P ops Q p (a.put d (a.eval x)) w) : zbA B P ops Q (.read i p) a w:=zaA ho hw (fun _ _=>by simp [execOp]) h
theorem zam {i : Nat} {p : Plan} {a : Act} {w : World} {d : Option Tmp} {op : Op} {ty : TypeId} {pos : String} {af : Array Edge} {gd : Option (Nat × Bool)}
 (ho : ops[i]? = some ⟨d,op,ty,pos,af,gd⟩) (hw : Region.wanted ⟨d,op,ty,pos,af,gd⟩ (yielded ops a.tmps) = true)
 (h : ∀ K : Act → World → Prop,(∀ a' w',Below B w w' → zbA B P ops Q p a' w' → K a' w') → Oper.wp P ⟨d,op,ty,pos,af,gd⟩ a w K zjU) : zbA B P ops Q (.main i p) a w:=by
 refine ⟨_,ho,?_⟩
 unfold comesUp
 rw [if_pos hw]
 exact h _ fun _ _ h1 h2=>⟨h1,h2⟩
theorem zaJ {i : Nat} {p q : Plan} {a : Act} {w : World} (h : zbA B P ops Q (.main i p) a w) (h' : zbA B P ops Q q a w) : zbA B P ops Q (.alt i p q) a w:=⟨h,h'⟩
end
end Go.Proofs.YtioglicfndkgiaaGreatDoor
