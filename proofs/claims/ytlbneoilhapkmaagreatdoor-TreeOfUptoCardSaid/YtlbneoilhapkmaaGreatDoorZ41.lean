/- Lemmas of the walk that the last text of this claim joins. -/
import Derived.Test.YtlbneoilhapkmaaGreatDoorZ01
import Derived.Test.YtlbneoilhapkmaaGreatDoorZ05
import Derived.Test.YtlbneoilhapkmaaGreatDoorZ06
import Derived.Maps.OwnOps
import Derived.Maps.Views
import Derived.Maps.OwnSet
import Derived.StringKeys
import Derived.WalkSpells
import Derived.Test.YtlbneoilhapkmaaGreatDoorZ08
import Derived.Deep.DeepCutAuto
import Derived.Test.YtlbneoilhapkmaaGreatDoorZ12
import Derived.BigQuiet
import Derived.Deep.QuietTactic
import Derived.Test.YtlbneoilhapkmaaGreatDoorRows
import Derived.Test.YtlbneoilhapkmaaGreatDoorZ04
import Derived.Deep.Slices
import Derived.ChangeSlices
import Derived.Test.YtlbneoilhapkmaaGreatDoorZ17
import Derived.Test.YtlbneoilhapkmaaGreatDoorShl
import Derived.Lib.LaidU8
import Derived.PinnedBridge
import Derived.Stop.LaidErr
import Derived.Shelf.Vars
import Derived.MakeChecks
import Derived.ProofKit
set_option maxHeartbeats 40000000
set_option linter.unusedVariables false
set_option linter.unusedSimpArgs false
namespace Go.Proofs.YtlbneoilhapkmaaGreatDoor
open Go.RowKit
structure Pre where
 r : World → World → Prop
 refl : ∀ w,r w w
 trans : ∀ {a b c : World},r a b → r b c → r a c
abbrev Pre.same (S : Nat → Prop) : Pre:=⟨Same S,Same.refl S,Same.trans⟩
theorem Same.alloc_of {S : Nat → Prop} {w : World} (h : ∀ b,S b → b < w.heap.size) (o : Obj) : Same S w (w.alloc o):=fun b hb=>(Ext.alloc w o).block b (h b hb)
section
variable {P : Program} {ops : Array Oper} {md : Region.Mode} {Q : Act → World → Prop} {B : Pre}
def staysR (B : Pre) (P : Program) (ops : Array Oper) (o : Oper) (v : Value) (a : Act) (w : World) : Prop:=
 (Region.wanted o (yielded ops a.tmps) = true ∧ ∀ w',B.r w w' → (execOp a.eval o).run P w' = .ok (.value v) w') ∨
 (Region.wanted o (yielded ops a.tmps) = false ∧ v = undef)
theorem staysR.comesUp {o : Oper} {v : Value} {a : Act} {w : World} {K : Act → World → Prop} (h : staysR B P ops o v a w) (hk : K (a.put o.dst v) w) : comesUp P ops o K a w:=by
 unfold Go.Proofs.YtlbneoilhapkmaaGreatDoor.comesUp
 rcases h with ⟨hw,hv⟩ | ⟨hw,rfl⟩
 ·rw [if_pos hw];unfold Oper.wp;rw [hv w (B.refl w)];exact hk
 ·rw [if_neg (by simp [hw])];exact hk
theorem staysR.later {o : Oper} {v : Value} {a : Act} {w w' : World} (h : staysR B P ops o v a w) (hx : B.r w w') : staysR B P ops o v a w':=by
 rcases h with ⟨hw,hv⟩ | h
 ·exact .inl ⟨hw,fun w2 h2=>hv w2 (B.trans hx h2)⟩
 ·exact .inr h
theorem staysR.same {o : Oper} {v : Value} {a a' : Act} {w : World} (h : staysR B P ops o v a w) (he : execOp a'.eval o = execOp a.eval o)
 (hw : Region.wanted o (yielded ops a'.tmps) = Region.wanted o (yielded ops a.tmps)) : staysR B P ops o v a' w:=by
 unfold staysR at *
 rw [he,hw]
 exact h
def anyOrderR (B : Pre) (P : Program) (md : Region.Mode) (ops : Array Oper) (Q : Act → World → Prop) : Nat → Array Bool → Act → World → Prop
 | 0,listed,a,w=>Region.ready md ops listed = [] ∧ Q a w
 | fuel + 1,listed,a,w=>(Region.ready md ops listed = [] → Q a w) ∧
  ∀ i ∈ Region.ready md ops listed,∀ o,ops[i]? = some o → comesUp P ops o (fun a' w'=>B.r w w' ∧ anyOrderR B P md ops Q fuel (listed.setIfInBounds i true) a' w') a w
theorem anyOrderR.wpAny {R : Exit → Act → World → Prop} (hQ : ∀ a w,Q a w → R .normal a w) :
 ∀ (fuel : Nat) (listed : Array Bool) (a : Act) (w : World),anyOrderR B P md ops Q fuel listed a w → Go.wpAny P md ops R fuel listed a w
 | 0,_,_,_,h=>⟨h.1,hQ _ _ h.2⟩
 | fuel + 1,listed,a,w,h=>by
  refine ⟨fun h0=>hQ _ _ (h.1 h0),fun i hi=>?_⟩
  obtain ⟨_,o,ho,_⟩:=mem_ready.1 hi
  have h1:=h.2 i hi o ho
  unfold comesUp at h1
  unfold wpOp
  simp only [ho]
  split
  ·rename_i hw
   rw [if_pos hw] at h1
   exact .inl (wp_of_noExit (Oper.wp_mono (fun a' w' hh=>anyOrderR.wpAny hQ fuel _ a' w' hh.2) h1))
  ·rename_i hw
   rw [if_neg hw] at h1
   exact anyOrderR.wpAny hQ fuel _ _ _ h1.2
theorem comesUp_beforeR {oi oj : Oper} {v : Value} (hap : oi.apart ops oj = true) (hsi : ∀ cs b,oi.op ≠ .select cs b) (hsj : ∀ cs b,oj.op ≠ .select cs b)
 {K : Act → World → Prop} {a : Act} {w : World}
 (h : comesUp P ops oj K (a.put oi.dst v) w) :
 comesUp P ops oj (fun a' w'=>(∀ w0,staysR B P ops oi v a w0 → staysR B P ops oi v a' w0) ∧ K (a'.put oi.dst v) w') a w:=by
 obtain ⟨h1,h2,h3⟩:=Oper.apart_spec hap
 have keep : ∀ (b : Act) (u : Value),b.eval = a.eval → b.tmps = a.tmps → ∀ w0,staysR B P ops oi v a w0 → staysR B P ops oi v (b.put oj.dst u) w0:=fun b u hb ht w0 hs=>
  (hs.same (a':=b) (by rw [hb]) (by rw [ht])).same (execOp_put oi hsi b oj.dst u h3) (wanted_put oi b oj.dst u h3)
 unfold comesUp at *
 rw [wanted_put oj a oi.dst v h1] at h
 split
 ·rename_i hw
  rw [if_pos hw] at h
  unfold Oper.wp at *
  rw [execOp_put oj hsj a oi.dst v h1] at h
  generalize (execOp a.eval oj).run P w = r at *
  cases r with
  | ok n w'=>
   cases n <;> simp only [Oper.upon] at h ⊢
   case value u=>exact ⟨keep a u rfl rfl,by rw [← Act.put_comm a v u h2];exact h⟩
   case skip=>exact ⟨keep a _ rfl rfl,by rw [← Act.put_comm a v undef h2];exact h⟩
   case defer d=>exact ⟨keep { a with defers:=d :: a.defers } _ rfl rfl,by rw [← Act.put_comm _ v undef h2,← Act.put_defers];exact h⟩
   case enter f args=>
    refine Calls.mono h fun e w'' he=>?_
    cases e with
    | returned u=>exact ⟨keep a u rfl rfl,by rw [← Act.put_comm a v u h2];exact he⟩
    | panicked c=>exact he
    | outgrown=>exact he
   case row row args=>exact Rows.mono h fun u w'' he=>⟨keep a u rfl rfl,by rw [← Act.put_comm a v u h2];exact he⟩
  | halt x w'=>cases x <;> simp only [Oper.upon] at h ⊢ <;> exact h
 ·rename_i hw
  rw [if_neg hw] at h
  exact ⟨keep a _ rfl rfl,by rw [← Act.put_comm a v undef h2];exact h⟩
theorem anyOrder_firstR {i : Nat} {oi : Oper} {v : Value} (hi : ops[i]? = some oi) (hsel : ∀ (j : Nat) (o : Oper) cs b,ops[j]? = some o → o.op ≠ .select cs b) :
 ∀ (fuel : Nat) (listed : Array Bool) (a : Act) (w : World),
  (∀ j oj,ops[j]? = some oj → j ≠ i → listed.getD j true = false → (∀ e ∈ oj.after,Region.binds md e = true → e.on ≠ i) → oi.apart ops oj = true) →
  i ∈ Region.ready md ops listed → staysR B P ops oi v a w →
  anyOrderR B P md ops Q fuel (listed.setIfInBounds i true) (a.put oi.dst v) w → anyOrderR B P md ops Q (fuel + 1) listed a w:=by
 intro fuel
 induction fuel with
 | zero=>
  intro listed a w _ hr hy H
  refine ⟨fun h=>(by rw [h] at hr;cases hr),fun j hj o ho=>?_⟩
  by_cases hji : j = i
  ·subst hji
   have : o = oi:=by rw [hi] at ho;exact (Option.some.inj ho).symm
   subst this
   exact hy.comesUp ⟨B.refl w,H⟩
  ·have:=ready_mono hj hji
   rw [H.1] at this
   cases this
 | succ fuel ih=>
  intro listed a w hfree hr hy H
  refine ⟨fun h=>(by rw [h] at hr;cases hr),fun j hj oj hoj=>?_⟩
  by_cases hji : j = i
  ·subst hji
   have : oj = oi:=by rw [hi] at hoj;exact (Option.some.inj hoj).symm
   subst this
   exact hy.comesUp ⟨B.refl w,H⟩
  ·have h1:=H.2 j (ready_mono hj hji) oj hoj
   obtain ⟨hjun,oj',hoj',hall⟩:=mem_ready.1 hj
   have : oj' = oj:=by rw [hoj] at hoj';exact (Option.some.inj hoj').symm
   subst this
   have hnot : ∀ e ∈ oj'.after,Region.binds md e = true → e.on ≠ i:=fun e he hb heq=>by
    have h1:=hall e he hb
    have h0:=(mem_ready.1 hr).1
    rw [heq] at h1
    rcases Nat.lt_or_ge i listed.size with h' | h'
    ·simp [h'] at h0 h1;rw [h0] at h1;cases h1
    ·simp [Array.getElem?_eq_none h'] at h1
   have h2:=comesUp_beforeR (B:=B) (hfree j oj' hoj hji hjun hnot) (fun cs b=>hsel i oi cs b hi) (fun cs b=>hsel j oj' cs b hoj) h1
   have hfree' : ∀ k ok,ops[k]? = some ok → k ≠ i → (listed.setIfInBounds j true).getD k true = false →
    (∀ e ∈ ok.after,Region.binds md e = true → e.on ≠ i) → oi.apart ops ok = true:=fun k ok hk hki hun hno=>by
    refine hfree k ok hk hki ?_ hno
    by_cases hjk : j = k
    ·subst hjk;exact hjun
    ·rw [getD_set_ne true hjk] at hun;exact hun
   refine h2.mono fun a' w' h3=>⟨h3.2.1,ih (listed.setIfInBounds j true) a' w' hfree' (ready_mono hr (Ne.symm hji)) ((h3.1 w hy).later h3.2.1) ?_⟩
   rw [Array.setIfInBounds_comm _ _ hji]
   exact h3.2.2
def walksR (B : Pre) (P : Program) (ops : Array Oper) (Q : Act → World → Prop) : Plan → Act → World → Prop
 | .done,a,w=>Q a w
 | .read i p,a,w=>∃ o v,ops[i]? = some o ∧ staysR B P ops o v a w ∧ walksR B P ops Q p (a.put o.dst v) w
 | .main i p,a,w=>∃ o,ops[i]? = some o ∧ comesUp P ops o (fun a' w'=>B.r w w' ∧ walksR B P ops Q p a' w') a w
 | .alt i p q,a,w=>(∃ o,ops[i]? = some o ∧ comesUp P ops o (fun a' w'=>B.r w w' ∧ walksR B P ops Q p a' w') a w) ∧ walksR B P ops Q q a w
theorem anyOrder_doneR {listed : Array Bool} {a : Act} {w : World} (hr : Region.ready md ops listed = []) (h : Q a w) : ∀ fuel,anyOrderR B P md ops Q fuel listed a w
 | 0=>⟨hr,h⟩
 | _ + 1=>⟨fun _=>h,by rw [hr];simp⟩
theorem anyOrder_of_planR (hs : Region.noSelect ops = true) : ∀ (fuel : Nat) (p : Plan),
 (∀ (listed : Array Bool) (a : Act) (w : World),p.size ≤ fuel → p.fits md ops false listed = true → walksR B P ops Q p a w → anyOrderR B P md ops Q fuel listed a w) ∧
 (∀ (listed : Array Bool) (a : Act) (w : World),p.size ≤ fuel + 1 → p.fits md ops true listed = true → walksR B P ops Q p a w →
   ∀ i ∈ p.heads,∀ o,ops[i]? = some o → comesUp P ops o (fun a' w'=>B.r w w' ∧ anyOrderR B P md ops Q fuel (listed.setIfInBounds i true) a' w') a w):=by
 have one : ∀ (fuel : Nat) (i : Nat) (p : Plan) (listed : Array Bool) (a : Act) (w : World),
  (∀ (a : Act) (w : World),walksR B P ops Q p a w → anyOrderR B P md ops Q fuel (listed.setIfInBounds i true) a w) →
  (∃ o,ops[i]? = some o ∧ comesUp P ops o (fun a' w'=>B.r w w' ∧ walksR B P ops Q p a' w') a w) →
  ∀ o,ops[i]? = some o → comesUp P ops o (fun a' w'=>B.r w w' ∧ anyOrderR B P md ops Q fuel (listed.setIfInBounds i true) a' w') a w:=by
  intro fuel i p listed a w ih ⟨o,ho,hc⟩ o' ho'
  have : o' = o:=by rw [ho] at ho';exact (Option.some.inj ho').symm
  subst this
  exact hc.mono fun a' w' hh=>⟨hh.1,ih a' w' hh.2⟩
 have second : ∀ (fuel : Nat),(∀ (p : Plan) (listed : Array Bool) (a : Act) (w : World),p.size ≤ fuel → p.fits md ops false listed = true → walksR B P ops Q p a w → anyOrderR B P md ops Q fuel listed a w) →
  ∀ (p : Plan) (listed : Array Bool) (a : Act) (w : World),p.size ≤ fuel + 1 → p.fits md ops true listed = true → walksR B P ops Q p a w →
  ∀ i ∈ p.heads,∀ o,ops[i]? = some o → comesUp P ops o (fun a' w'=>B.r w w' ∧ anyOrderR B P md ops Q fuel (listed.setIfInBounds i true) a' w') a w:=by
  intro fuel ih p
  induction p with
  | done=>intro _ _ _ _ hf;simp [Plan.fits] at hf
  | read i p _=>intro _ _ _ _ hf;simp [Plan.fits] at hf
  | main i p _=>
   intro listed a w hz hf hw j hj
   simp only [Plan.fits,Bool.true_or,Bool.true_and] at hf
   simp only [Plan.heads,List.mem_singleton] at hj
   subst hj
   exact one fuel j p listed a w (fun a' w' hh=>ih p _ a' w' (by simp [Plan.size] at hz;omega) hf hh) hw
  | alt i p q _ ihq=>
   intro listed a w hz hf hw j hj
   simp only [Plan.fits,Bool.true_or,Bool.true_and,Bool.and_eq_true] at hf
   simp only [Plan.size] at hz
   simp only [Plan.heads,List.mem_cons] at hj
   rcases hj with hj | hj
   ·subst hj
    exact one fuel j p listed a w (fun a' w' hh=>ih p _ a' w' (by omega) hf.1 hh) hw.1
   ·exact ihq listed a w (by omega) hf.2 hw.2 j hj
 have first : ∀ (fuel : Nat) (p : Plan) (listed : Array Bool) (a : Act) (w : World),p.size ≤ fuel → p.fits md ops false listed = true → walksR B P ops Q p a w → anyOrderR B P md ops Q fuel listed a w:=by
  intro fuel
  induction fuel with
  | zero=>
   intro p listed a w hz hf hw
   cases p with
   | done=>exact anyOrder_doneR (by simpa [Plan.fits] using hf) hw 0
   | read i p=>simp [Plan.size] at hz
   | main i p=>simp [Plan.size] at hz
   | alt i p q=>simp [Plan.size] at hz
  | succ fuel ih=>
   intro p listed a w hz hf hw
   cases p with
   | done=>exact anyOrder_doneR (by simpa [Plan.fits] using hf) hw _
   | read i p=>
    simp only [Plan.fits,Bool.not_false,Bool.true_and,Bool.and_eq_true] at hf
    obtain ⟨o,v,ho,hy,hw'⟩:=hw
    exact anyOrder_firstR ho (Region.noSelect_spec hs) fuel listed a w (Region.free_spec ho hf.1.2) (by simpa using hf.1.1) hy (ih p _ _ _ (by simp [Plan.size] at hz;omega) hf.2 hw')
   | main i p=>
    have hf0:=hf
    simp only [Plan.fits,Bool.false_or,Bool.and_eq_true,beq_iff_eq] at hf
    refine ⟨fun h0=>(by rw [hf.1] at h0;cases h0),fun j hj=>?_⟩
    rw [hf.1] at hj
    exact second fuel ih (.main i p) listed a w hz (by simp only [Plan.fits,Bool.true_or,Bool.true_and];exact hf.2) hw j hj
   | alt i p q=>
    simp only [Plan.fits,Bool.false_or,Bool.and_eq_true,beq_iff_eq] at hf
    refine ⟨fun h0=>(by rw [hf.1.1] at h0;cases h0),fun j hj=>?_⟩
    rw [hf.1.1] at hj
    exact second fuel ih (.alt i p q) listed a w hz (by simp only [Plan.fits,Bool.true_or,Bool.true_and,Bool.and_eq_true];exact ⟨hf.1.2,hf.2⟩) hw j hj
 intro fuel p
 exact ⟨first fuel p,second fuel (first fuel) p⟩
theorem wp_region_planR (B : Pre) {id : Nat} {R : Exit → Act → World → Prop} {a : Act} {w : World} (p : Plan) (hm : P.follows .mixedOrders = true)
 (hf : (Region.noSelect ops && p.fits .any ops false (Array.replicate ops.size false) && decide (p.size ≤ ops.size)) = true)
 (h : ∀ wD,Ext w wD → walksR B P ops (R .normal) p a wD) : (Code.region id ops true).wp P R a w:=by
 simp only [Bool.and_eq_true,decide_eq_true_eq] at hf
 exact wp_region_any hm (anyOrderR.wpAny (Q:=R .normal) (fun _ _ hq=>hq) _ _ _ _ ((anyOrder_of_planR (md:=.any) hf.1.1 ops.size p).1 _ _ _ hf.2 hf.1.2 (h w.drew (Ext.drew w))))
theorem walksR_done {a : Act} {w : World} (h : Q a w) : walksR B P ops Q .done a w:=h
theorem walksR_read {i : Nat} {p : Plan} {a : Act} {w : World} {d : Option Tmp} {op : Op} {ty : TypeId} {pos : String} {af : Array Edge} {gd : Option (Nat × Bool)} {v : Value}
 (ho : ops[i]? = some ⟨d,op,ty,pos,af,gd⟩) (hw : Region.wanted ⟨d,op,ty,pos,af,gd⟩ (yielded ops a.tmps) = true)
 (hv : ∀ w',B.r w w' → (execOp a.eval ⟨d,op,ty,pos,af,gd⟩).run P w' = .ok (.value v) w') (h : walksR B P ops Q p (a.put d v) w) : walksR B P ops Q (.read i p) a w:=⟨_,v,ho,.inl ⟨hw,hv⟩,h⟩
theorem walksR_move {i : Nat} {p : Plan} {a : Act} {w : World} {d : Option Tmp} {x : Operand} {ty : TypeId} {pos : String} {af : Array Edge} {gd : Option (Nat × Bool)}
 (ho : ops[i]? = some ⟨d,.move x,ty,pos,af,gd⟩) (hw : Region.wanted ⟨d,.move x,ty,pos,af,gd⟩ (yielded ops a.tmps) = true)
 (h : walksR B P ops Q p (a.put d (a.eval x)) w) : walksR B P ops Q (.read i p) a w:=walksR_read ho hw (fun _ _=>by simp [execOp]) h
theorem walksR_assign {i : Nat} {p : Plan} {a : Act} {w : World} {d : Option Tmp} {x : Operand} {ty : TypeId} {pos : String} {af : Array Edge} {gd : Option (Nat × Bool)}
 (ho : ops[i]? = some ⟨d,.assign x,ty,pos,af,gd⟩) (hw : Region.wanted ⟨d,.assign x,ty,pos,af,gd⟩ (yielded ops a.tmps) = true)
 (h : walksR B P ops Q p (a.put d (a.eval x)) w) : walksR B P ops Q (.read i p) a w:=walksR_read ho hw (fun _ _=>by simp [execOp]) h
theorem walksR_main {i : Nat} {p : Plan} {a : Act} {w : World} {d : Option Tmp} {op : Op} {ty : TypeId} {pos : String} {af : Array Edge} {gd : Option (Nat × Bool)}
 (ho : ops[i]? = some ⟨d,op,ty,pos,af,gd⟩) (hw : Region.wanted ⟨d,op,ty,pos,af,gd⟩ (yielded ops a.tmps) = true)
 (h : ∀ K : Act → World → Prop,(∀ a' w',B.r w w' → walksR B P ops Q p a' w' → K a' w') → Oper.wp P ⟨d,op,ty,pos,af,gd⟩ a w K noExit) : walksR B P ops Q (.main i p) a w:=by
 refine ⟨_,ho,?_⟩
 unfold comesUp
 rw [if_pos hw]
 exact h _ fun _ _ h1 h2=>⟨h1,h2⟩
end
end Go.Proofs.YtlbneoilhapkmaaGreatDoor
namespace Go.Proofs.YtlbneoilhapkmaaGreatDoor
open Go.RowKit
open Go.Maps Go.MapKept
set_option maxRecDepth 100000
theorem mlawE : Keyed Tryz.prog 9:=string_keyed Tryz.underlying9
theorem zeroEnt (w : World) : (zeroValue 57).run Tryz.prog w = .ok (.agg #[.string ⟨#[]⟩,.slice none 0 0]) w:=by kernel_rfl
theorem look_empty {w : World} {B : Nat} (hb : w.heap[B]? = some (.map #[] 0)) (s : ByteArray) (hs : s.size ≤ maxLen) :
 (Instr.lookup 113 (.map (some B)) (.string s) true).run Tryz.prog w = .ok (.tuple #[.agg #[.string ⟨#[]⟩,.slice none 0 0],.bool false]) w:=by
 rcases Maps.fit_look (H:=Unit) (R:=fun _=>some (.lit (.bool true),[])) true mlawE Tryz.underlying113 (zeroEnt w) hb ⟨by simp,stamped_empty 0,by simp⟩ (key:=.string s) (kl:=.string s.data.toList) (WideMaps.keyOf_string_mk Tryz.underlying9 hs) with ⟨h1,-,-⟩ | ⟨e0,y,h1,-⟩
 ·exact h1
 ·simp at h1
theorem put_empty {w : World} {B : Nat} (hb : w.heap[B]? = some (.map #[] 0)) (s : ByteArray) (hs : s.size ≤ maxLen) (v : Value) :
 ∃ w' es clock,(Instr.mapUpdate 113 (.map (some B)) (.string s) v).run Tryz.prog w = .ok () w' ∧ w'.heap[B]? = some (.map es clock) ∧ es.size = 1 ∧ w.grownBy w' (some B):=by
 have h0 : w.ownsMap (H:=Unit) Tryz.prog 9 (fun _=>some (.lit (.bool true),[])) B 0 (.map []):=⟨#[],0,hb,⟨by simp,stamped_empty 0,by simp⟩,Nat.le_refl _,rfl⟩
 obtain ⟨w',h1,⟨es,clock,h2,h3,h4,h5⟩,h6⟩:=h0.update mlawE Tryz.underlying113 (by simp [maxLen]) (key:=.string s) (val:=v) (kl:=.string s.data.toList) (WideMaps.keyOf_string_mk Tryz.underlying9 hs) rfl
 refine ⟨w',es,clock,h1,h2,?_,h6⟩
 have e1 : es.size = ((es.toList.map (Go.WideElems.rg Tryz.prog 9 (fun _=>some ((.lit (.bool true) : DataW Unit),[])))).foldr DataW.insert []).length:=by rw [length_sorted];simp
 have e2 : (DataW.map []).put (.string s.data.toList) (.lit (.bool true) : DataW Unit) = .map [(.string s.data.toList,.lit (.bool true))]:=by simp [DataW.put,DataW.insert]
 rw [e2] at h5
 injection h5 with h5
 rw [e1,← h5]
 rfl
def NewSays (w : World) (e : Ending) (w' : World) : Prop:=∃ g B,e = .returned (.pointer (some ⟨g,0,none⟩)) ∧ w'.heap[g]? = some (.cells #[.map (some B)] 115 (0,0)) ∧ w'.heap[B]? = some (.map #[] 0) ∧ w.heap.size ≤ B ∧ B < g ∧ Ext w w'
theorem new_any (w : World) : Calls Tryz.prog 58 #[] w (NewSays w):=by
 have hmm:=@run_makeMap Tryz.prog
 go_enter Tryz.func58,Tryz.ntmps58
 go_wp2
 go_ret
 refine ⟨_,w.heap.size,rfl,?_,?_,Nat.le_refl _,by simp,(Ext.alloc _ _).trans (Ext.alloc _ _)⟩
 ·have:=heap_alloc_new (w.alloc (.map #[] 0)) (.cells #[.map (some w.heap.size)] 115)
  rwa [show (w.alloc (.map #[] 0)).heap.size = w.heap.size + 1 by simp] at this
 ·exact ((Ext.alloc (w.alloc (.map #[] 0)) _).block _ (by simp)).trans (heap_alloc_new w _)
theorem len_any (g B : Nat) (es : Array MapEntry) (clock : Nat) (w : World) (hg : w.heap[g]? = some (.cells #[.map (some B)] 115 (0,0))) (hb : w.heap[B]? = some (.map es clock)) (hz : es.size = 1) :
 Calls Tryz.prog 60 #[.pointer (some ⟨g,0,none⟩)] w fun e w'=>e = .returned (.int .i64 1) ∧ Ext w w':=by
 have c0 : w.cell? ⟨g,0,none⟩ = some (.map (some B)):=by rw [cell_of_row w g 0 _ _ (0,0) hg];rfl
 have hlen : (Builtin.len_ #[113] 3 #[.map (some B)]).run Tryz.prog w = .ok (.int .i64 1) w:=by
  have:=MapKept.run_getObj_map (P:=Tryz.prog) hb
  simp [Builtin.len_,run_underlying Tryz.underlying113,this,hz,Result.andThen]
  rfl
 go_enter Tryz.func60,Tryz.ntmps60
 go_wp2
 go_ret
 exact ⟨rfl,Ext.refl _⟩
theorem mapput_wp {w w' : World} {o : Oper} {a : Act} {K : Act → World → Prop} {Q : Exit → Act → World → Prop} (T : TypeId) (m x v : Operand) (ho : o.op = .mapUpdate T m x v) {M X V : Value} (hm : a.eval m = M) (hx : a.eval x = X) (hv : a.eval v = V)
 (hrun : (Instr.mapUpdate T M X V).run Tryz.prog w = .ok () w') (h : K (a.put o.dst undef) w') : o.wp Tryz.prog a w K Q:=by
 unfold Oper.wp
 simp [execOp,ho,hm,hx,hv,hrun,Result.andThen]
 exact h
def PutSays (w : World) (B : Nat) (e : Ending) (w' : World) : Prop:=e = .returned (.tuple #[]) ∧ ∃ es clock,w'.heap[B]? = some (.map es clock) ∧ es.size = 1 ∧ w.grownBy w' (some B)
theorem tset_any (g B : Nat) (s : ByteArray) (A : Option Addr) (n c : Nat) (w : World) (hs : s.size ≤ maxLen) (hg : w.heap[g]? = some (.cells #[.map (some B)] 115 (0,0))) (hb : w.heap[B]? = some (.map #[] 0)) :
 Calls Tryz.prog 114 #[.pointer (some ⟨g,0,none⟩),.agg #[.string s,.slice A n c]] w (PutSays w B):=by
 have HS:=hid hs
 have HG:=hid hg
 have HB:=hid hb
 have hgl:=row_lt hg
 have hbl : B < w.heap.size:=(Array.getElem?_eq_some_iff.1 hb).1
 have hne : g ≠ B:=fun e=>by rw [e,hb] at hg;simp at hg
 have HB0:=hid (Bx.make (Ext.refl w) #[.string s,.slice A n c] 57)
 have c0:=cell_later (v:=.map (some B)) (p:=⟨g,0,none⟩) (by rw [cell_of_row w g 0 _ _ (0,0) hg];rfl) _ (Ext.alloc w (.cells #[.string s,.slice A n c] 57))
 show Calls _ _ _ _ (fun e w'=>PutSays w B e w')
 obtain ⟨S9,hS9⟩ : ∃ S : Nat → Prop,S = fun b=>b < w.heap.size + 1 ∧ b ≠ B:=⟨_,rfl⟩
 have HSI : Hid (∀ b,S9 b → b < w.heap.size + 1 ∧ b ≠ B):=fun b hb=>by rw [hS9] at hb;exact hb
 have HS1 : Hid (S9 w.heap.size):=by show S9 _;rw [hS9];exact ⟨by omega,by omega⟩
 have HS2 : Hid (S9 g):=by show S9 _;rw [hS9];exact ⟨by omega,hne⟩
 have HBL:=hid hbl
 obtain ⟨PR,hPR⟩ : ∃ p,p = Pre.same S9:=⟨_,rfl⟩
 have HPS : Hid (∀ w w',Same S9 w w' → PR.r w w'):=fun w w' h=>by rw [hPR];exact h
 have HPT : Hid (∀ w w',PR.r w w' → Same S9 w w'):=fun w w' h=>by rw [hPR] at h;exact h
 clear hs hg hb hgl hbl hne hPR hS9
 have hme:=fun W=>run_eql_map_nil (P:=Tryz.prog) W 113 9 57 (some B) Tryz.underlying113
 go_enter Tryz.func114,Tryz.ntmps114
 go_wp2
 refine wp_region_planR PR (.read 0 (.read 1 (.read 2 (.read 3 (.read 4 (.read 5 (.read 6 (.main 7 .done)))))))) (by kernel_rfl) (by kernel_rfl) ?_
 intro wD hxD
 have XR : Hid (PR.r wD wD):=PR.refl _
 have HBD:=hid (HB0.out.later hxD)
 have HGD:=hid (row_later' HG.out HBD.out.ext)
 have HMD : Hid (wD.heap[B]? = some (.map #[] 0)):=by show _ = _;rw [HBD.out.ext.block B HBL.out];exact HB.out
 have ce0 : ∀ w',PR.r wD w' → w'.cell? ⟨w.heap.size,0,none⟩ = some (.string s):=fun w' hk=>by rw [World.cell?_of_block (HPT.out _ _ hk _ HS1.out)];exact HBD.out.cell (i:=0) rfl
 have ce1 : ∀ w',PR.r wD w' → w'.cell? ⟨w.heap.size,1,none⟩ = some (.slice A n c):=fun w' hk=>by rw [World.cell?_of_block (HPT.out _ _ hk _ HS1.out)];exact HBD.out.cell (i:=1) rfl
 have cg : ∀ w',PR.r wD w' → w'.cell? ⟨g,0,none⟩ = some (.map (some B)):=fun w' hk=>by rw [World.cell?_of_block (HPT.out _ _ hk _ HS2.out),cell_of_row wD g 0 _ _ (0,0) HGD.out];rfl
 obtain ⟨w8,es,clock,hrun,hes,hsz,hgr⟩:=put_empty HMD.out s HS.out (.agg #[.string s,.slice A n c])
 have HRUN:=hid hrun
 have HES:=hid hes
 have HSZ:=hid hsz
 have HGR:=hid hgr
 have hs8 : PR.r wD w8:=HPS.out _ _ (fun b hb=>hgr.block b (by have h1:=(HSI.out b hb).1;have h2:=hxD.size;simp only [World.alloc,Array.size_push] at h2;omega) (fun e=>by injection e with e;exact (HSI.out b hb).2 e))
 clear hrun hes hsz hgr
 repeat' (first
  | ((first | refine walksR_move rfl rfl ?_ | refine walksR_assign rfl rfl ?_ | refine walksR_skip rfl rfl ?_);simp only [Act.put,Act.eval,evs])
  | (refine walksR_unwanted rfl rfl ?_;simp only [Act.put,evp])
  | (refine walksR_read (v:=?_) rfl rfl (fun w' hE=>?_) ?_;rotate_left 1;(· ((try (have hEx:=Pre.trans _ (Hid.out XR) hE));go_simp;(try go_bits);with_reducible rfl));simp only [Act.put,evp])
  | (refine walksR_main rfl rfl (fun K hK=>?_);(first | (refine mapput_wp 113 (.tmp 16) (.tmp 18) (.tmp 19) rfl rfl rfl rfl HRUN.out ?_));refine hK _ _ (by first | assumption | exact Pre.refl _ _ | exact Hid.out HPS _ _ (Same.alloc_of (Hid.out HSR) _) | exact Hid.out HPS _ _ (Same.set_of (Hid.out HNE) _) | exact Hid.out HPS _ _ (Same.allocs_of (Hid.out HSR) _ _)) ?_;clear hK K;try simp only [Act.put,evp])
  | (refine walksR_alt ?_ ?_)
  | (refine walksR_main rfl rfl (fun K hK=>?_);go_wp2_with (fail);refine hK _ _ (by first | assumption | exact Pre.refl _ _ | exact Hid.out HPS _ _ (Same.alloc_of (Hid.out HSR) _) | exact Hid.out HPS _ _ (Same.set_of (Hid.out HNE) _) | exact Hid.out HPS _ _ (Same.allocs_of (Hid.out HSR) _ _)) ?_;clear hK K;try simp only [Act.put,evp]))
 all_goals
  refine walksR_done ?_
  go_wp2
  refine bodyPost_ret (v:=.tuple #[]) (by kernel_rfl) rfl ⟨rfl,es,clock,HES.out,HSZ.out,?_⟩
  have hb8:=HGR.out
  have hb9:=HBD.out.ext
  exact ⟨hb8.os.trans hb9.os,hb8.tape.trans hb9.tape,hb8.output.trans hb9.output,Nat.le_trans hb9.size hb8.size,fun k hk hn=>(hb8.block k (Nat.lt_of_lt_of_le hk hb9.size) hn).trans (hb9.block k hk)⟩
end Go.Proofs.YtlbneoilhapkmaaGreatDoor
namespace Go.Proofs.YtlbneoilhapkmaaGreatDoor
open Go.RowKit
set_option maxRecDepth 100000
theorem sametexts_any {S T : Nat → Prop} {A B : Option Addr} {n c m d : Nat} {l r : List ByteArray} {w : World} (h : Row Elem.str S w A n c l) (k : Row Elem.str T w B m d r) :
 Calls Tryz.prog 31 #[.slice A n c,.slice B m d] w fun e w'=>e = .returned (.bool (decide (l = r))) ∧ Ext w w':=by
 have hl:=hid h.len
 have kl:=hid k.len
 have hnl : n ≤ 9223372036854775807:=by have:=h.cap;have:=h.most;simp only [maxLen] at this;omega
 have hml : m ≤ 9223372036854775807:=by have:=k.cap;have:=k.most;simp only [maxLen] at this;omega
 by_cases hnm : n = m
 ·subst hnm
  have kl2:=kl
  clear kl
  go_enter Tryz.func31,Tryz.ntmps31
  go_wp2
  go_loopw [13] (fun i wr=>∃ j : Nat,j ≤ n ∧ i = .int .i64 j ∧ Hid (l.take j = r.take j) ∧ Hid (Ext w wr)) (fun i _=>n - (intOf i).toNat)
  case atStart=>exact ⟨0,by omega,rfl,by simp [Hid],Ext.refl w⟩
  case round=>
   obtain ⟨j,hj,rfl,Htk,hx⟩:=hrel
   by_cases hlt : j < n
   ·obtain ⟨b1,o1,rfl,c1⟩:=(h.ext hx.out).str_cell (by omega)
    obtain ⟨b2,o2,rfl,c2⟩:=(k.ext hx.out).str_cell (by omega)
    have e1:=c1 j hlt
    have e2:=c2 j hlt
    clear c1 c2
    have g1 : l[j]? = some (l[j]?.getD ByteArray.empty):=by have:=hl.out;rw [List.getElem?_eq_getElem (by omega)];simp
    have g2 : r[j]? = some (r[j]?.getD ByteArray.empty):=by have:=kl2.out;rw [List.getElem?_eq_getElem (by omega)];simp
    have Hg:=hid (And.intro g1 g2)
    clear g1 g2
    generalize l[j]?.getD ByteArray.empty = x1 at *
    generalize r[j]?.getD ByteArray.empty = x2 at *
    by_cases he : x1 = x2
    ·have He:=hid he
     have Hne:=str_eq he
     clear he
     go_wp2
     refine wp_region_plan (.read 0 (.read 1 (.read 2 (.read 3 (.read 4 (.read 5 (.read 6 (.read 7 (.read 8 .done))))))))) (by kernel_rfl) (by kernel_rfl) ?_
     intro wD hxD
     have c1:=cell_later (cell_later e1 _ hxD)
     have c2:=cell_later (cell_later e2 _ hxD)
     repeat' (first
      | ((first | refine walks_move rfl rfl ?_ | refine walks_assign rfl rfl ?_ | refine walks_skip rfl rfl ?_);simp only [Act.put,Act.eval,evs])
      | (refine walks_unwanted rfl rfl ?_;simp only [Act.put,evp])
      | (refine walks_read (v:=?_) rfl rfl (fun w' hE=>?_) ?_;rotate_left 1;(· ((try (have hEx:=Ext.trans (Hid.out XE) hE));go_simp;(try go_bits);with_reducible rfl));simp only [Act.put,evp])
      | (refine walks_alt ?_ ?_)
      | (refine walks_main rfl rfl (fun K hK=>?_);go_wp2_with (fail);refine hK _ _ (by first | assumption | exact Ext.alloc _ _ | exact Ext.refl _) ?_;clear hK K;try simp only [Act.put,evp]))
     refine walks_done ?_
     go_wp2
     refine ⟨⟨j + 1,by omega,by go_num,?_,hx.out.trans hxD⟩,by simp [intOf];omega⟩
     show _ = _
     rw [List.take_add_one,List.take_add_one,Htk.out,Hg.out.1,Hg.out.2,He.out]
    ·have He:=hid he
     have Hne:=str_ne he
     clear he
     go_wp2
     refine wp_region_plan (.read 0 (.read 1 (.read 2 (.read 3 (.read 4 (.read 5 (.read 6 (.read 7 (.read 8 .done))))))))) (by kernel_rfl) (by kernel_rfl) ?_
     intro wD hxD
     have c1:=cell_later (cell_later e1 _ hxD)
     have c2:=cell_later (cell_later e2 _ hxD)
     repeat' (first
      | ((first | refine walks_move rfl rfl ?_ | refine walks_assign rfl rfl ?_ | refine walks_skip rfl rfl ?_);simp only [Act.put,Act.eval,evs])
      | (refine walks_unwanted rfl rfl ?_;simp only [Act.put,evp])
      | (refine walks_read (v:=?_) rfl rfl (fun w' hE=>?_) ?_;rotate_left 1;(· ((try (have hEx:=Ext.trans (Hid.out XE) hE));go_simp;(try go_bits);with_reducible rfl));simp only [Act.put,evp])
      | (refine walks_alt ?_ ?_)
      | (refine walks_main rfl rfl (fun K hK=>?_);go_wp2_with (fail);refine hK _ _ (by first | assumption | exact Ext.alloc _ _ | exact Ext.refl _) ?_;clear hK K;try simp only [Act.put,evp]))
     refine walks_done ?_
     go_wp2
     go_ret
     refine ⟨?_,hx.out.trans hxD⟩
     rw [decide_eq_false (fun e=>by subst e;exact He.out (Option.some.inj (Hg.out.1.symm.trans Hg.out.2)))]
     rfl
   ·obtain rfl : j = n:=by omega
    go_wp2
    go_ret
    refine ⟨?_,hx.out⟩
    rw [decide_eq_true (take_eq_all hl.out kl2.out Htk.out)]
    rfl
 ·have hne : ((n : Int) != (m : Int)) = true:=by rw [bne_iff_ne];omega
  have hfin : Hid (decide (l = r) = false):=by
   show _ = _
   rw [decide_eq_false]
   intro e
   subst e
   have:=hl.out
   have:=kl.out
   omega
  clear hnm
  go_enter Tryz.func31,Tryz.ntmps31
  go_wp2
  go_ret
  exact ⟨by rw [hfin.out];rfl,Ext.refl w⟩
theorem att_eq {a b : Att} : a = b ↔ a.type = b.type ∧ a.vals = b.vals:=by
 obtain ⟨t,v⟩:=a
 obtain ⟨u,x⟩:=b
 simp
instance : DecidableEq Att:=fun _ _=>decidable_of_iff _ att_eq.symm
theorem ret_bool {a b : Bool} (h : a = b) : Ending.returned (.bool b) = .returned (.bool a):=by rw [h]
theorem att_dec (a b : Att) : decide (a = b) = (decide (a.type = b.type) && decide (a.vals = b.vals)):=by
 rw [Bool.eq_iff_iff];simp [att_eq]
theorem rsameatts_any {S T : Nat → Prop} {A B : Option Addr} {n c m d : Nat} {l r : List Att} {w : World} (h : Row Elem.att S w A n c l) (k : Row Elem.att T w B m d r) :
 Calls Tryz.prog 78 #[.slice A n c,.slice B m d] w fun e w'=>e = .returned (.bool (decide (l = r))) ∧ Ext w w':=by
 have hl:=hid h.len
 have kl:=hid k.len
 have hnl : n ≤ 9223372036854775807:=by have:=h.cap;have:=h.most;simp only [maxLen] at this;omega
 have hml : m ≤ 9223372036854775807:=by have:=k.cap;have:=k.most;simp only [maxLen] at this;omega
 by_cases hnm : n = m
 ·subst hnm
  have kl2:=kl
  clear kl
  go_enter Tryz.func78,Tryz.ntmps78
  go_wp2
  go_loopw [13] (fun i wr=>∃ j : Nat,j ≤ n ∧ i = .int .i64 j ∧ Hid (l.take j = r.take j) ∧ Hid (Ext w wr)) (fun i _=>n - (intOf i).toNat)
  case atStart=>exact ⟨0,by omega,rfl,by simp [Hid],Ext.refl w⟩
  case round=>
   obtain ⟨j,hj,rfl,Htk,hx⟩:=hrel
   by_cases hlt : j < n
   ·obtain ⟨b1,o1,v1,x1,rfl,g1,_,⟨A1,n1,c1,rfl,r1⟩,q1⟩:=(h.ext hx.out).at_ hlt
    obtain ⟨b2,o2,v2,x2,rfl,g2,_,⟨A2,n2,c2,rfl,r2⟩,q2⟩:=(k.ext hx.out).at_ hlt
    have e10:=q1 0 _ rfl;have e11:=q1 1 _ rfl;have e20:=q2 0 _ rfl;have e21:=q2 1 _ rfl
    clear q1 q2
    simp only [Elem.att,Nat.add_zero] at e10 e11 e20 e21
    have Hg:=hid (And.intro g1 g2)
    clear g1 g2
    have hd:=hid (att_dec x1 x2)
    by_cases ht : x1.type = x2.type
    ·have f1:=str_eq ht
     by_cases hv : x1.vals = x2.vals
     ·have Hd:=hid (decide_eq_true hv)
      have Hx : Hid (x1 = x2):=att_eq.2 ⟨ht,hv⟩
      clear ht hv
      go_wp2
      refine wp_region_plan (.read 0 (.read 1 (.read 2 (.read 3 (.read 4 (.read 5 (.read 6 (.read 7 (.read 8 (.read 9 (.read 10 (.read 11 (.read 12 (.read 13 (.read 14 (.read 15 (.read 16 (.read 17 (.read 18 (.read 19 (.read 20 (.read 21 (.main 22 (.read 23 (.read 24 .done))))))))))))))))))))))))) (by kernel_rfl) (by kernel_rfl) ?_
      intro wD hxD
      have c10:=cell_later (cell_later e10 _ hxD);have c11:=cell_later (cell_later e11 _ hxD);have c20:=cell_later (cell_later e20 _ hxD);have c21:=cell_later (cell_later e21 _ hxD)
      repeat' (first
       | ((first | refine walks_move rfl rfl ?_ | refine walks_assign rfl rfl ?_ | refine walks_skip rfl rfl ?_);simp only [Act.put,Act.eval,evs])
       | (refine walks_unwanted rfl rfl ?_;simp only [Act.put,evp])
       | (refine walks_read (v:=?_) rfl rfl (fun w' hE=>?_) ?_;rotate_left 1;(· ((try (have hEx:=Ext.trans (Hid.out XE) hE));go_simp;(try go_bits);with_reducible rfl));simp only [Act.put,evp])
       | (refine walks_alt ?_ ?_)
       | (refine walks_main rfl rfl (fun K hK=>?_);go_wp2_with ((go_at_call 31;(with_reducible refine (sametexts_any (r1.ext hxD) (r2.ext hxD)).mono ?_);rintro e w1 ⟨he,hx1⟩;rw [Hd.out] at he;subst he));refine hK _ _ (by first | assumption | exact Ext.alloc _ _ | exact Ext.refl _) ?_;clear hK K;try simp only [Act.put,evp]))
      refine walks_done ?_
      go_wp2
      refine ⟨⟨j + 1,by omega,by go_num,?_,hx.out.trans (hxD.trans hx1)⟩,by simp [intOf];omega⟩
      show _ = _
      rw [List.take_add_one,List.take_add_one,Htk.out,Hg.out.1,Hg.out.2,Hx.out]
     ·have Hd:=hid (decide_eq_false hv)
      have Hx : Hid (¬ x1 = x2):=fun e=>hv (att_eq.1 e).2
      clear ht hv
      go_wp2
      refine wp_region_plan (.read 0 (.read 1 (.read 2 (.read 3 (.read 4 (.read 5 (.read 6 (.read 7 (.read 8 (.read 9 (.read 10 (.read 11 (.read 12 (.read 13 (.read 14 (.read 15 (.read 16 (.read 17 (.read 18 (.read 19 (.read 20 (.read 21 (.main 22 (.read 23 (.read 24 .done))))))))))))))))))))))))) (by kernel_rfl) (by kernel_rfl) ?_
      intro wD hxD
      have c10:=cell_later (cell_later e10 _ hxD);have c11:=cell_later (cell_later e11 _ hxD);have c20:=cell_later (cell_later e20 _ hxD);have c21:=cell_later (cell_later e21 _ hxD)
      repeat' (first
       | ((first | refine walks_move rfl rfl ?_ | refine walks_assign rfl rfl ?_ | refine walks_skip rfl rfl ?_);simp only [Act.put,Act.eval,evs])
       | (refine walks_unwanted rfl rfl ?_;simp only [Act.put,evp])
       | (refine walks_read (v:=?_) rfl rfl (fun w' hE=>?_) ?_;rotate_left 1;(· ((try (have hEx:=Ext.trans (Hid.out XE) hE));go_simp;(try go_bits);with_reducible rfl));simp only [Act.put,evp])
       | (refine walks_alt ?_ ?_)
       | (refine walks_main rfl rfl (fun K hK=>?_);go_wp2_with ((go_at_call 31;(with_reducible refine (sametexts_any (r1.ext hxD) (r2.ext hxD)).mono ?_);rintro e w1 ⟨he,hx1⟩;rw [Hd.out] at he;subst he));refine hK _ _ (by first | assumption | exact Ext.alloc _ _ | exact Ext.refl _) ?_;clear hK K;try simp only [Act.put,evp]))
      refine walks_done ?_
      go_wp2
      go_ret
      exact ⟨ret_bool (decide_eq_false (fun e=>by subst e;exact Hx.out (Option.some.inj (Hg.out.1.symm.trans Hg.out.2)))),hx.out.trans (hxD.trans hx1)⟩
    ·have f1:=str_ne ht
     have Hx : Hid (¬ x1 = x2):=fun e=>ht (att_eq.1 e).1
     clear ht
     go_wp2
     refine wp_region_plan (.read 0 (.read 1 (.read 2 (.read 3 (.read 4 (.read 5 (.read 6 (.read 7 (.read 8 (.read 9 (.read 10 (.read 11 (.read 12 (.read 13 (.read 14 (.read 15 (.read 16 (.read 17 (.read 18 (.read 19 (.read 20 (.read 21 (.main 22 (.read 23 (.read 24 .done))))))))))))))))))))))))) (by kernel_rfl) (by kernel_rfl) ?_
     intro wD hxD
     have c10:=cell_later (cell_later e10 _ hxD);have c11:=cell_later (cell_later e11 _ hxD);have c20:=cell_later (cell_later e20 _ hxD);have c21:=cell_later (cell_later e21 _ hxD)
     repeat' (first
      | ((first | refine walks_move rfl rfl ?_ | refine walks_assign rfl rfl ?_ | refine walks_skip rfl rfl ?_);simp only [Act.put,Act.eval,evs])
      | (refine walks_unwanted rfl rfl ?_;simp only [Act.put,evp])
      | (refine walks_read (v:=?_) rfl rfl (fun w' hE=>?_) ?_;rotate_left 1;(· ((try (have hEx:=Ext.trans (Hid.out XE) hE));go_simp;(try go_bits);with_reducible rfl));simp only [Act.put,evp])
      | (refine walks_alt ?_ ?_)
      | (refine walks_main rfl rfl (fun K hK=>?_);go_wp2_with (fail);refine hK _ _ (by first | assumption | exact Ext.alloc _ _ | exact Ext.refl _) ?_;clear hK K;try simp only [Act.put,evp]))
     refine walks_done ?_
     go_wp2
     go_ret
     exact ⟨ret_bool (decide_eq_false (fun e=>by subst e;exact Hx.out (Option.some.inj (Hg.out.1.symm.trans Hg.out.2)))),hx.out.trans hxD⟩
   ·obtain rfl : j = n:=by omega
    go_wp2
    go_ret
    exact ⟨ret_bool (decide_eq_true (take_eq_all hl.out kl2.out Htk.out)),hx.out⟩
 ·have hne : ((n : Int) != (m : Int)) = true:=by rw [bne_iff_ne];omega
  have hfin : Hid (decide (l = r) = false):=by
   refine decide_eq_false fun e=>?_
   subst e
   have:=hl.out
   have:=kl.out
   omega
  clear hnm
  go_enter Tryz.func78,Tryz.ntmps78
  go_wp2
  go_ret
  exact ⟨ret_bool hfin.out,Ext.refl w⟩
theorem ent_eq {a b : Ent} : a = b ↔ a.name = b.name ∧ a.atts = b.atts:=by
 obtain ⟨t,v⟩:=a
 obtain ⟨u,x⟩:=b
 simp
instance : DecidableEq Ent:=fun _ _=>decidable_of_iff _ ent_eq.symm
theorem ent_dec (a b : Ent) : decide (a = b) = (decide (a.name = b.name) && decide (a.atts = b.atts)):=by
 rw [Bool.eq_iff_iff];simp [ent_eq]
theorem rsame_any {S T : Nat → Prop} {a b : Ent} {A B : Option Addr} {n c m d : Nat} {w : World} (h : Row Elem.att S w A n c a.atts) (k : Row Elem.att T w B m d b.atts) :
 Calls Tryz.prog 30 #[.agg #[.string a.name,.slice A n c],.agg #[.string b.name,.slice B m d]] w fun e w'=>e = .returned (.bool (decide (a = b))) ∧ Ext w w':=by
 have hd:=hid (ent_dec a b)
 by_cases he : a.name = b.name
 ·have hf:=hid (show decide (a = b) = decide (a.atts = b.atts) by rw [hd.out,decide_eq_true he,Bool.true_and])
  have hs:=str_eq he
  clear he
  go_enter Tryz.func30,Tryz.ntmps30
  go_wp2_with (go_at_call 78;(with_reducible refine (rsameatts_any (h.ext ((Ext.alloc _ _).trans (Ext.alloc _ _))) (k.ext ((Ext.alloc _ _).trans (Ext.alloc _ _)))).mono ?_);rintro e w1 ⟨rfl,hx1⟩)
  go_ret
  exact ⟨ret_bool hf.out,((Ext.alloc _ _).trans (Ext.alloc _ _)).trans hx1⟩
 ·have hf:=hid (show decide (a = b) = false by rw [hd.out,decide_eq_false he,Bool.false_and])
  have hs:=str_ne he
  clear he
  go_enter Tryz.func30,Tryz.ntmps30
  go_wp2
  go_ret
  exact ⟨ret_bool hf.out,(Ext.alloc _ _).trans (Ext.alloc _ _)⟩
theorem rsameall_any {S T : Nat → Prop} {A B : Option Addr} {n c m d : Nat} {l r : List Ent} {w : World} (h : Row Elem.ent S w A n c l) (k : Row Elem.ent T w B m d r) :
 Calls Tryz.prog 42 #[.slice A n c,.slice B m d] w fun e w'=>e = .returned (.bool (decide (l = r))) ∧ Ext w w':=by
 have hl:=hid h.len
 have kl:=hid k.len
 have hnl : n ≤ 9223372036854775807:=by have:=h.cap;have:=h.most;simp only [maxLen] at this;omega
 have hml : m ≤ 9223372036854775807:=by have:=k.cap;have:=k.most;simp only [maxLen] at this;omega
 have HH:=hid h
 have KK:=hid k
 clear h k
 by_cases hnm : n = m
 ·subst hnm
  have kl2:=kl
  clear kl
  go_enter Tryz.func42,Tryz.ntmps42
  go_wp2
  go_loopw [13] (fun i wr=>∃ j : Nat,j ≤ n ∧ i = .int .i64 j ∧ Hid (l.take j = r.take j) ∧ Hid (Ext w wr)) (fun i _=>n - (intOf i).toNat)
  case atStart=>exact ⟨0,by omega,rfl,by simp [Hid],Ext.refl w⟩
  case round=>
   obtain ⟨j,hj,rfl,Htk,hx⟩:=hrel
   by_cases hlt : j < n
   ·obtain ⟨b1,o1,v1,x1,rfl,g1,_,⟨A1,n1,c1,rfl,r1⟩,q1⟩:=(HH.out.ext hx.out).at_ hlt
    obtain ⟨b2,o2,v2,x2,rfl,g2,_,⟨A2,n2,c2,rfl,r2⟩,q2⟩:=(KK.out.ext hx.out).at_ hlt
    have e10:=q1 0 _ rfl;have e11:=q1 1 _ rfl;have e20:=q2 0 _ rfl;have e21:=q2 1 _ rfl
    clear q1 q2
    simp only [Elem.ent,Nat.add_zero] at e10 e11 e20 e21
    have Hg:=hid (And.intro g1 g2)
    clear g1 g2
    have HSM : ∀ w',Ext wr w' → Calls Tryz.prog 30 #[.agg #[.string x1.name,.slice A1 n1 c1],.agg #[.string x2.name,.slice A2 n2 c2]] w' fun e w''=>e = .returned (.bool (decide (x1 = x2))) ∧ Ext w' w'':=fun w' hx=>rsame_any (r1.ext hx) (r2.ext hx)
    clear r1 r2
    by_cases hv : x1 = x2
    ·have Hx:=hid hv
     rw [decide_eq_true hv] at HSM
     clear hv
     go_wp2
     refine wp_region_plan (.read 0 (.read 1 (.read 2 (.read 3 (.read 4 (.read 5 (.read 6 (.read 7 (.main 8 (.read 9 .done)))))))))) (by kernel_rfl) (by kernel_rfl) ?_
     intro wD hxD
     have XE : Hid (Ext wD wD):=Ext.refl _
     have c10:=cell_later (cell_later e10 _ hxD);have c11:=cell_later (cell_later e11 _ hxD);have c20:=cell_later (cell_later e20 _ hxD);have c21:=cell_later (cell_later e21 _ hxD)
     repeat' (first
      | ((first | refine walks_move rfl rfl ?_ | refine walks_assign rfl rfl ?_ | refine walks_skip rfl rfl ?_);simp only [Act.put,Act.eval,evs])
      | (refine walks_unwanted rfl rfl ?_;simp only [Act.put,evp])
      | (refine walks_read (v:=?_) rfl rfl (fun w' hE=>?_) ?_;rotate_left 1;(· ((try (have hEx:=Ext.trans (Hid.out XE) hE));go_simp;(try go_bits);with_reducible rfl));simp only [Act.put,evp])
      | (refine walks_alt ?_ ?_)
      | (refine walks_main rfl rfl (fun K hK=>?_);go_wp2_with ((go_at_call 30;(with_reducible refine (HSM _ (hxD.trans XE.out)).mono ?_);rintro e w1 ⟨rfl,hx1⟩;have XE':=hid (Ext.trans (Hid.out XE) hx1);clear XE;have XE:=XE';clear XE'));refine hK _ _ (by first | assumption | exact Ext.alloc _ _ | exact Ext.refl _) ?_;clear hK K;try simp only [Act.put,evp]))
     refine walks_done ?_
     go_wp2
     refine ⟨⟨j + 1,by omega,by go_num,?_,hx.out.trans (hxD.trans XE.out)⟩,by simp [intOf];omega⟩
     show _ = _
     rw [List.take_add_one,List.take_add_one,Htk.out,Hg.out.1,Hg.out.2,Hx.out]
    ·have Hx:=hid hv
     rw [decide_eq_false hv] at HSM
     clear hv
     go_wp2
     refine wp_region_plan (.read 0 (.read 1 (.read 2 (.read 3 (.read 4 (.read 5 (.read 6 (.read 7 (.main 8 (.read 9 .done)))))))))) (by kernel_rfl) (by kernel_rfl) ?_
     intro wD hxD
     have XE : Hid (Ext wD wD):=Ext.refl _
     have c10:=cell_later (cell_later e10 _ hxD);have c11:=cell_later (cell_later e11 _ hxD);have c20:=cell_later (cell_later e20 _ hxD);have c21:=cell_later (cell_later e21 _ hxD)
     repeat' (first
      | ((first | refine walks_move rfl rfl ?_ | refine walks_assign rfl rfl ?_ | refine walks_skip rfl rfl ?_);simp only [Act.put,Act.eval,evs])
      | (refine walks_unwanted rfl rfl ?_;simp only [Act.put,evp])
      | (refine walks_read (v:=?_) rfl rfl (fun w' hE=>?_) ?_;rotate_left 1;(· ((try (have hEx:=Ext.trans (Hid.out XE) hE));go_simp;(try go_bits);with_reducible rfl));simp only [Act.put,evp])
      | (refine walks_alt ?_ ?_)
      | (refine walks_main rfl rfl (fun K hK=>?_);go_wp2_with ((go_at_call 30;(with_reducible refine (HSM _ (hxD.trans XE.out)).mono ?_);rintro e w1 ⟨rfl,hx1⟩;have XE':=hid (Ext.trans (Hid.out XE) hx1);clear XE;have XE:=XE';clear XE'));refine hK _ _ (by first | assumption | exact Ext.alloc _ _ | exact Ext.refl _) ?_;clear hK K;try simp only [Act.put,evp]))
     refine walks_done ?_
     go_wp2
     go_ret
     exact ⟨ret_bool (decide_eq_false (fun e=>by subst e;exact Hx.out (Option.some.inj (Hg.out.1.symm.trans Hg.out.2)))),hx.out.trans (hxD.trans XE.out)⟩
   ·obtain rfl : j = n:=by omega
    go_wp2
    go_ret
    exact ⟨ret_bool (decide_eq_true (take_eq_all hl.out kl2.out Htk.out)),hx.out⟩
 ·have hne : ((n : Int) != (m : Int)) = true:=by rw [bne_iff_ne];omega
  have hfin : Hid (decide (l = r) = false):=by
   refine decide_eq_false fun e=>?_
   subst e
   have:=hl.out
   have:=kl.out
   omega
  clear hnm
  go_enter Tryz.func42,Tryz.ntmps42
  go_wp2
  go_ret
  exact ⟨ret_bool hfin.out,Ext.refl w⟩
end Go.Proofs.YtlbneoilhapkmaaGreatDoor
namespace Go.Proofs.YtlbneoilhapkmaaGreatDoor.bulks
theorem one_le {H : Type} (d : DataW H) : 1 ≤ Rows.uptoBulk d:=by
 cases d with
 | lit l=>cases l <;> simp [Rows.uptoBulk]
 | nil=>simp [Rows.uptoBulk]
 | ptr d=>simp [Rows.uptoBulk]
 | slice elems spare=>simp [Rows.uptoBulk]
 | agg parts=>simp [Rows.uptoBulk]
 | iface t d=>simp [Rows.uptoBulk]
 | map entries=>simp [Rows.uptoBulk]
 | held h=>simp [Rows.uptoBulk]
theorem part_le {H : Type} {d : DataW H} {l : List (DataW H)} (h : d ∈ l) : Rows.uptoBulk d ≤ Rows.uptoBulkAll l:=by
 induction l with
 | nil=>cases h
 | cons x r ih=>
  simp only [Rows.uptoBulkAll]
  cases List.mem_cons.1 h with
  | inl e=>subst e;omega
  | inr e=>have:=ih e;omega
theorem length_le {H : Type} (l : List (DataW H)) : l.length ≤ Rows.uptoBulkAll l:=by
 induction l with
 | nil=>simp [Rows.uptoBulkAll]
 | cons x r ih=>have:=one_le x;simp only [Rows.uptoBulkAll,List.length_cons];omega
theorem slice_le {H : Type} (elems spare : List (DataW H)) : elems.length + spare.length + 1 ≤ Rows.uptoBulk (.slice elems spare):=by
 have h1:=length_le elems
 have h2:=length_le spare
 simp only [Rows.uptoBulk]
 omega
theorem slice_elems {H : Type} (elems spare : List (DataW H)) : Rows.uptoBulkAll elems + 1 ≤ Rows.uptoBulk (.slice elems spare):=by
 simp only [Rows.uptoBulk]
 omega
theorem bound {H : Type} {l : List (DataW H)} (hk : Rows.uptoSmall H l = true) : Rows.uptoBulkAll l ≤ 1048576:=of_decide_eq_true hk
end Go.Proofs.YtlbneoilhapkmaaGreatDoor.bulks
namespace Go.Proofs.YtlbneoilhapkmaaGreatDoor
open Go.RowKit Go.ChangeShapes Go.WideShapes Go.Deep
set_option maxRecDepth 10000
theorem flat_split {k : Nat} : ∀ {vss : List (List Value)},(∀ v ∈ vss,v.length = k) → ∀ {j : Nat} {u : Value},vss.flatten[j]? = some u → ∃ i r v,vss[i]? = some v ∧ v[r]? = some u ∧ j = i * k + r ∧ r < k
 | [],_,j,u,h=>by simp at h
 | v0 :: vss,hl,j,u,h=>by
  have h0:=hl v0 (by simp)
  rw [List.flatten_cons] at h
  rcases Nat.lt_or_ge j v0.length with hj | hj
  ·rw [List.getElem?_append_left hj] at h
   exact ⟨0,j,v0,rfl,h,by omega,by omega⟩
  ·rw [List.getElem?_append_right hj] at h
   obtain ⟨i,r,v,h1,h2,h3,h4⟩:=flat_split (fun v hv=>hl v (by simp [hv])) h
   exact ⟨i + 1,r,v,by simpa using h1,h2,by rw [Nat.succ_mul];omega,h4⟩
section
variable {H : Type} {enc : TypeId × Value → H} {W : World}
theorem row_open {α : Type} (E : Elem α) (Q : α → Prop) {t e : TypeId} (ht : Tryz.prog.underlying t = some (.slice e)) (hk : Tryz.prog.cellsOf e = E.k) {M : Nat}
 (hE : ∀ (n : Nat) cs (x : DataW H × List MemPlace),DataW.trod enc Tryz.prog W 0 (fun _=>true) true n e cs = some x → Rows.uptoBulk x.1 < M → ∃ a,E.R (fun _=>True) W cs a ∧ Q a)
 {fuel : Nat} {cs : List Value} {x : DataW H × List MemPlace} (h : DataW.trod enc Tryz.prog W 0 (fun _=>true) true fuel t cs = some x) (hM : Rows.uptoBulk x.1 ≤ M) :
 ∃ A n c l,cs = [.slice A n c] ∧ Row E (fun _=>True) W A n c l ∧ l.length ≤ M ∧ ∀ a ∈ l,Q a:=by
 rcases open_slice ht h with ⟨rfl,rfl⟩ | ⟨a,len,cap,m,n,D,Pl,rfl,-,hl,hm,hmm,rfl,hx⟩
 ·exact ⟨none,0,0,[],rfl,Row.nil E _ W,by simp,by simp⟩
 ·simp only [if_true] at hmm
  subst hmm
  have hb:=bulks.slice_le (H:=H) ((List.range len).map D) ((List.range (m - len)).map fun j=>D (len + j))
  have hb2:=bulks.slice_elems (H:=H) ((List.range len).map D) ((List.range (m - len)).map fun j=>D (len + j))
  simp only [List.length_map,List.length_range] at hb
  simp only [] at hM
  have hD : ∀ i,i < len → Rows.uptoBulk (D i) < M:=fun i hi=>by
   have:=bulks.part_le (d:=D i) (l:=(List.range len).map D) (List.mem_map.2 ⟨i,List.mem_range.2 hi,rfl⟩)
   omega
  rcases Nat.eq_zero_or_pos len with h0 | h0
  ·subst h0
   exact ⟨some a,0,m,[],rfl,⟨rfl,Nat.zero_le _,hm,[],rfl,.inl rfl,fun i v x hi=>by simp at hi⟩,by simp,by simp⟩
  ·have hone : ∀ i,i < len → ∃ y : List Value × α,W.cells? 0 (a.add (i * E.k)) E.k = some y.1 ∧ E.R (fun _=>True) W y.1 y.2 ∧ Q y.2:=fun i hi=>by
    obtain ⟨cs',h1,h2⟩:=hx i (by omega)
    rw [hk] at h1
    obtain ⟨o,hR,hQ⟩:=hE n cs' _ h2 (hD i hi)
    exact ⟨(cs',o),h1,hR,hQ⟩
   haveI : Inhabited α:=⟨(hone 0 h0).choose.2⟩
   obtain ⟨f,hf⟩:=choose_lt hone
   have hspot : ∃ b off,a = ⟨b,off,none⟩:=by
    obtain ⟨h1,-,-⟩:=hf 0 h0
    obtain ⟨-,hlen,hc⟩:=World.cells?_some h1
    have h2:=hc 0 E.pos
    rw [List.getElem?_eq_getElem (by rw [hlen];exact E.pos)] at h2
    obtain ⟨b,off,spot⟩:=a
    have hs : spot = none:=by simpa [Addr.add] using World.cell?_spot h2
    exact ⟨b,off,by rw [hs]⟩
   obtain ⟨b,off,rfl⟩:=hspot
   have hall : ∀ v ∈ (List.range len).map fun i=>(f i).1,v.length = E.k:=fun v hv=>by
    obtain ⟨i,hi,rfl⟩:=List.mem_map.1 hv
    exact E.len (hf i (List.mem_range.1 hi)).2.1
   refine ⟨_,_,_,(List.range len).map fun i=>(f i).2,rfl,⟨by simp,hl,hm,(List.range len).map fun i=>(f i).1,by simp,.inr ⟨b,off,rfl,trivial,fun j u hj=>?_⟩,fun i v x hi hx=>?_⟩,by simp;omega,fun o ho=>?_⟩
   ·obtain ⟨i,r,v,h1,h2,rfl,hr⟩:=flat_split hall hj
    have hi : i < len:=by have:=(List.getElem?_eq_some_iff.1 h1).1;simpa using this
    have hv : v = (f i).1:=by simpa [hi] using h1.symm
    obtain ⟨-,-,hc⟩:=World.cells?_some (hf i hi).1
    have:=hc r hr
    rw [add_add,addr_add] at this
    rw [this,← hv,h2]
   ·have hi' : i < len:=by have:=(List.getElem?_eq_some_iff.1 hi).1;simpa using this
    have h1 : v = (f i).1:=by simpa [hi'] using hi.symm
    have h2 : x = (f i).2:=by simpa [hi'] using hx.symm
    subst h1 h2
    exact (hf i hi').2.1
   ·obtain ⟨i,hi,rfl⟩:=List.mem_map.1 ho
    exact (hf i (List.mem_range.1 hi)).2.2
theorem agg_open {t : TypeId} {fs : Array Field} (ht : Tryz.prog.underlying t = some (.struct fs)) {M : Nat} {fuel : Nat} {cs : List Value} {x : DataW H × List MemPlace}
 (h : DataW.trod enc Tryz.prog W 0 (fun _=>true) true fuel t cs = some x) (hM : Rows.uptoBulk x.1 ≤ M) :
 cs.length = Tryz.prog.cellsOf t ∧ ∀ (i : Nat) (f : Field),fs[i]? = some f → ∃ m y,DataW.trod enc Tryz.prog W 0 (fun _=>true) true m f.type ((cs.drop f.offset).take (Tryz.prog.cellsOf f.type)) = some y ∧ Rows.uptoBulk y.1 < M:=by
 obtain ⟨xs,n,-,rfl,hl,hlen,hf⟩:=DataW.trod_struct ht h
 refine ⟨hl,fun i f hi=>?_⟩
 have hi' : i < xs.length:=by rw [hlen];exact (Array.getElem?_eq_some_iff.1 hi).1
 have h1:=hf i f hi
 rw [List.getElem?_eq_getElem hi'] at h1
 refine ⟨n,xs[i],h1,?_⟩
 have h2:=bulks.part_le (d:=xs[i].1) (l:=xs.map (·.1)) (List.mem_map.2 ⟨_,List.getElem_mem hi',rfl⟩)
 simp only [Rows.uptoBulk] at hM
 omega
theorem str_open {t : TypeId} (ht : Tryz.prog.underlying t = some .string) {M : Nat} {fuel : Nat} {cs : List Value} {x : DataW H × List MemPlace}
 (h : DataW.trod enc Tryz.prog W 0 (fun _=>true) true fuel t cs = some x) (hM : Rows.uptoBulk x.1 ≤ M) : ∃ s : ByteArray,cs = [.string s] ∧ s.size < M:=by
 obtain ⟨s,rfl,rfl,-⟩:=DataW.trod_string ht h
 exact ⟨s,rfl,by simp only [Rows.uptoBulk,Array.length_toList] at hM;exact hM⟩
theorem drop_one {cs : List Value} {i k j : Nat} {v : Value} (h : (cs.drop i).take k = [v]) (hk : k = 1) (hj : i + 1 = j) : cs.drop i = v :: cs.drop j:=by
 subst hk hj
 have h1:=List.take_append_drop 1 (cs.drop i)
 rw [h,List.drop_drop] at h1
 exact h1.symm
theorem drop_all {cs : List Value} {n k : Nat} (h : cs.length = k) (hk : k = n) : cs.drop n = []:=List.drop_eq_nil_of_le (by omega)
end
end Go.Proofs.YtlbneoilhapkmaaGreatDoor
namespace Go.Proofs.YtlbneoilhapkmaaGreatDoor
open Go.RowKit Go.ChangeShapes Go.WideShapes Go.Deep
set_option maxRecDepth 100000
def StrOk (s : ByteArray) : Prop:=s.size ≤ 1048576
def AttOk (a : Att) : Prop:=a.type.size ≤ 1048576 ∧ a.vals.length ≤ 1048576 ∧ ∀ v ∈ a.vals,v.size ≤ 1048576
def EntOk (e : Ent) : Prop:=e.name.size ≤ 1048576 ∧ e.atts.length ≤ 1048576 ∧ ∀ a ∈ e.atts,AttOk a
section
variable {H : Type} {enc : TypeId × Value → H} {W : World}
theorem cstr_open {M : Nat} (hM0 : M ≤ 1048576) {fuel : Nat} {cs : List Value} {x : DataW H × List MemPlace} (h : DataW.trod enc Tryz.prog W 0 (fun _=>true) true fuel 9 cs = some x) (hM : Rows.uptoBulk x.1 ≤ M) : ∃ s : ByteArray,Elem.str.R (fun _=>True) W cs s ∧ StrOk s:=by
 obtain ⟨s,e0,q0⟩:=str_open Tryz.underlying9 h hM
 exact ⟨s,e0,Nat.le_trans (Nat.le_of_lt q0) hM0⟩
theorem att_open {M : Nat} (hM0 : M ≤ 1048576) {fuel : Nat} {cs : List Value} {x : DataW H × List MemPlace} (h : DataW.trod enc Tryz.prog W 0 (fun _=>true) true fuel 109 cs = some x) (hM : Rows.uptoBulk x.1 ≤ M) : ∃ a : Att,Elem.att.R (fun _=>True) W cs a ∧ AttOk a:=by
 obtain ⟨hl,hf⟩:=agg_open Tryz.underlying109 h hM
 obtain ⟨m0,y0,h0,b0⟩:=hf 0 _ rfl
 obtain ⟨s,e0,q0⟩:=str_open Tryz.underlying9 h0 (Nat.le_of_lt b0)
 obtain ⟨m1,y1,h1,b1⟩:=hf 1 _ rfl
 obtain ⟨A,n,c,l,e1,r1,l1,q1⟩:=row_open Elem.str StrOk Tryz.underlying66 (by kernel_rfl) (fun n cs x hx hb=>cstr_open (M:=1048576) (Nat.le_refl _) hx (by omega)) h1 (Nat.le_of_lt b1)
 have hcs : cs.drop 0 = [.string s,.slice A n c]:=by rw [drop_one (i:=0) (j:=1) e0 (by kernel_rfl) rfl,drop_one (i:=1) (j:=2) e1 (by kernel_rfl) rfl,drop_all (n:=2) hl (by kernel_rfl)]
 rw [List.drop_zero] at hcs
 exact ⟨⟨s,l⟩,⟨A,n,c,hcs,r1⟩,Nat.le_trans (Nat.le_of_lt q0) hM0,Nat.le_trans l1 hM0,q1⟩
theorem ent_open {M : Nat} (hM0 : M ≤ 1048576) {fuel : Nat} {cs : List Value} {x : DataW H × List MemPlace} (h : DataW.trod enc Tryz.prog W 0 (fun _=>true) true fuel 57 cs = some x) (hM : Rows.uptoBulk x.1 ≤ M) : ∃ a : Ent,Elem.ent.R (fun _=>True) W cs a ∧ EntOk a:=by
 obtain ⟨hl,hf⟩:=agg_open Tryz.underlying57 h hM
 obtain ⟨m0,y0,h0,b0⟩:=hf 0 _ rfl
 obtain ⟨s,e0,q0⟩:=str_open Tryz.underlying9 h0 (Nat.le_of_lt b0)
 obtain ⟨m1,y1,h1,b1⟩:=hf 1 _ rfl
 obtain ⟨A,n,c,l,e1,r1,l1,q1⟩:=row_open Elem.att AttOk Tryz.underlying55 (by kernel_rfl) (fun n cs x hx hb=>att_open (M:=1048576) (Nat.le_refl _) hx (by omega)) h1 (Nat.le_of_lt b1)
 have hcs : cs.drop 0 = [.string s,.slice A n c]:=by rw [drop_one (i:=0) (j:=1) e0 (by kernel_rfl) rfl,drop_one (i:=1) (j:=2) e1 (by kernel_rfl) rfl,drop_all (n:=2) hl (by kernel_rfl)]
 rw [List.drop_zero] at hcs
 exact ⟨⟨s,l⟩,⟨A,n,c,hcs,r1⟩,Nat.le_trans (Nat.le_of_lt q0) hM0,Nat.le_trans l1 hM0,q1⟩
end
end Go.Proofs.YtlbneoilhapkmaaGreatDoor
namespace Go.Proofs.YtlbneoilhapkmaaGreatDoor
open Go.RowKit
set_option maxRecDepth 100000
theorem errStar : "*" ++ "errors.errorString" = "*errors.errorString" := by decide
theorem errRow (u : TypeId) (h : Tryz.prog.typeName? 3 u = some "*errors.errorString") : u = 373:=
 typeName_ptr_named (nm := "errors.errorString") (by rw [errStar];kernel_rfl) (by kernel_rfl) (by decide) u (by rw [errStar];exact h)
theorem pow_eq : (Rows.laid_internal_strconv_uint64pow10 : DataW Unit) = Lib.tabData .u64 Lib.pow10Tab:=by kernel_rfl
theorem gl_of_laid {W : World} (h : laidMetH Tryz.prog Rows.treeOfUptoRow.laid W) (hs : W.ShapedOpen Tryz.prog) : Gl W:=by
 rw [MakeChecks.laidMetH_plain _ _ _ (by kernel_rfl)] at h
 have h2 : laidMet Tryz.prog (("internal/strconv.uint64pow10", Lib.tabData .u64 Lib.pow10Tab) :: Rows.treeOfUptoRow.laid.drop 3) W:=by
  have:=h.tail.tail
  rw [← pow_eq]
  exact this
 have h4 : laidMet Tryz.prog (("strconv.ErrRange", .iface "*errors.errorString" (.ptr (.agg [.lit (.string [118,97,108,117,101,32,111,117,116,32,111,102,32,114,97,110,103,101])]))) :: Rows.treeOfUptoRow.laid.drop 5) W:=h2.tail.tail
 have h5 : laidMet Tryz.prog (("strconv.ErrSyntax", .iface "*errors.errorString" (.ptr (.agg [.lit (.string [105,110,118,97,108,105,100,32,115,121,110,116,97,120])]))) :: Rows.treeOfUptoRow.laid.drop 6) W:=h4.tail
 obtain ⟨a0,s0,hv0,-,-,-⟩:=laid_sentinel h4 gRng (by kernel_rfl) Tryz.underlying242 errRow Tryz.underlying373 Tryz.underlying375 rfl rfl Tryz.underlying9 (by kernel_rfl) (by kernel_rfl)
 obtain ⟨a1,s1,hv1,-,-,-⟩:=laid_sentinel h5 gSyn (by kernel_rfl) Tryz.underlying242 errRow Tryz.underlying373 Tryz.underlying375 rfl rfl Tryz.underlying9 (by kernel_rfl) (by kernel_rfl)
 refine ⟨?_,⟨_,_,hv1⟩,⟨_,_,hv0⟩,?_⟩
 ·exact cell_of_shapedOpen_int (t:=3) (k:=.i64) (zero:=#[.int .i64 0]) hs (of_decide_eq_true (by kernel_rfl)) (by kernel_rfl) rfl (by kernel_rfl) (by kernel_rfl) Tryz.underlying3
 ·exact Lib.tabIs_of_head gPow (by kernel_rfl) Tryz.underlying368 Tryz.underlying260 (by kernel_rfl) (by kernel_rfl) h2
theorem acc_eq : (Rows.laid_unicode_utf8_acceptRanges : DataW Unit) = Lib.acceptData:=by kernel_rfl
theorem ug_of_laid {W : World} (h : laidMetH Tryz.prog Rows.treeOfUptoRow.laid W) : Ug W:=by
 rw [MakeChecks.laidMetH_plain _ _ _ (by kernel_rfl)] at h
 have h3 : Lib.VarReads Tryz.prog W "unicode/utf8.first" Lib.firstData:=by
  rw [← Pinned.utf8First_eq]
  exact Lib.laidMet.reads h (show (("unicode/utf8.first", Rows.laid_unicode_utf8_first) : String × DataW Unit) ∈ Rows.treeOfUptoRow.laid from .tail _ (.tail _ (.tail _ (.tail _ (.tail _ (.tail _ (.head _)))))))
 have h4 : Lib.VarReads Tryz.prog W "unicode/utf8.acceptRanges" Lib.acceptData:=by
  rw [← acc_eq]
  exact Lib.laidMet.reads h (show (("unicode/utf8.acceptRanges", Rows.laid_unicode_utf8_acceptRanges) : String × DataW Unit) ∈ Rows.treeOfUptoRow.laid from .tail _ (.tail _ (.tail _ (.head _))))
 exact utf8Tabs_of_reads Tryz.lays260 ⟨by kernel_rfl,by kernel_rfl,by kernel_rfl,by kernel_rfl,by kernel_rfl,by kernel_rfl,by kernel_rfl⟩ h3 h4
theorem gu_of_laid {W : World} (h : laidMetH Tryz.prog Rows.treeOfUptoRow.laid W) (hs : W.ShapedOpen Tryz.prog) : Gu W:=⟨gl_of_laid h hs,ug_of_laid h⟩
end Go.Proofs.YtlbneoilhapkmaaGreatDoor
