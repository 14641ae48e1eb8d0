/- Lemmas of the walk. -/
import Derived.Test.YtkjbokhnpphimaaGreatDoorV01
set_option maxHeartbeats 40000000
set_option linter.unusedVariables false
set_option linter.unusedSimpArgs false
namespace Go.Proofs.YtkjbokhnpphimaaGreatDoor
open Go.RowKit
section
variable {P:Program}{ops:Array Oper}{md:Region.Mode}{Q:Act→World→Prop}{B:Nat}
def staysB(B:Nat)(P:Program)(ops:Array Oper)(o:Oper)(v:Value)(a:Act)(w:World):Prop:=
 (Region.wanted o (yielded ops a.tmps)=true∧∀w',Below B w w'→(execOp a.eval o).run P w'=.ok (.value v) w') ∨
 (Region.wanted o (yielded ops a.tmps)=false∧v=undef)
theorem staysB.comesUp{o:Oper}{v:Value}{a:Act}{w:World}{K:Act→World→Prop}(h:staysB B P ops o v a w)(hk:K (a.put o.dst v) w):comesUp P ops o K a w:=by
 unfold Go.Proofs.YtkjbokhnpphimaaGreatDoor.comesUp
 rcases h with⟨hw,hv⟩|⟨hw,rfl⟩
 ·rw[if_pos hw];unfold Oper.wp;rw[hv w (Below.refl B w)];exact hk
 ·rw[if_neg (by simp[hw])];exact hk
theorem staysB.later{o:Oper}{v:Value}{a:Act}{w w':World}(h:staysB B P ops o v a w)(hx:Below B w w'):staysB B P ops o v a w':=by
 rcases h with⟨hw,hv⟩|h
 ·exact .inl ⟨hw,fun w2 h2=>hv w2 (Below.trans hx h2)⟩
 ·exact .inr h
theorem staysB.same{o:Oper}{v:Value}{a a':Act}{w:World}(h:staysB B P ops o v a w)(he:execOp a'.eval o=execOp a.eval o)
 (hw:Region.wanted o (yielded ops a'.tmps)=Region.wanted o (yielded ops a.tmps)):staysB B P ops o v a' w:=by
 unfold staysB at*
 rw[he,hw]
 exact h
def anyOrderB(B:Nat)(P:Program)(md:Region.Mode)(ops:Array Oper)(Q:Act→World→Prop):Nat→Array Bool→Act→World→Prop
 |0,listed,a,w=>Region.ready md ops listed=[]∧Q a w
 |fuel+1,listed,a,w=>(Region.ready md ops listed=[]→Q a w) ∧
  ∀i∈Region.ready md ops listed,∀o,ops[i]?=some o→comesUp P ops o (fun a' w'=>Below B w w'∧anyOrderB B P md ops Q fuel (listed.setIfInBounds i true) a' w') a w
theorem anyOrderB.wpAny{R:Exit→Act→World→Prop}(hQ:∀a w,Q a w→R .normal a w) :
 ∀(fuel:Nat) (listed:Array Bool) (a:Act) (w:World),anyOrderB B P md ops Q fuel listed a w→Go.wpAny P md ops R fuel listed a w
 |0,_,_,_,h=>⟨h.1,hQ _ _ h.2⟩
 |fuel+1,listed,a,w,h=>by
  refine⟨fun h0=>hQ _ _ (h.1 h0),fun i hi=>?_⟩
  obtain⟨_,o,ho,_⟩:=mem_ready.1 hi
  have h1:=h.2 i hi o ho
  unfold comesUp at h1
  unfold wpOp
  simp only[ho]
  split
  ·rename_i hw
   rw[if_pos hw] at h1
   exact .inl (zed (Oper.wp_mono (fun a' w' hh=>anyOrderB.wpAny hQ fuel _ a' w' hh.2) h1))
  ·rename_i hw
   rw[if_neg hw] at h1
   exact anyOrderB.wpAny hQ fuel _ _ _ h1.2
theorem zgZ{oi oj:Oper}{v:Value}(hap:oi.apart ops oj=true)(hsi:∀cs b,oi.op≠.select cs b)(hsj:∀cs b,oj.op≠.select cs b)
 {K:Act→World→Prop} {a:Act} {w:World}
 (h:comesUp P ops oj K (a.put oi.dst v) w) :
 comesUp P ops oj (fun a' w'=>(∀w0,staysB B P ops oi v a w0→staysB B P ops oi v a' w0)∧K (a'.put oi.dst v) w') a w:=by
 obtain⟨h1,h2,h3⟩:=Oper.apart_spec hap
 have keep:∀(b:Act) (u:Value),b.eval=a.eval→b.tmps=a.tmps→∀w0,staysB B P ops oi v a w0→staysB B P ops oi v (b.put oj.dst u) w0:=fun b u hb ht w0 hs=>
  (hs.same (a':=b) (by rw[hb]) (by rw[ht])).same (execOp_put oi hsi b oj.dst u h3) (wanted_put oi b oj.dst u h3)
 unfold comesUp at*
 rw[wanted_put oj a oi.dst v h1] at h
 split
 ·rename_i hw
  rw[if_pos hw] at h
  unfold Oper.wp at*
  rw[execOp_put oj hsj a oi.dst v h1] at h
  generalize (execOp a.eval oj).run P w=r at*
  cases r with
  |ok n w'=>
   cases n<;>simp only[Oper.upon] at h ⊢
   case value u=>exact⟨keep a u rfl rfl,by rw[←Act.put_comm a v u h2];exact h⟩
   case skip=>exact⟨keep a _ rfl rfl,by rw[←Act.put_comm a v undef h2];exact h⟩
   case defer d=>exact⟨keep { a with defers:=d::a.defers } _ rfl rfl,by rw[←Act.put_comm _ v undef h2,←Act.put_defers];exact h⟩
   case enter f args=>
    refine Calls.mono h fun e w'' he=>?_
    cases e with
    |returned u=>exact⟨keep a u rfl rfl,by rw[←Act.put_comm a v u h2];exact he⟩
    |panicked c=>exact he
    |outgrown=>exact he
   case row row args=>exact Rows.mono h fun u w'' he=>⟨keep a u rfl rfl,by rw[←Act.put_comm a v u h2];exact he⟩
  |halt x w'=>cases x<;>simp only[Oper.upon] at h ⊢<;>exact h
 ·rename_i hw
  rw[if_neg hw] at h
  exact⟨keep a _ rfl rfl,by rw[←Act.put_comm a v undef h2];exact h⟩
theorem zgV{i:Nat}{oi:Oper}{v:Value}(hi:ops[i]?=some oi)(hsel:∀(j:Nat) (o:Oper) cs b,ops[j]?=some o→o.op≠.select cs b) :
 ∀(fuel:Nat) (listed:Array Bool) (a:Act) (w:World),
  (∀j oj,ops[j]?=some oj→j≠i→listed.getD j true=false→(∀e∈oj.after,Region.binds md e=true→e.on≠i)→oi.apart ops oj=true) →
  i∈Region.ready md ops listed→staysB B P ops oi v a w →
  anyOrderB B P md ops Q fuel (listed.setIfInBounds i true) (a.put oi.dst v) w→anyOrderB B P md ops Q (fuel+1) listed a w:=by
 intro fuel
 induction fuel with
 |zero=>
  intro listed a w _ hr hy H
  refine⟨fun h=>(by rw[h] at hr;cases hr),fun j hj o ho=>?_⟩
  by_cases hji:j=i
  ·subst hji
   have:o=oi:=by rw[hi] at ho;exact(Option.some.inj ho).symm
   subst this
   exact hy.comesUp ⟨Below.refl B w,H⟩
  ·have:=ready_mono hj hji
   rw[H.1] at this
   cases this
 |succ fuel ih=>
  intro listed a w hfree hr hy H
  refine⟨fun h=>(by rw[h] at hr;cases hr),fun j hj oj hoj=>?_⟩
  by_cases hji:j=i
  ·subst hji
   have:oj=oi:=by rw[hi] at hoj;exact(Option.some.inj hoj).symm
   subst this
   exact hy.comesUp ⟨Below.refl B w,H⟩
  ·have h1:=H.2 j (ready_mono hj hji) oj hoj
   obtain⟨hjun,oj',hoj',hall⟩:=mem_ready.1 hj
   have:oj'=oj:=by rw[hoj] at hoj';exact(Option.some.inj hoj').symm
   subst this
   have hnot:∀e∈oj'.after,Region.binds md e=true→e.on≠i:=fun e he hb heq=>by
    have h1:=hall e he hb
    have h0:=(mem_ready.1 hr).1
    rw[heq] at h1
    rcases Nat.lt_or_ge i listed.size with h'|h'
    ·simp[h'] at h0 h1;rw[h0] at h1;cases h1
    ·simp[Array.getElem?_eq_none h'] at h1
   have h2:=zgZ (B:=B) (hfree j oj' hoj hji hjun hnot) (fun cs b=>hsel i oi cs b hi) (fun cs b=>hsel j oj' cs b hoj) h1
   have hfree':∀k ok,ops[k]?=some ok→k≠i→(listed.setIfInBounds j true).getD k true=false →
    (∀e∈ok.after,Region.binds md e=true→e.on≠i)→oi.apart ops ok=true:=fun k ok hk hki hun hno=>by
    refine hfree k ok hk hki ?_ hno
    by_cases hjk:j=k
    ·subst hjk;exact hjun
    ·rw[getD_set_ne true hjk] at hun;exact hun
   refine h2.mono fun a' w' h3=>⟨h3.2.1,ih (listed.setIfInBounds j true) a' w' hfree' (ready_mono hr (Ne.symm hji)) ((h3.1 w hy).later h3.2.1) ?_⟩
   rw[Array.setIfInBounds_comm _ _ hji]
   exact h3.2.2
def zbI(B:Nat)(P:Program)(ops:Array Oper)(Q:Act→World→Prop):Plan→Act→World→Prop
 |.done,a,w=>Q a w
 |.read i p,a,w=>∃o v,ops[i]?=some o∧staysB B P ops o v a w∧zbI B P ops Q p (a.put o.dst v) w
 |.main i p,a,w=>∃o,ops[i]?=some o∧comesUp P ops o (fun a' w'=>Below B w w'∧zbI B P ops Q p a' w') a w
 |.alt i p q,a,w=>(∃o,ops[i]?=some o∧comesUp P ops o (fun a' w'=>Below B w w'∧zbI B P ops Q p a' w') a w)∧zbI B P ops Q q a w
theorem zeI{listed:Array Bool}{a:Act}{w:World}(hr:Region.ready md ops listed=[])(h:Q a w):∀fuel,anyOrderB B P md ops Q fuel listed a w
 |0=>⟨hr,h⟩
 |_+1=>⟨fun _=>h,by rw[hr];simp⟩
theorem zfY(hs:Region.noSelect ops=true):∀(fuel:Nat) (p:Plan),
 (∀(listed:Array Bool) (a:Act) (w:World),p.size≤fuel→p.fits md ops false listed=true→zbI B P ops Q p a w→anyOrderB B P md ops Q fuel listed a w) ∧
 (∀ (listed:Array Bool) (a:Act) (w:World),p.size≤fuel+1→p.fits md ops true listed=true→zbI B P ops Q p a w →
   ∀ i∈p.heads,∀ o,ops[i]?=some o→comesUp P ops o (fun a' w'=>Below B w w'∧anyOrderB B P md ops Q fuel (listed.setIfInBounds i true) a' w') a w):=by
 have one:∀(fuel:Nat) (i:Nat) (p:Plan) (listed:Array Bool) (a:Act) (w:World),
  (∀(a:Act) (w:World),zbI B P ops Q p a w→anyOrderB B P md ops Q fuel (listed.setIfInBounds i true) a w) →
  (∃o,ops[i]?=some o∧comesUp P ops o (fun a' w'=>Below B w w'∧zbI B P ops Q p a' w') a w) →
  ∀o,ops[i]?=some o→comesUp P ops o (fun a' w'=>Below B w w'∧anyOrderB B P md ops Q fuel (listed.setIfInBounds i true) a' w') a w:=by
  intro fuel i p listed a w ih ⟨o,ho,hc⟩ o' ho'
  have:o'=o:=by rw[ho] at ho';exact(Option.some.inj ho').symm
  subst this
  exact hc.mono fun a' w' hh=>⟨hh.1,ih a' w' hh.2⟩
 have second:∀(fuel:Nat),(∀(p:Plan) (listed:Array Bool) (a:Act) (w:World),p.size≤fuel→p.fits md ops false listed=true→zbI B P ops Q p a w→anyOrderB B P md ops Q fuel listed a w) →
  ∀(p:Plan) (listed:Array Bool) (a:Act) (w:World),p.size≤fuel+1→p.fits md ops true listed=true→zbI B P ops Q p a w →
  ∀i∈p.heads,∀o,ops[i]?=some o→comesUp P ops o (fun a' w'=>Below B w w'∧anyOrderB B P md ops Q fuel (listed.setIfInBounds i true) a' w') a w:=by
  intro fuel ih p
  induction p with
  |done=>intro _ _ _ _ hf;simp[Plan.fits] at hf
  |read i p _=>intro _ _ _ _ hf;simp[Plan.fits] at hf
  |main i p _=>
   intro listed a w hz hf hw j hj
   simp only[Plan.fits,Bool.true_or,Bool.true_and] at hf
   simp only[Plan.heads,List.mem_singleton] at hj
   subst hj
   exact one fuel j p listed a w (fun a' w' hh=>ih p _ a' w' (by simp[Plan.size] at hz;omega) hf hh) hw
  |alt i p q _ ihq=>
   intro listed a w hz hf hw j hj
   simp only[Plan.fits,Bool.true_or,Bool.true_and,Bool.and_eq_true] at hf
   simp only[Plan.size] at hz
   simp only[Plan.heads,List.mem_cons] at hj
   rcases hj with hj|hj
   ·subst hj
    exact one fuel j p listed a w (fun a' w' hh=>ih p _ a' w' (by omega) hf.1 hh) hw.1
   ·exact ihq listed a w (by omega) hf.2 hw.2 j hj
 have first:∀(fuel:Nat) (p:Plan) (listed:Array Bool) (a:Act) (w:World),p.size≤fuel→p.fits md ops false listed=true→zbI B P ops Q p a w→anyOrderB B P md ops Q fuel listed a w:=by
  intro fuel
  induction fuel with
  |zero=>
   intro p listed a w hz hf hw
   cases p with
   |done=>exact zeI (by simpa[Plan.fits] using hf) hw 0
   |read i p=>simp[Plan.size] at hz
   |main i p=>simp[Plan.size] at hz
   |alt i p q=>simp[Plan.size] at hz
  |succ fuel ih=>
   intro p listed a w hz hf hw
   cases p with
   |done=>exact zeI (by simpa[Plan.fits] using hf) hw _
   |read i p=>
    simp only[Plan.fits,Bool.not_false,Bool.true_and,Bool.and_eq_true] at hf
    obtain⟨o,v,ho,hy,hw'⟩:=hw
    exact zgV ho (Region.noSelect_spec hs) fuel listed a w (Region.free_spec ho hf.1.2) (by simpa using hf.1.1) hy (ih p _ _ _ (by simp[Plan.size] at hz;omega) hf.2 hw')
   |main i p=>
    have hf0:=hf
    simp only[Plan.fits,Bool.false_or,Bool.and_eq_true,beq_iff_eq] at hf
    refine⟨fun h0=>(by rw[hf.1] at h0;cases h0),fun j hj=>?_⟩
    rw[hf.1] at hj
    exact second fuel ih (.main i p) listed a w hz (by simp only[Plan.fits,Bool.true_or,Bool.true_and];exact hf.2) hw j hj
   |alt i p q=>
    simp only[Plan.fits,Bool.false_or,Bool.and_eq_true,beq_iff_eq] at hf
    refine⟨fun h0=>(by rw[hf.1.1] at h0;cases h0),fun j hj=>?_⟩
    rw[hf.1.1] at hj
    exact second fuel ih (.alt i p q) listed a w hz (by simp only[Plan.fits,Bool.true_or,Bool.true_and,Bool.and_eq_true];exact⟨hf.1.2,hf.2⟩) hw j hj
 intro fuel p
 exact⟨first fuel p,second fuel (first fuel) p⟩
theorem zap(B:Nat){id:Nat}{R:Exit→Act→World→Prop}{a:Act}{w:World}(p:Plan)(hm:P.follows .mixedOrders=true)
 (hf:(Region.noSelect ops&&p.fits .any ops false (Array.replicate ops.size false)&&decide (p.size≤ops.size))=true)
 (h:∀wD,Ext w wD→zbI B P ops (R .normal) p a wD):(Code.region id ops true).wp P R a w:=by
 simp only[Bool.and_eq_true,decide_eq_true_eq] at hf
 exact wp_region_any hm (anyOrderB.wpAny (Q:=R .normal) (fun _ _ hq=>hq) _ _ _ _ ((zfY (md:=.any) hf.1.1 ops.size p).1 _ _ _ hf.2 hf.1.2 (h w.drew (Ext.drew w))))
theorem zaG{a:Act}{w:World}(h:Q a w):zbI B P ops Q .done a w:=h
theorem zaC{i:Nat}{p:Plan}{a:Act}{w:World}{d:Option Tmp}{op:Op}{ty:TypeId}{pos:String}{af:Array Edge}{gd:Option (Nat×Bool)}{v:Value}
 (ho:ops[i]?=some ⟨d,op,ty,pos,af,gd⟩) (hw:Region.wanted ⟨d,op,ty,pos,af,gd⟩ (yielded ops a.tmps)=true)
 (hv:∀w',Below B w w'→(execOp a.eval ⟨d,op,ty,pos,af,gd⟩).run P w'=.ok (.value v) w') (h:zbI B P ops Q p (a.put d v) w):zbI B P ops Q (.read i p) a w:=⟨_,v,ho,.inl ⟨hw,hv⟩,h⟩
theorem zaF{i:Nat}{p:Plan}{a:Act}{w:World}{d:Option Tmp}{x:Operand}{ty:TypeId}{pos:String}{af:Array Edge}{gd:Option (Nat×Bool)}
 (ho:ops[i]?=some ⟨d,.move x,ty,pos,af,gd⟩) (hw:Region.wanted ⟨d,.move x,ty,pos,af,gd⟩ (yielded ops a.tmps)=true)
 (h:zbI B P ops Q p (a.put d (a.eval x)) w):zbI B P ops Q (.read i p) a w:=zaC ho hw (fun _ _=>by simp[execOp]) h
theorem zaw{i:Nat}{p:Plan}{a:Act}{w:World}{d:Option Tmp}{x:Operand}{ty:TypeId}{pos:String}{af:Array Edge}{gd:Option (Nat×Bool)}
 (ho:ops[i]?=some ⟨d,.assign x,ty,pos,af,gd⟩) (hw:Region.wanted ⟨d,.assign x,ty,pos,af,gd⟩ (yielded ops a.tmps)=true)
 (h:zbI B P ops Q p (a.put d (a.eval x)) w):zbI B P ops Q (.read i p) a w:=zaC ho hw (fun _ _=>by simp[execOp]) h
theorem zam{i:Nat}{p:Plan}{a:Act}{w:World}{d:Option Tmp}{op:Op}{ty:TypeId}{pos:String}{af:Array Edge}{gd:Option (Nat×Bool)}
 (ho:ops[i]?=some ⟨d,op,ty,pos,af,gd⟩) (hw:Region.wanted ⟨d,op,ty,pos,af,gd⟩ (yielded ops a.tmps)=true)
 (h:∀K:Act→World→Prop,(∀a' w',Below B w w'→zbI B P ops Q p a' w'→K a' w')→Oper.wp P ⟨d,op,ty,pos,af,gd⟩ a w K zjT):zbI B P ops Q (.main i p) a w:=by
 refine⟨_,ho,?_⟩
 unfold comesUp
 rw[if_pos hw]
 exact h _ fun _ _ h1 h2=>⟨h1,h2⟩
theorem zaL{i:Nat}{p q:Plan}{a:Act}{w:World}(h:zbI B P ops Q (.main i p) a w)(h':zbI B P ops Q q a w):zbI B P ops Q (.alt i p q) a w:=⟨h,h'⟩
end
end Go.Proofs.YtkjbokhnpphimaaGreatDoor
