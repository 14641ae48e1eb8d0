/- Lemmas of the walk that the last text of this claim joins. -/
import Derived.Test.YtahahafhendgoaaGreatDoorZ39
import Derived.Test.YtahahafhendgoaaGreatDoorZ38
import Derived.Test.YtahahafhendgoaaGreatDoorZ33
import Derived.Test.YtahahafhendgoaaGreatDoorZ31
set_option maxHeartbeats 40000000
set_option linter.unusedVariables false
set_option linter.unusedSimpArgs false
namespace Go.Proofs.YtahahafhendgoaaGreatDoor
open Go.RowKit
set_option maxRecDepth 100000
abbrev nmE (e : Ent) : List UInt8:=bys e.name
theorem GrowM.forms {α : Type} {E : Elem α} {S : Nat → Prop} {T : TypeId} {L : Option Nat} {w wr : World} {v : Value} {l : List α} (h : GrowM E S T L w wr v l) : (v = .slice none 0 0 ∧ l = []) ∨ ∃ g n cap,v = .slice (some ⟨g,0,none⟩) n cap ∧ n = l.length:=by
 obtain ⟨⟨vss,h1,h2,h3⟩,h4,h5⟩:=h
 rcases h2.2 with ⟨h',h0⟩ | ⟨g,cap,cur,h',hb,hg,hnc,hcm,hcs,htake⟩
 ·exact .inl ⟨h',List.eq_nil_of_length_eq_zero h0⟩
 ·exact .inr ⟨g,_,cap,h',rfl⟩
theorem GrowM.turnL {α : Type} {E : Elem α} {S : Nat → Prop} {T : TypeId} {g : Nat} {w wr w' : World} {v : Value} {l : List α} (h : GrowM E S T (some g) w wr v l) (hg : wr.grownBy w' (some g)) : GrowM E S T (some g) w w' v l:=by
 obtain ⟨⟨vss,h1,h2,h3⟩,h4,h5⟩:=h
 obtain ⟨ha,hb,hc⟩:=h5 g rfl
 refine ⟨⟨vss,h1,h2.kept hg (.inr ha),fun i u x hi hl=>elem_keep (h3 i u x hi hl) (fun b hS hlt=>hg.block b hlt hS.2.2) (fun b hS _=>hS)⟩,Below.grown h4 hg h4.size (fun k hk=>by injection hk with hk;rw [← hk];exact hb),fun g' hg'=>⟨(h5 g' hg').1,(h5 g' hg').2.1,Nat.lt_of_lt_of_le (h5 g' hg').2.2 hg.size⟩⟩
structure Named (l : List Ent) : Prop where
 self : ∀ e ∈ l,selfN (nmE e) = true
 apart : Apart nmE l
end Go.Proofs.YtahahafhendgoaaGreatDoor
namespace Go.Proofs.YtahahafhendgoaaGreatDoor
open Go.RowKit
set_option maxRecDepth 100000
def upd {β : Type} (f : Nat → β) (i : Nat) (x : β) : Nat → β:=fun j=>if j = i then x else f j
theorem upd_same {β : Type} (f : Nat → β) (i : Nat) (x : β) : upd f i x i = x:=if_pos rfl
theorem upd_other {β : Type} (f : Nat → β) {i j : Nat} (x : β) (h : j ≠ i) : upd f i x j = f j:=if_neg h
section
variable {α : Type} {E : Elem α} {S : Nat → Prop} {T : TypeId} {L : Nat} {w wr w' : World} {v : Value} {l : List α}
theorem GrowM.kept {row : Option Nat} (h : GrowM E S T (some L) w wr v l) (hg : wr.grownBy w' row) (hr : ∀ b,row = some b → w.heap.size ≤ b ∧ v.ownBlock ≠ some b ∧ (b = L ∨ ¬ S b)) : GrowM E S T (some L) w w' v l:=by
 obtain ⟨⟨vss,h1,h2,h3⟩,h4,h5⟩:=h
 have hne : ∀ b,v.ownBlock = some b → some b ≠ row:=fun b hb e=>(hr b e.symm).2.1 hb
 refine ⟨⟨vss,h1,?_,fun i u x hi hl=>elem_keep (h3 i u x hi hl) (fun b hS hlt=>hg.block b hlt (fun e=>?_)) (fun b hS _=>hS)⟩,Below.grown h4 hg h4.size (fun k hk=>(hr k hk).1),fun g' hg'=>⟨(h5 g' hg').1,(h5 g' hg').2.1,Nat.lt_of_lt_of_le (h5 g' hg').2.2 hg.size⟩⟩
 ·cases hv : v.ownBlock with
  | none=>exact h2.kept hg (.inl hv)
  | some b=>exact h2.kept hg (.inr (by rw [hv];exact hne b hv))
 ·obtain ⟨-,-,h6⟩:=hr b e.symm
  rcases h6 with h6 | h6
  ·exact hS.2.2 (by rw [h6])
  ·exact h6 hS.1
structure Fam {α : Type} (E : Elem α) (S : Nat → Prop) (T : TypeId) (L : Nat) (w : World) (B0 k : Nat) (wr : World) (v : Nat → Value) (l : Nat → List α) : Prop where
 row : ∀ i,i < k → GrowM E S T (some L) w wr (v i) (l i)
 high : ∀ i,i < k → ∀ b,(v i).ownBlock = some b → B0 ≤ b
 apart : ∀ i j,i < k → j < k → i ≠ j → ∀ b,(v i).ownBlock = some b → (v j).ownBlock ≠ some b
variable {B0 k : Nat} {vs : Nat → Value} {ls : Nat → List α}
theorem Fam.nil (hx : Ext w wr) (h1 : w.heap.size ≤ L) (h2 : L < wr.heap.size) : Fam E S T L w B0 k wr (fun _=>.slice none 0 0) (fun _=>[]):=
 ⟨fun i _=>GrowM.nil hx (fun g hg=>by injection hg with hg;rw [← hg];exact ⟨h1,h2⟩),fun i _ b hb=>by simp [Value.ownBlock] at hb,fun i j _ _ _ b hb=>by simp [Value.ownBlock] at hb⟩
theorem Fam.kept {row : Option Nat} (h : Fam E S T L w B0 k wr vs ls) (hg : wr.grownBy w' row) (hr : ∀ b,row = some b → w.heap.size ≤ b ∧ (∀ i,i < k → (vs i).ownBlock ≠ some b) ∧ (b = L ∨ ¬ S b)) : Fam E S T L w B0 k w' vs ls:=
 ⟨fun i hi=>(h.row i hi).kept hg (fun b hb=>⟨(hr b hb).1,(hr b hb).2.1 i hi,(hr b hb).2.2⟩),h.high,h.apart⟩
theorem Fam.later (h : Fam E S T L w B0 k wr vs ls) (hx : Ext wr w') : Fam E S T L w B0 k w' vs ls:=⟨fun i hi=>(h.row i hi).later hx,h.high,h.apart⟩
theorem Fam.setL (h : Fam E S T L w B0 k wr vs ls) (i : Nat) (z : Value) : Fam E S T L w B0 k (wr.setCell ⟨L,i,none⟩ z) vs ls:=⟨fun j hj=>(h.row j hj).setL i z,h.high,h.apart⟩
theorem Fam.upd {i : Nat} (hi : i < k) (h : Fam E S T L w B0 k wr vs ls) (hS : ∀ b,S b → b < B0) (hB : B0 ≤ wr.heap.size) {v' : Value} {l' : List α} (hn : GrowM E S T (some L) w w' v' l') (hg : wr.grownBy w' (vs i).ownBlock)
 (hb : v'.ownBlock = (vs i).ownBlock ∨ v'.ownBlock = some wr.heap.size) : Fam E S T L w B0 k w' (Go.Proofs.YtahahafhendgoaaGreatDoor.upd vs i v') (Go.Proofs.YtahahafhendgoaaGreatDoor.upd ls i l'):=by
 have hold : ∀ j,j < k → j ≠ i → GrowM E S T (some L) w w' (vs j) (ls j):=fun j hj hne=>(h.row j hj).kept hg (fun b hb'=>⟨((h.row i hi).lt hb').1,h.apart i j hi hj (fun e=>hne e.symm) b hb',.inr fun hSb=>by have h1:=hS b hSb;have h2:=h.high i hi b hb';omega⟩)
 have hfr : ∀ j,j < k → (vs j).ownBlock ≠ some wr.heap.size:=fun j hj e=>by have:=((h.row j hj).lt e).2;omega
 refine ⟨fun j hj=>?_,fun j hj b hjb=>?_,fun j1 j2 hj1 hj2 hne b hb1=>?_⟩
 ·by_cases e : j = i
  ·subst e;rw [upd_same,upd_same];exact hn
  ·rw [upd_other _ _ e,upd_other _ _ e];exact hold j hj e
 ·by_cases e : j = i
  ·subst e
   rw [upd_same] at hjb
   rcases hb with hb | hb
   ·rw [hb] at hjb;exact h.high j hj b hjb
   ·rw [hb] at hjb;injection hjb with hjb;omega
  ·rw [upd_other _ _ e] at hjb;exact h.high j hj b hjb
 ·by_cases e1 : j1 = i
  ·subst e1
   have e2 : j2 ≠ j1:=fun e=>hne e.symm
   rw [upd_same] at hb1
   rw [upd_other _ _ e2]
   rcases hb with hb | hb
   ·rw [hb] at hb1;exact h.apart j1 j2 hj1 hj2 hne b hb1
   ·rw [hb] at hb1;injection hb1 with hb1;subst hb1;exact hfr j2 hj2
  ·rw [upd_other _ _ e1] at hb1
   by_cases e2 : j2 = i
   ·subst e2
    rw [upd_same]
    rcases hb with hb | hb
    ·rw [hb];exact h.apart j1 j2 hj1 hj2 hne b hb1
    ·rw [hb];intro e;exact hfr j1 hj1 (by rw [hb1,← e])
   ·rw [upd_other _ _ e2];exact h.apart j1 j2 hj1 hj2 hne b hb1
theorem Fam.rows (h : Fam E S T L w B0 k wr vs ls) {i : Nat} (hi : i < k) : ∃ A c,vs i = .slice A (ls i).length c ∧ Row E (fun b=>(S b ∨ B0 ≤ b) ∧ b < wr.heap.size ∧ b ≠ L) wr A (ls i).length c (ls i):=by
 have hr:=h.row i hi
 have hr':=hr
 obtain ⟨⟨vss,h1,h2,h3⟩,h4,h5⟩:=hr
 obtain ⟨A,c,e⟩ : ∃ A c,vs i = .slice A (ls i).length c:=by
  rcases h2.2 with ⟨e,h0⟩ | ⟨g,cap,cur,e,_⟩
  ·exact ⟨none,0,by rw [h0,e]⟩
  ·exact ⟨_,_,e⟩
 have h2':=h2
 rw [e] at h2'
 refine ⟨A,c,e,own_rows h2' rfl h1 (fun g hg=>?_) fun j u x hj hl=>E.mono (h3 j u x hj hl) fun b hlt hb=>⟨.inl hb.1,hlt,fun e'=>hb.2.2 (by rw [e'])⟩⟩
 have hg' : (vs i).ownBlock = some g:=by rw [e];exact hg
 have hlt:=(hr'.lt hg').2
 exact ⟨.inr (h.high i hi g hg'),hlt,fun e'=>(hr'.apart L rfl).1 (by rw [hg',e'])⟩
end
section
variable {α : Type} {E : Elem α} {S : Nat → Prop} {w w0 : World} {o : Oper} {a : Act} {K : Act → World → Prop} {Q : Exit → Act → World → Prop} {ops : Array Oper} {rest : List Oper}
theorem append_m1b_wp {T ST : TypeId} {z : Value} {bytes : Nat} (hu : Tryz.prog.underlying ST = some (.slice T)) (hinf : (Tryz.prog.info? T).map (fun i=>(i.zero,i.size,i.bytes)) = some (some z,E.k,bytes)) (hzs : z.cells.size = E.k) (hby : bytes ≤ 1000)
 (s x : Operand) (ho : o.op = .call { callee:=.builtin .append,args:=#[s,x],argTypes:=#[ST,ST] }) {L : Option Nat} (v : Value) (l : List α) (hs : a.eval s = v) (hg : GrowM E S T L w0 w v l)
 {t : TypeId} {u : List Value} (y : α) (hE : E.R (outer S v L) w u y) (h1 : ∀ c ∈ u,c.oneCell' = true) {g : Nat} (hx : a.eval x = .slice (some ⟨g,0,none⟩) 1 1) (hgs : g = w.heap.size) (hb : l.length ≤ 4000000)
 (h : ∀ v' w',GrowM E S T L w0 w' v' (l ++ [y]) → (w.alloc (.cells u.toArray t)).grownBy w' v.ownBlock → (v'.ownBlock = v.ownBlock ∨ v'.ownBlock = some (w.alloc (.cells u.toArray t)).heap.size) → K (a.put o.dst v') w') :
 o.wp Tryz.prog a (w.alloc (.cells u.toArray t)) K Q:=by
 subst hgs
 have hlu : u.length = E.k:=E.len hE
 have hg2:=hg.later (Ext.alloc w (.cells u.toArray t))
 have hE2 : E.R (outer S v L) (w.alloc (.cells u.toArray t)) u y:=elem_keep hE (fun b _ hlt=>(Ext.alloc w (.cells u.toArray t)).block b hlt) (fun b hS _=>hS)
 have hg3:=hg2
 obtain ⟨⟨vss,q1,q2,q3⟩,q4,q5⟩:=hg3
 refine wp_append_sz s x ST ho w0.heap.size T z E.k bytes hu hinf hzs E.pos v l.length vss.flatten hs q2 (some ⟨w.heap.size,0,none⟩) 1 1 u hx (by rw [hlu,Nat.one_mul]) (.inr ⟨_,0,rfl,fun j c hj=>by rw [Nat.zero_add,box_a];simpa using hj⟩) h1 (by simp [maxLen];omega) (Nat.le_trans (Nat.mul_le_mul (show l.length + 1 ≤ 4000001 by omega) hby) (by decide)) (ext_sz q4) ?_
 intro v' w' p1 p2 p3
 obtain ⟨k1,k2⟩:=hg2.snoc (v':=v') (w':=w') (us:=[u]) (xs:=[y]) rfl (fun i u' y' hi hy=>by
  rcases i with _ | i
  ·simp at hi hy
   subst hi hy
   exact hE2
  ·simp at hi) (fun vs' hvs'=>by rw [own_cells_one q2 hvs'];simpa using p1) p2 p3
 exact h v' w' k1 p2 p3
theorem append_m1b {T ST : TypeId} {z : Value} {bytes : Nat} (hu : Tryz.prog.underlying ST = some (.slice T)) (hinf : (Tryz.prog.info? T).map (fun i=>(i.zero,i.size,i.bytes)) = some (some z,E.k,bytes)) (hzs : z.cells.size = E.k) (hby : bytes ≤ 1000)
 (hgd : o.guard = none) (s x : Operand) (ho : o.op = .call { callee:=.builtin .append,args:=#[s,x],argTypes:=#[ST,ST] }) {L : Option Nat} (v : Value) (l : List α) (hs : a.eval s = v) (hg : GrowM E S T L w0 w v l)
 {t : TypeId} {u : List Value} (y : α) (hE : E.R (outer S v L) w u y) (h1 : ∀ c ∈ u,c.oneCell' = true) {g : Nat} (hx : a.eval x = .slice (some ⟨g,0,none⟩) 1 1) (hgs : g = w.heap.size) (hb : l.length ≤ 4000000)
 (h : ∀ v' w',GrowM E S T L w0 w' v' (l ++ [y]) → (w.alloc (.cells u.toArray t)).grownBy w' v.ownBlock → (v'.ownBlock = v.ownBlock ∨ v'.ownBlock = some (w.alloc (.cells u.toArray t)).heap.size) → wpList Tryz.prog ops Q rest (a.put o.dst v') w') :
 wpList Tryz.prog ops Q (o :: rest) a (w.alloc (.cells u.toArray t)):=
 wpList_plain hgd fun _ hK=>append_m1b_wp hu hinf hzs hby s x ho v l hs hg y hE h1 hx hgs hb fun v' w' k1 k2 k3=>hK _ _ (h v' w' k1 k2 k3)
end
end Go.Proofs.YtahahafhendgoaaGreatDoor
