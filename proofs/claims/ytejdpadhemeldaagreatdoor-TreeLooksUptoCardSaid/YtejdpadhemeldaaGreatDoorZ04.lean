/- Lemmas of the walk that the last text of this claim joins. -/
import Derived.Test.YtejdpadhemeldaaGreatDoorRows
import Derived.Test.YtejdpadhemeldaaGreatDoorZ03
import Derived.Laws.CopyRow
import Derived.Laws.Rows
import Derived.Deep.WholeRow
import Derived.Test.YtejdpadhemeldaaGreatDoorZ02
import Derived.Laws.ResultCell
set_option maxHeartbeats 40000000
set_option linter.unusedVariables false
set_option linter.unusedSimpArgs false
namespace Go.Proofs.YtejdpadhemeldaaGreatDoor
open Go.RowKit
def Same (S : Nat → Prop) (w w' : World) : Prop:=∀ b,S b → w'.heap[b]? = w.heap[b]?
theorem Same.refl (S : Nat → Prop) (w : World) : Same S w w:=fun _ _=>rfl
theorem Same.trans {S : Nat → Prop} {a b c : World} (h : Same S a b) (k : Same S b c) : Same S a c:=fun x hx=>(k x hx).trans (h x hx)
theorem Same.mono {S T : Nat → Prop} {a b : World} (h : Same S a b) (hs : ∀ x,T x → S x) : Same T a b:=fun x hx=>h x (hs x hx)
def CellsIn (S : Nat → Prop) (w : World) (A : Option Addr) (vs : List Value) : Prop:=
 vs = [] ∨ ∃ b off,A = some ⟨b,off,none⟩ ∧ S b ∧ ∀ j u,vs[j]? = some u → w.cell? ⟨b,off + j,none⟩ = some u
section
variable {S T : Nat → Prop} {w w' : World} {A : Option Addr} {vs : List Value}
theorem CellsIn.cells (h : CellsIn S w A vs) : Cells w A vs:=by
 rcases h with h | ⟨b,off,hA,_,hc⟩
 ·exact .inl h
 ·exact .inr ⟨b,off,hA,hc⟩
theorem CellsIn.same (h : CellsIn S w A vs) (hk : Same S w w') : CellsIn S w' A vs:=by
 rcases h with h | ⟨b,off,hA,hS,hc⟩
 ·exact .inl h
 ·exact .inr ⟨b,off,hA,hS,fun j u hj=>by rw [World.cell?_of_block (hk b hS)];exact hc j u hj⟩
theorem CellsIn.mono (h : CellsIn S w A vs) (hs : ∀ x,x < w.heap.size → S x → T x) : CellsIn T w A vs:=by
 rcases h with h | ⟨b,off,hA,hS,hc⟩
 ·exact .inl h
 ·rcases vs with _ | ⟨u,vs⟩
  ·exact .inl rfl
  ·exact .inr ⟨b,off,hA,hs b (by have:=World.block_lt_of_cell? w _ (hc 0 u rfl);simpa using this) hS,hc⟩
end
structure Elem (α : Type) where
 k : Nat
 pos : 0 < k
 R : (Nat → Prop) → World → List Value → α → Prop
 len : ∀ {S w v x},R S w v x → v.length = k
 same : ∀ {S w w' v x},R S w v x → Same S w w' → R S w' v x
 mono : ∀ {S T w v x},R S w v x → (∀ b,b < w.heap.size → S b → T b) → R T w v x
structure Row {α : Type} (E : Elem α) (S : Nat → Prop) (w : World) (A : Option Addr) (n c : Nat) (l : List α) : Prop where
 len : n = l.length
 cap : n ≤ c
 most : c ≤ maxLen
 rows : ∃ vss : List (List Value),vss.length = n ∧ CellsIn S w A vss.flatten ∧ ∀ (i : Nat) v x,vss[i]? = some v → l[i]? = some x → E.R S w v x
theorem flatten_at {k : Nat} : ∀ {vss : List (List Value)},(∀ v ∈ vss,v.length = k) → ∀ {i j : Nat} {v : List Value} {u : Value},vss[i]? = some v → v[j]? = some u → vss.flatten[i * k + j]? = some u
 | [],_,i,j,v,u,hi,_=>by simp at hi
 | v0 :: vss,hl,0,j,v,u,hi,hj=>by
  simp at hi;subst hi
  rw [Nat.zero_mul,Nat.zero_add,List.flatten_cons,List.getElem?_append_left (List.getElem?_eq_some_iff.1 hj).1];exact hj
 | v0 :: vss,hl,i + 1,j,v,u,hi,hj=>by
  have h0:=hl v0 (by simp)
  rw [List.flatten_cons,List.getElem?_append_right (by rw [h0,Nat.succ_mul];omega),h0]
  have : (i + 1) * k + j - k = i * k + j:=by rw [Nat.succ_mul];omega
  rw [this]
  exact flatten_at (fun v hv=>hl v (by simp [hv])) (by simpa using hi) hj
section
variable {α : Type} {E : Elem α} {S T : Nat → Prop} {w w' : World} {A : Option Addr} {n c : Nat} {l : List α}
theorem Row.nil (E : Elem α) (S : Nat → Prop) (w : World) : Row E S w none 0 0 []:=⟨rfl,Nat.le_refl _,by simp [maxLen],[],rfl,.inl rfl,fun i v x h=>by simp at h⟩
theorem Row.same (h : Row E S w A n c l) (hk : Same S w w') : Row E S w' A n c l:=by
 obtain ⟨h1,h2,h3,vss,h4,h5,h6⟩:=h
 exact ⟨h1,h2,h3,vss,h4,h5.same hk,fun i v x hi hx=>E.same (h6 i v x hi hx) hk⟩
theorem Row.mono (h : Row E S w A n c l) (hs : ∀ x,x < w.heap.size → S x → T x) : Row E T w A n c l:=by
 obtain ⟨h1,h2,h3,vss,h4,h5,h6⟩:=h
 exact ⟨h1,h2,h3,vss,h4,h5.mono hs,fun i v x hi hx=>E.mono (h6 i v x hi hx) hs⟩
theorem Row.lt (h : Row E S w A n c l) : Row E (fun b=>S b ∧ b < w.heap.size) w A n c l:=h.mono fun _ hx hs=>⟨hs,hx⟩
theorem Row.ext (h : Row E S w A n c l) (hx : Ext w w') : Row E S w' A n c l:=
 (h.lt.same fun b hb=>hx.block b hb.2).mono fun _ _ hs=>hs.1
theorem Row.at_ (h : Row E S w A n c l) {i : Nat} (hi : i < n) :
 ∃ b off v x,A = some ⟨b,off,none⟩ ∧ l[i]? = some x ∧ v.length = E.k ∧ E.R S w v x ∧ ∀ (j : Nat) u,v[j]? = some u → w.cell? ⟨b,off + i * E.k + j,none⟩ = some u:=by
 obtain ⟨h1,h2,h3,vss,h4,h5,h6⟩:=h
 have hv : vss[i]? = some vss[i]:=List.getElem?_eq_getElem (by omega)
 have hx : l[i]? = some l[i]:=List.getElem?_eq_getElem (by omega)
 have hR:=h6 i _ _ hv hx
 have hlen:=E.len hR
 have hall : ∀ v ∈ vss,v.length = E.k:=by
  intro v hv
  obtain ⟨j,hj,rfl⟩:=List.mem_iff_getElem.1 hv
  exact E.len (h6 j vss[j] (l[j]'(by omega)) (List.getElem?_eq_getElem hj) (List.getElem?_eq_getElem (by omega)))
 have hf : ∀ (j : Nat) u,vss[i][j]? = some u → vss.flatten[i * E.k + j]? = some u:=fun j u hj=>flatten_at hall hv hj
 rcases h5 with h5 | ⟨b,off,hA,hS,hc⟩
 ·have h0:=hf 0 _ (List.getElem?_eq_getElem (show 0 < vss[i].length by rw [hlen];exact E.pos))
  rw [h5] at h0
  cases h0
 ·exact ⟨b,off,vss[i],l[i],hA,hx,hlen,hR,fun j u hj=>by rw [Nat.add_assoc];exact hc _ u (hf j u hj)⟩
theorem Row.nil_iff (h : Row E S w A n c l) : n = 0 ↔ l = []:=by rw [h.len];exact List.length_eq_zero_iff
end
theorem box_a (w : World) (cs : Array Value) (t : TypeId) (j : Nat) : (w.alloc (.cells cs t)).cell? ⟨w.heap.size,j,none⟩ = cs[j]?:=by
 rw [cell_of_row _ _ j cs t (0,0) (heap_alloc_new w _)]
def Elem.str : Elem ByteArray:=⟨1,by decide,fun _ _ v x=>v = [.string x],fun h=>by rw [h];rfl,fun h _=>h,fun h _=>h⟩
def Elem.slc {α : Type} (E : Elem α) : Elem (List α):=
 ⟨1,by decide,fun S w v l=>∃ A n c,v = [.slice A n c] ∧ Row E S w A n c l,fun ⟨_,_,_,h,_⟩=>by rw [h];rfl,fun ⟨A,n,c,h,hr⟩ hk=>⟨A,n,c,h,hr.same hk⟩,fun ⟨A,n,c,h,hr⟩ hs=>⟨A,n,c,h,hr.mono hs⟩⟩
structure Att where
 type : ByteArray
 vals : List ByteArray
def Elem.att : Elem Att:=
 ⟨2,by decide,fun S w v a=>∃ A n c,v = [.string a.type,.slice A n c] ∧ Row Elem.str S w A n c a.vals,fun ⟨_,_,_,h,_⟩=>by rw [h];rfl,fun ⟨A,n,c,h,hr⟩ hk=>⟨A,n,c,h,hr.same hk⟩,fun ⟨A,n,c,h,hr⟩ hs=>⟨A,n,c,h,hr.mono hs⟩⟩
theorem Row.one {α : Type} {E : Elem α} {S : Nat → Prop} {w : World} {v : List Value} {x : α} (h : E.R S w v x) (t : TypeId) :
 Row E (fun _=>True) (w.alloc (.cells v.toArray t)) (some ⟨w.heap.size,0,none⟩) 1 1 [x]:=by
 have hx : Ext w (w.alloc (.cells v.toArray t)):=Ext.alloc _ _
 refine ⟨rfl,Nat.le_refl _,by simp [maxLen],[v],rfl,.inr ⟨w.heap.size,0,rfl,trivial,fun j u hj=>?_⟩,fun i v' x' hi hx'=>?_⟩
 ·rw [Nat.zero_add,cell_of_row _ _ j v.toArray t (0,0) (heap_alloc_new w _)]
  simpa using hj
 ·rcases i with _ | i
  ·simp at hi hx'
   subst hi hx'
   have h1 : E.R (fun b=>b < w.heap.size) w v x:=E.mono h fun b hb _=>hb
   exact E.mono (E.same h1 fun b hb=>hx.block b hb) fun _ _ _=>trivial
  ·simp at hi
theorem str_eq {a b : ByteArray} (h : a = b) : (a.toList == b.toList) = true:=by rw [h];exact beq_self_eq_true _
theorem str_ne {a b : ByteArray} (h : ¬ a = b) : (a.toList == b.toList) = false:=by
 rw [beq_eq_false_iff_ne]
 intro e
 rw [ByteArray.toList_eq,ByteArray.toList_eq] at e
 obtain ⟨⟨a⟩⟩:=a
 obtain ⟨⟨b⟩⟩:=b
 exact h (by simp at e;rw [e])
theorem Row.str_cell {S : Nat → Prop} {w : World} {A : Option Addr} {n c : Nat} {l : List ByteArray} (h : Row Elem.str S w A n c l) (hn : 0 < n) :
 ∃ b off,A = some ⟨b,off,none⟩ ∧ ∀ i,i < n → w.cell? ⟨b,off + i,none⟩ = some (.string (l[i]?.getD ByteArray.empty)):=by
 obtain ⟨b,off,v,x,hA,_⟩:=h.at_ hn
 refine ⟨b,off,hA,fun i hi=>?_⟩
 obtain ⟨b',off',v,x,hA',hx,_,hR,hc⟩:=h.at_ hi
 rw [hA] at hA'
 injection hA' with e
 injection e with e1 e2
 subst e1 e2
 have hv : v = [.string x]:=hR
 subst hv
 have:=hc 0 _ rfl
 rw [hx]
 simpa [Elem.str] using this
end Go.Proofs.YtejdpadhemeldaaGreatDoor
namespace Go.Proofs.YtejdpadhemeldaaGreatDoor
open Go.RowKit
section
variable {P : Program} {w : World} {o : Oper} {a : Act} {K : Act → World → Prop} {Q : Exit → Act → World → Prop}
def over (cur : Array Value) (off : Nat) (v : Value) : Array Value:=(cur.toList.take off ++ v.cells.toList ++ cur.toList.drop (off + v.cells.size)).toArray
theorem wp_store_at (T : TypeId) (x y : Operand) (ho : o.op = .store T x y) (g off : Nat) (hx : a.eval x = .pointer (some ⟨g,off,none⟩)) (v : Value) (hy : a.eval y = v) (t : TypeId) (cur : Array Value)
 (hg : w.heap[g]? = some (.cells cur t (0,0))) (hsz : (P.info? T).map (·.size) = some v.cells.size) (hfit : off + v.cells.size ≤ cur.size) (h1 : ∀ u ∈ v.cells.toList,u.oneCell' = true)
 (h : K (a.put o.dst undef) (w.setRow g (over cur off v))) : o.wp P a w K Q:=by
 have hs : (storeCells ⟨g,off,none⟩ v.cells.toList 0).run P w = .ok () (w.setRow g (over cur off v)):=by
  have:=run_storeCells_at (P:=P) g off t v.cells.toList 0 cur w hg (by simpa using hfit) h1
  simpa [over] using this
 have hr : (execOp a.eval o).run P w = .ok .skip (w.setRow g (over cur off v)):=by
  unfold execOp
  cases hq : P.info? T with
  | none=>simp [hq] at hsz
  | some i=>
   have hi : v.cells.size = i.size:=by simp [hq] at hsz;omega
   simp only [ho,hx,hy,Instr.storeAt,Instr.sureAddr,storeVar,sizeOf,typeInfo,Sem.run_bind,Sem.run_pure,Result.andThen_ok,hi]
   simp [hq,hs]
 unfold Oper.wp
 rw [hr]
 exact h
theorem run_load_row (T : TypeId) (x : Operand) (ho : o.op = .load T x) (g : Nat) (hx : a.eval x = .pointer (some ⟨g,0,none⟩)) (t : TypeId) (cs : Array Value) (d : TypeDesc) (hg : w.heap[g]? = some (.cells cs t (0,0)))
 (hu : P.underlying T = some d) (hd : (match d with | .struct _ | .array _ _=>true | _=>false) = true) (hi : (P.info? T).map (·.size) = some cs.size) :
 (execOp a.eval o).run P w = .ok (.value (.agg cs)) w:=by
 unfold execOp
 simp only [ho,hx,Instr.loadAt,Instr.sureAddr,Sem.run_bind,Sem.run_pure,Result.andThen_ok,run_loadVar_row w g t T cs (0,0) d hg hu hd hi]
variable {ops : Array Oper} {rest : List Oper}
end
end Go.Proofs.YtejdpadhemeldaaGreatDoor
namespace Go.Proofs.YtejdpadhemeldaaGreatDoor
open Go.RowKit
section
variable {P : Program} {w : World} {o : Oper} {a : Act} {K : Act → World → Prop} {Q : Exit → Act → World → Prop}
theorem run_append_sz (w : World) (base : Nat) (t ty e : TypeId) (i : TypeInfo) (z : Value) (size bytes : Nat) (ht : P.underlying t = some (.slice e)) (hi : P.info? e = some i) (hz : i.zero = some z)
 (hsize : i.size = size) (hby : i.bytes = bytes) (hzs : z.cells.size = size) (hsz : 0 < size)
 (v : Value) (n : Nat) (xs : List Value) (hown : w.ownsRow base e size v n xs)
 (A : Option Addr) (m c : Nat) (news : List Value) (hm : news.length = m * size) (hr : Cells w A news) (h1 : ∀ u ∈ news,u.oneCell' = true)
 (h63 : n + m ≤ maxLen) (hbytes : (n + m) * bytes ≤ 140737488355328) (hbase : base ≤ w.heap.size) :
 ∃ v' w',(Builtin.append_ #[t,t] ty #[v,.slice A m c]).run P w = .ok v' w' ∧ w'.ownsRow base e size v' (n + m) (xs ++ news) ∧ w.grownBy w' v.ownBlock ∧
  (v'.ownBlock = v.ownBlock ∨ v'.ownBlock = some w.heap.size):=by
 rcases A with _ | ad
 ·have hn : news = []:=by
   rcases hr with h | ⟨b,off,h,_⟩
   ·exact h
   ·cases h
  subst hn
  have hm0 : m = 0:=by
   rcases Nat.eq_zero_or_pos m with h | h
   ·exact h
   ·have:=Nat.mul_pos h hsz
    simp at hm
    omega
  subst hm0
  refine ⟨v,w,?_,by simpa using hown,World.grownBy.refl w _,.inl rfl⟩
  rcases hown.2 with ⟨rfl,rfl⟩ | ⟨g,cap,cur,rfl,_,_,hnc,_⟩
  ·simp [Builtin.append_,run_underlying ht,sizeOf,typeInfo,hi,Builtin.lenOf,Builtin.firstCells]
  ·simp [Builtin.append_,run_underlying ht,sizeOf,typeInfo,hi,Builtin.lenOf,Builtin.firstCells,hnc,storeCells]
 ·have hcells : ∀ j u,news[j]? = some u → w.cell? (ad.add j) = some u:=by
   intro j u hu
   rcases hr with h | ⟨b,off,h,hc⟩
   ·subst h;simp at hu
   ·injection h with h
    subst h
    rw [addr_add]
    exact hc j u hu
  obtain ⟨v',w',hrun,h2,h3,_,h5⟩:=run_append_own_at (P:=P) w base t ty e i z size bytes ht hi hz hsize hby hzs hsz v n xs hown ad m c news hm hcells h1 h63 hbytes hbase
  exact ⟨v',w',hrun,h2,h3,h5⟩
theorem wp_append_sz (s x : Operand) (t : TypeId)
 (ho : o.op = .call { callee:=.builtin .append,args:=#[s,x],argTypes:=#[t,t] })
 (base : Nat) (e : TypeId) (z : Value) (size bytes : Nat) (ht : P.underlying t = some (.slice e)) (hinf : (P.info? e).map (fun i=>(i.zero,i.size,i.bytes)) = some (some z,size,bytes)) (hzs : z.cells.size = size) (hsz : 0 < size)
 (v : Value) (n : Nat) (xs : List Value) (hs : a.eval s = v) (hown : w.ownsRow base e size v n xs)
 (A : Option Addr) (m c : Nat) (news : List Value) (hx : a.eval x = .slice A m c) (hm : news.length = m * size) (hr : Cells w A news) (h1 : ∀ u ∈ news,u.oneCell' = true)
 (h63 : n + m ≤ maxLen) (hbytes : (n + m) * bytes ≤ 140737488355328) (hbase : base ≤ w.heap.size)
 (h : ∀ v' w',w'.ownsRow base e size v' (n + m) (xs ++ news) → w.grownBy w' v.ownBlock → (v'.ownBlock = v.ownBlock ∨ v'.ownBlock = some w.heap.size) → K (a.put o.dst v') w') : o.wp P a w K Q:=by
 obtain ⟨i,hi,hz0,hz1,hz2⟩:=info_parts hinf
 obtain ⟨v',w',hrun,h2,h3,h4⟩:=run_append_sz (P:=P) w base t o.type e i z size bytes ht hi hz0 hz1 hz2 hzs hsz v n xs hown A m c news hm hr h1 h63 hbytes hbase
 unfold Oper.wp execOp
 simp only [ho,resolve,invoke,builtin,Sem.run_bind,Sem.run_pure,Result.andThen_ok,List.map_toArray,List.map_cons,List.map_nil,hs,hx,hrun]
 exact h v' w' h2 h3 h4
end
theorem own_empty (w : World) (base : Nat) (hb : base ≤ w.heap.size) (e : TypeId) (size : Nat) : (w.alloc (.cells #[] e)).ownsRow base e size (.slice (some ⟨w.heap.size,0,none⟩) 0 0) 0 []:=
 ⟨by simp,.inr ⟨w.heap.size,0,#[],rfl,hb,heap_alloc_new w _,Nat.le_refl _,by simp [maxLen],by simp,by simp⟩⟩
section
variable {P : Program} {w : World} {o : Oper} {a : Act} {K : Act → World → Prop} {Q : Exit → Act → World → Prop}
end
theorem wp_load_cell {P : Program} {w : World} {o : Oper} {a : Act} {K : Act → World → Prop} {Q : Exit → Act → World → Prop} (T : TypeId) (x : Operand) (ho : o.op = .load T x) (p : Addr) (hx : a.eval x = .pointer (some p)) (v : Value) (hc : w.cell? p = some v) (hT : ∀ w,(isAgg T).run P w = .ok false w)
 (h : K (a.put o.dst v) w) : o.wp P a w K Q:=by
 have hr : (execOp a.eval o).run P w = .ok (.value v) w:=by
  unfold execOp
  simp only [ho,hx,Instr.loadAt,Instr.sureAddr,loadVar,Sem.run_bind,Sem.run_pure,Result.andThen_ok,hT]
  simp [run_load,hc]
 unfold Oper.wp
 rw [hr]
 exact h
theorem ext_sz {w w' : World} (h : Ext w w') : w.heap.size ≤ w'.heap.size:=h.size
theorem row_later' {w w1 : World} {g : Nat} {cs : Array Value} {T : TypeId} (h : w.heap[g]? = some (.cells cs T (0,0))) (hx : Ext w w1) : w1.heap[g]? = some (.cells cs T (0,0)):=
 (hx.block g (Array.getElem?_eq_some_iff.1 h).1).trans h
theorem row_lt {w : World} {g : Nat} {cs : Array Value} {T : TypeId} (h : w.heap[g]? = some (.cells cs T (0,0))) : g < w.heap.size:=(Array.getElem?_eq_some_iff.1 h).1
theorem below_grown {B : Nat} {w w' : World} {base : Nat} {e : TypeId} {size n : Nat} {v : Value} {xs : List Value} (ho : w.ownsRow base e size v n xs) (hg : w.grownBy w' v.ownBlock) (hb : B ≤ w.heap.size) (hB : B ≤ base) : Below B w w':=
 (Below.refl B w).grown hg hb (fun k hk=>Nat.le_trans hB (ho.lt k hk).1)
theorem below_stored {B : Nat} {w w' : World} {g : Nat} (hg : w.grownBy w' (some g)) (hb : B ≤ w.heap.size) (hB : B ≤ g) : Below B w w':=
 (Below.refl B w).grown hg hb (fun k hk=>by injection hk with hk;omega)
theorem own_str {S : Nat → Prop} {w : World} {base : Nat} {e : TypeId} {A : Option Addr} {n c : Nat} {l : List ByteArray} (h : w.ownsRow base e 1 (.slice A n c) n (l.map .string)) (hS : ∀ g,(Value.slice A n c).ownBlock = some g → S g) : Row Elem.str S w A n c l:=by
 have hl : n = l.length:=by simpa using h.1.symm
 refine ⟨hl,(own_cap h).1,(own_cap h).2,l.map fun s=>[.string s],by simp [hl],?_,fun i v x hi hx=>?_⟩
 ·have hfl : ∀ l : List ByteArray,(l.map fun s=>[Value.string s]).flatten = l.map .string:=fun l=>by
   induction l with
   | nil=>rfl
   | cons x l ih=>simp only [List.map_cons,List.flatten_cons,ih];rfl
  rw [hfl]
  rcases h.2 with ⟨hv,hn⟩ | ⟨g,cap,cur,hv,hb,hh,hnc,hcm,hsz,htk⟩
  ·exact .inl (by rw [hn] at hl;simp [List.length_eq_zero_iff.1 hl.symm])
  ·injection hv with hA _ _
   subst hA
   refine .inr ⟨g,0,rfl,hS g rfl,fun j u hj=>?_⟩
   rw [Nat.zero_add,cell_of_row w g j cur e (0,0) hh]
   rw [← htk,List.getElem?_take] at hj
   split at hj
   ·simpa using hj
   ·cases hj
 ·rw [List.getElem?_map,hx] at hi
  simp at hi
  exact hi.symm
theorem Row.str_cells {S : Nat → Prop} {w : World} {A : Option Addr} {n c : Nat} {l : List ByteArray} (h : Row Elem.str S w A n c l) : Cells w A (l.map .string):=by
 rcases Nat.eq_zero_or_pos n with h0 | h0
 ·exact .inl (by have:=h.len;rw [h0] at this;simp [List.length_eq_zero_iff.1 this.symm])
 ·obtain ⟨b,off,hA,hc⟩:=h.str_cell h0
  refine .inr ⟨b,off,hA,fun j u hj=>?_⟩
  rw [List.getElem?_map] at hj
  obtain ⟨x,hx,rfl⟩:=Option.map_eq_some_iff.1 hj
  rw [hc j (by rw [h.len];exact (List.getElem?_eq_some_iff.1 hx).1),hx]
  rfl
theorem own_rows {α : Type} {E : Elem α} {S : Nat → Prop} {w : World} {base : Nat} {e : TypeId} {A : Option Addr} {n c : Nat} {vss : List (List Value)} {l : List α} (h : w.ownsRow base e E.k (.slice A n c) n vss.flatten) (hl : n = l.length) (hv : vss.length = n)
 (hS : ∀ g,(Value.slice A n c).ownBlock = some g → S g) (hR : ∀ (i : Nat) v x,vss[i]? = some v → l[i]? = some x → E.R S w v x) : Row E S w A n c l:=by
 rcases h.2 with ⟨hv0,hn⟩ | ⟨g,cap,cur,hv0,hb,hh,hnc,hcm,hsz,htk⟩
 ·injection hv0 with h1 h2 h3
  subst h1 h2 h3
  have e1 : vss = []:=List.length_eq_zero_iff.1 hv
  have e2 : l = []:=List.length_eq_zero_iff.1 hl.symm
  subst e1 e2
  exact Row.nil E S w
 ·injection hv0 with hA _ hc
  subst hA hc
  refine ⟨hl,hnc,hcm,vss,hv,.inr ⟨g,0,rfl,hS g rfl,fun j u hj=>?_⟩,hR⟩
  rw [Nat.zero_add,cell_of_row w g j cur e (0,0) hh]
  rw [← htk,List.getElem?_take] at hj
  split at hj
  ·simpa using hj
  ·cases hj
end Go.Proofs.YtejdpadhemeldaaGreatDoor
namespace Go.Proofs.YtejdpadhemeldaaGreatDoor
def digC (c : UInt8) : Bool:=decide (48 ≤ c.toNat) && decide (c.toNat ≤ 57)
def valFrom (acc : Nat) : List UInt8 → Nat
 | []=>acc
 | c :: t=>valFrom (acc * 10 + (c.toNat - 48)) t
theorem digC_iff (c : UInt8) : digC c = true ↔ 48 ≤ c.toNat ∧ c.toNat ≤ 57:=by simp [digC]
theorem valFrom_ge (l : List UInt8) : ∀ acc : Nat,acc ≤ valFrom acc l:=by
 induction l with
 | nil=>intro acc;exact Nat.le_refl _
 | cons c t ih=>
  intro acc
  have h:=ih (acc * 10 + (c.toNat - 48))
  have e : valFrom acc (c :: t) = valFrom (acc * 10 + (c.toNat - 48)) t:=rfl
  rw [e]
  exact Nat.le_trans (by omega) h
theorem valFrom_lt (l : List UInt8) : ∀ acc : Nat,l.all digC = true → valFrom acc l < (acc + 1) * 10 ^ l.length:=by
 induction l with
 | nil=>intro acc _;show acc < (acc + 1) * 1;omega
 | cons c t ih=>
  intro acc h
  simp only [List.all_cons,Bool.and_eq_true] at h
  have h1:=(digC_iff c).1 h.1
  have h2:=ih (acc * 10 + (c.toNat - 48)) h.2
  have e : valFrom acc (c :: t) = valFrom (acc * 10 + (c.toNat - 48)) t:=rfl
  rw [e,List.length_cons,Nat.pow_succ,Nat.mul_comm (10 ^ t.length) 10,← Nat.mul_assoc]
  exact Nat.lt_of_lt_of_le h2 (Nat.mul_le_mul_right _ (by omega))
theorem valFrom_snoc : ∀ (l : List UInt8) (acc : Nat) (c : UInt8),valFrom acc (l ++ [c]) = valFrom acc l * 10 + (c.toNat - 48)
 | [],_,_=>rfl
 | _ :: t,_,c=>valFrom_snoc t _ c
theorem dec_small {u : Nat} (h : u < 10) : Lib.decDigits u = [UInt8.ofNat (48 + u)]:=by unfold Lib.decDigits;rw [dif_pos h]
theorem dec_big {u : Nat} (h : ¬ u < 10) : Lib.decDigits u = Lib.decDigits (u / 10) ++ [UInt8.ofNat (48 + u % 10)]:=by rw [Lib.decDigits,dif_neg h]
theorem parse_okM {M : Nat} (hM : 1000000000000000000 ≤ M) (l : List UInt8) : ∀ acc : Nat,l.all digC = true → valFrom acc l < 1000000000000000000 → Lib.parseUintM M acc l = .ok (valFrom acc l):=by
 induction l with
 | nil=>intro acc _ _;rfl
 | cons c t ih=>
  intro acc h hv
  simp only [List.all_cons,Bool.and_eq_true] at h
  have h1:=(digC_iff c).1 h.1
  have e : valFrom acc (c :: t) = valFrom (acc * 10 + (c.toNat - 48)) t:=rfl
  rw [e] at hv ⊢
  have h2:=valFrom_ge t (acc * 10 + (c.toNat - 48))
  have h3 : acc * 10 + (c.toNat - 48) < 1000000000000000000:=Nat.lt_of_le_of_lt h2 hv
  unfold Lib.parseUintM
  rw [if_pos h1,if_neg (by omega),if_neg (by omega)]
  exact ih _ h.2 hv
theorem parse_ok (l : List UInt8) (acc : Nat) (h : l.all digC = true) (hv : valFrom acc l < 10 ^ 18) : Lib.parseUintM (2 ^ 64 - 1) acc l = .ok (valFrom acc l):=parse_okM (by decide) l acc h hv
def plainD (d : List UInt8) : Prop:=d ≠ [] ∧ d.all digC = true ∧ (d.head? ≠ some 48 ∨ d = [48])
theorem val_pos : ∀ (d : List UInt8),d ≠ [] → d.all digC = true → d.head? ≠ some 48 → 1 ≤ valFrom 0 d
 | [],h,_,_=>absurd rfl h
 | c :: t,_,h,hh=>by
  simp only [List.all_cons,Bool.and_eq_true] at h
  have h1:=(digC_iff c).1 h.1
  have h2:=valFrom_ge t (0 * 10 + (c.toNat - 48))
  have h3 : c.toNat ≠ 48:=fun e=>hh (congrArg some (UInt8.toNat_inj.1 e))
  have e : valFrom 0 (c :: t) = valFrom (0 * 10 + (c.toNat - 48)) t:=rfl
  rw [e]
  exact Nat.le_trans (by omega) h2
theorem digits_val : ∀ (n : Nat) (d : List UInt8),d.length ≤ n → plainD d → Lib.decDigits (valFrom 0 d) = d
 | n,d,hn,⟨h1,h2,h3⟩=>by
  rcases List.eq_nil_or_concat d with e | ⟨e,c,hd⟩
  ·exact absurd e h1
  ·rw [List.concat_eq_append] at hd
   subst hd
   rw [List.all_append,Bool.and_eq_true] at h2
   simp only [List.all_cons,List.all_nil,Bool.and_true] at h2
   have hc:=(digC_iff c).1 h2.2
   rw [valFrom_snoc]
   by_cases he : e = []
   ·subst he
    have e0 : valFrom 0 [] = 0:=rfl
    rw [e0,dec_small (by omega)]
    have : 48 + (0 * 10 + (c.toNat - 48)) = c.toNat:=by omega
    rw [this]
    simp
   ·have hh : e.head? ≠ some 48:=by
     rcases h3 with h3 | h3
     ·cases e with
      | nil=>exact absurd rfl he
      | cons x t=>simpa using h3
     ·cases e with
      | nil=>exact absurd rfl he
      | cons x t=>have:=congrArg List.length h3;simp at this
    have hp:=val_pos e he h2.1 hh
    cases n with
    | zero=>simp at hn
    | succ n=>
     have ih:=digits_val n e (by simp at hn;omega) ⟨he,h2.1,.inl hh⟩
     rw [dec_big (by omega)]
     have e1 : (valFrom 0 e * 10 + (c.toNat - 48)) / 10 = valFrom 0 e:=by omega
     have e2 : 48 + (valFrom 0 e * 10 + (c.toNat - 48)) % 10 = c.toNat:=by omega
     rw [e1,e2,ih]
     simp
theorem dec_plain : ∀ (n u : Nat),u ≤ n → plainD (Lib.decDigits u) ∧ (0 < u → (Lib.decDigits u).head? ≠ some 48)
 | n,u,hn=>by
  by_cases h : u < 10
  ·rw [dec_small h]
   have ht : (UInt8.ofNat (48 + u)).toNat = 48 + u:=by rw [UInt8.toNat_ofNat'];omega
   refine ⟨⟨by simp,by simp [digC,ht];omega,?_⟩,fun h0=>?_⟩
   ·by_cases h0 : u = 0
    ·right;subst h0;rfl
    ·left
     intro e
     injection e with e
     have:=congrArg UInt8.toNat e
     rw [ht] at this
     have e48 : (48 : UInt8).toNat = 48:=rfl
     omega
   ·intro e
    injection e with e
    have:=congrArg UInt8.toNat e
    rw [ht] at this
    have e48 : (48 : UInt8).toNat = 48:=rfl
    omega
  ·rw [dec_big h]
   cases n with
   | zero=>omega
   | succ n=>
    obtain ⟨⟨h1,h2,_⟩,h4⟩:=dec_plain n (u / 10) (by omega)
    have h5:=h4 (by omega)
    have hh : (Lib.decDigits (u / 10) ++ [UInt8.ofNat (48 + u % 10)]).head? ≠ some 48:=by
     cases hd : Lib.decDigits (u / 10) with
     | nil=>exact absurd hd h1
     | cons x t=>rw [hd] at h5;simpa using h5
    have ht : (UInt8.ofNat (48 + u % 10)).toNat = 48 + u % 10:=by rw [UInt8.toNat_ofNat'];omega
    refine ⟨⟨by simp,?_,.inl hh⟩,fun _=>hh⟩
    rw [List.all_append,h2]
    simp [digC,ht]
    omega
def negB (v : List UInt8) : Bool:=decide (v.head? = some 45)
def digsB (v : List UInt8) : List UInt8:=if negB v then v.drop 1 else v
def intV (v : List UInt8) : Int:=if negB v then -(valFrom 0 (digsB v) : Int) else (valFrom 0 (digsB v) : Int)
theorem intB_iff (v : List UInt8) : intB v = true ↔ 1 ≤ (digsB v).length ∧ (digsB v).length ≤ 18 ∧ ¬ ((digsB v).head? = some 48 ∧ (1 < (digsB v).length ∨ negB v = true)) ∧ (digsB v).all digC = true:=by
 have e : intB v = (decide (1 ≤ (digsB v).length) && decide ((digsB v).length ≤ 18) && !(decide ((digsB v).head? = some 48) && (decide (1 < (digsB v).length) || negB v)) && (digsB v).all digC):=rfl
 rw [e]
 simp only [Bool.and_eq_true,decide_eq_true_eq,Bool.not_eq_true',Bool.and_eq_false_iff,decide_eq_false_iff_not,Bool.or_eq_false_iff,and_assoc]
 constructor
 ·rintro ⟨h1,h2,h3,h4⟩
  refine ⟨h1,h2,fun ⟨h5,h6⟩=>?_,h4⟩
  rcases h3 with h3 | ⟨h3,h7⟩
  ·exact h3 h5
  ·rcases h6 with h6 | h6
   ·exact h3 h6
   ·rw [h7] at h6;cases h6
 ·rintro ⟨h1,h2,h3,h4⟩
  refine ⟨h1,h2,?_,h4⟩
  by_cases h5 : (digsB v).head? = some 48
  ·right
   refine ⟨fun h6=>h3 ⟨h5,.inl h6⟩,?_⟩
   cases h7 : negB v with
   | false=>rfl
   | true=>exact absurd ⟨h5,.inr h7⟩ h3
  ·exact .inl h5
theorem intB_plain {v : List UInt8} (h : intB v = true) : plainD (digsB v) ∧ (negB v = true → (digsB v).head? ≠ some 48):=by
 obtain ⟨h1,h2,h3,h4⟩:=(intB_iff v).1 h
 refine ⟨⟨fun e=>by rw [e] at h1;simp at h1,h4,?_⟩,fun hn he=>h3 ⟨he,.inr hn⟩⟩
 by_cases hh : (digsB v).head? = some 48
 ·right
  have hl : ¬ 1 < (digsB v).length:=fun hl=>h3 ⟨hh,.inl hl⟩
  cases hd : digsB v with
  | nil=>rw [hd] at h1;simp at h1
  | cons c t=>
   rw [hd] at hh hl
   cases t with
   | nil=>simp at hh;rw [hh]
   | cons x t=>simp at hl
 ·exact .inl hh
theorem intV_small {v : List UInt8} (h : intB v = true) : valFrom 0 (digsB v) < 10 ^ 18:=by
 obtain ⟨h1,h2,h3,h4⟩:=(intB_iff v).1 h
 have:=valFrom_lt (digsB v) 0 h4
 have h5 : 10 ^ (digsB v).length ≤ 10 ^ 18:=Nat.pow_le_pow_right (by decide) h2
 omega
theorem neg_form {v : List UInt8} (h : negB v = true) : v = 45 :: digsB v:=by
 unfold digsB
 rw [if_pos h]
 unfold negB at h
 rw [decide_eq_true_eq] at h
 cases v with
 | nil=>cases h
 | cons c t=>simp at h;rw [h];rfl
theorem pos_form {v : List UInt8} (h : negB v = false) : digsB v = v:=by unfold digsB;rw [if_neg (by simp [h])]
theorem parse_int {v : List UInt8} (h : intB v = true) : Lib.parseIntB 64 v = .ok (intV v):=by
 obtain ⟨⟨h1,h2,h3⟩,h4⟩:=intB_plain h
 have hs:=intV_small h
 have hp : Lib.parseUintB 64 (digsB v) = .ok (valFrom 0 (digsB v)):=by
  unfold Lib.parseUintB
  rw [if_neg h1]
  exact parse_ok _ 0 h2 hs
 cases hn : negB v with
 | true=>
  have e:=neg_form hn
  have hV : intV v = -(valFrom 0 (digsB v) : Int):=by unfold intV;rw [if_pos hn]
  generalize digsB v = d at *
  subst e
  have c1 : ((45 : UInt8).toNat = 43 ∨ (45 : UInt8).toNat = 45):=by decide
  have c2 : (45 : UInt8).toNat = 45:=by decide
  have c3 : ¬ 2 ^ (64 - 1) < valFrom 0 d:=by omega
  simp only [Lib.parseIntB,if_pos c1]
  simp only [hp,c2,not_true_eq_false,false_and,if_false,true_and,if_true,c3,hV]
 | false=>
  have e:=pos_form hn
  have hV : intV v = (valFrom 0 (digsB v) : Int):=by unfold intV;rw [if_neg (by simp [hn])]
  rw [e] at h1 h2 h3 hs hp hV
  cases v with
  | nil=>exact absurd rfl h1
  | cons c t=>
   simp only [List.all_cons,Bool.and_eq_true] at h2
   have h5:=(digC_iff c).1 h2.1
   have c1 : ¬ (c.toNat = 43 ∨ c.toNat = 45):=by omega
   have c2 : ¬ c.toNat = 45:=by omega
   have c3 : ¬ 2 ^ (64 - 1) ≤ valFrom 0 (c :: t):=by omega
   simp only [Lib.parseIntB,if_neg c1]
   simp only [hp,c2,not_false_eq_true,true_and,false_and,if_false,c3,hV]
theorem itoa_int {v : List UInt8} (h : intB v = true) : Lib.itoa (intV v) = v:=by
 obtain ⟨hp,h4⟩:=intB_plain h
 have hd:=digits_val _ (digsB v) (Nat.le_refl _) hp
 cases hn : negB v with
 | true=>
  have hpos:=val_pos _ hp.1 hp.2.1 (h4 hn)
  have hV : intV v = -(valFrom 0 (digsB v) : Int):=by unfold intV;rw [if_pos hn]
  have hlt : -(valFrom 0 (digsB v) : Int) < 0:=by omega
  unfold Lib.itoa
  rw [hV,if_pos hlt]
  have : (-(valFrom 0 (digsB v) : Int)).natAbs = valFrom 0 (digsB v):=by omega
  rw [this,hd]
  exact (neg_form hn).symm
 | false=>
  have hV : intV v = (valFrom 0 (digsB v) : Int):=by unfold intV;rw [if_neg (by simp [hn])]
  have hlt : ¬ (valFrom 0 (digsB v) : Int) < 0:=by omega
  unfold Lib.itoa
  rw [hV,if_neg hlt,Int.toNat_natCast,hd]
  exact pos_form hn
theorem trim_dash (v : List UInt8) : Lib.trimPrefix v [45] = digsB v:=by
 unfold Lib.trimPrefix Lib.hasPrefix digsB negB
 cases v with
 | nil=>rfl
 | cons c t=>
  by_cases hc : c = 45
  ·subst hc;rfl
  ·have : ¬ (45 : UInt8) = c:=fun e=>hc e.symm
   simp [List.isPrefixOf,hc,this]
theorem int_prog (v : List UInt8) (n : Int) (h1 : Lib.itoa n = v) (h2 : (Lib.trimPrefix v [45]).length ≤ 18) : intB v = true:=by
 rw [trim_dash] at h2
 rw [intB_iff]
 unfold Lib.itoa at h1
 by_cases hn : n < 0
 ·rw [if_pos hn] at h1
  obtain ⟨⟨p1,p2,p3⟩,p4⟩:=dec_plain _ n.natAbs (Nat.le_refl _)
  have hneg : negB v = true:=by rw [← h1];rfl
  have hd : digsB v = Lib.decDigits n.natAbs:=by have h9:=h1.trans (neg_form hneg);injection h9 with _ e;exact e.symm
  rw [hd] at h2 ⊢
  exact ⟨by have:=List.length_pos_iff.2 p1;omega,h2,fun ⟨e,_⟩=>p4 (by omega) e,p2⟩
 ·rw [if_neg hn] at h1
  obtain ⟨⟨p1,p2,p3⟩,p4⟩:=dec_plain _ n.toNat (Nat.le_refl _)
  rw [h1] at p1 p2 p3 p4
  have hneg : negB v = false:=by
   cases hb : negB v with
   | false=>rfl
   | true=>
    have:=neg_form hb
    rw [this] at p2
    simp [digC] at p2
  have hd:=pos_form hneg
  rw [hd] at h2 ⊢
  refine ⟨by have:=List.length_pos_iff.2 p1;omega,h2,?_,p2⟩
  rintro ⟨e,e2 | e2⟩
  ·rcases p3 with p3 | p3
   ·exact p3 e
   ·rw [p3] at e2;simp at e2
  ·rw [hneg] at e2;cases e2
end Go.Proofs.YtejdpadhemeldaaGreatDoor
namespace Go.Proofs.YtejdpadhemeldaaGreatDoor
open Go.RowKit
structure Bx (w wr : World) (g : Nat) (T : TypeId) (cs : Array Value) : Prop where
 new : w.heap.size ≤ g
 blk : wr.heap[g]? = some (.cells cs T (0,0))
 ext : Ext w wr
section
variable {w wr w' : World} {g : Nat} {T : TypeId} {cs : Array Value}
theorem Bx.make (h : Ext w wr) (cs : Array Value) (T : TypeId) : Bx w (wr.alloc (.cells cs T)) wr.heap.size T cs:=⟨h.size,heap_alloc_new wr _,h.trans (Ext.alloc _ _)⟩
theorem Bx.lt (h : Bx w wr g T cs) : g < wr.heap.size:=(Array.getElem?_eq_some_iff.1 h.blk).1
theorem Bx.later (h : Bx w wr g T cs) (hx : Ext wr w') : Bx w w' g T cs:=⟨h.new,(hx.block g h.lt).trans h.blk,h.ext.trans hx⟩
theorem Bx.cell (h : Bx w wr g T cs) {i : Nat} {v : Value} (hi : cs[i]? = some v) : wr.cell? ⟨g,i,none⟩ = some v:=by rw [cell_of_row wr g i cs T (0,0) h.blk];exact hi
theorem Bx.frozen (h : Bx w wr g T cs) (i : Nat) : wr.frozen? ⟨g,i,none⟩ = false:=frozen_of_row wr g i cs T h.blk
theorem Bx.set (h : Bx w wr g T cs) (i : Nat) (v : Value) : Bx w (wr.setCell ⟨g,i,none⟩ v) g T (cs.setIfInBounds i v):=
 ⟨h.new,heap_setCell_same wr g i cs T v h.blk,h.ext.setCell h.new v⟩
theorem Bx.aside (h : Bx w wr g T cs) {k : Nat} (hk : w.heap.size ≤ k) (hne : g ≠ k) (i : Nat) (v : Value) : Bx w (wr.setCell ⟨k,i,none⟩ v) g T cs:=
 ⟨h.new,by rw [heap_setCell_other _ _ _ _ hne];exact h.blk,h.ext.setCell hk v⟩
theorem Bx.load {P : Program} (h : Bx w wr g T cs) (U : TypeId) (d : TypeDesc) (hu : P.underlying U = some d) (hd : (match d with | .struct _ | .array _ _=>true | _=>false) = true) (hi : (P.info? U).map (·.size) = some cs.size) :
 ∀ w',Ext wr w' → (Instr.loadAt U (.pointer (some ⟨g,0,none⟩))).run P w' = .ok (.agg cs) w':=fun w' hx=>by
 have h':=(h.later hx).blk
 simp only [Instr.loadAt,Instr.sureAddr,Sem.run_bind,Sem.run_pure,Result.andThen_ok,run_loadVar_row w' g T U cs (0,0) d h' hu hd hi]
theorem Bx.set0 {x y : Value} (h : Bx w wr g T #[x,y]) (v : Value) : Bx w (wr.setCell ⟨g,0,none⟩ v) g T #[v,y]:=h.set 0 v
theorem Bx.set1 {x y : Value} (h : Bx w wr g T #[x,y]) (v : Value) : Bx w (wr.setCell ⟨g,1,none⟩ v) g T #[x,v]:=h.set 1 v
theorem Bx.eight {k : Nat} {U : TypeId} {x y u v : Value} (hp : Bx w wr g T #[x,y]) (hr : Bx w wr k U #[u,v]) :
 wr.cell? ⟨g,0,none⟩ = some x ∧ wr.cell? ⟨g,1,none⟩ = some y ∧ wr.frozen? ⟨g,0,none⟩ = false ∧ wr.frozen? ⟨g,1,none⟩ = false ∧ wr.cell? ⟨k,0,none⟩ = some u ∧ wr.cell? ⟨k,1,none⟩ = some v ∧ wr.frozen? ⟨k,0,none⟩ = false ∧ wr.frozen? ⟨k,1,none⟩ = false:=
 ⟨hp.cell (i:=0) rfl,hp.cell (i:=1) rfl,hp.frozen 0,hp.frozen 1,hr.cell (i:=0) rfl,hr.cell (i:=1) rfl,hr.frozen 0,hr.frozen 1⟩
end
theorem ret_cell_tmp {P : Program} {fn : Func} {R : Ending → World → Prop} {a : Act} {w0 w : World} {p u : Tmp} {ty : TypeId} {g : Nat} {T : TypeId} {cs : Array Value} (d : TypeDesc) (h : fn.results = #[.cell p ty,.tmp u])
 (hp : a.tmps.getD p undef = .pointer (some ⟨g,0,none⟩)) (hb : Bx w0 w g T cs) (hu : P.underlying ty = some d) (hd : (match d with | .struct _ | .array _ _=>true | _=>false) = true) (hi : (P.info? ty).map (·.size) = some cs.size)
 (hdf : a.defers = []) (hR : R (.returned (.tuple #[.agg cs,a.tmps.getD u undef])) w) : bodyPost P fn R .ret a w:=by
 refine bodyPost_ret (v:=.tuple #[.agg cs,a.tmps.getD u undef]) ?_ hdf hR
 rw [results_cell_tmp h,hp]
 simp only [asAddr,Sem.run_pure,Result.andThen_ok,run_loadVar_row w g T ty cs (0,0) d hb.blk hu hd hi]
theorem two_boxes {w w' : World} {T U : TypeId} {xs ys : Array Value} (h : Ext ((w.alloc (.cells xs T)).alloc (.cells ys U)) w') : Bx w w' w.heap.size T xs ∧ Bx w w' (w.heap.size + 1) U ys:=by
 have h1:=((Bx.make (Ext.refl w) xs T).later (Ext.alloc _ (.cells ys U))).later h
 have h2:=(Bx.make (Ext.alloc w (.cells xs T)) ys U).later h
 rw [show (w.alloc (.cells xs T)).heap.size = w.heap.size + 1 by simp] at h2
 exact ⟨h1,h2⟩
end Go.Proofs.YtejdpadhemeldaaGreatDoor
