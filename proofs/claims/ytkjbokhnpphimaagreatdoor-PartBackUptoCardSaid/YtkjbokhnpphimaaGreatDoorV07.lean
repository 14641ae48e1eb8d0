/- Lemmas of the walk. -/
import Derived.Test.YtkjbokhnpphimaaGreatDoorV04
import Derived.Deep.WholeRow
import Derived.Test.YtkjbokhnpphimaaGreatDoorV06
set_option maxHeartbeats 40000000
set_option linter.unusedVariables false
set_option linter.unusedSimpArgs false
namespace Go.Proofs.YtkjbokhnpphimaaGreatDoor
section
open Go.RowKit
def Same(S:Nat→Prop)(w w':World):Prop:=∀b,S b→w'.heap[b]?=w.heap[b]?
theorem Same.refl(S:Nat→Prop)(w:World):Same S w w:=fun _ _=>rfl
theorem Same.trans{S:Nat→Prop}{a b c:World}(h:Same S a b)(k:Same S b c):Same S a c:=fun x hx=>(k x hx).trans (h x hx)
theorem Same.mono{S T:Nat→Prop}{a b:World}(h:Same S a b)(hs:∀x,T x→S x):Same T a b:=fun x hx=>h x (hs x hx)
def CellsIn(S:Nat→Prop)(w:World)(A:Option Addr)(vs:List Value):Prop:=
 vs=[]∨∃b off,A=some ⟨b,off,none⟩∧S b∧∀j u,vs[j]?=some u→w.cell? ⟨b,off+j,none⟩=some u
section
variable {S T:Nat→Prop}{w w':World}{A:Option Addr}{vs:List Value}
theorem CellsIn.cells(h:CellsIn S w A vs):Cells w A vs:=by
 rcases h with h|⟨b,off,hA,_,hc⟩
 ·exact .inl h
 ·exact .inr ⟨b,off,hA,hc⟩
theorem CellsIn.same(h:CellsIn S w A vs)(hk:Same S w w'):CellsIn S w' A vs:=by
 rcases h with h|⟨b,off,hA,hS,hc⟩
 ·exact .inl h
 ·exact .inr ⟨b,off,hA,hS,fun j u hj=>by rw[World.cell?_of_block (hk b hS)];exact hc j u hj⟩
theorem CellsIn.mono(h:CellsIn S w A vs)(hs:∀x,x<w.heap.size→S x→T x):CellsIn T w A vs:=by
 rcases h with h|⟨b,off,hA,hS,hc⟩
 ·exact .inl h
 ·rcases vs with _|⟨u,vs⟩
  ·exact .inl rfl
  ·exact .inr ⟨b,off,hA,hs b (by have:=World.block_lt_of_cell? w _ (hc 0 u rfl);simpa using this) hS,hc⟩
end
structure Elem(α:Type) where
 k:Nat
 pos:0<k
 R:(Nat→Prop)→World→List Value→α→Prop
 len:∀{S w v x},R S w v x→v.length=k
 same:∀{S w w' v x},R S w v x→Same S w w'→R S w' v x
 mono:∀{S T w v x},R S w v x→(∀b,b<w.heap.size→S b→T b)→R T w v x
structure Row{α:Type}(E:Elem α)(S:Nat→Prop)(w:World)(A:Option Addr)(n c:Nat)(l:List α):Prop where
 len:n=l.length
 cap:n≤c
 most:c≤maxLen
 rows:∃vss:List (List Value),vss.length=n∧CellsIn S w A vss.flatten∧∀(i:Nat) v x,vss[i]?=some v→l[i]?=some x→E.R S w v x
theorem zci{k:Nat}:∀{vss:List (List Value)},(∀v∈vss,v.length=k)→∀{i j:Nat} {v:List Value} {u:Value},vss[i]?=some v→v[j]?=some u→vss.flatten[i * k+j]?=some u
 |[],_,i,j,v,u,hi,_=>by simp at hi
 |v0::vss,hl,0,j,v,u,hi,hj=>by
  simp at hi;subst hi
  rw[Nat.zero_mul,Nat.zero_add,List.flatten_cons,List.getElem?_append_left (List.getElem?_eq_some_iff.1 hj).1];exact hj
 |v0::vss,hl,i+1,j,v,u,hi,hj=>by
  have h0:=hl v0 (by simp)
  rw[List.flatten_cons,List.getElem?_append_right (by rw[h0,Nat.succ_mul];omega),h0]
  have:(i+1) * k+j-k=i * k+j:=by rw[Nat.succ_mul];omega
  rw[this]
  exact zci (fun v hv=>hl v (by simp[hv])) (by simpa using hi) hj
section
variable {α:Type}{E:Elem α}{S T:Nat→Prop}{w w':World}{A:Option Addr}{n c:Nat}{l:List α}
theorem Row.nil(E:Elem α)(S:Nat→Prop)(w:World):Row E S w none 0 0 []:=⟨rfl,Nat.le_refl _,by simp[maxLen],[],rfl,.inl rfl,fun i v x h=>by simp at h⟩
theorem Row.same(h:Row E S w A n c l)(hk:Same S w w'):Row E S w' A n c l:=by
 obtain⟨h1,h2,h3,vss,h4,h5,h6⟩:=h
 exact⟨h1,h2,h3,vss,h4,h5.same hk,fun i v x hi hx=>E.same (h6 i v x hi hx) hk⟩
theorem Row.mono(h:Row E S w A n c l)(hs:∀x,x<w.heap.size→S x→T x):Row E T w A n c l:=by
 obtain⟨h1,h2,h3,vss,h4,h5,h6⟩:=h
 exact⟨h1,h2,h3,vss,h4,h5.mono hs,fun i v x hi hx=>E.mono (h6 i v x hi hx) hs⟩
theorem Row.lt(h:Row E S w A n c l):Row E (fun b=>S b∧b<w.heap.size) w A n c l:=h.mono fun _ hx hs=>⟨hs,hx⟩
theorem Row.ext(h:Row E S w A n c l)(hx:Ext w w'):Row E S w' A n c l:=
 (h.lt.same fun b hb=>hx.block b hb.2).mono fun _ _ hs=>hs.1
theorem Row.at_(h:Row E S w A n c l){i:Nat}(hi:i<n) :
 ∃b off v x,A=some ⟨b,off,none⟩∧l[i]?=some x∧v.length=E.k∧E.R S w v x∧∀(j:Nat) u,v[j]?=some u→w.cell? ⟨b,off+i * E.k+j,none⟩=some u:=by
 obtain⟨h1,h2,h3,vss,h4,h5,h6⟩:=h
 have hv:vss[i]?=some vss[i]:=List.getElem?_eq_getElem (by omega)
 have hx:l[i]?=some l[i]:=List.getElem?_eq_getElem (by omega)
 have hR:=h6 i _ _ hv hx
 have hlen:=E.len hR
 have hall:∀v∈vss,v.length=E.k:=by
  intro v hv
  obtain⟨j,hj,rfl⟩:=List.mem_iff_getElem.1 hv
  exact E.len (h6 j vss[j] (l[j]'(by omega)) (List.getElem?_eq_getElem hj) (List.getElem?_eq_getElem (by omega)))
 have hf:∀(j:Nat) u,vss[i][j]?=some u→vss.flatten[i * E.k+j]?=some u:=fun j u hj=>zci hall hv hj
 rcases h5 with h5|⟨b,off,hA,hS,hc⟩
 ·have h0:=hf 0 _ (List.getElem?_eq_getElem (show 0<vss[i].length by rw[hlen];exact E.pos))
  rw[h5] at h0
  cases h0
 ·exact⟨b,off,vss[i],l[i],hA,hx,hlen,hR,fun j u hj=>by rw[Nat.add_assoc];exact hc _ u (hf j u hj)⟩
theorem Row.nil_iff(h:Row E S w A n c l):n=0↔l=[]:=by rw[h.len];exact List.length_eq_zero_iff
end
theorem zc2(w:World)(cs:Array Value)(t:TypeId)(j:Nat):(w.alloc (.cells cs t)).cell? ⟨w.heap.size,j,none⟩=cs[j]?:=by
 rw[cell_of_row _ _ j cs t (0,0) (heap_alloc_new w _)]
def Elem.str:Elem ByteArray:=⟨1,by decide,fun _ _ v x=>v=[.string x],fun h=>by rw[h];rfl,fun h _=>h,fun h _=>h⟩
def Elem.slc{α:Type}(E:Elem α):Elem (List α):=
 ⟨1,by decide,fun S w v l=>∃A n c,v=[.slice A n c]∧Row E S w A n c l,fun⟨_,_,_,h,_⟩=>by rw[h];rfl,fun⟨A,n,c,h,hr⟩ hk=>⟨A,n,c,h,hr.same hk⟩,fun⟨A,n,c,h,hr⟩ hs=>⟨A,n,c,h,hr.mono hs⟩⟩
structure Att where
 type:ByteArray
 vals:List ByteArray
def Elem.att:Elem Att:=
 ⟨2,by decide,fun S w v a=>∃A n c,v=[.string a.type,.slice A n c]∧Row Elem.str S w A n c a.vals,fun⟨_,_,_,h,_⟩=>by rw[h];rfl,fun⟨A,n,c,h,hr⟩ hk=>⟨A,n,c,h,hr.same hk⟩,fun⟨A,n,c,h,hr⟩ hs=>⟨A,n,c,h,hr.mono hs⟩⟩
theorem Row.one{α:Type}{E:Elem α}{S:Nat→Prop}{w:World}{v:List Value}{x:α}(h:E.R S w v x)(t:TypeId) :
 Row E (fun _=>True) (w.alloc (.cells v.toArray t)) (some ⟨w.heap.size,0,none⟩) 1 1 [x]:=by
 have hx:Ext w (w.alloc (.cells v.toArray t)):=Ext.alloc _ _
 refine⟨rfl,Nat.le_refl _,by simp[maxLen],[v],rfl,.inr ⟨w.heap.size,0,rfl,trivial,fun j u hj=>?_⟩,fun i v' x' hi hx'=>?_⟩
 ·rw[Nat.zero_add,cell_of_row _ _ j v.toArray t (0,0) (heap_alloc_new w _)]
  simpa using hj
 ·rcases i with _|i
  ·simp at hi hx'
   subst hi hx'
   have h1:E.R (fun b=>b<w.heap.size) w v x:=E.mono h fun b hb _=>hb
   exact E.mono (E.same h1 fun b hb=>hx.block b hb) fun _ _ _=>trivial
  ·simp at hi
theorem zco{a b:ByteArray}(h:a=b):(a.toList==b.toList)=true:=by rw[h];exact beq_self_eq_true _
theorem zch{a b:ByteArray}(h:¬a=b):(a.toList==b.toList)=false:=by
 rw[beq_eq_false_iff_ne]
 intro e
 rw[ByteArray.toList_eq,ByteArray.toList_eq] at e
 obtain⟨⟨a⟩⟩:=a
 obtain⟨⟨b⟩⟩:=b
 exact h (by simp at e;rw[e])
theorem Row.str_cell{S:Nat→Prop}{w:World}{A:Option Addr}{n c:Nat}{l:List ByteArray}(h:Row Elem.str S w A n c l)(hn:0<n) :
 ∃b off,A=some ⟨b,off,none⟩∧∀i,i<n→w.cell? ⟨b,off+i,none⟩=some (.string (l[i]?.getD ByteArray.empty)):=by
 obtain⟨b,off,v,x,hA,_⟩:=h.at_ hn
 refine⟨b,off,hA,fun i hi=>?_⟩
 obtain⟨b',off',v,x,hA',hx,_,hR,hc⟩:=h.at_ hi
 rw[hA] at hA'
 injection hA' with e
 injection e with e1 e2
 subst e1 e2
 have hv:v=[.string x]:=hR
 subst hv
 have:=hc 0 _ rfl
 rw[hx]
 simpa[Elem.str] using this
end
section
open Go.RowKit
section
variable {P:Program}{w:World}{o:Oper}{a:Act}{K:Act→World→Prop}{Q:Exit→Act→World→Prop}
def over(cur:Array Value)(off:Nat)(v:Value):Array Value:=(cur.toList.take off++v.cells.toList++cur.toList.drop (off+v.cells.size)).toArray
theorem zlb(T:TypeId)(x y:Operand)(ho:o.op=.store T x y)(g off:Nat)(hx:a.eval x=.pointer (some ⟨g,off,none⟩))(v:Value)(hy:a.eval y=v)(t:TypeId)(cur:Array Value)
 (hg:w.heap[g]?=some (.cells cur t (0,0))) (hsz:(P.info? T).map (·.size)=some v.cells.size) (hfit:off+v.cells.size≤cur.size) (h1:∀u∈v.cells.toList,u.oneCell'=true)
 (h:K (a.put o.dst undef) (w.setRow g (over cur off v))):o.wp P a w K Q:=by
 have hs:(storeCells ⟨g,off,none⟩ v.cells.toList 0).run P w=.ok () (w.setRow g (over cur off v)):=by
  have:=run_storeCells_at (P:=P) g off t v.cells.toList 0 cur w hg (by simpa using hfit) h1
  simpa[over] using this
 have hr:(execOp a.eval o).run P w=.ok .skip (w.setRow g (over cur off v)):=by
  unfold execOp
  cases hq:P.info? T with
  |none=>simp[hq] at hsz
  |some i=>
   have hi:v.cells.size=i.size:=by simp[hq] at hsz;omega
   simp only[ho,hx,hy,Instr.storeAt,Instr.sureAddr,storeVar,sizeOf,typeInfo,Sem.run_bind,Sem.run_pure,Result.andThen_ok,hi]
   simp[hq,hs]
 unfold Oper.wp
 rw[hr]
 exact h
theorem zcz(T:TypeId)(x:Operand)(ho:o.op=.load T x)(g:Nat)(hx:a.eval x=.pointer (some ⟨g,0,none⟩))(t:TypeId)(cs:Array Value)(d:TypeDesc)(hg:w.heap[g]?=some (.cells cs t (0,0)))
 (hu:P.underlying T=some d) (hd:(match d with|.struct _|.array _ _=>true|_=>false)=true) (hi:(P.info? T).map (·.size)=some cs.size) :
 (execOp a.eval o).run P w=.ok (.value (.agg cs)) w:=by
 unfold execOp
 simp only[ho,hx,Instr.loadAt,Instr.sureAddr,Sem.run_bind,Sem.run_pure,Result.andThen_ok,run_loadVar_row w g t T cs (0,0) d hg hu hd hi]
variable {ops:Array Oper}{rest:List Oper}
end
end
section
open Go.RowKit
section
variable {P:Program}{w:World}{o:Oper}{a:Act}{K:Act→World→Prop}{Q:Exit→Act→World→Prop}
theorem ziY(w:World)(base:Nat)(t ty e:TypeId)(i:TypeInfo)(z:Value)(size bytes:Nat)(ht:P.underlying t=some (.slice e))(hi:P.info? e=some i)(hz:i.zero=some z)
 (hsize:i.size=size) (hby:i.bytes=bytes) (hzs:z.cells.size=size) (hsz:0<size)
 (v:Value) (n:Nat) (xs:List Value) (hown:w.ownsRow base e size v n xs)
 (A:Option Addr) (m c:Nat) (news:List Value) (hm:news.length=m * size) (hr:Cells w A news) (h1:∀u∈news,u.oneCell'=true)
 (h63:n+m≤maxLen) (hbytes:(n+m) * bytes≤140737488355328) (hbase:base≤w.heap.size) :
 ∃v' w',(Builtin.append_ #[t,t] ty #[v,.slice A m c]).run P w=.ok v' w'∧w'.ownsRow base e size v' (n+m) (xs++news)∧w.grownBy w' v.ownBlock ∧
  (v'.ownBlock=v.ownBlock∨v'.ownBlock=some w.heap.size):=by
 rcases A with _|ad
 ·have hn:news=[]:=by
   rcases hr with h|⟨b,off,h,_⟩
   ·exact h
   ·cases h
  subst hn
  have hm0:m=0:=by
   rcases Nat.eq_zero_or_pos m with h|h
   ·exact h
   ·have:=Nat.mul_pos h hsz
    simp at hm
    omega
  subst hm0
  refine⟨v,w,?_,by simpa using hown,World.grownBy.refl w _,.inl rfl⟩
  rcases hown.2 with⟨rfl,rfl⟩|⟨g,cap,cur,rfl,_,_,hnc,_⟩
  ·simp[Builtin.append_,run_underlying ht,sizeOf,typeInfo,hi,Builtin.lenOf,Builtin.firstCells]
  ·simp[Builtin.append_,run_underlying ht,sizeOf,typeInfo,hi,Builtin.lenOf,Builtin.firstCells,hnc,storeCells]
 ·have hcells:∀j u,news[j]?=some u→w.cell? (ad.add j)=some u:=by
   intro j u hu
   rcases hr with h|⟨b,off,h,hc⟩
   ·subst h;simp at hu
   ·injection h with h
    subst h
    rw[zeo]
    exact hc j u hu
  obtain⟨v',w',hrun,h2,h3,_,h5⟩:=run_append_own_at (P:=P) w base t ty e i z size bytes ht hi hz hsize hby hzs hsz v n xs hown ad m c news hm hcells h1 h63 hbytes hbase
  exact⟨v',w',hrun,h2,h3,h5⟩
theorem zbN(s x:Operand)(t:TypeId)
 (ho:o.op=.call { callee:=.builtin .append,args:=#[s,x],argTypes:=#[t,t] })
 (base:Nat) (e:TypeId) (z:Value) (size bytes:Nat) (ht:P.underlying t=some (.slice e)) (hinf:(P.info? e).map (fun i=>(i.zero,i.size,i.bytes))=some (some z,size,bytes)) (hzs:z.cells.size=size) (hsz:0<size)
 (v:Value) (n:Nat) (xs:List Value) (hs:a.eval s=v) (hown:w.ownsRow base e size v n xs)
 (A:Option Addr) (m c:Nat) (news:List Value) (hx:a.eval x=.slice A m c) (hm:news.length=m * size) (hr:Cells w A news) (h1:∀u∈news,u.oneCell'=true)
 (h63:n+m≤maxLen) (hbytes:(n+m) * bytes≤140737488355328) (hbase:base≤w.heap.size)
 (h:∀v' w',w'.ownsRow base e size v' (n+m) (xs++news)→w.grownBy w' v.ownBlock→(v'.ownBlock=v.ownBlock∨v'.ownBlock=some w.heap.size)→K (a.put o.dst v') w'):o.wp P a w K Q:=by
 obtain⟨i,hi,hz0,hz1,hz2⟩:=info_parts hinf
 obtain⟨v',w',hrun,h2,h3,h4⟩:=ziY (P:=P) w base t o.type e i z size bytes ht hi hz0 hz1 hz2 hzs hsz v n xs hown A m c news hm hr h1 h63 hbytes hbase
 unfold Oper.wp execOp
 simp only[ho,resolve,invoke,builtin,Sem.run_bind,Sem.run_pure,Result.andThen_ok,List.map_toArray,List.map_cons,List.map_nil,hs,hx,hrun]
 exact h v' w' h2 h3 h4
end
theorem zhB(w:World)(base:Nat)(hb:base≤w.heap.size)(e:TypeId)(size:Nat):(w.alloc (.cells #[] e)).ownsRow base e size (.slice (some ⟨w.heap.size,0,none⟩) 0 0) 0 []:=
 ⟨by simp,.inr ⟨w.heap.size,0,#[],rfl,hb,heap_alloc_new w _,Nat.le_refl _,by simp[maxLen],by simp,by simp⟩⟩
section
variable {P:Program}{w:World}{o:Oper}{a:Act}{K:Act→World→Prop}{Q:Exit→Act→World→Prop}
end
theorem zbs{P:Program}{w:World}{o:Oper}{a:Act}{K:Act→World→Prop}{Q:Exit→Act→World→Prop}(T:TypeId)(x:Operand)(ho:o.op=.load T x)(p:Addr)(hx:a.eval x=.pointer (some p))(v:Value)(hc:w.cell? p=some v)(hT:∀w,(isAgg T).run P w=.ok false w)
 (h:K (a.put o.dst v) w):o.wp P a w K Q:=by
 have hr:(execOp a.eval o).run P w=.ok (.value v) w:=by
  unfold execOp
  simp only[ho,hx,Instr.loadAt,Instr.sureAddr,loadVar,Sem.run_bind,Sem.run_pure,Result.andThen_ok,hT]
  simp[run_load,hc]
 unfold Oper.wp
 rw[hr]
 exact h
theorem zaz{w w':World}(h:Ext w w'):w.heap.size≤w'.heap.size:=h.size
theorem zib{w w1:World}{g:Nat}{cs:Array Value}{T:TypeId}(h:w.heap[g]?=some (.cells cs T (0,0)))(hx:Ext w w1):w1.heap[g]?=some (.cells cs T (0,0)):=
 (hx.block g (Array.getElem?_eq_some_iff.1 h).1).trans h
theorem zpe{w:World}{g:Nat}{cs:Array Value}{T:TypeId}(h:w.heap[g]?=some (.cells cs T (0,0))):g<w.heap.size:=(Array.getElem?_eq_some_iff.1 h).1
theorem zbM{B:Nat}{w w':World}{base:Nat}{e:TypeId}{size n:Nat}{v:Value}{xs:List Value}(ho:w.ownsRow base e size v n xs)(hg:w.grownBy w' v.ownBlock)(hb:B≤w.heap.size)(hB:B≤base):Below B w w':=
 (Below.refl B w).grown hg hb (fun k hk=>Nat.le_trans hB (ho.lt k hk).1)
theorem zgb{B:Nat}{w w':World}{g:Nat}(hg:w.grownBy w' (some g))(hb:B≤w.heap.size)(hB:B≤g):Below B w w':=
 (Below.refl B w).grown hg hb (fun k hk=>by injection hk with hk;omega)
theorem zr8{S:Nat→Prop}{w:World}{base:Nat}{e:TypeId}{A:Option Addr}{n c:Nat}{l:List ByteArray}(h:w.ownsRow base e 1 (.slice A n c) n (l.map .string))(hS:∀g,(Value.slice A n c).ownBlock=some g→S g):Row Elem.str S w A n c l:=by
 have hl:n=l.length:=by simpa using h.1.symm
 refine⟨hl,(zjs h).1,(zjs h).2,l.map fun s=>[.string s],by simp[hl],?_,fun i v x hi hx=>?_⟩
 ·have hfl:∀l:List ByteArray,(l.map fun s=>[Value.string s]).flatten=l.map .string:=fun l=>by
   induction l with
   |nil=>rfl
   |cons x l ih=>simp only[List.map_cons,List.flatten_cons,ih];rfl
  rw[hfl]
  rcases h.2 with⟨hv,hn⟩|⟨g,cap,cur,hv,hb,hh,hnc,hcm,hsz,htk⟩
  ·exact .inl (by rw[hn] at hl;simp[List.length_eq_zero_iff.1 hl.symm])
  ·injection hv with hA _ _
   subst hA
   refine .inr ⟨g,0,rfl,hS g rfl,fun j u hj=>?_⟩
   rw[Nat.zero_add,cell_of_row w g j cur e (0,0) hh]
   rw[←htk,List.getElem?_take] at hj
   split at hj
   ·simpa using hj
   ·cases hj
 ·rw[List.getElem?_map,hx] at hi
  simp at hi
  exact hi.symm
theorem Row.str_cells{S:Nat→Prop}{w:World}{A:Option Addr}{n c:Nat}{l:List ByteArray}(h:Row Elem.str S w A n c l):Cells w A (l.map .string):=by
 rcases Nat.eq_zero_or_pos n with h0|h0
 ·exact .inl (by have:=h.len;rw[h0] at this;simp[List.length_eq_zero_iff.1 this.symm])
 ·obtain⟨b,off,hA,hc⟩:=h.str_cell h0
  refine .inr ⟨b,off,hA,fun j u hj=>?_⟩
  rw[List.getElem?_map] at hj
  obtain⟨x,hx,rfl⟩:=Option.map_eq_some_iff.1 hj
  rw[hc j (by rw[h.len];exact(List.getElem?_eq_some_iff.1 hx).1),hx]
  rfl
theorem ze9{α:Type}{E:Elem α}{S:Nat→Prop}{w:World}{base:Nat}{e:TypeId}{A:Option Addr}{n c:Nat}{vss:List (List Value)}{l:List α}(h:w.ownsRow base e E.k (.slice A n c) n vss.flatten)(hl:n=l.length)(hv:vss.length=n)
 (hS:∀g,(Value.slice A n c).ownBlock=some g→S g) (hR:∀(i:Nat) v x,vss[i]?=some v→l[i]?=some x→E.R S w v x):Row E S w A n c l:=by
 rcases h.2 with⟨hv0,hn⟩|⟨g,cap,cur,hv0,hb,hh,hnc,hcm,hsz,htk⟩
 ·injection hv0 with h1 h2 h3
  subst h1 h2 h3
  have e1:vss=[]:=List.length_eq_zero_iff.1 hv
  have e2:l=[]:=List.length_eq_zero_iff.1 hl.symm
  subst e1 e2
  exact Row.nil E S w
 ·injection hv0 with hA _ hc
  subst hA hc
  refine⟨hl,hnc,hcm,vss,hv,.inr ⟨g,0,rfl,hS g rfl,fun j u hj=>?_⟩,hR⟩
  rw[Nat.zero_add,cell_of_row w g j cur e (0,0) hh]
  rw[←htk,List.getElem?_take] at hj
  split at hj
  ·simpa using hj
  ·cases hj
end
end Go.Proofs.YtkjbokhnpphimaaGreatDoor
