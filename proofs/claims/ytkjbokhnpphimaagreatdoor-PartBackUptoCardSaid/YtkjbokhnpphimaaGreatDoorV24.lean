/- Lemmas of the walk. -/
import Derived.Test.YtkjbokhnpphimaaGreatDoorV20
import Derived.Listen
import Derived.Shelf.SlSortCmp.NoneTotal
import Derived.Lib.QuietBelow
import Derived.Deep.Slices
import Derived.Test.YtkjbokhnpphimaaGreatDoorV18
import Derived.PinnedBridge
import Derived.Stop.LaidErr
import Derived.MakeChecks
import Derived.ProofKit
set_option maxHeartbeats 40000000
set_option linter.unusedVariables false
set_option linter.unusedSimpArgs false
namespace Go.Proofs.YtkjbokhnpphimaaGreatDoor
section
open Go.RowKit
set_option maxRecDepth 100000
theorem zdI{w:World}{base:Nat}{e:TypeId}{size n:Nat}{v:Value}{xs ys:List Value}(h:w.ownsRow base e size v n xs)(k:w.ownsRow base e size v n ys):ys=xs:=by
 rcases k.2 with⟨_,z1⟩|⟨g,cap,cur,e3,e4,e5,e6,e7,e8,e9⟩
 ·have z2:=k.1
  have z3:=h.1
  rw[z1,Nat.zero_mul] at z2 z3
  rw[List.eq_nil_of_length_eq_zero z2,List.eq_nil_of_length_eq_zero z3]
 ·rcases h.2 with⟨z0,z1⟩|⟨g',cap',cur',f3,f4,f5,f6,f7,f8,f9⟩
  ·rw[e3] at z0;cases z0
  ·rw[e3] at f3
   injection f3 with f3 _ f3'
   injection f3 with f3
   injection f3 with f3
   subst f3
   rw[e5] at f5
   injection f5 with f5
   injection f5 with f5
   subst f5
   rw[←e9,←f9]
section
variable {α:Type}{E:Elem α}{w w0:World}{o:Oper}{a:Act}{K:Act→World→Prop}{Q:Exit→Act→World→Prop}{ops:Array Oper}{rest:List Oper}
theorem zjI{T ST:TypeId}{z:Value}{bytes:Nat}(hu:Tryz.prog.underlying ST=some (.slice T))(hinf:(Tryz.prog.info? T).map (fun i=>(i.zero,i.size,i.bytes))=some (some z,E.k,bytes))(hzs:z.cells.size=E.k)(hby:bytes≤1000)
 (s x:Operand) (ho:o.op=.call { callee:=.builtin .append,args:=#[s,x],argTypes:=#[ST,ST] }) {L:Option Nat} (v:Value) (l:List α) (hs:a.eval s=v) (hg:GrowR E T L w0 w v l)
 {t:TypeId} {u:List Value} (y:α) (hE:E.R (zfJ w0 v L) w u y) (h1:∀c∈u,c.oneCell'=true) {g:Nat} (hx:a.eval x=.slice (some ⟨g,0,none⟩) 1 1) (hgs:g=w.heap.size) (hb:l.length≤4000000)
 (h:∀v' w',GrowR E T L w0 w' v' (l++[y])→(w.alloc (.cells u.toArray t)).grownBy w' v.ownBlock→Below w0.heap.size (w.alloc (.cells u.toArray t)) w'→K (a.put o.dst v') w') :
 o.wp Tryz.prog a (w.alloc (.cells u.toArray t)) K Q:=by
 subst hgs
 have hg2:=hg.later (Ext.alloc w (.cells u.toArray t))
 have hk:u.length=E.k:=E.len hE
 obtain⟨⟨vss,q1,q2,q3⟩,q4,q5⟩:=hg2
 refine zbN s x ST ho w0.heap.size T z E.k bytes hu hinf hzs E.pos v l.length vss.flatten hs q2 _ 1 1 u hx (by rw[hk,Nat.one_mul]) (.inr ⟨_,0,rfl,fun j c hj=>by rw[Nat.zero_add,zc2];simpa using hj⟩)
  h1 (by simp[maxLen];omega) (Nat.le_trans (Nat.mul_le_mul (Nat.add_le_add_right hb 1) hby) (by decide)) (zaz q4) ?_
 intro v' w' p1 p2 p3
 have hE':E.R (zfJ w0 v L) (w.alloc (.cells u.toArray t)) u y:=zbe hE (fun b _ hlt=>(Ext.alloc w (.cells u.toArray t)).block b hlt) (fun b hS _=>hS)
 obtain⟨k1,k2⟩:=(hg.later (Ext.alloc w (.cells u.toArray t))).snoc (v':=v') (w':=w') hE' (fun vs' hvs'=>by rw[zdI q2 hvs'];exact p1) p2 p3
 exact h v' w' k1 p2 k2
theorem zjR{T ST:TypeId}{z:Value}{bytes:Nat}(hu:Tryz.prog.underlying ST=some (.slice T))(hinf:(Tryz.prog.info? T).map (fun i=>(i.zero,i.size,i.bytes))=some (some z,E.k,bytes))(hzs:z.cells.size=E.k)(hby:bytes≤1000)
 (hgd:o.guard=none) (s x:Operand) (ho:o.op=.call { callee:=.builtin .append,args:=#[s,x],argTypes:=#[ST,ST] }) {L:Option Nat} (v:Value) (l:List α) (hs:a.eval s=v) (hg:GrowR E T L w0 w v l)
 {t:TypeId} {u:List Value} (y:α) (hE:E.R (zfJ w0 v L) w u y) (h1:∀c∈u,c.oneCell'=true) {g:Nat} (hx:a.eval x=.slice (some ⟨g,0,none⟩) 1 1) (hgs:g=w.heap.size) (hb:l.length≤4000000)
 (h:∀v' w',GrowR E T L w0 w' v' (l++[y])→(w.alloc (.cells u.toArray t)).grownBy w' v.ownBlock→Below w0.heap.size (w.alloc (.cells u.toArray t)) w'→wpList Tryz.prog ops Q rest (a.put o.dst v') w') :
 wpList Tryz.prog ops Q (o::rest) a (w.alloc (.cells u.toArray t)):=
 wpList_plain hgd fun _ hK=>zjI hu hinf hzs hby s x ho v l hs hg y hE h1 hx hgs hb fun v' w' k1 k2 k3=>hK _ _ (h v' w' k1 k2 k3)
end
end
section
open Go.RowKit
set_option maxRecDepth 100000
theorem zjC{P:Program}{fn:Func}{R:Ending→World→Prop}{a:Act}{w0 w:World}{p:Tmp}{ty:TypeId}{g:Nat}{T:TypeId}{cs:Array Value}(d:TypeDesc)(h:fn.results=#[.cell p ty])
 (hp:a.tmps.getD p undef=.pointer (some ⟨g,0,none⟩)) (hb:Bx w0 w g T cs) (hu:P.underlying ty=some d) (hd:(match d with|.struct _|.array _ _=>true|_=>false)=true) (hi:(P.info? ty).map (·.size)=some cs.size)
 (hdf:a.defers=[]) (hR:R (.returned (.agg cs)) w):bodyPost P fn R .ret a w:=by
 refine bodyPost_ret (v:=.agg cs) ?_ hdf hR
 exact results_cell_row h a.tmps w g T cs (0,0) d hp hb.blk hu hd hi
section
variable {w w0:World}{o:Oper}{a:Act}{K:Act→World→Prop}{Q:Exit→Act→World→Prop}
end
theorem zrX:(Tryz.prog.info? 55).map (fun i=>(i.zero,i.size,i.bytes))=some (some (.agg #[.string ByteArray.empty,.slice none 0 0]),Elem.att.k,40):=by kernel_rfl
theorem zdP:(Tryz.prog.info? 58).map (fun i=>(i.zero,i.size,i.bytes))=some (some (.agg #[.string ByteArray.empty,.slice none 0 0]),Elem.ent.k,40):=by kernel_rfl
theorem zr4{w wr:World}{B:Nat}{p:Addr}{v:Value}(h:w.cell? p=some v)(hp:p.block<B)(hx:Below B w wr):∀w',Below B wr w'→w'.cell? p=some v:=fun w' h'=>by
 rw[Below.cell (Below.trans hx h') hp]
 exact h
end
section
open Go.RowKit
set_option maxRecDepth 100000
def zcD(S:Nat→Prop)(v:Value)(L:Option Nat):Nat→Prop:=fun b=>S b∧some b≠v.ownBlock∧some b≠L
structure GrowM{α:Type}(E:Elem α)(S:Nat→Prop)(T:TypeId)(L:Option Nat)(w wr:World)(v:Value)(l:List α):Prop where
 rows:∃vss:List (List Value),vss.length=l.length∧wr.ownsRow w.heap.size T E.k v l.length vss.flatten∧(∀(i:Nat) u x,vss[i]?=some u→l[i]?=some x→E.R (zcD S v L) wr u x)
 ext:Ext w wr
 apart:∀g,L=some g→v.ownBlock≠some g∧w.heap.size≤g∧g<wr.heap.size
section
variable {α:Type}{E:Elem α}{S:Nat→Prop}{T:TypeId}{L:Option Nat}{w wr w':World}{v:Value}{l:List α}
theorem GrowM.nil(hx:Ext w wr)(hL:∀g,L=some g→w.heap.size≤g∧g<wr.heap.size):GrowM E S T L w wr (.slice none 0 0) []:=
 ⟨⟨[],rfl,World.ownsRow_nil _ _ _ _,fun i u x h=>by simp at h⟩,hx,fun g hg=>⟨by simp[Value.ownBlock],hL g hg⟩⟩
theorem GrowM.later(h:GrowM E S T L w wr v l)(hx:Ext wr w'):GrowM E S T L w w' v l:=by
 obtain⟨⟨vss,h1,h2,h3⟩,h4,h5⟩:=h
 exact⟨⟨vss,h1,zdC h2 hx,fun i u x hi hl=>zbe (h3 i u x hi hl) (fun b _ hb=>hx.block b hb) (fun b hS _=>hS)⟩,h4.trans hx,fun g hg=>⟨(h5 g hg).1,(h5 g hg).2.1,Nat.lt_of_lt_of_le (h5 g hg).2.2 hx.size⟩⟩
theorem GrowM.setL{g:Nat}(h:GrowM E S T (some g) w wr v l)(i:Nat)(z:Value):GrowM E S T (some g) w (wr.setCell ⟨g,i,none⟩ z) v l:=by
 obtain⟨⟨vss,h1,h2,h3⟩,h4,h5⟩:=h
 obtain⟨ha,hb,hc⟩:=h5 g rfl
 refine⟨⟨vss,h1,?_,fun i' u x hi hl=>zbe (h3 i' u x hi hl) (fun b hS _=>heap_setCell_other _ _ _ _ (fun e=>hS.2.2 (by rw[e]))) (fun b hS _=>hS)⟩,h4.setCell hb _,fun g' hg=>⟨(h5 g' hg).1,(h5 g' hg).2.1,by simpa using(h5 g' hg).2.2⟩⟩
 obtain⟨q1,q2⟩:=h2
 refine⟨q1,?_⟩
 rcases q2 with q2|⟨k,cap,cur,e1,e2,e3,e4⟩
 ·exact .inl q2
 ·refine .inr ⟨k,cap,cur,e1,e2,?_,e4⟩
  rw[heap_setCell_other _ _ _ _ (fun e=>ha (by rw[e1];exact congrArg some e))]
  exact e3
theorem GrowM.row(h:GrowM E S T L w wr v l):∃A c,v=.slice A l.length c∧Row E (fun b=>S b∨w.heap.size≤b) wr A l.length c l:=by
 obtain⟨⟨vss,h1,h2,h3⟩,h4,h5⟩:=h
 obtain⟨A,c,rfl⟩:∃A c,v=.slice A l.length c:=by
  rcases h2.2 with⟨rfl,h0⟩|⟨g,cap,cur,rfl,_⟩
  ·exact⟨none,0,by rw[h0]⟩
  ·exact⟨_,_,rfl⟩
 exact⟨A,c,rfl,ze9 h2 rfl h1 (fun g hg=>.inr (h2.lt g hg).1) fun i u x hi hl=>E.mono (h3 i u x hi hl) fun b _ hS=>.inl hS.1⟩
theorem GrowM.lt(h:GrowM E S T L w wr v l){b:Nat}(hb:v.ownBlock=some b):w.heap.size≤b∧b<wr.heap.size:=by
 obtain⟨⟨vss,h1,h2,h3⟩,h4,h5⟩:=h
 exact h2.lt b hb
theorem GrowM.free(h:GrowM E S T L w wr v l):GrowM E S T none w wr v l:=by
 obtain⟨⟨vss,q1,q2,q3⟩,q4,q5⟩:=h
 exact⟨⟨vss,q1,q2,fun i u x hi hl=>E.mono (q3 i u x hi hl) fun b _ hb=>⟨hb.1,hb.2.1,by simp⟩⟩,q4,fun k hk=>by cases hk⟩
theorem GrowM.old{S':Nat→Prop}{u:List Value}{x:α}(h:GrowM E S T L w wr v l)(hs:∀b,b<w.heap.size→S' b→S b)(hE:E.R S' w u x):E.R (zcD S v L) wr u x:=by
 obtain⟨⟨vss,h1,h2,h3⟩,h4,h5⟩:=h
 have e1:E.R (fun b=>S' b∧b<w.heap.size) w u x:=E.mono hE fun b hb hS=>⟨hS,hb⟩
 have e2:E.R (fun b=>S' b∧b<w.heap.size) wr u x:=E.same e1 fun b hb=>h4.block b hb.2
 refine E.mono e2 fun b _ hb=>⟨hs b hb.2 hb.1,fun e=>?_,fun e=>?_⟩
 ·have:=(h2.lt b e.symm).1;omega
 ·have:=(h5 b e.symm).2.1;omega
theorem GrowM.new{S':Nat→Prop}{u:List Value}{x:α}{w1:World}(h:GrowM E S T L w wr v l)(hs:∀b,b<w1.heap.size→S' b→S b)(hS:∀b,S' b→b<w.heap.size∨wr.heap.size≤b)(hE:E.R S' w1 u x):E.R (zcD S v L) w1 u x:=by
 obtain⟨⟨vss,h1,h2,h3⟩,h4,h5⟩:=h
 refine E.mono hE fun b hlt hb=>⟨hs b hlt hb,fun e=>?_,fun e=>?_⟩
 ·have h6:=h2.lt b e.symm
  have h7:=hS b hb
  omega
 ·have h6:=h5 b e.symm
  have h7:=hS b hb
  omega
theorem GrowM.snoc{v':Value}{xs:List α}{us:List (List Value)}(h:GrowM E S T L w wr v l)(hlen:us.length=xs.length)(hx:∀(i:Nat) u x,us[i]?=some u→xs[i]?=some x→E.R (zcD S v L) wr u x)(ho:∀vss,wr.ownsRow w.heap.size T E.k v l.length vss→w'.ownsRow w.heap.size T E.k v' (l.length+xs.length) (vss++us.flatten))(hg:wr.grownBy w' v.ownBlock)
 (hb:v'.ownBlock=v.ownBlock∨v'.ownBlock=some wr.heap.size):GrowM E S T L w w' v' (l++xs)∧Below w.heap.size wr w':=by
 obtain⟨⟨vss,h1,h2,h3⟩,h4,h5⟩:=h
 have hbw:Below w.heap.size wr w':=zbM h2 hg (zaz h4) (Nat.le_refl _)
 have hkeep:∀b,zcD S v L b→b<wr.heap.size→w'.heap[b]?=wr.heap[b]?:=fun b hS hlt=>hg.block b hlt hS.2.1
 have hin:∀ b,zcD S v L b→b<wr.heap.size→zcD S v' L b:=fun b hS hlt=>⟨hS.1,fun e=>by
  rcases hb with hb|hb
  ·exact hS.2.1 (by rw[e,hb])
  ·rw [hb] at e;injection e with e;omega,hS.2.2⟩
 refine⟨⟨⟨vss++us,by simp[h1,hlen],?_,fun i u' x' hi hl=>?_⟩,Below.trans h4 hbw,fun g hgL=>?_⟩,hbw⟩
 ·rw[List.length_append,List.flatten_append]
  exact ho _ h2
 ·rcases Nat.lt_or_ge i vss.length with hlt|hge
  ·rw[List.getElem?_append_left hlt] at hi
   rw[List.getElem?_append_left (by omega)] at hl
   exact zbe (h3 i u' x' hi hl) hkeep hin
  ·rw[List.getElem?_append_right hge] at hi
   rw[List.getElem?_append_right (by omega),←h1] at hl
   exact zbe (hx _ u' x' hi hl) hkeep hin
 ·obtain⟨ha,hb',hc⟩:=h5 g hgL
  refine⟨?_,hb',Nat.lt_of_lt_of_le hc hg.size⟩
  rcases hb with hb|hb
  ·rw[hb];exact ha
  ·rw[hb];intro e;injection e with e;omega
end
section
variable {α:Type}{E:Elem α}{S:Nat→Prop}{w w0:World}{o:Oper}{a:Act}{K:Act→World→Prop}{Q:Exit→Act→World→Prop}{ops:Array Oper}{rest:List Oper}
theorem zhb{T ST:TypeId}{z:Value}{bytes:Nat}(hu:Tryz.prog.underlying ST=some (.slice T))(hinf:(Tryz.prog.info? T).map (fun i=>(i.zero,i.size,i.bytes))=some (some z,E.k,bytes))(hzs:z.cells.size=E.k)(hby:bytes≤1000)
 (s x:Operand) (ho:o.op=.call { callee:=.builtin .append,args:=#[s,x],argTypes:=#[ST,ST] }) {L:Option Nat} (v:Value) (l:List α) (hs:a.eval s=v) (hg:GrowM E S T L w0 w v l)
 {A:Option Addr} {m c:Nat} (us:List (List Value)) (ys:List α) (hlen:us.length=ys.length) (hE:∀(i:Nat) u y,us[i]?=some u→ys[i]?=some y→E.R (zcD S v L) w u y) (h1:∀c∈us.flatten,c.oneCell'=true) (hx:a.eval x=.slice A m c) (hm:m=ys.length) (hcs:Cells w A us.flatten) (hb:l.length+m≤8000000)
 (h:∀v' w',GrowM E S T L w0 w' v' (l++ys)→w.grownBy w' v.ownBlock→Below w0.heap.size w w'→K (a.put o.dst v') w') :
 o.wp Tryz.prog a w K Q:=by
 have hg2:=hg
 obtain⟨⟨vss,q1,q2,q3⟩,q4,q5⟩:=hg2
 have hlk:∀v∈us,v.length=E.k:=fun v hv=>by
  obtain⟨j,hj,rfl⟩:=List.mem_iff_getElem.1 hv
  exact E.len (hE j us[j] (ys[j]'(by omega)) (List.getElem?_eq_getElem hj) (List.getElem?_eq_getElem (by omega)))
 have hfl:us.flatten.length=m * E.k:=by
  have e:∀(u:List (List Value)),(∀v∈u,v.length=E.k)→u.flatten.length=u.length * E.k:=by
   intro u
   induction u with
   |nil=>intro _;simp
   |cons v t ih=>intro hh;rw[List.flatten_cons,List.length_append,ih (fun x hx=>hh x (by simp[hx])),hh v (by simp),List.length_cons,Nat.succ_mul];omega
  rw[e us hlk,hlen,hm]
 refine zbN s x ST ho w0.heap.size T z E.k bytes hu hinf hzs E.pos v l.length vss.flatten hs q2 A m c us.flatten hx hfl hcs h1 (by simp[maxLen];omega) (Nat.le_trans (Nat.mul_le_mul hb hby) (by decide)) (zaz q4) ?_
 intro v' w' p1 p2 p3
 obtain⟨k1,k2⟩:=hg.snoc (v':=v') (w':=w') hlen hE (fun vs' hvs'=>by rw[zdI q2 hvs',←hm];exact p1) p2 p3
 exact h v' w' k1 p2 k2
theorem zgm{T ST:TypeId}{z:Value}{bytes:Nat}(hu:Tryz.prog.underlying ST=some (.slice T))(hinf:(Tryz.prog.info? T).map (fun i=>(i.zero,i.size,i.bytes))=some (some z,E.k,bytes))(hzs:z.cells.size=E.k)(hby:bytes≤1000)
 (s x:Operand) (ho:o.op=.call { callee:=.builtin .append,args:=#[s,x],argTypes:=#[ST,ST] }) {L:Option Nat} (v:Value) (l:List α) (hs:a.eval s=v) (hg:GrowM E S T L w0 w v l)
 {t:TypeId} {u:List Value} (y:α) (hE:E.R (zcD S v L) w u y) (h1:∀c∈u,c.oneCell'=true) {g:Nat} (hx:a.eval x=.slice (some ⟨g,0,none⟩) 1 1) (hgs:g=w.heap.size) (hb:l.length≤4000000)
 (h:∀v' w',GrowM E S T L w0 w' v' (l++[y])→(w.alloc (.cells u.toArray t)).grownBy w' v.ownBlock→Below w0.heap.size (w.alloc (.cells u.toArray t)) w'→K (a.put o.dst v') w') :
 o.wp Tryz.prog a (w.alloc (.cells u.toArray t)) K Q:=by
 subst hgs
 refine zhb hu hinf hzs hby s x ho v l hs (hg.later (Ext.alloc _ _)) [u] [y] rfl (fun i u' y' hi hy=>?_) (by simpa using h1) hx rfl (.inr ⟨_,0,rfl,fun j c hj=>by rw[Nat.zero_add,zc2];simpa using hj⟩) (by omega) h
 rcases i with _|i
 ·simp at hi hy
  subst hi hy
  exact zbe hE (fun b _ hlt=>(Ext.alloc w (.cells u.toArray t)).block b hlt) (fun b hS _=>hS)
 ·simp at hi
theorem zjp{T ST:TypeId}{z:Value}{bytes:Nat}(hu:Tryz.prog.underlying ST=some (.slice T))(hinf:(Tryz.prog.info? T).map (fun i=>(i.zero,i.size,i.bytes))=some (some z,E.k,bytes))(hzs:z.cells.size=E.k)(hby:bytes≤1000)
 (hgd:o.guard=none) (s x:Operand) (ho:o.op=.call { callee:=.builtin .append,args:=#[s,x],argTypes:=#[ST,ST] }) {L:Option Nat} (v:Value) (l:List α) (hs:a.eval s=v) (hg:GrowM E S T L w0 w v l)
 {A:Option Addr} {m c:Nat} (us:List (List Value)) (ys:List α) (hlen:us.length=ys.length) (hE:∀(i:Nat) u y,us[i]?=some u→ys[i]?=some y→E.R (zcD S v L) w u y) (h1:∀c∈us.flatten,c.oneCell'=true) (hx:a.eval x=.slice A m c) (hm:m=ys.length) (hcs:Cells w A us.flatten) (hb:l.length+m≤8000000)
 (h:∀v' w',GrowM E S T L w0 w' v' (l++ys)→w.grownBy w' v.ownBlock→Below w0.heap.size w w'→wpList Tryz.prog ops Q rest (a.put o.dst v') w'):wpList Tryz.prog ops Q (o::rest) a w:=
 wpList_plain hgd fun _ hK=>zhb hu hinf hzs hby s x ho v l hs hg us ys hlen hE h1 hx hm hcs hb fun v' w' k1 k2 k3=>hK _ _ (h v' w' k1 k2 k3)
theorem zcT{T ST:TypeId}{z:Value}{bytes:Nat}(hu:Tryz.prog.underlying ST=some (.slice T))(hinf:(Tryz.prog.info? T).map (fun i=>(i.zero,i.size,i.bytes))=some (some z,E.k,bytes))(hzs:z.cells.size=E.k)(hby:bytes≤1000)
 (hgd:o.guard=none) (s x:Operand) (ho:o.op=.call { callee:=.builtin .append,args:=#[s,x],argTypes:=#[ST,ST] }) {L:Option Nat} (v:Value) (l:List α) (hs:a.eval s=v) (hg:GrowM E S T L w0 w v l)
 {t:TypeId} {u:List Value} (y:α) (hE:E.R (zcD S v L) w u y) (h1:∀c∈u,c.oneCell'=true) {g:Nat} (hx:a.eval x=.slice (some ⟨g,0,none⟩) 1 1) (hgs:g=w.heap.size) (hb:l.length≤4000000)
 (h:∀v' w',GrowM E S T L w0 w' v' (l++[y])→(w.alloc (.cells u.toArray t)).grownBy w' v.ownBlock→Below w0.heap.size (w.alloc (.cells u.toArray t)) w'→wpList Tryz.prog ops Q rest (a.put o.dst v') w') :
 wpList Tryz.prog ops Q (o::rest) a (w.alloc (.cells u.toArray t)):=
 wpList_plain hgd fun _ hK=>zgm hu hinf hzs hby s x ho v l hs hg y hE h1 hx hgs hb fun v' w' k1 k2 k3=>hK _ _ (h v' w' k1 k2 k3)
end
end
section
open Go.RowKit
structure Pre where
 r:World→World→Prop
 refl:∀w,r w w
 trans:∀{a b c:World},r a b→r b c→r a c
abbrev Pre.same(S:Nat→Prop):Pre:=⟨Same S,Same.refl S,Same.trans⟩
theorem Same.alloc_of{S:Nat→Prop}{w:World}(h:∀b,S b→b<w.heap.size)(o:Obj):Same S w (w.alloc o):=fun b hb=>(Ext.alloc w o).block b (h b hb)
theorem Same.set_of{S:Nat→Prop}{w:World}{g i:Nat}(h:∀b,S b→b≠g)(v:Value):Same S w (w.setCell ⟨g,i,none⟩ v):=fun b hb=>Below.heap_setCell _ _ _ _ (h b hb)
section
variable {P:Program}{ops:Array Oper}{md:Region.Mode}{Q:Act→World→Prop}{B:Pre}
def staysR(B:Pre)(P:Program)(ops:Array Oper)(o:Oper)(v:Value)(a:Act)(w:World):Prop:=
 (Region.wanted o (yielded ops a.tmps)=true∧∀w',B.r w w'→(execOp a.eval o).run P w'=.ok (.value v) w') ∨
 (Region.wanted o (yielded ops a.tmps)=false∧v=undef)
theorem staysR.comesUp{o:Oper}{v:Value}{a:Act}{w:World}{K:Act→World→Prop}(h:staysR B P ops o v a w)(hk:K (a.put o.dst v) w):comesUp P ops o K a w:=by
 unfold Go.Proofs.YtkjbokhnpphimaaGreatDoor.comesUp
 rcases h with⟨hw,hv⟩|⟨hw,rfl⟩
 ·rw[if_pos hw];unfold Oper.wp;rw[hv w (B.refl w)];exact hk
 ·rw[if_neg (by simp[hw])];exact hk
theorem staysR.later{o:Oper}{v:Value}{a:Act}{w w':World}(h:staysR B P ops o v a w)(hx:B.r w w'):staysR B P ops o v a w':=by
 rcases h with⟨hw,hv⟩|h
 ·exact .inl ⟨hw,fun w2 h2=>hv w2 (B.trans hx h2)⟩
 ·exact .inr h
theorem staysR.same{o:Oper}{v:Value}{a a':Act}{w:World}(h:staysR B P ops o v a w)(he:execOp a'.eval o=execOp a.eval o)
 (hw:Region.wanted o (yielded ops a'.tmps)=Region.wanted o (yielded ops a.tmps)):staysR B P ops o v a' w:=by
 unfold staysR at*
 rw[he,hw]
 exact h
def anyOrderR(B:Pre)(P:Program)(md:Region.Mode)(ops:Array Oper)(Q:Act→World→Prop):Nat→Array Bool→Act→World→Prop
 |0,listed,a,w=>Region.ready md ops listed=[]∧Q a w
 |fuel+1,listed,a,w=>(Region.ready md ops listed=[]→Q a w) ∧
  ∀i∈Region.ready md ops listed,∀o,ops[i]?=some o→comesUp P ops o (fun a' w'=>B.r w w'∧anyOrderR B P md ops Q fuel (listed.setIfInBounds i true) a' w') a w
theorem anyOrderR.wpAny{R:Exit→Act→World→Prop}(hQ:∀a w,Q a w→R .normal a w) :
 ∀(fuel:Nat) (listed:Array Bool) (a:Act) (w:World),anyOrderR B P md ops Q fuel listed a w→Go.wpAny P md ops R fuel listed a w
 |0,_,_,_,h=>⟨h.1,hQ _ _ h.2⟩
 |fuel+1,listed,a,w,h=>by
  refine⟨fun h0=>hQ _ _ (h.1 h0),fun i hi=>?_⟩
  obtain⟨_,o,ho,_⟩:=mem_ready.1 hi
  have h1:=h.2 i hi o ho
  unfold comesUp at h1
  unfold wpOp
  simp only[ho]
  split
  ·rename_i hw
   rw[if_pos hw] at h1
   exact .inl (zed (Oper.wp_mono (fun a' w' hh=>anyOrderR.wpAny hQ fuel _ a' w' hh.2) h1))
  ·rename_i hw
   rw[if_neg hw] at h1
   exact anyOrderR.wpAny hQ fuel _ _ _ h1.2
theorem zg8{oi oj:Oper}{v:Value}(hap:oi.apart ops oj=true)(hsi:∀cs b,oi.op≠.select cs b)(hsj:∀cs b,oj.op≠.select cs b)
 {K:Act→World→Prop} {a:Act} {w:World}
 (h:comesUp P ops oj K (a.put oi.dst v) w) :
 comesUp P ops oj (fun a' w'=>(∀w0,staysR B P ops oi v a w0→staysR B P ops oi v a' w0)∧K (a'.put oi.dst v) w') a w:=by
 obtain⟨h1,h2,h3⟩:=Oper.apart_spec hap
 have keep:∀(b:Act) (u:Value),b.eval=a.eval→b.tmps=a.tmps→∀w0,staysR B P ops oi v a w0→staysR B P ops oi v (b.put oj.dst u) w0:=fun b u hb ht w0 hs=>
  (hs.same (a':=b) (by rw[hb]) (by rw[ht])).same (execOp_put oi hsi b oj.dst u h3) (wanted_put oi b oj.dst u h3)
 unfold comesUp at*
 rw[wanted_put oj a oi.dst v h1] at h
 split
 ·rename_i hw
  rw[if_pos hw] at h
  unfold Oper.wp at*
  rw[execOp_put oj hsj a oi.dst v h1] at h
  generalize (execOp a.eval oj).run P w=r at*
  cases r with
  |ok n w'=>
   cases n<;>simp only[Oper.upon] at h ⊢
   case value u=>exact⟨keep a u rfl rfl,by rw[←Act.put_comm a v u h2];exact h⟩
   case skip=>exact⟨keep a _ rfl rfl,by rw[←Act.put_comm a v undef h2];exact h⟩
   case defer d=>exact⟨keep { a with defers:=d::a.defers } _ rfl rfl,by rw[←Act.put_comm _ v undef h2,←Act.put_defers];exact h⟩
   case enter f args=>
    refine Calls.mono h fun e w'' he=>?_
    cases e with
    |returned u=>exact⟨keep a u rfl rfl,by rw[←Act.put_comm a v u h2];exact he⟩
    |panicked c=>exact he
    |outgrown=>exact he
   case row row args=>exact Rows.mono h fun u w'' he=>⟨keep a u rfl rfl,by rw[←Act.put_comm a v u h2];exact he⟩
  |halt x w'=>cases x<;>simp only[Oper.upon] at h ⊢<;>exact h
 ·rename_i hw
  rw[if_neg hw] at h
  exact⟨keep a _ rfl rfl,by rw[←Act.put_comm a v undef h2];exact h⟩
theorem zg4{i:Nat}{oi:Oper}{v:Value}(hi:ops[i]?=some oi)(hsel:∀(j:Nat) (o:Oper) cs b,ops[j]?=some o→o.op≠.select cs b) :
 ∀(fuel:Nat) (listed:Array Bool) (a:Act) (w:World),
  (∀j oj,ops[j]?=some oj→j≠i→listed.getD j true=false→(∀e∈oj.after,Region.binds md e=true→e.on≠i)→oi.apart ops oj=true) →
  i∈Region.ready md ops listed→staysR B P ops oi v a w →
  anyOrderR B P md ops Q fuel (listed.setIfInBounds i true) (a.put oi.dst v) w→anyOrderR B P md ops Q (fuel+1) listed a w:=by
 intro fuel
 induction fuel with
 |zero=>
  intro listed a w _ hr hy H
  refine⟨fun h=>(by rw[h] at hr;cases hr),fun j hj o ho=>?_⟩
  by_cases hji:j=i
  ·subst hji
   have:o=oi:=by rw[hi] at ho;exact(Option.some.inj ho).symm
   subst this
   exact hy.comesUp ⟨B.refl w,H⟩
  ·have:=ready_mono hj hji
   rw[H.1] at this
   cases this
 |succ fuel ih=>
  intro listed a w hfree hr hy H
  refine⟨fun h=>(by rw[h] at hr;cases hr),fun j hj oj hoj=>?_⟩
  by_cases hji:j=i
  ·subst hji
   have:oj=oi:=by rw[hi] at hoj;exact(Option.some.inj hoj).symm
   subst this
   exact hy.comesUp ⟨B.refl w,H⟩
  ·have h1:=H.2 j (ready_mono hj hji) oj hoj
   obtain⟨hjun,oj',hoj',hall⟩:=mem_ready.1 hj
   have:oj'=oj:=by rw[hoj] at hoj';exact(Option.some.inj hoj').symm
   subst this
   have hnot:∀e∈oj'.after,Region.binds md e=true→e.on≠i:=fun e he hb heq=>by
    have h1:=hall e he hb
    have h0:=(mem_ready.1 hr).1
    rw[heq] at h1
    rcases Nat.lt_or_ge i listed.size with h'|h'
    ·simp[h'] at h0 h1;rw[h0] at h1;cases h1
    ·simp[Array.getElem?_eq_none h'] at h1
   have h2:=zg8 (B:=B) (hfree j oj' hoj hji hjun hnot) (fun cs b=>hsel i oi cs b hi) (fun cs b=>hsel j oj' cs b hoj) h1
   have hfree':∀k ok,ops[k]?=some ok→k≠i→(listed.setIfInBounds j true).getD k true=false →
    (∀e∈ok.after,Region.binds md e=true→e.on≠i)→oi.apart ops ok=true:=fun k ok hk hki hun hno=>by
    refine hfree k ok hk hki ?_ hno
    by_cases hjk:j=k
    ·subst hjk;exact hjun
    ·rw[getD_set_ne true hjk] at hun;exact hun
   refine h2.mono fun a' w' h3=>⟨h3.2.1,ih (listed.setIfInBounds j true) a' w' hfree' (ready_mono hr (Ne.symm hji)) ((h3.1 w hy).later h3.2.1) ?_⟩
   rw[Array.setIfInBounds_comm _ _ hji]
   exact h3.2.2
def zbJ(B:Pre)(P:Program)(ops:Array Oper)(Q:Act→World→Prop):Plan→Act→World→Prop
 |.done,a,w=>Q a w
 |.read i p,a,w=>∃o v,ops[i]?=some o∧staysR B P ops o v a w∧zbJ B P ops Q p (a.put o.dst v) w
 |.main i p,a,w=>∃o,ops[i]?=some o∧comesUp P ops o (fun a' w'=>B.r w w'∧zbJ B P ops Q p a' w') a w
 |.alt i p q,a,w=>(∃o,ops[i]?=some o∧comesUp P ops o (fun a' w'=>B.r w w'∧zbJ B P ops Q p a' w') a w)∧zbJ B P ops Q q a w
theorem zeE{listed:Array Bool}{a:Act}{w:World}(hr:Region.ready md ops listed=[])(h:Q a w):∀fuel,anyOrderR B P md ops Q fuel listed a w
 |0=>⟨hr,h⟩
 |_+1=>⟨fun _=>h,by rw[hr];simp⟩
theorem zfK(hs:Region.noSelect ops=true):∀(fuel:Nat) (p:Plan),
 (∀(listed:Array Bool) (a:Act) (w:World),p.size≤fuel→p.fits md ops false listed=true→zbJ B P ops Q p a w→anyOrderR B P md ops Q fuel listed a w) ∧
 (∀ (listed:Array Bool) (a:Act) (w:World),p.size≤fuel+1→p.fits md ops true listed=true→zbJ B P ops Q p a w →
   ∀ i∈p.heads,∀ o,ops[i]?=some o→comesUp P ops o (fun a' w'=>B.r w w'∧anyOrderR B P md ops Q fuel (listed.setIfInBounds i true) a' w') a w):=by
 have one:∀(fuel:Nat) (i:Nat) (p:Plan) (listed:Array Bool) (a:Act) (w:World),
  (∀(a:Act) (w:World),zbJ B P ops Q p a w→anyOrderR B P md ops Q fuel (listed.setIfInBounds i true) a w) →
  (∃o,ops[i]?=some o∧comesUp P ops o (fun a' w'=>B.r w w'∧zbJ B P ops Q p a' w') a w) →
  ∀o,ops[i]?=some o→comesUp P ops o (fun a' w'=>B.r w w'∧anyOrderR B P md ops Q fuel (listed.setIfInBounds i true) a' w') a w:=by
  intro fuel i p listed a w ih ⟨o,ho,hc⟩ o' ho'
  have:o'=o:=by rw[ho] at ho';exact(Option.some.inj ho').symm
  subst this
  exact hc.mono fun a' w' hh=>⟨hh.1,ih a' w' hh.2⟩
 have second:∀(fuel:Nat),(∀(p:Plan) (listed:Array Bool) (a:Act) (w:World),p.size≤fuel→p.fits md ops false listed=true→zbJ B P ops Q p a w→anyOrderR B P md ops Q fuel listed a w) →
  ∀(p:Plan) (listed:Array Bool) (a:Act) (w:World),p.size≤fuel+1→p.fits md ops true listed=true→zbJ B P ops Q p a w →
  ∀i∈p.heads,∀o,ops[i]?=some o→comesUp P ops o (fun a' w'=>B.r w w'∧anyOrderR B P md ops Q fuel (listed.setIfInBounds i true) a' w') a w:=by
  intro fuel ih p
  induction p with
  |done=>intro _ _ _ _ hf;simp[Plan.fits] at hf
  |read i p _=>intro _ _ _ _ hf;simp[Plan.fits] at hf
  |main i p _=>
   intro listed a w hz hf hw j hj
   simp only[Plan.fits,Bool.true_or,Bool.true_and] at hf
   simp only[Plan.heads,List.mem_singleton] at hj
   subst hj
   exact one fuel j p listed a w (fun a' w' hh=>ih p _ a' w' (by simp[Plan.size] at hz;omega) hf hh) hw
  |alt i p q _ ihq=>
   intro listed a w hz hf hw j hj
   simp only[Plan.fits,Bool.true_or,Bool.true_and,Bool.and_eq_true] at hf
   simp only[Plan.size] at hz
   simp only[Plan.heads,List.mem_cons] at hj
   rcases hj with hj|hj
   ·subst hj
    exact one fuel j p listed a w (fun a' w' hh=>ih p _ a' w' (by omega) hf.1 hh) hw.1
   ·exact ihq listed a w (by omega) hf.2 hw.2 j hj
 have first:∀(fuel:Nat) (p:Plan) (listed:Array Bool) (a:Act) (w:World),p.size≤fuel→p.fits md ops false listed=true→zbJ B P ops Q p a w→anyOrderR B P md ops Q fuel listed a w:=by
  intro fuel
  induction fuel with
  |zero=>
   intro p listed a w hz hf hw
   cases p with
   |done=>exact zeE (by simpa[Plan.fits] using hf) hw 0
   |read i p=>simp[Plan.size] at hz
   |main i p=>simp[Plan.size] at hz
   |alt i p q=>simp[Plan.size] at hz
  |succ fuel ih=>
   intro p listed a w hz hf hw
   cases p with
   |done=>exact zeE (by simpa[Plan.fits] using hf) hw _
   |read i p=>
    simp only[Plan.fits,Bool.not_false,Bool.true_and,Bool.and_eq_true] at hf
    obtain⟨o,v,ho,hy,hw'⟩:=hw
    exact zg4 ho (Region.noSelect_spec hs) fuel listed a w (Region.free_spec ho hf.1.2) (by simpa using hf.1.1) hy (ih p _ _ _ (by simp[Plan.size] at hz;omega) hf.2 hw')
   |main i p=>
    have hf0:=hf
    simp only[Plan.fits,Bool.false_or,Bool.and_eq_true,beq_iff_eq] at hf
    refine⟨fun h0=>(by rw[hf.1] at h0;cases h0),fun j hj=>?_⟩
    rw[hf.1] at hj
    exact second fuel ih (.main i p) listed a w hz (by simp only[Plan.fits,Bool.true_or,Bool.true_and];exact hf.2) hw j hj
   |alt i p q=>
    simp only[Plan.fits,Bool.false_or,Bool.and_eq_true,beq_iff_eq] at hf
    refine⟨fun h0=>(by rw[hf.1.1] at h0;cases h0),fun j hj=>?_⟩
    rw[hf.1.1] at hj
    exact second fuel ih (.alt i p q) listed a w hz (by simp only[Plan.fits,Bool.true_or,Bool.true_and,Bool.and_eq_true];exact⟨hf.1.2,hf.2⟩) hw j hj
 intro fuel p
 exact⟨first fuel p,second fuel (first fuel) p⟩
theorem zbi(B:Pre){id:Nat}{R:Exit→Act→World→Prop}{a:Act}{w:World}(p:Plan)(hm:P.follows .mixedOrders=true)
 (hf:(Region.noSelect ops&&p.fits .any ops false (Array.replicate ops.size false)&&decide (p.size≤ops.size))=true)
 (h:∀wD,Ext w wD→zbJ B P ops (R .normal) p a wD):(Code.region id ops true).wp P R a w:=by
 simp only[Bool.and_eq_true,decide_eq_true_eq] at hf
 exact wp_region_any hm (anyOrderR.wpAny (Q:=R .normal) (fun _ _ hq=>hq) _ _ _ _ ((zfK (md:=.any) hf.1.1 ops.size p).1 _ _ _ hf.2 hf.1.2 (h w.drew (Ext.drew w))))
theorem zcd{a:Act}{w:World}(h:Q a w):zbJ B P ops Q .done a w:=h
theorem za9{i:Nat}{p:Plan}{a:Act}{w:World}{d:Option Tmp}{op:Op}{ty:TypeId}{pos:String}{af:Array Edge}{gd:Option (Nat×Bool)}{v:Value}
 (ho:ops[i]?=some ⟨d,op,ty,pos,af,gd⟩) (hw:Region.wanted ⟨d,op,ty,pos,af,gd⟩ (yielded ops a.tmps)=true)
 (hv:∀w',B.r w w'→(execOp a.eval ⟨d,op,ty,pos,af,gd⟩).run P w'=.ok (.value v) w') (h:zbJ B P ops Q p (a.put d v) w):zbJ B P ops Q (.read i p) a w:=⟨_,v,ho,.inl ⟨hw,hv⟩,h⟩
theorem zcb{i:Nat}{p:Plan}{a:Act}{w:World}{d:Option Tmp}{x:Operand}{ty:TypeId}{pos:String}{af:Array Edge}{gd:Option (Nat×Bool)}
 (ho:ops[i]?=some ⟨d,.move x,ty,pos,af,gd⟩) (hw:Region.wanted ⟨d,.move x,ty,pos,af,gd⟩ (yielded ops a.tmps)=true)
 (h:zbJ B P ops Q p (a.put d (a.eval x)) w):zbJ B P ops Q (.read i p) a w:=za9 ho hw (fun _ _=>by simp[execOp]) h
theorem zby{i:Nat}{p:Plan}{a:Act}{w:World}{d:Option Tmp}{x:Operand}{ty:TypeId}{pos:String}{af:Array Edge}{gd:Option (Nat×Bool)}
 (ho:ops[i]?=some ⟨d,.assign x,ty,pos,af,gd⟩) (hw:Region.wanted ⟨d,.assign x,ty,pos,af,gd⟩ (yielded ops a.tmps)=true)
 (h:zbJ B P ops Q p (a.put d (a.eval x)) w):zbJ B P ops Q (.read i p) a w:=za9 ho hw (fun _ _=>by simp[execOp]) h
theorem zba{i:Nat}{p:Plan}{a:Act}{w:World}{d:Option Tmp}{op:Op}{ty:TypeId}{pos:String}{af:Array Edge}{gd:Option (Nat×Bool)}
 (ho:ops[i]?=some ⟨d,op,ty,pos,af,gd⟩) (hw:Region.wanted ⟨d,op,ty,pos,af,gd⟩ (yielded ops a.tmps)=true)
 (h:∀K:Act→World→Prop,(∀a' w',B.r w w'→zbJ B P ops Q p a' w'→K a' w')→Oper.wp P ⟨d,op,ty,pos,af,gd⟩ a w K zjT):zbJ B P ops Q (.main i p) a w:=by
 refine⟨_,ho,?_⟩
 unfold comesUp
 rw[if_pos hw]
 exact h _ fun _ _ h1 h2=>⟨h1,h2⟩
theorem zcu{i:Nat}{p q:Plan}{a:Act}{w:World}(h:zbJ B P ops Q (.main i p) a w)(h':zbJ B P ops Q q a w):zbJ B P ops Q (.alt i p q) a w:=⟨h,h'⟩
end
end
section
open Go.RowKit
open Go.Maps Go.MapKept
set_option maxRecDepth 100000
theorem mlawE:Keyed Tryz.prog 9:=string_keyed Tryz.underlying9
theorem zsq(w:World):(zeroValue 58).run Tryz.prog w=.ok (.agg #[.string ⟨#[]⟩,.slice none 0 0]) w:=by kernel_rfl
def zn2(w:World)(e:Ending)(w':World):Prop:=∃g B,e=.returned (.pointer (some ⟨g,0,none⟩))∧w'.heap[g]?=some (.cells #[.map (some B)] 113 (0,0))∧w'.heap[B]?=some (.map #[] 0)∧w.heap.size≤B∧B<g∧Ext w w'
theorem zsf(w:World):Calls Tryz.prog 50 #[] w (zn2 w):=by
 have hmm:=@run_makeMap Tryz.prog
 go_enter Tryz.func50,Tryz.ntmps50
 go_wp2
 go_ret
 refine⟨_,w.heap.size,rfl,?_,?_,Nat.le_refl _,by simp,(Ext.alloc _ _).trans (Ext.alloc _ _)⟩
 ·have:=heap_alloc_new (w.alloc (.map #[] 0)) (.cells #[.map (some w.heap.size)] 113)
  rwa[show(w.alloc (.map #[] 0)).heap.size=w.heap.size+1 by simp] at this
 ·exact((Ext.alloc (w.alloc (.map #[] 0)) _).block _ (by simp)).trans (heap_alloc_new w _)
theorem zn7{w w':World}{o:Oper}{a:Act}{K:Act→World→Prop}{Q:Exit→Act→World→Prop}(T:TypeId)(m x v:Operand)(ho:o.op=.mapUpdate T m x v){M X V:Value}(hm:a.eval m=M)(hx:a.eval x=X)(hv:a.eval v=V)
 (hrun:(Instr.mapUpdate T M X V).run Tryz.prog w=.ok () w') (h:K (a.put o.dst undef) w'):o.wp Tryz.prog a w K Q:=by
 unfold Oper.wp
 simp[execOp,ho,hm,hx,hv,hrun,Result.andThen]
 exact h
end
end Go.Proofs.YtkjbokhnpphimaaGreatDoor
namespace Go.Proofs.YtkjbokhnpphimaaGreatDoor.Drw
open Go
set_option maxRecDepth 100000
theorem zsx{α:Type}(k:Ask α):∀w:World,w.drawn≤(w.ask k).2.drawn:=by
 induction k with
 |done a=>intro w;exact Nat.le_refl _
 |ask what range k ih=>
  intro w
  unfold World.ask
  simp only[]
  split
  ·exact ih _ _
  ·exact Nat.le_trans (Nat.le_succ _) (ih _ { w with drawn:=w.drawn+1 })
theorem zsE(w:World)(c:Sys):w.drawn≤(w.sys c).2.drawn:=by
 unfold World.sys
 have h:=zsx (Kernel.perform c w.os) w
 split
 ·exact Nat.le_refl _
 ·rename_i h2
  rw[h2] at h
  exact h
theorem zkx(p:Program)(w:World)(at_:Addr)(u:TypeId)(k:Addr)(v:Value)(m:Bool){w':World}{l:List Addr}(h:w.viewStore p at_ u k v m=.ok (w',l)):w.drawn≤w'.drawn:=by
 unfold World.viewStore at h
 simp only[bind,Except.bind,pure,Except.pure,throw,throwThe,MonadExceptOf.throw] at h
 repeat' first
  |(cases h;done)
  |(simp only[Except.ok.injEq,Prod.mk.injEq] at h;obtain⟨rfl,_⟩:=h;exact Nat.le_refl _)
  |split at h
theorem zk7(p:Program)(w:World)(a:Addr)(v:Value)(m:Bool){w':World}{l:List Addr}(h:w.farStore p a v m=.ok (w',l)):w.drawn≤w'.drawn:=by
 unfold World.farStore at h
 split at h
 ·split at h
  ·rename_i h2
   cases h
   exact zkx p w _ _ _ _ _ h2
  ·cases h
 ·cases h
def resUp{α:Type}(n:Nat):Result α→Prop
 |.ok _ w=>n≤w.drawn
 |.halt _ w=>n≤w.drawn
theorem resUp.le{α:Type}{n m:Nat}{r:Result α}(h:resUp m r)(hn:n≤m):resUp n r:=by
 cases r<;>exact Nat.le_trans hn h
theorem zmf{α:Type}(p:Program)(s:Sem α):∀w:World,resUp w.drawn (s.run p w):=by
 induction s with
 |pure a=>intro w;exact Nat.le_refl _
 |load m a k ih=>
  intro w
  unfold Sem.run
  repeat' first
   |exact ih _ _
   |exact Nat.le_refl _
   |split
 |store m a v k ih=>
  intro w
  have hs:(w.setCell a v).drawn=w.drawn:=rfl
  cases v<;>simp only[Sem.run]
  repeat' first
   |exact(ih _).le (Nat.le_of_eq hs.symm)
   |exact Nat.le_refl _
   |(rename_i h2;exact(ih _).le (zk7 p w _ _ _ h2))
   |split
 |new o k ih=>intro w;exact ih _ _
 |shape r k ih=>intro w;exact ih _ _
 |freeze a n k ih=>
  intro w
  have hs:(w.freeze a n).drawn=w.drawn:=by unfold World.freeze;split<;>rfl
  exact(ih _).le (Nat.le_of_eq hs.symm)
 |frozen a k ih=>intro w;exact ih _ _
 |getObj r k ih=>
  intro w
  unfold Sem.run
  repeat' first
   |exact ih _ _
   |exact Nat.le_refl _
   |split
 |setObj r o k ih=>
  intro w
  unfold Sem.run
  repeat' first
   |exact ih _
   |exact Nat.le_refl _
   |split
 |choose q k ih=>
  intro w
  unfold Sem.run
  split
  ·exact ih _ _
  ·exact(ih _ _).le (Nat.le_succ _)
 |sys c k ih=>intro w;exact(ih _ _).le (zsE w c)
 |program k ih=>intro w;exact ih _ _
 |mark m k ih=>intro w;exact ih _
 |halt h=>intro w;exact Nat.le_refl _
theorem zcN{α:Type}{p:Program}{s:Sem α}{w w':World}{a:α}(h:s.run p w=.ok a w'):w.drawn≤w'.drawn:=by
 have:=zmf p s w
 rw[h] at this
 exact this
theorem zdY{α:Type}{p:Program}{s:Sem α}{w w':World}{a:Halt}(h:s.run p w=.halt a w'):w.drawn≤w'.drawn:=by
 have:=zmf p s w
 rw[h] at this
 exact this
def gUp(n:Nat):GStep→Prop
 |.go _ w _=>n≤w.drawn
 |.comm _ _ _ _ w _=>n≤w.drawn
 |.spawn _ _ w _=>n≤w.drawn
 |.count _ w _=>n≤w.drawn
 |.timer _ _ w _=>n≤w.drawn
 |.alone _ _ w _=>n≤w.drawn
 |.newcoro _ _ _ w _=>n≤w.drawn
 |.coroswitch _ _ _ w _=>n≤w.drawn
 |.collect _ w _=>n≤w.drawn
 |.watch _ w _=>n≤w.drawn
 |.ended _ _ _=>True
theorem gUp.after{n:Nat}{s:GStep}(es:Array Event)(h:gUp n s):gUp n (GStep.after es s):=by
 cases s<;>exact h
theorem gUp.le{n m:Nat}{s:GStep}(h:gUp m s)(hn:n≤m):gUp n s:=by
 cases s<;>first|exact trivial|exact Nat.le_trans hn h
theorem znd(n:Nat)(w:World)(fd:Nat)(text:ByteArray)(o:Outcome):gUp n (endWith w fd text o):=by
 unfold endWith
 simp only[]
 repeat' first
  |exact trivial
  |split
theorem zeJ(p:Program)(fr:Frame)(v:Value)(w:World):gUp w.drawn (endPrinting p fr v w):=by
 unfold endPrinting endThrow dieOf
 simp only[]
 repeat' first
  |exact trivial
  |exact Nat.le_refl _
  |split
theorem zdK(fr:Frame)(m:String)(w:World):gUp w.drawn (endThrow fr m w):=Nat.le_refl _
theorem zhx(p:Program)(fr:Frame)(cs:List Frame)(dy:Option Dying)(m:String)(w:World):gUp w.drawn (endFatal p fr cs dy m w):=by
 unfold endFatal dieOf
 simp only[]
 repeat' first
  |exact trivial
  |exact zcN (by assumption)
  |split
theorem zno(p:Program)(fr:Frame)(d:Dying)(f:Fatal)(w:World):gUp w.drawn (writeOn p fr d f w):=by
 unfold writeOn
 simp only[Sem.runT_eq]
 split
 ·exact trivial
 ·split<;>rename_i h<;>simp only[Prod.mk.injEq] at h<;>(try obtain⟨h,_⟩:=h)
  ·exact zcN h
  ·exact zdY h
  ·exact trivial
  ·exact trivial
theorem zsL(p:Program)(fr:Frame)(d:Dying)(w:World):gUp w.drawn (die p fr d w):=by
 unfold die
 simp only[Sem.runT_eq]
 repeat' first
  |exact trivial
  |exact Nat.le_refl _
  |exact zcN (by assumption)
  |exact zno _ _ _ _ _
  |exact znd _ _ _ _ _
  |exact(zeJ _ _ _ _).le (zdY (by assumption))
  |refine gUp.after _ ?_
  |split
theorem zqP(p:Program)(fr:Frame)(cs:List Frame)(dy:Option Dying)(g:Nat)(w:World):gUp w.drawn (early p fr cs dy g w):=by
 unfold early
 simp only[]
 repeat' first
  |exact trivial
  |exact Nat.le_refl _
  |exact zcN (by assumption)
  |(simp only[gUp];exact zcN (by assumption))
  |split
theorem zeS(p:Program)(main:Bool)(fr:Frame)(cs:List Frame)(dy:Option Dying)(v:Value)(w:World):gUp w.drawn (doReturn p main fr cs dy v w):=by
 unfold doReturn
 simp only[]
 repeat' first
  |exact trivial
  |exact Nat.le_refl _
  |split
theorem zg9(p:Program)(fr:Frame)(cs:List Frame)(dy:Option Dying)(d:Deferred)(w:World):gUp w.drawn (callDeferred p fr cs dy d w):=by
 unfold callDeferred
 simp only[Sem.runT_eq]
 have h:=zmf p (invoke d.target d.args) w
 generalize (invoke d.target d.args).run p w=r at h
 repeat' first
  |exact trivial
  |exact h
  |exact(zhx _ _ _ _ _ _).le h
  |exact(zdK _ _ _).le h
  |refine gUp.after _ ?_
  |split
theorem zn6(p:Program)(main:Bool)(fr:Frame)(cs:List Frame)(dy:Option Dying)(w:World):gUp w.drawn (unwind p main fr cs dy w):=by
 unfold unwind
 simp only[Sem.runT_eq]
 repeat' first
  |exact trivial
  |exact Nat.le_refl _
  |exact zcN (by assumption)
  |exact zg9 _ _ _ _ _ _
  |exact zeS _ _ _ _ _ _ _
  |exact zeJ _ _ _ _
  |exact(zeS _ _ _ _ _ _ _).le (zcN (by assumption))
  |refine gUp.after _ ?_
  |split
theorem zi0(p:Program)(b:Bool)(fr:Frame)(cs:List Frame)(dy:Option Dying)(s:Sem Next)(w:World):gUp w.drawn (stepG.apply p b fr cs dy s w):=by
 unfold stepG.apply
 cases b
 all_goals
  simp only[Sem.runT_eq,Bool.false_eq_true,if_false,if_true]
  refine gUp.after _ ?_
  repeat' first
   |exact trivial
   |exact zcN (by assumption)
   |exact zdY (by assumption)
   |exact(zdK _ _ _).le (zcN (by assumption))
   |exact(zdK _ _ _).le (zdY (by assumption))
   |exact(zhx _ _ _ _ _ _).le (zdY (by assumption))
   |exact(zqP _ _ _ _ _ _).le (zdY (by assumption))
   |split
theorem zrD(p:Program)(b:Bool)(fr:Frame)(cs:List Frame)(dy:Option Dying)(w:World):gUp w.drawn (stepG.oper p b fr cs dy w):=by
 unfold stepG.oper
 repeat' first
  |exact trivial
  |exact zi0 _ _ _ _ _ _ _
  |split
theorem zrT{α:Type}{n:Nat}(o:Option α)(a:GStep)(f:α→GStep)(ha:gUp n a)(hf:∀x,gUp n (f x)):gUp n (o.elim a f):=by
 cases o
 ·exact ha
 ·exact hf _
theorem zrW(p:Program)(main b:Bool)(fr:Frame)(cs:List Frame)(dy:Option Dying)(w:World):gUp w.drawn (stepG.exec p main b fr cs dy w):=by
 unfold stepG.exec
 simp only[Sem.runT_eq]
 repeat' first
  |exact trivial
  |exact Nat.le_refl _
  |exact zcN (by assumption)
  |exact zdY (by assumption)
  |exact zrD _ _ _ _ _ _
  |exact zi0 _ _ _ _ _ _ _
  |exact(zi0 _ _ _ _ _ _ _).le (zcN (by assumption))
  |exact(zeS _ _ _ _ _ _ _).le (zcN (by assumption))
  |refine gUp.after _ ?_
  |refine zrT _ _ _ ?_ (fun _=>?_)
  |split
theorem zqS(p:Program)(main:Bool)(g:Goroutine)(w:World)(b:Bool):gUp w.drawn (stepG p main g w b):=by
 obtain⟨fr,callers,status,dying,offers⟩:=g
 simp only[stepG]
 split
 ·exact zsL _ _ _ _
 ·exact zrW _ _ _ _ _ _ _
 ·exact zn6 _ _ _ _ _ _
theorem zkc{rest:Rest}{cases:Array CommCase}{w w':World}(h:waitingAt rest cases w=some w'):w.drawn≤w'.drawn:=by
 unfold waitingAt at h
 repeat' first
  |(simp at h;done)
  |(simp only[Option.some.injEq] at h;subst h;exact Nat.le_refl _)
  |split at h
theorem zhP(p:Program)(rest:Rest)(gs:Array Goroutine)(i:Nat)(g:Goroutine)(cases:Array CommCase)(blocking:Bool)
 (shape:CommShape) (w:World) (m':Machine) (h:(communicate p rest gs i g cases blocking shape w).1=.next m'):w.drawn≤m'.world.drawn:=by
 unfold communicate at h
 simp only[] at h
 repeat' first
  |(simp at h;done)
  |(simp only[Stepped.next.injEq] at h;subst h;simp only[];exact Nat.le_refl _)
  |(simp only[Stepped.next.injEq] at h;subst h;simp only[];exact zcN (by assumption))
  |(simp only[Stepped.next.injEq] at h;subst h;simp only[];exact zkc (by assumption))
  |(simp only[Stepped.next.injEq] at h;subst h;simp only[];rename_i h1 _ _ _ _ h2;exact Nat.le_trans (zcN (by assumption)) (zcN h2))
  |(simp only[Stepped.next.injEq] at h;subst h;simp only[];rename_i h2;exact Nat.le_trans (zcN (by assumption)) (zdY h2))
  |(simp only[Stepped.next.injEq] at h;subst h;simp only[];rename_i h2;exact Nat.le_trans (zcN (by assumption)) (zcN h2))
  |split at h
theorem zok(p:Program)(gs:Array Goroutine)(rest:Rest)(w:World)(m':Machine)(h:look p gs rest w=.next m'):w.drawn≤m'.world.drawn:=by
 unfold look at h
 simp only[] at h
 repeat' first
  |(simp at h;done)
  |(simp only[Stepped.next.injEq] at h;subst h;simp only[];exact zcN (by assumption))
  |split at h
theorem zo5{m m':Machine}{var:Addr}(h:timerOp.opened m var=some m'):m.world.drawn≤m'.world.drawn:=by
 unfold timerOp.opened at h
 repeat' first
  |(simp at h;done)
  |(simp only[Option.some.injEq] at h;subst h;exact Nat.le_refl _)
  |split at h
theorem znb(m m':Machine)(op:TimerOp)(v:Value)(h:timerOp m op=.ok (v,m')):m.world.drawn≤m'.world.drawn:=by
 unfold timerOp timerOp.named retime drain Machine.withTimers at h
 simp only[] at h
 repeat' first
  |(cases h;done)
  |(simp only[Except.ok.injEq,Prod.mk.injEq] at h;obtain⟨_,rfl⟩:=h;exact Nat.le_refl _)
  |(simp only[Except.ok.injEq,Prod.mk.injEq] at h;obtain⟨_,rfl⟩:=h;(try simp only[]);exact zo5 (by assumption))
  |split at h
theorem zqd(p:Program)(m m':Machine)(k:Nat)(h:serve p m k=.next m'):m.world.drawn≤m'.world.drawn:=by
 unfold serve at h
 simp only[] at h
 repeat' first
  |(simp at h;done)
  |(simp only[Stepped.next.injEq] at h;subst h;exact Nat.le_refl _)
  |split at h
theorem zlu{fr:Frame}{m:String}{w w':World}{g:Goroutine}{es:Array Event}(h:endThrow fr m w=.go g w' es):w.drawn≤w'.drawn:=by
 have:=zdK fr m w
 rw[h] at this
 exact this
theorem zr3(p:Program)(m m':Machine)(i:Nat)(b:Bool)(h:(runT p m i b).1=.next m'):m.world.drawn≤m'.world.drawn:=by
 simp only[runT] at h
 generalize m.gs.swapAt! _ _=gg at h
 have hs:=zqS p (i==0) gg.1 m.world b
 generalize stepG p _ gg.1 m.world b=s at hs h
 cases s<;>simp only[] at h
 all_goals first
  |(simp at h;done)
  |exact Nat.le_trans hs (zhP _ _ _ _ _ _ _ _ _ _ h)
  |exact Nat.le_trans hs (zok _ _ _ _ _ h)
  |(simp only[Stepped.next.injEq] at h;subst h;exact hs)
  | (repeat' first
      |(simp at h;done)
      |(simp only[Stepped.next.injEq] at h;subst h;exact hs)
      |(simp only[Stepped.next.injEq] at h;subst h;simp only[];refine Nat.le_trans hs ?_;have h9:=znb _ _ _ _ (by assumption);exact h9)
      |(simp only[Stepped.next.injEq] at h;subst h;simp only[];refine Nat.le_trans hs ?_;exact zlu (by assumption))
      | split at h)
theorem zse(p:Program)(m m':Machine)(i:Nat)(h:askOn p m=.goroutine m' i):m.world.drawn≤m'.world.drawn:=by
 unfold askOn at h
 simp only[Machine.advanceTo] at h
 repeat' first
  |(simp at h;done)
  |(simp only[Move.goroutine.injEq] at h;obtain⟨rfl,_⟩:=h)
  |split at h
 all_goals
  (try simp only[])
  repeat' first
   |exact Nat.le_refl _
   |refine Nat.le_trans ?_ (zcN (by assumption))
   |(simp only[];refine Nat.le_trans ?_ (zcN (by assumption)))
theorem zr2(p:Program)(m m':Machine)(ops:Array MemOp)(h:askOn p m=.machine (.next m') ops):m.world.drawn≤m'.world.drawn:=by
 unfold askOn at h
 simp only[Machine.advanceTo] at h
 repeat' first
  |(simp at h;done)
  |(simp only[Move.machine.injEq] at h;have:=zqd _ _ _ _ h.1;exact Nat.le_trans (zcN (by assumption)) this)
  |(simp only[Move.machine.injEq,Stepped.next.injEq] at h;obtain⟨rfl,_⟩:=h;simp only[])
  |split at h
 all_goals
  repeat' first
   |exact Nat.le_refl _
   |refine Nat.le_trans ?_ (zcN (by assumption))
theorem zpX(p:Program)(m:Machine):(∃m₂:Machine,m.world.drawn≤m₂.world.drawn∧ask p m=askOn p m₂)∨(∃o w,ask p m=.machine (.ended o w) #[]):=by
 unfold ask
 split
 ·have h:=zmf p (choose (.extern "collector.look" 2)) m.world
  generalize (choose (.extern "collector.look" 2)).run p m.world=r at h
  cases r with
  |halt h w=>exact .inr ⟨_,_,rfl⟩
  |ok k world=>
   rcases k with _|_|k
   ·exact .inl ⟨{ m with world },h,rfl⟩
   ·simp only[]
    cases hl:look p m.gs m.rest world with
    |next m₂=>exact .inl ⟨m₂,Nat.le_trans h (zok _ _ _ _ _ hl),rfl⟩
    |ended o w=>exact .inr ⟨o,w,rfl⟩
   ·exact .inl ⟨{ m with world },h,rfl⟩
 ·exact .inl ⟨m,Nat.le_refl _,rfl⟩
theorem zsY(p:Program)(m m':Machine)(i:Nat)(h:ask p m=.goroutine m' i):m.world.drawn≤m'.world.drawn:=by
 rcases zpX p m with⟨m2,h3,h4⟩|⟨o,w,h4⟩
 ·rw[h4] at h
  exact Nat.le_trans h3 (zse _ _ _ _ h)
 ·rw[h4] at h
  cases h
theorem zs0(p:Program)(m m':Machine)(ops:Array MemOp)(h:ask p m=.machine (.next m') ops):m.world.drawn≤m'.world.drawn:=by
 rcases zpX p m with⟨m2,h3,h4⟩|⟨o,w,h4⟩
 ·rw[h4] at h
  exact Nat.le_trans h3 (zr2 _ _ _ _ h)
 ·rw[h4] at h
  cases h
theorem zsD(p:Program)(m m':Machine)(i:Nat)(h:move p m=.goroutine m' i):m.world.drawn≤m'.world.drawn:=by
 unfold move at h
 repeat' first
  |(simp at h;done)
  |(have:=zsY p _ m' i h;exact this)
  |(simp only[Move.goroutine.injEq] at h;obtain⟨rfl,_⟩:=h;exact Nat.le_refl _)
  |split at h
theorem zsy(p:Program)(m m':Machine)(ops:Array MemOp)(h:move p m=.machine (.next m') ops):m.world.drawn≤m'.world.drawn:=by
 unfold move at h
 repeat' first
  |(simp at h;done)
  |(have:=zs0 p _ m' ops h;exact this)
  |split at h
theorem zrU(p:Program)(m m':Machine)(h:step p m=.next m'):m.world.drawn≤m'.world.drawn:=by
 unfold step stepT at h
 cases hm:move p m with
 |goroutine m1 i=>
  rw[hm] at h
  exact Nat.le_trans (zsD p m m1 i hm) (zr3 p m1 m' i true h)
 |machine s ops=>
  rw[hm] at h
  simp only[] at h
  subst h
  exact zsy p m m' ops hm
theorem zpf(p:Program):∀(n:Nat) (m m':Machine),runN p n m=.next m'→m.world.drawn≤m'.world.drawn
 |0,m,m',h=>by cases h;exact Nat.le_refl _
 |n+1,m,m',h=>by
  unfold runN at h
  split at h
  ·rename_i m1 h1
   exact Nat.le_trans (zrU p m m1 h1) (zpf p n m1 m' h)
  ·rename_i e h1
   exact absurd h (h1 m')
theorem calls_up{P:Program}{f:FuncId}{args:Array Value}{w:World}{R:Ending→World→Prop}(h:Calls P f args w R) :
 Calls P f args w fun e w'=>R e w'∧(∀v,e=.returned v→w.drawn≤w'.drawn):=by
 intro cs
 obtain⟨e,w',fr,hr,hc,rest⟩:=h cs
 refine⟨e,w',fr,⟨hr,?_⟩,hc,rest⟩
 intro v hv
 subst hv
 obtain⟨n,hn⟩:=hc
 exact zpf P n _ _ hn
end Go.Proofs.YtkjbokhnpphimaaGreatDoor.Drw
namespace Go.Proofs.YtkjbokhnpphimaaGreatDoor.Sxx
open Go Go.Sort Go.RowKit Go.Shelf
section
variable {α:Type}[Inhabited α]{enc:α→Value}{w:World}{g m:Nat}{dk:Array α}{os:Array Obj}
theorem zqJ{k:Nat}(hk:k<w.heap.size)(hne:k≠g):(sortWorld enc w g 0 m dk os).heap[k]?=w.heap[k]?:=by
 unfold sortWorld
 rw[heap_grow_old _ _ (by rw[size_putRow];exact hk)]
 unfold putRow mapBlock Sort.ahead
 simp only[Array.getElem?_modify,if_neg (fun e=>hne (Eq.symm e))]
theorem zsB{cur:Array Value}{e:TypeId}{fr:Nat×Nat}(h:w.heap[g]?=some (.cells cur e fr)):(sortWorld enc w g 0 m dk os).heap[g]?=some (.cells (putCells enc 0 dk cur) e fr):=by
 have hk:=(Array.getElem?_eq_some_iff.1 h).1
 unfold sortWorld
 rw[heap_grow_old _ _ (by rw[size_putRow];exact hk)]
 unfold putRow mapBlock Sort.ahead
 simp only[Array.getElem?_modify,if_true,h,Option.map_some,onCells]
theorem sw_grown:w.grownBy (sortWorld enc w g 0 m dk os) (some g):=by
 refine⟨rfl,rfl,rfl,?_,fun k hk hne=>zqJ hk (fun e=>hne (by rw[e]))⟩
 unfold sortWorld
 rw[size_grow,size_putRow]
 exact Nat.le_add_right _ _
theorem zp1(cur:Array Value)(h:dk.size≤cur.size):(putCells enc 0 dk cur).toList.take dk.size=dk.toList.map enc:=by
 apply List.ext_getElem?
 intro i
 rw[List.getElem?_map,List.getElem?_take,Array.getElem?_toList,Array.getElem?_toList]
 by_cases hi:i<dk.size
 ·rw[if_pos hi]
  unfold putCells
  rw[Array.getElem?_mapIdx,Array.getElem?_eq_getElem (Nat.lt_of_lt_of_le hi h),Array.getElem?_eq_getElem hi]
  simp[hi]
 ·rw[if_neg hi,Array.getElem?_eq_none (by omega)]
  rfl
theorem sw_own{base n cap:Nat}{e:TypeId}{xs:List Value}(h:w.ownsRow base e 1 (.slice (some ⟨g,0,none⟩) n cap) n xs)(hn:dk.size=n) :
 (sortWorld enc w g 0 m dk os).ownsRow base e 1 (.slice (some ⟨g,0,none⟩) n cap) n (dk.toList.map enc):=by
 refine⟨by simp[hn],?_⟩
 rcases h.2 with⟨h',_⟩|⟨g',cap',cur,h',hb,hg,hnc,hcm,hcs,htake⟩
 ·cases h'
 ·simp only[Value.slice.injEq,Option.some.injEq,Addr.mk.injEq,and_true,true_and] at h'
  obtain⟨rfl,rfl⟩:=h'
  refine .inr ⟨g,cap,_,rfl,hb,zsB hg,hnc,hcm,by unfold putCells;rw[Array.size_mapIdx];exact hcs,?_⟩
  rw[Nat.mul_one,←hn]
  exact zp1 cur (by rw[hcs,hn];omega)
theorem own_holds{base n cap:Nat}{e:TypeId}(h:w.ownsRow base e 1 (.slice (some ⟨g,0,none⟩) n cap) n (dk.toList.map enc)):Holds enc w g 0 dk∧base≤g∧g<w.heap.size∧dk.size=n∧n≤maxLen:=by
 have hl:=h.1
 rw[List.length_map,Nat.mul_one,Array.length_toList] at hl
 rcases h.2 with⟨h',_⟩|⟨g',cap',cur,h',hb,hg,hnc,hcm,hcs,htake⟩
 ·cases h'
 ·simp only[Value.slice.injEq,Option.some.injEq,Addr.mk.injEq,and_true,true_and] at h'
  obtain⟨rfl,rfl⟩:=h'
  refine⟨fun j hj=>?_,hb,(Array.getElem?_eq_some_iff.1 hg).1,hl,Nat.le_trans hnc hcm⟩
  have e1:cur[j]?=some (enc dk[j]!):=by
   have:=congrArg (·[j]?) htake
   simp only[List.getElem?_take,List.getElem?_map,Array.getElem?_toList] at this
   rw[if_pos (by omega),Array.getElem?_eq_getElem hj] at this
   rw[this,getElem!_pos dk j hj]
   rfl
  refine⟨?_,?_⟩
  ·simp[World.cell?,hg,e1]
  ·simp[World.frozen?,hg]
theorem permIn_perm{d d':Array α}(h:PermIn 0 d.size d d'):d'.toList.Perm d.toList:=by
 obtain⟨h1,_,h3⟩:=h
 have e:d'.extract 0 d.size=d':=by rw[←h1];simp
 rw[e] at h3
 simpa using h3
theorem sortedIn_pairwise{lt:α→α→Bool}{d':Array α}{n:Nat}(hn:n=d'.size)(h:SortedIn lt 0 n d'):d'.toList.Pairwise fun x y=>lt y x=false:=by
 rw[List.pairwise_iff_getElem]
 intro i j hi hj hij
 have:=h i j (Nat.zero_le _) hij (by rw[hn];simpa using hj)
 rw[getElem!_pos d' i (by simpa using hi),getElem!_pos d' j (by simpa using hj)] at this
 simpa using this
end
theorem grown_of_ext{w w':World}(h:Go.RowKit.Below w.heap.size w w')(hd:w.drawn≤w'.drawn):∃q os,w'=grow (w.drewN q) os:=by
 obtain⟨p,hp⟩:=regrown_of_below h
 refine⟨w'.drawn-w.drawn,p.os,?_⟩
 have hdr:w'.drawn=p.d:=by rw[hp];rfl
 have e:redrawn w p.d=w.drewN (w'.drawn-w.drawn):=by
  unfold redrawn World.drewN
  rw[show w.drawn+(w'.drawn-w.drawn)=p.d by omega]
 rw[←e]
 exact hp
end Go.Proofs.YtkjbokhnpphimaaGreatDoor.Sxx
namespace Go.Proofs.YtkjbokhnpphimaaGreatDoor
section
open Go.RowKit
open Go.Maps
set_option maxRecDepth 100000
def MSet(w:World)(B n:Nat)(l:List ByteArray):Prop:=
 ∃D:DataW Unit,w.ownsMap Tryz.prog 9 (plainElem Tryz.prog 4) B n D∧IsMap D∧∀s:ByteArray,s.size≤maxLen→D.atKey (.string s.data.toList) (.lit (.bool false))=.lit (.bool (l.any (fun t=>decide (t=s))))
theorem mlaw:Keyed Tryz.prog 9:=string_keyed Tryz.underlying9
theorem zdb{P:Program}{e:TypeId}(he:P.underlying e=some .bool){v:Value}{z:DataW Unit×List MemPlace}(h:plainElem P e v=some z):∃a,v=.bool a∧z=(.lit (.bool a),[]):=by
 unfold plainElem at h
 rw[he] at h
 cases v<;>simp at h
 exact⟨_,rfl,h.symm⟩
theorem MSet.made(w:World):MSet (w.alloc (.map #[] 0)) w.heap.size 0 []:=
 ⟨.map [],World.ownsMap_made _ _ _ _,⟨[],rfl⟩,fun s _=>by simp[DataW.atKey]⟩
theorem MSet.kept{w w':World}{B n:Nat}{l:List ByteArray}{row:Option Nat}(h:MSet w B n l)(hg:w.grownBy w' row)(hne:some B≠row):MSet w' B n l:=by
 obtain⟨D,h1,h2,h3⟩:=h
 exact⟨D,h1.kept hg hne,h2,h3⟩
section
variable {w:World}{ops:Array Oper}{rest:List Oper}{o:Oper}{a:Act}{Q:Exit→Act→World→Prop}{B n:Nat}{l:List ByteArray}
theorem zpF(hg:o.guard=none)(m x:Operand)(hop:o.op=Op.lookup 115 m x false)(h:MSet w B n l)(hm:a.eval m=.map (some B))(s:ByteArray)(hs:s.size≤maxLen)(hx:a.eval x=.string s)
 (hK:wpList Tryz.prog ops Q rest (a.put o.dst (.bool (l.any (fun t=>decide (t=s))))) w):wpList Tryz.prog ops Q (o::rest) a w:=by
 obtain⟨D,h1,h2,h3⟩:=h
 have hz:(zeroValue 4).run Tryz.prog w=.ok (.bool false) w:=by kernel_rfl
 obtain⟨v,ps,hrun,hv⟩:=h1.lookup mlaw Tryz.underlying115 hz (plainElem_bool Tryz.underlying4 false) (key:=.string s) (kl:=.string s.data.toList) (WideMaps.keyOf_string_mk Tryz.underlying9 hs)
 rw[h3 s hs] at hv
 obtain⟨b,rfl,hb⟩:=zdb Tryz.underlying4 hv
 simp at hb
 obtain⟨hb,-⟩:=hb
 subst hb
 refine wpList_plain hg fun K' hK'=>?_
 unfold Oper.wp
 simp[execOp,hop,hm,hx,hrun,Result.andThen]
 exact hK' _ _ (by simpa using hK)
theorem zqs(hg:o.guard=none)(m x v:Operand)(hop:o.op=Op.mapUpdate 115 m x v)(h:MSet w B n l)(hn:n<maxLen)(hm:a.eval m=.map (some B))(s:ByteArray)(hs:s.size≤maxLen)(hx:a.eval x=.string s)(hv:a.eval v=.bool true)
 (hK:∀w',MSet w' B (n+1) (l++[s])→w.grownBy w' (some B)→wpList Tryz.prog ops Q rest (a.put o.dst undef) w'):wpList Tryz.prog ops Q (o::rest) a w:=by
 obtain⟨D,h1,h2,h3⟩:=h
 refine wpList_mapUpdate_own _ hg m x v 115 hop 9 4 mlaw Tryz.underlying115 _ B n D hm h1 hn (.string s) (.bool true) (.string s.data.toList) hx hv (WideMaps.keyOf_string_mk Tryz.underlying9 hs) _ [] (plainElem_bool Tryz.underlying4 true) ?_
 intro w' ho hgr
 refine hK w' ⟨_,ho,ho.isMap,fun u hu=>?_⟩ hgr
 by_cases he:u=s
 ·subst he
  rw[atKey_put_same h2 (by trivial)]
  simp[List.any_append]
 ·rw[atKey_put_other (fun e=>he (by injection e with e;exact ByteArray.ext (Array.ext' (by simpa using e)))),h3 u hu]
  have e2:decide (s=u)=false:=decide_eq_false (fun e=>he e.symm)
  simp[List.any_append,e2]
end
end
section
open Go.RowKit
section
variable {α:Type}{E:Elem α}{S:Nat→Prop}{T:TypeId}{w wr w':World}{v:Value}{l:List α}
theorem GrowM.beside{vc vc':Value}(h:GrowM E S T vc.ownBlock w wr v l)(hg:wr.grownBy w' vc.ownBlock)(hb:vc'.ownBlock=vc.ownBlock∨vc'.ownBlock=some wr.heap.size)(hw:Below w.heap.size wr w')(hlt:∀b,vc'.ownBlock=some b→b<w'.heap.size):GrowM E S T vc'.ownBlock w w' v l:=by
 obtain⟨⟨vss,h1,h2,h3⟩,h4,h5⟩:=h
 have h2':=h2
 refine⟨⟨vss,h1,?_,fun i u x hi hl=>zbe (h3 i u x hi hl) (fun b hS hlt=>hg.block b hlt hS.2.2) (fun b hS hlt=>⟨hS.1,hS.2.1,fun e=>?_⟩)⟩,Below.trans h4 hw,fun g hgL=>?_⟩
 ·obtain⟨q1,q2⟩:=h2
  refine⟨q1,?_⟩
  rcases q2 with q2|⟨k,cap,cur,e1,e2,e3,e4⟩
  ·exact .inl q2
  ·refine .inr ⟨k,cap,cur,e1,e2,?_,e4⟩
   rw[hg.block k (Array.getElem?_eq_some_iff.1 e3).1 (fun e=>(h5 k e.symm).1 (by rw[e1];rfl))]
   exact e3
 ·rcases hb with hb|hb
  ·exact hS.2.2 (e.trans hb)
  ·rw[hb] at e
   injection e with e
   omega
 ·rcases hb with hb|hb
  ·obtain⟨a1,a2,a3⟩:=h5 g (hb ▸ hgL)
   exact⟨a1,a2,hlt g hgL⟩
  ·rw[hb] at hgL
   injection hgL with hgL
   subst hgL
   exact⟨fun e=>by have:=(h2'.lt _ e).2;omega,zaz h4,hlt _ hb⟩
end
end
end Go.Proofs.YtkjbokhnpphimaaGreatDoor
namespace Go.Proofs.YtkjbokhnpphimaaGreatDoor.bulks
theorem zsK{H:Type}(d:DataW H):1≤Rows.uptoBulk d:=by
 cases d with
 |lit l=>cases l<;>simp[Rows.uptoBulk]
 |nil=>simp[Rows.uptoBulk]
 |ptr d=>simp[Rows.uptoBulk]
 |slice elems spare=>simp[Rows.uptoBulk]
 |agg parts=>simp[Rows.uptoBulk]
 |iface t d=>simp[Rows.uptoBulk]
 |map entries=>simp[Rows.uptoBulk]
 |held h=>simp[Rows.uptoBulk]
theorem part_le{H:Type}{d:DataW H}{l:List (DataW H)}(h:d∈l):Rows.uptoBulk d≤Rows.uptoBulkAll l:=by
 induction l with
 |nil=>cases h
 |cons x r ih=>
  simp only[Rows.uptoBulkAll]
  cases List.mem_cons.1 h with
  |inl e=>subst e;omega
  |inr e=>have:=ih e;omega
theorem zkY{H:Type}(l:List (DataW H)):l.length≤Rows.uptoBulkAll l:=by
 induction l with
 |nil=>simp[Rows.uptoBulkAll]
 |cons x r ih=>have:=zsK x;simp only[Rows.uptoBulkAll,List.length_cons];omega
theorem slice_le{H:Type}(elems spare:List (DataW H)):elems.length+spare.length+1≤Rows.uptoBulk (.slice elems spare):=by
 have h1:=zkY elems
 have h2:=zkY spare
 simp only[Rows.uptoBulk]
 omega
theorem slice_elems{H:Type}(elems spare:List (DataW H)):Rows.uptoBulkAll elems+1≤Rows.uptoBulk (.slice elems spare):=by
 simp only[Rows.uptoBulk]
 omega
theorem bound{H:Type}{l:List (DataW H)}(hk:Rows.uptoSmall H l=true):Rows.uptoBulkAll l≤1048576:=of_decide_eq_true hk
end Go.Proofs.YtkjbokhnpphimaaGreatDoor.bulks
namespace Go.Proofs.YtkjbokhnpphimaaGreatDoor
section
open Go.RowKit Go.ChangeShapes Go.WideShapes Go.Deep
set_option maxRecDepth 10000
theorem zid{k:Nat}:∀{vss:List (List Value)},(∀v∈vss,v.length=k)→∀{j:Nat} {u:Value},vss.flatten[j]?=some u→∃i r v,vss[i]?=some v∧v[r]?=some u∧j=i * k+r∧r<k
 |[],_,j,u,h=>by simp at h
 |v0::vss,hl,j,u,h=>by
  have h0:=hl v0 (by simp)
  rw[List.flatten_cons] at h
  rcases Nat.lt_or_ge j v0.length with hj|hj
  ·rw[List.getElem?_append_left hj] at h
   exact⟨0,j,v0,rfl,h,by omega,by omega⟩
  ·rw[List.getElem?_append_right hj] at h
   obtain⟨i,r,v,h1,h2,h3,h4⟩:=zid (fun v hv=>hl v (by simp[hv])) h
   exact⟨i+1,r,v,by simpa using h1,h2,by rw[Nat.succ_mul];omega,h4⟩
section
variable {H:Type}{enc:TypeId × Value→H}{W:World}
theorem zgI{α:Type}(E:Elem α)(Q:α→Prop){t e:TypeId}(ht:Tryz.prog.underlying t=some (.slice e))(hk:Tryz.prog.cellsOf e=E.k){M:Nat}
 (hE:∀(n:Nat) cs (x:DataW H×List MemPlace),DataW.trod enc Tryz.prog W 0 (fun _=>true) true n e cs=some x→Rows.uptoBulk x.1<M→∃a,E.R (fun _=>True) W cs a∧Q a)
 {fuel:Nat} {cs:List Value} {x:DataW H×List MemPlace} (h:DataW.trod enc Tryz.prog W 0 (fun _=>true) true fuel t cs=some x) (hM:Rows.uptoBulk x.1≤M) :
 ∃A n c l,cs=[.slice A n c]∧Row E (fun _=>True) W A n c l∧l.length≤M∧∀a∈l,Q a:=by
 rcases open_slice ht h with⟨rfl,rfl⟩|⟨a,len,cap,m,n,D,Pl,rfl,-,hl,hm,hmm,rfl,hx⟩
 ·exact⟨none,0,0,[],rfl,Row.nil E _ W,by simp,by simp⟩
 ·simp only[if_true] at hmm
  subst hmm
  have hb:=bulks.slice_le (H:=H) ((List.range len).map D) ((List.range (m-len)).map fun j=>D (len+j))
  have hb2:=bulks.slice_elems (H:=H) ((List.range len).map D) ((List.range (m-len)).map fun j=>D (len+j))
  simp only[List.length_map,List.length_range] at hb
  simp only[] at hM
  have hD:∀i,i<len→Rows.uptoBulk (D i)<M:=fun i hi=>by
   have:=bulks.part_le (d:=D i) (l:=(List.range len).map D) (List.mem_map.2 ⟨i,List.mem_range.2 hi,rfl⟩)
   omega
  rcases Nat.eq_zero_or_pos len with h0|h0
  ·subst h0
   exact⟨some a,0,m,[],rfl,⟨rfl,Nat.zero_le _,hm,[],rfl,.inl rfl,fun i v x hi=>by simp at hi⟩,by simp,by simp⟩
  ·have hone:∀i,i<len→∃y:List Value×α,W.cells? 0 (a.add (i * E.k)) E.k=some y.1∧E.R (fun _=>True) W y.1 y.2∧Q y.2:=fun i hi=>by
    obtain⟨cs',h1,h2⟩:=hx i (by omega)
    rw[hk] at h1
    obtain⟨o,hR,hQ⟩:=hE n cs' _ h2 (hD i hi)
    exact⟨(cs',o),h1,hR,hQ⟩
   haveI:Inhabited α:=⟨(hone 0 h0).choose.2⟩
   obtain⟨f,hf⟩:=choose_lt hone
   have hspot:∃b off,a=⟨b,off,none⟩:=by
    obtain⟨h1,-,-⟩:=hf 0 h0
    obtain⟨-,hlen,hc⟩:=World.cells?_some h1
    have h2:=hc 0 E.pos
    rw[List.getElem?_eq_getElem (by rw[hlen];exact E.pos)] at h2
    obtain⟨b,off,spot⟩:=a
    have hs:spot=none:=by simpa[Addr.add] using World.cell?_spot h2
    exact⟨b,off,by rw[hs]⟩
   obtain⟨b,off,rfl⟩:=hspot
   have hall:∀v∈(List.range len).map fun i=>(f i).1,v.length=E.k:=fun v hv=>by
    obtain⟨i,hi,rfl⟩:=List.mem_map.1 hv
    exact E.len (hf i (List.mem_range.1 hi)).2.1
   refine⟨_,_,_,(List.range len).map fun i=>(f i).2,rfl,⟨by simp,hl,hm,(List.range len).map fun i=>(f i).1,by simp,.inr ⟨b,off,rfl,trivial,fun j u hj=>?_⟩,fun i v x hi hx=>?_⟩,by simp;omega,fun o ho=>?_⟩
   ·obtain⟨i,r,v,h1,h2,rfl,hr⟩:=zid hall hj
    have hi:i<len:=by have:=(List.getElem?_eq_some_iff.1 h1).1;simpa using this
    have hv:v=(f i).1:=by simpa[hi] using h1.symm
    obtain⟨-,-,hc⟩:=World.cells?_some (hf i hi).1
    have:=hc r hr
    rw[add_add,zeo] at this
    rw[this,←hv,h2]
   ·have hi':i<len:=by have:=(List.getElem?_eq_some_iff.1 hi).1;simpa using this
    have h1:v=(f i).1:=by simpa[hi'] using hi.symm
    have h2:x=(f i).2:=by simpa[hi'] using hx.symm
    subst h1 h2
    exact(hf i hi').2.1
   ·obtain⟨i,hi,rfl⟩:=List.mem_map.1 ho
    exact(hf i (List.mem_range.1 hi)).2.2
theorem zi8{t:TypeId}{fs:Array Field}(ht:Tryz.prog.underlying t=some (.struct fs)){M:Nat}{fuel:Nat}{cs:List Value}{x:DataW H×List MemPlace}
 (h:DataW.trod enc Tryz.prog W 0 (fun _=>true) true fuel t cs=some x) (hM:Rows.uptoBulk x.1≤M) :
 cs.length=Tryz.prog.cellsOf t∧∀(i:Nat) (f:Field),fs[i]?=some f→∃m y,DataW.trod enc Tryz.prog W 0 (fun _=>true) true m f.type ((cs.drop f.offset).take (Tryz.prog.cellsOf f.type))=some y∧Rows.uptoBulk y.1<M:=by
 obtain⟨xs,n,-,rfl,hl,hlen,hf⟩:=DataW.trod_struct ht h
 refine⟨hl,fun i f hi=>?_⟩
 have hi':i<xs.length:=by rw[hlen];exact(Array.getElem?_eq_some_iff.1 hi).1
 have h1:=hf i f hi
 rw[List.getElem?_eq_getElem hi'] at h1
 refine⟨n,xs[i],h1,?_⟩
 have h2:=bulks.part_le (d:=xs[i].1) (l:=xs.map (·.1)) (List.mem_map.2 ⟨_,List.getElem_mem hi',rfl⟩)
 simp only[Rows.uptoBulk] at hM
 omega
theorem zgC{t:TypeId}(ht:Tryz.prog.underlying t=some .string){M:Nat}{fuel:Nat}{cs:List Value}{x:DataW H×List MemPlace}
 (h:DataW.trod enc Tryz.prog W 0 (fun _=>true) true fuel t cs=some x) (hM:Rows.uptoBulk x.1≤M):∃s:ByteArray,cs=[.string s]∧s.size<M:=by
 obtain⟨s,rfl,rfl,-⟩:=DataW.trod_string ht h
 exact⟨s,rfl,by simp only[Rows.uptoBulk,Array.length_toList] at hM;exact hM⟩
theorem zrc{t:TypeId}(ht:Tryz.prog.underlying t=some (.int .i64)){fuel:Nat}{cs:List Value}{x:DataW H×List MemPlace}
 (h:DataW.trod enc Tryz.prog W 0 (fun _=>true) true fuel t cs=some x):∃k:Int,cs=[.int .i64 k]∧-9223372036854775808≤k∧k≤9223372036854775807:=by
 obtain⟨s,rfl,rfl,hw⟩:=DataW.trod_int ht h
 refine⟨s,rfl,?_⟩
 simp only[Lit.wf,Bool.and_eq_true] at hw
 exact⟨of_decide_eq_true hw.1,of_decide_eq_true hw.2⟩
theorem zer{cs:List Value}{i k j:Nat}{v:Value}(h:(cs.drop i).take k=[v])(hk:k=1)(hj:i+1=j):cs.drop i=v::cs.drop j:=by
 subst hk hj
 have h1:=List.take_append_drop 1 (cs.drop i)
 rw[h,List.drop_drop] at h1
 exact h1.symm
theorem zi7{cs:List Value}{n k:Nat}(h:cs.length=k)(hk:k=n):cs.drop n=[]:=List.drop_eq_nil_of_le (by omega)
end
end
section
open Go.RowKit Go.ChangeShapes Go.WideShapes Go.Deep
set_option maxRecDepth 100000
def zsv(s:ByteArray):Prop:=s.size≤1048576
def zsd(a:Att):Prop:=a.type.size≤1048576∧a.vals.length≤1048576∧∀v∈a.vals,v.size≤1048576
def zqb(e:Ent):Prop:=e.name.size≤1048576∧e.atts.length≤1048576∧∀a∈e.atts,zsd a
section
variable {H:Type}{enc:TypeId × Value→H}{W:World}
theorem zo1{M:Nat}(hM0:M≤1048576){fuel:Nat}{cs:List Value}{x:DataW H×List MemPlace}(h:DataW.trod enc Tryz.prog W 0 (fun _=>true) true fuel 9 cs=some x)(hM:Rows.uptoBulk x.1≤M):∃s:ByteArray,Elem.str.R (fun _=>True) W cs s∧zsv s:=by
 obtain⟨s,e0,q0⟩:=zgC Tryz.underlying9 h hM
 exact⟨s,e0,Nat.le_trans (Nat.le_of_lt q0) hM0⟩
theorem zqM{M:Nat}(hM0:M≤1048576){fuel:Nat}{cs:List Value}{x:DataW H×List MemPlace}(h:DataW.trod enc Tryz.prog W 0 (fun _=>true) true fuel 55 cs=some x)(hM:Rows.uptoBulk x.1≤M):∃a:Att,Elem.att.R (fun _=>True) W cs a∧zsd a:=by
 obtain⟨hl,hf⟩:=zi8 Tryz.underlying55 h hM
 obtain⟨m0,y0,h0,b0⟩:=hf 0 _ rfl
 obtain⟨s,e0,q0⟩:=zgC Tryz.underlying9 h0 (Nat.le_of_lt b0)
 obtain⟨m1,y1,h1,b1⟩:=hf 1 _ rfl
 obtain⟨A,n,c,l,e1,r1,l1,q1⟩:=zgI Elem.str zsv Tryz.underlying53 (by kernel_rfl) (fun n cs x hx hb=>zo1 (M:=1048576) (Nat.le_refl _) hx (by omega)) h1 (Nat.le_of_lt b1)
 have hcs:cs.drop 0=[.string s,.slice A n c]:=by rw[zer (i:=0) (j:=1) e0 (by kernel_rfl) rfl,zer (i:=1) (j:=2) e1 (by kernel_rfl) rfl,zi7 (n:=2) hl (by kernel_rfl)]
 rw[List.drop_zero] at hcs
 exact⟨⟨s,l⟩,⟨A,n,c,hcs,r1⟩,Nat.le_trans (Nat.le_of_lt q0) hM0,Nat.le_trans l1 hM0,q1⟩
theorem zqI{M:Nat}(hM0:M≤1048576){fuel:Nat}{cs:List Value}{x:DataW H×List MemPlace}(h:DataW.trod enc Tryz.prog W 0 (fun _=>true) true fuel 58 cs=some x)(hM:Rows.uptoBulk x.1≤M):∃a:Ent,Elem.ent.R (fun _=>True) W cs a∧zqb a:=by
 obtain⟨hl,hf⟩:=zi8 Tryz.underlying58 h hM
 obtain⟨m0,y0,h0,b0⟩:=hf 0 _ rfl
 obtain⟨s,e0,q0⟩:=zgC Tryz.underlying9 h0 (Nat.le_of_lt b0)
 obtain⟨m1,y1,h1,b1⟩:=hf 1 _ rfl
 obtain⟨A,n,c,l,e1,r1,l1,q1⟩:=zgI Elem.att zsd Tryz.underlying56 (by kernel_rfl) (fun n cs x hx hb=>zqM (M:=1048576) (Nat.le_refl _) hx (by omega)) h1 (Nat.le_of_lt b1)
 have hcs:cs.drop 0=[.string s,.slice A n c]:=by rw[zer (i:=0) (j:=1) e0 (by kernel_rfl) rfl,zer (i:=1) (j:=2) e1 (by kernel_rfl) rfl,zi7 (n:=2) hl (by kernel_rfl)]
 rw[List.drop_zero] at hcs
 exact⟨⟨s,l⟩,⟨A,n,c,hcs,r1⟩,Nat.le_trans (Nat.le_of_lt q0) hM0,Nat.le_trans l1 hM0,q1⟩
end
end
section
open Go.RowKit
set_option maxRecDepth 100000
theorem zon : "*" ++ "errors.errorString" = "*errors.errorString" := by decide
theorem zrv(u:TypeId)(h:Tryz.prog.typeName? 3 u=some "*errors.errorString"):u=313:=
 typeName_ptr_named (nm := "errors.errorString") (by rw [zon];kernel_rfl) (by kernel_rfl) (by decide) u (by rw [zon];exact h)
theorem zsR:(Rows.laid_internal_strconv_uint64pow10:DataW Unit)=Lib.tabData .u64 Lib.pow10Tab:=by kernel_rfl
theorem zmP{W:World}(h:laidMetH Tryz.prog Rows.partBackUptoRow.laid W)(hs:W.ShapedOpen Tryz.prog):Gl W:=by
 rw[MakeChecks.laidMetH_plain _ _ _ (by kernel_rfl)] at h
 have h2:laidMet Tryz.prog (("internal/strconv.uint64pow10", Lib.tabData .u64 Lib.pow10Tab)::Rows.partBackUptoRow.laid.drop 3) W:=by
  have:=h.tail.tail
  rw[←zsR]
  exact this
 have h4:laidMet Tryz.prog (("strconv.ErrRange", .iface "*errors.errorString" (.ptr (.agg [.lit (.string [118,97,108,117,101,32,111,117,116,32,111,102,32,114,97,110,103,101])])))::Rows.partBackUptoRow.laid.drop 5) W:=h2.tail.tail
 have h5:laidMet Tryz.prog (("strconv.ErrSyntax", .iface "*errors.errorString" (.ptr (.agg [.lit (.string [105,110,118,97,108,105,100,32,115,121,110,116,97,120])])))::Rows.partBackUptoRow.laid.drop 6) W:=h4.tail
 obtain⟨a0,s0,hv0,-,-,-⟩:=laid_sentinel h4 gRng (by kernel_rfl) Tryz.underlying179 zrv Tryz.underlying313 Tryz.underlying315 rfl rfl Tryz.underlying9 (by kernel_rfl) (by kernel_rfl)
 obtain⟨a1,s1,hv1,-,-,-⟩:=laid_sentinel h5 gSyn (by kernel_rfl) Tryz.underlying179 zrv Tryz.underlying313 Tryz.underlying315 rfl rfl Tryz.underlying9 (by kernel_rfl) (by kernel_rfl)
 refine⟨?_,⟨_,_,hv1⟩,⟨_,_,hv0⟩,?_⟩
 ·exact cell_of_shapedOpen_int (t:=3) (k:=.i64) (zero:=#[.int .i64 0]) hs (of_decide_eq_true (by kernel_rfl)) (by kernel_rfl) rfl (by kernel_rfl) (by kernel_rfl) Tryz.underlying3
 ·exact Lib.tabIs_of_head gPow (by kernel_rfl) Tryz.underlying306 Tryz.underlying236 (by kernel_rfl) (by kernel_rfl) h2
theorem zsU:(Rows.laid_unicode_utf8_acceptRanges:DataW Unit)=Lib.acceptData:=by kernel_rfl
theorem zmO{W:World}(h:laidMetH Tryz.prog Rows.partBackUptoRow.laid W):Ug W:=by
 rw[MakeChecks.laidMetH_plain _ _ _ (by kernel_rfl)] at h
 have h3:Lib.VarReads Tryz.prog W "unicode/utf8.first" Lib.firstData:=by
  rw[←Pinned.utf8First_eq]
  exact Lib.laidMet.reads h (show (("unicode/utf8.first", Rows.laid_unicode_utf8_first):String × DataW Unit)∈Rows.partBackUptoRow.laid from .tail _ (.tail _ (.tail _ (.tail _ (.tail _ (.tail _ (.head _)))))))
 have h4:Lib.VarReads Tryz.prog W "unicode/utf8.acceptRanges" Lib.acceptData:=by
  rw[←zsU]
  exact Lib.laidMet.reads h (show (("unicode/utf8.acceptRanges", Rows.laid_unicode_utf8_acceptRanges):String × DataW Unit)∈Rows.partBackUptoRow.laid from .tail _ (.tail _ (.tail _ (.head _))))
 exact utf8Tabs_of_reads Tryz.lays260 ⟨by kernel_rfl,by kernel_rfl,by kernel_rfl,by kernel_rfl,by kernel_rfl,by kernel_rfl,by kernel_rfl⟩ h3 h4
theorem zna{W:World}(h:laidMetH Tryz.prog Rows.partBackUptoRow.laid W)(hs:W.ShapedOpen Tryz.prog):Gu W:=⟨zmP h hs,zmO h⟩
theorem zrq{n:Int}(h:(Lit.int .i64 n).wf=true):-9223372036854775808≤n∧n≤9223372036854775807:=by
 rw[show(Lit.int .i64 n).wf=(decide (IntKind.i64.min≤n)&&decide (n≤IntKind.i64.max)) from rfl,Bool.and_eq_true,decide_eq_true_iff,decide_eq_true_iff] at h
 have e1:IntKind.i64.min = -9223372036854775808:=by decide +kernel
 have e2:IntKind.i64.max=9223372036854775807:=by decide +kernel
 rw[e1,e2] at h
 exact h
end
end Go.Proofs.YtkjbokhnpphimaaGreatDoor
