/- Lemmas of the walk. -/
import Derived.Test.YtioglicfndkgiaaGreatDoorZ07
import Derived.Test.YtioglicfndkgiaaGreatDoorZ05
import Derived.Laws.Tables
import Derived.Test.YtioglicfndkgiaaGreatDoorZ03
set_option maxHeartbeats 40000000
set_option linter.unusedVariables false
set_option linter.unusedSimpArgs false
namespace Go.Proofs.YtioglicfndkgiaaGreatDoor
open Go.RowKit
set_option maxRecDepth 100000
theorem zqv (cur:Array Value) (k:Nat) (v:Value) (hv:v.cells=#[v]) (hk:k<cur.size):over cur k v=cur.setIfInBounds k v:=by
 unfold over
 rw [hv]
 apply Array.ext'
 rw [Array.toList_setIfInBounds,List.set_eq_take_append_cons_drop,if_pos (by simpa using hk)]
 simp
theorem zjZ {P:Program} {w:World} {o:Oper} {a:Act} {K:Act→World→Prop} {Q:Exit→Act→World→Prop} (T:TypeId) (x y:Operand) (ho:o.op=.store T x y) (g k:Nat) (hx:a.eval x=.pointer (some ⟨g,k,none⟩))
 (v:Value) (hy:a.eval y=v) (hc:v.cells=#[v]) (hv:v.oneCell'=true) (hT:(P.info? T).map (·.size)=some 1) {base:Nat} {e:TypeId} {n cap size:Nat} {xs:List Value} (hown:w.ownsRow base e size (.slice (some ⟨g,0,none⟩) n cap) n xs) (hk:k<n * size)
 (h:∀ w',w'.ownsRow base e size (.slice (some ⟨g,0,none⟩) n cap) n (xs.set k v)→w.grownBy w' (some g)→K (a.put o.dst undef) w'):o.wp P a w K Q:=by
 have hown':=hown
 rcases hown.2 with ⟨h',_⟩ | ⟨g',cap',cur,h',hb,hg,hnc,hcm,hcs,htake⟩
 ·cases h'
 ·simp only [Value.slice.injEq,Option.some.injEq,Addr.mk.injEq,and_true,true_and] at h'
  obtain ⟨rfl,rfl⟩:=h'
  have hkc:k<cur.size:=by rw [hcs];exact Nat.lt_of_lt_of_le hk (Nat.mul_le_mul_right _ hnc)
  refine zlP T x y ho g k hx v hy e cur hg (by rw [hc];exact hT) (by rw [hc];exact hkc) (by rw [hc];simpa using hv) ?_
  rw [zqv cur k v hc hkc,← setCell_eq_setRow w g k cur e _ v hg]
  obtain ⟨h1,h2⟩:=hown'.stored k v
  exact h _ h1 h2
theorem GrowS.form {w wr:World} {v:Value} {l:List ByteArray} (h:GrowS w wr v l) (hl:0<l.length):∃ g cap,v=.slice (some ⟨g,0,none⟩) l.length cap∧w.heap.size≤g∧l.length≤cap∧cap≤maxLen∧(∀ k,k<l.length→wr.cell? ⟨g,k,none⟩=some (.string (l[k]?.getD ByteArray.empty))):=by
 have ho:=h.own
 rcases ho.2 with ⟨h',h0⟩ | ⟨g,cap,cur,h',hb,hg,hnc,hcm,hcs,htake⟩
 ·omega
 ·subst h'
  refine ⟨g,cap,rfl,hb,hnc,hcm,fun k hk=>?_⟩
  rw [ho.cellAt k (by simpa using hk),List.getElem?_map,List.getElem?_eq_getElem hk]
  rfl
theorem zet {w w0:World} {o:Oper} {a:Act} {K:Act→World→Prop} {Q:Exit→Act→World→Prop} (x y:Operand) (ho:o.op=.store 9 x y) (g k n cap:Nat) (hx:a.eval x=.pointer (some ⟨g,k,none⟩))
 (s:ByteArray) (hy:a.eval y=.string s) (l:List ByteArray) (hG:GrowS w0 w (.slice (some ⟨g,0,none⟩) n cap) l) (hn:n=l.length) (hk:k<l.length)
 (h:∀ w',GrowS w0 w' (.slice (some ⟨g,0,none⟩) n cap) (l.set k s)→Below w0.heap.size w w'→K (a.put o.dst undef) w'):o.wp Tryz.prog a w K Q:=by
 subst hn
 have ho:=hG.own
 refine zjZ 9 x y (by assumption) g k hx (.string s) hy rfl rfl (by kernel_rfl) ho (by simpa using hk) fun w' h1 h2=>?_
 have hb:=zbY ho h2 (zaD hG.ext) (Nat.le_refl _)
 refine h w' ⟨?_,Below.trans hG.ext hb⟩ hb
 rw [List.length_set,List.map_set]
 exact h1
end Go.Proofs.YtioglicfndkgiaaGreatDoor
namespace Go.Proofs.YtioglicfndkgiaaGreatDoor
open Go.RowKit
set_option maxRecDepth 100000
def zay (x:Ava):List Value:=[.string (str x.type),.string (str x.val)]
def Elem.ava:Elem Ava:=⟨2,by decide,fun _ _ v x=>v=zay x,fun h=>by rw [h];rfl,fun h _=>h,fun h _=>h⟩
theorem zo3 {w:World} {base:Nat} {e:TypeId} {v:Value} {n size:Nat} {vs:List Value} (h:w.ownsRow base e size v n vs):∃ A c,v=.slice A n c:=by
 rcases h.2 with ⟨rfl,rfl⟩ | ⟨g,cap,cur,rfl,_⟩
 ·exact ⟨_,_,rfl⟩
 ·exact ⟨_,_,rfl⟩
theorem zdm (l:List Ava):(l.map zay).flatten.length=l.length * 2:=by
 induction l with
 | nil=>rfl
 | cons x t ih=>simp only [List.map_cons,List.flatten_cons,List.length_append,ih,List.length_cons,zay,List.length_nil];omega
structure GrowA (T:TypeId) (w wr:World) (v:Value) (l:List Ava):Prop where
 own:wr.ownsRow w.heap.size T 2 v l.length (l.map zay).flatten
 ext:Ext w wr
theorem GrowA.nil {T:TypeId} {w wr:World} (hx:Ext w wr):GrowA T w wr (.slice none 0 0) []:=⟨World.ownsRow_nil _ _ _ _,hx⟩
theorem GrowA.later {T:TypeId} {w wr w':World} {v:Value} {l:List Ava} (h:GrowA T w wr v l) (hx:Ext wr w'):GrowA T w w' v l:=⟨zd6 h.own hx,h.ext.trans hx⟩
theorem GrowA.base {T:TypeId} {w w1 wr:World} {v:Value} {l:List Ava} (h:GrowA T w1 wr v l) (hx:Ext w w1):GrowA T w wr v l:=⟨zf1 h.own (zaD hx),hx.trans h.ext⟩
theorem GrowA.row {T:TypeId} {w wr:World} {v:Value} {l:List Ava} (h:GrowA T w wr v l):∃ A c,v=.slice A l.length c∧Row Elem.ava (fun b=>w.heap.size≤b) wr A l.length c l:=by
 have ho:=h.own
 obtain ⟨A,c,rfl⟩:=zo3 ho
 refine ⟨A,c,rfl,zfw (E:=Elem.ava) (vss:=l.map zay) ho rfl (by simp) (fun g hg=>(ho.lt g hg).1) fun i v x hi hx=>?_⟩
 rw [List.getElem?_map,hx] at hi
 simpa [Elem.ava,zay] using hi.symm
theorem zsd:(Tryz.prog.info? 151).map (fun i=>(i.zero,i.size,i.bytes))=some (some (.agg #[.string ByteArray.empty,.string ByteArray.empty]),2,32):=by kernel_rfl
theorem zqt:(Tryz.prog.info? 175).map (fun i=>(i.zero,i.size,i.bytes))=some (some (.agg #[.string ByteArray.empty,.string ByteArray.empty]),2,32):=by kernel_rfl
theorem zfx (l:List Ava):∀ u∈(l.map zay).flatten,u.oneCell'=true:=by
 intro u hu
 obtain ⟨l',h1,h2⟩:=List.mem_flatten.1 hu
 obtain ⟨x,_,rfl⟩:=List.mem_map.1 h1
 simp only [zay,List.mem_cons,List.not_mem_nil,or_false] at h2
 rcases h2 with rfl | rfl <;> rfl
section
variable {w w0:World} {ops:Array Oper} {rest:List Oper} {o:Oper} {a:Act} {Q:Exit→Act→World→Prop} {K:Act→World→Prop}
theorem zh3 (s x:Operand) (ho:o.op=.call { callee:=.builtin .append,args:=#[s,x],argTypes:=#[123,123] })
 (v:Value) (l:List Ava) (hs:a.eval s=v) (hg:GrowA 151 w0 w v l) (A:Option Addr) (m c:Nat) (ys:List Ava) (hx:a.eval x=.slice A m c) (hm:m=ys.length) (hy:Cells w A (ys.map zay).flatten)
 (hb:l.length+m≤4398046511104) (h:∀ v' w',GrowA 151 w0 w' v' (l++ys)→Below w0.heap.size w w'→K (a.put o.dst v') w'):o.wp Tryz.prog a w K Q:=by
 refine zbO s x 123 ho w0.heap.size 151 (.agg #[.string ByteArray.empty,.string ByteArray.empty]) 2 32 Tryz.underlying123 zsd rfl (by decide) v l.length (l.map zay).flatten hs hg.own A m c (ys.map zay).flatten hx (by rw [zdm,hm]) hy (zfx ys) (by simp [maxLen];omega) (by omega) (zaD hg.ext) ?_
 intro v' w' h1 h2 _
 have hb:=zbY hg.own h2 (zaD hg.ext) (Nat.le_refl _)
 refine h v' w' ⟨?_,Below.trans hg.ext hb⟩ hb
 rw [List.length_append,← hm,List.map_append,List.flatten_append]
 exact h1
theorem zhb (hgd:o.guard=none) (s x:Operand) (ho:o.op=.call { callee:=.builtin .append,args:=#[s,x],argTypes:=#[123,123] })
 (v:Value) (l:List Ava) (hs:a.eval s=v) (hg:GrowA 151 w0 w v l) (A:Option Addr) (m c:Nat) (ys:List Ava) (hx:a.eval x=.slice A m c) (hm:m=ys.length) (hy:Cells w A (ys.map zay).flatten)
 (hb:l.length+m≤4398046511104) (h:∀ v' w',GrowA 151 w0 w' v' (l++ys)→wpList Tryz.prog ops Q rest (a.put o.dst v') w'):wpList Tryz.prog ops Q (o::rest) a w:=
 wpList_plain hgd fun _ hK=>zh3 s x ho v l hs hg A m c ys hx hm hy hb fun v' w' h1 _=>hK _ _ (h v' w' h1)
theorem zhf (s x:Operand) (ho:o.op=.call { callee:=.builtin .append,args:=#[s,x],argTypes:=#[143,143] })
 (v:Value) (l:List Ava) (hs:a.eval s=v) (hg:GrowA 175 w0 w v l) (A:Option Addr) (m c:Nat) (ys:List Ava) (hx:a.eval x=.slice A m c) (hm:m=ys.length) (hy:Cells w A (ys.map zay).flatten)
 (hb:l.length+m≤4398046511104) (h:∀ v' w',GrowA 175 w0 w' v' (l++ys)→Below w0.heap.size w w'→K (a.put o.dst v') w'):o.wp Tryz.prog a w K Q:=by
 refine zbO s x 143 ho w0.heap.size 175 (.agg #[.string ByteArray.empty,.string ByteArray.empty]) 2 32 Tryz.underlying143 zqt rfl (by decide) v l.length (l.map zay).flatten hs hg.own A m c (ys.map zay).flatten hx (by rw [zdm,hm]) hy (zfx ys) (by simp [maxLen];omega) (by omega) (zaD hg.ext) ?_
 intro v' w' h1 h2 _
 have hb:=zbY hg.own h2 (zaD hg.ext) (Nat.le_refl _)
 refine h v' w' ⟨?_,Below.trans hg.ext hb⟩ hb
 rw [List.length_append,← hm,List.map_append,List.flatten_append]
 exact h1
theorem zbX (hgd:o.guard=none) (s x:Operand) (ho:o.op=.call { callee:=.builtin .append,args:=#[s,x],argTypes:=#[143,143] })
 (v:Value) (l:List Ava) (hs:a.eval s=v) (hg:GrowA 175 w0 w v l) (A:Option Addr) (m c:Nat) (ys:List Ava) (hx:a.eval x=.slice A m c) (hm:m=ys.length) (hy:Cells w A (ys.map zay).flatten)
 (hb:l.length+m≤4398046511104) (h:∀ v' w',GrowA 175 w0 w' v' (l++ys)→wpList Tryz.prog ops Q rest (a.put o.dst v') w'):wpList Tryz.prog ops Q (o::rest) a w:=
 wpList_plain hgd fun _ hK=>zhf s x ho v l hs hg A m c ys hx hm hy hb fun v' w' h1 _=>hK _ _ (h v' w' h1)
end
theorem zhM {S:Nat→Prop} {w:World} {A:Option Addr} {n c:Nat} {l:List Ava} (h:Row Elem.ava S w A n c l):Cells w A (l.map zay).flatten:=by
 obtain ⟨h1,h2,h3,vss,h4,h5,h6⟩:=h
 have e:vss=l.map zay:=by
  apply List.ext_getElem?
  intro i
  rw [List.getElem?_map]
  cases hv:vss[i]? with
  | none=>
   have:l[i]?=none:=by rw [List.getElem?_eq_none_iff] at hv ⊢;omega
   rw [this];rfl
  | some v=>
   have hi:=(List.getElem?_eq_some_iff.1 hv).1
   have hx:l[i]?=some l[i]:=List.getElem?_eq_getElem (by omega)
   rw [hx,Option.map_some]
   exact congrArg some (h6 i v _ hv hx)
 rw [← e]
 exact h5.cells
theorem zg4 (w:World) (x:Ava) (t:TypeId):Cells (w.alloc (.cells #[.string (str x.type),.string (str x.val)] t)) (some ⟨w.heap.size,0,none⟩) ([x].map zay).flatten:=by
 refine .inr ⟨w.heap.size,0,rfl,fun j u hj=>?_⟩
 rw [Nat.zero_add,zda]
 simpa [zay] using hj
theorem zgM {S:Nat→Prop} {w:World} {A:Option Addr} {n c:Nat} {l:List Ava} (h:Row Elem.ava S w A n c l) {i:Nat} (hi:i<n) :
 ∃ b o x,A=some ⟨b,o,none⟩∧l[i]?=some x∧w.cell? ⟨b,o+i * 2,none⟩=some (.string (str x.type))∧w.cell? ⟨b,o+i * 2+1,none⟩=some (.string (str x.val)):=by
 obtain ⟨b,o,v,x,rfl,h1,-,rfl,h2⟩:=h.at_ hi
 exact ⟨b,o,x,rfl,h1,h2 0 _ rfl,h2 1 _ rfl⟩
end Go.Proofs.YtioglicfndkgiaaGreatDoor
