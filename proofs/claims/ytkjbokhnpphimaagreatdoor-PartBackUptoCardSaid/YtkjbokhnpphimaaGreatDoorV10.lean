/- Lemmas of the walk. -/
import Derived.Test.YtkjbokhnpphimaaGreatDoorV09
set_option maxHeartbeats 40000000
set_option linter.unusedVariables false
set_option linter.unusedSimpArgs false
namespace Go.Proofs.YtkjbokhnpphimaaGreatDoor
open Go.RowKit
set_option maxRecDepth 100000
theorem zqF(cur:Array Value)(k:Nat)(v:Value)(hv:v.cells=#[v])(hk:k<cur.size):over cur k v=cur.setIfInBounds k v:=by
 unfold over
 rw[hv]
 apply Array.ext'
 rw[Array.toList_setIfInBounds,List.set_eq_take_append_cons_drop,if_pos (by simpa using hk)]
 simp
theorem zks{P:Program}{w:World}{o:Oper}{a:Act}{K:Act→World→Prop}{Q:Exit→Act→World→Prop}(T:TypeId)(x y:Operand)(ho:o.op=.store T x y)(g k:Nat)(hx:a.eval x=.pointer (some ⟨g,k,none⟩))
 (v:Value) (hy:a.eval y=v) (hc:v.cells=#[v]) (hv:v.oneCell'=true) (hT:(P.info? T).map (·.size)=some 1) {base:Nat} {e:TypeId} {n cap size:Nat} {xs:List Value} (hown:w.ownsRow base e size (.slice (some ⟨g,0,none⟩) n cap) n xs) (hk:k<n * size)
 (h:∀w',w'.ownsRow base e size (.slice (some ⟨g,0,none⟩) n cap) n (xs.set k v)→w.grownBy w' (some g)→K (a.put o.dst undef) w'):o.wp P a w K Q:=by
 have hown':=hown
 rcases hown.2 with⟨h',_⟩|⟨g',cap',cur,h',hb,hg,hnc,hcm,hcs,htake⟩
 ·cases h'
 ·simp only[Value.slice.injEq,Option.some.injEq,Addr.mk.injEq,and_true,true_and] at h'
  obtain⟨rfl,rfl⟩:=h'
  have hkc:k<cur.size:=by rw[hcs];exact Nat.lt_of_lt_of_le hk (Nat.mul_le_mul_right _ hnc)
  refine zlb T x y ho g k hx v hy e cur hg (by rw[hc];exact hT) (by rw[hc];exact hkc) (by rw[hc];simpa using hv) ?_
  rw[zqF cur k v hc hkc,←setCell_eq_setRow w g k cur e _ v hg]
  obtain⟨h1,h2⟩:=hown'.stored k v
  exact h _ h1 h2
theorem GrowS.form{w wr:World}{v:Value}{l:List ByteArray}(h:GrowS w wr v l)(hl:0<l.length):∃g cap,v=.slice (some ⟨g,0,none⟩) l.length cap∧w.heap.size≤g∧l.length≤cap∧cap≤maxLen∧(∀k,k<l.length→wr.cell? ⟨g,k,none⟩=some (.string (l[k]?.getD ByteArray.empty))):=by
 have ho:=h.own
 rcases ho.2 with⟨h',h0⟩|⟨g,cap,cur,h',hb,hg,hnc,hcm,hcs,htake⟩
 ·omega
 ·subst h'
  refine⟨g,cap,rfl,hb,hnc,hcm,fun k hk=>?_⟩
  rw[ho.cellAt k (by simpa using hk),List.getElem?_map,List.getElem?_eq_getElem hk]
  rfl
theorem zef{w w0:World}{o:Oper}{a:Act}{K:Act→World→Prop}{Q:Exit→Act→World→Prop}(x y:Operand)(ho:o.op=.store 9 x y)(g k n cap:Nat)(hx:a.eval x=.pointer (some ⟨g,k,none⟩))
 (s:ByteArray) (hy:a.eval y=.string s) (l:List ByteArray) (hG:GrowS w0 w (.slice (some ⟨g,0,none⟩) n cap) l) (hn:n=l.length) (hk:k<l.length)
 (h:∀w',GrowS w0 w' (.slice (some ⟨g,0,none⟩) n cap) (l.set k s)→Below w0.heap.size w w'→K (a.put o.dst undef) w'):o.wp Tryz.prog a w K Q:=by
 subst hn
 have ho:=hG.own
 refine zks 9 x y (by assumption) g k hx (.string s) hy rfl rfl (by kernel_rfl) ho (by simpa using hk) fun w' h1 h2=>?_
 have hb:=zbM ho h2 (zaz hG.ext) (Nat.le_refl _)
 refine h w' ⟨?_,Below.trans hG.ext hb⟩ hb
 rw[List.length_set,List.map_set]
 exact h1
end Go.Proofs.YtkjbokhnpphimaaGreatDoor
