/- Lemmas of the walk. -/
import Derived.Test.YtioglicfndkgiaaGreatDoorZ11
import Derived.Test.YtioglicfndkgiaaGreatDoorZ06
import Derived.Test.YtioglicfndkgiaaGreatDoorZ09
import Derived.Test.YtioglicfndkgiaaGreatDoorZ03
import Derived.Test.YtioglicfndkgiaaGreatDoorZ01
import Derived.Maps.OwnOps
import Derived.Maps.Views
import Derived.Maps.OwnSet
import Derived.StringKeys
import Derived.WalkSpells
import Derived.Calls
import Derived.Listen
import Derived.Shelf.SlSortCmp.NoneTotal
import Derived.Lib.QuietBelow
import Derived.Laws.AppendOwn
import Derived.Test.YtioglicfndkgiaaGreatDoorRows
import Derived.Test.YtioglicfndkgiaaGreatDoorZ05
import Derived.Deep.Slices
import Derived.ChangeSlices
set_option maxHeartbeats 40000000
set_option linter.unusedVariables false
set_option linter.unusedSimpArgs false
namespace Go.Proofs.YtioglicfndkgiaaGreatDoor
open Go.RowKit
def zgy (w:World) (v:Value) (L:Option Nat):Nat→Prop:=fun b=>w.heap.size≤b∧some b≠v.ownBlock∧some b≠L
structure GrowR {α:Type} (E:Elem α) (T:TypeId) (L:Option Nat) (w wr:World) (v:Value) (l:List α):Prop where
 rows:∃ vss:List (List Value),vss.length=l.length∧wr.ownsRow w.heap.size T E.k v l.length vss.flatten∧(∀ (i:Nat) u x,vss[i]?=some u→l[i]?=some x→E.R (zgy w v L) wr u x)
 ext:Ext w wr
 apart:∀ g,L=some g→v.ownBlock≠some g∧w.heap.size≤g∧g<wr.heap.size
section
variable {α:Type} {E:Elem α} {T:TypeId} {L:Option Nat} {w wr w':World} {v:Value} {l:List α}
theorem GrowR.nil (hx:Ext w wr) (hL:∀ g,L=some g→w.heap.size≤g∧g<wr.heap.size):GrowR E T L w wr (.slice none 0 0) []:=
 ⟨⟨[],rfl,World.ownsRow_nil _ _ _ _,fun i u x h=>by simp at h⟩,hx,fun g hg=>⟨by simp [Value.ownBlock],hL g hg⟩⟩
theorem zbm {S S':Nat→Prop} {u:List Value} {x:α} (h:E.R S wr u x) (hk:∀ b,S b→b<wr.heap.size→w'.heap[b]?=wr.heap[b]?) (hs:∀ b,S b→b<wr.heap.size→S' b):E.R S' w' u x:=by
 have h1:E.R (fun b=>S b∧b<wr.heap.size) wr u x:=E.mono h fun b hb hS=>⟨hS,hb⟩
 have h2:E.R (fun b=>S b∧b<wr.heap.size) w' u x:=E.same h1 fun b hb=>hk b hb.1 hb.2
 exact E.mono h2 fun b _ hb=>hs b hb.1 hb.2
theorem GrowR.later (h:GrowR E T L w wr v l) (hx:Ext wr w'):GrowR E T L w w' v l:=by
 obtain ⟨⟨vss,h1,h2,h3⟩,h4,h5⟩:=h
 exact ⟨⟨vss,h1,zd6 h2 hx,fun i u x hi hl=>zbm (h3 i u x hi hl) (fun b _ hb=>hx.block b hb) (fun b hS _=>hS)⟩,h4.trans hx,fun g hg=>⟨(h5 g hg).1,(h5 g hg).2.1,Nat.lt_of_lt_of_le (h5 g hg).2.2 hx.size⟩⟩
theorem GrowR.setL {g:Nat} (h:GrowR E T (some g) w wr v l) (i:Nat) (z:Value):GrowR E T (some g) w (wr.setCell ⟨g,i,none⟩ z) v l:=by
 obtain ⟨⟨vss,h1,h2,h3⟩,h4,h5⟩:=h
 obtain ⟨ha,hb,hc⟩:=h5 g rfl
 refine ⟨⟨vss,h1,?_,fun i' u x hi hl=>zbm (h3 i' u x hi hl) (fun b hS _=>heap_setCell_other _ _ _ _ (fun e=>hS.2.2 (by rw [e]))) (fun b hS _=>hS)⟩,h4.setCell hb _,fun g' hg=>⟨(h5 g' hg).1,(h5 g' hg).2.1,by simpa using (h5 g' hg).2.2⟩⟩
 obtain ⟨q1,q2⟩:=h2
 refine ⟨q1,?_⟩
 rcases q2 with q2 | ⟨k,cap,cur,e1,e2,e3,e4⟩
 ·exact .inl q2
 ·refine .inr ⟨k,cap,cur,e1,e2,?_,e4⟩
  rw [heap_setCell_other _ _ _ _ (fun e=>ha (by rw [e1];exact congrArg some e))]
  exact e3
theorem GrowR.row (h:GrowR E T L w wr v l):∃ A c,v=.slice A l.length c∧Row E (fun b=>w.heap.size≤b) wr A l.length c l:=by
 obtain ⟨⟨vss,h1,h2,h3⟩,h4,h5⟩:=h
 obtain ⟨A,c,rfl⟩:∃ A c,v=.slice A l.length c:=by
  rcases h2.2 with ⟨rfl,h0⟩ | ⟨g,cap,cur,rfl,_⟩
  ·exact ⟨none,0,by rw [h0]⟩
  ·exact ⟨_,_,rfl⟩
 exact ⟨A,c,rfl,zfw h2 rfl h1 (fun g hg=>(h2.lt g hg).1) fun i u x hi hl=>E.mono (h3 i u x hi hl) fun b _ hS=>hS.1⟩
theorem GrowR.fresh {u:List Value} {x:α} {w1:World} (h:GrowR E T L w wr v l) (hx:Ext wr w1) {B:Nat} (hB:wr.heap.size≤B) (hE:E.R (fun b=>B≤b) w' u x):E.R (zgy w v L) w' u x:=by
 obtain ⟨⟨vss,h1,h2,h3⟩,h4,h5⟩:=h
 refine E.mono hE fun b _ hb=>⟨Nat.le_trans h4.size (Nat.le_trans hB hb),fun e=>?_,fun e=>?_⟩
 ·have:=(h2.lt b e.symm).2
  omega
 ·have:=(h5 b e.symm).2.2
  omega
theorem GrowR.snoc {v':Value} {x:α} {u:List Value} (h:GrowR E T L w wr v l) (hx:E.R (zgy w v L) wr u x) (ho:∀ vss,wr.ownsRow w.heap.size T E.k v l.length vss→w'.ownsRow w.heap.size T E.k v' (l.length+1) (vss++u)) (hg:wr.grownBy w' v.ownBlock)
 (hb:v'.ownBlock=v.ownBlock∨v'.ownBlock=some wr.heap.size):GrowR E T L w w' v' (l++[x])∧Below w.heap.size wr w':=by
 obtain ⟨⟨vss,h1,h2,h3⟩,h4,h5⟩:=h
 have hbw:Below w.heap.size wr w':=zbY h2 hg (zaD h4) (Nat.le_refl _)
 have hkeep:∀ b,zgy w v L b→b<wr.heap.size→w'.heap[b]?=wr.heap[b]?:=fun b hS hlt=>hg.block b hlt hS.2.1
 have hin:∀ b,zgy w v L b→b<wr.heap.size→zgy w v' L b:=fun b hS hlt=>⟨hS.1,fun e=>by
  rcases hb with hb | hb
  ·exact hS.2.1 (by rw [e,hb])
  ·rw [hb] at e;injection e with e;omega,hS.2.2⟩
 refine ⟨⟨⟨vss++[u],by simp [h1],?_,fun i u' x' hi hl=>?_⟩,Below.trans h4 hbw,fun g hgL=>?_⟩,hbw⟩
 ·rw [List.length_append,List.length_cons,List.length_nil,List.flatten_append]
  simpa using ho _ h2
 ·rcases Nat.lt_or_ge i vss.length with hlt | hge
  ·rw [List.getElem?_append_left hlt] at hi
   rw [List.getElem?_append_left (by omega)] at hl
   exact zbm (h3 i u' x' hi hl) hkeep hin
  ·rw [List.getElem?_append_right hge] at hi
   rw [List.getElem?_append_right (by omega)] at hl
   have hz:i-vss.length=0:=by
    have:=(List.getElem?_eq_some_iff.1 hi).1
    simp at this
    omega
   rw [hz] at hi
   rw [← h1,hz] at hl
   simp at hi hl
   subst hi hl
   exact zbm hx hkeep hin
 ·obtain ⟨ha,hb',hc⟩:=h5 g hgL
  refine ⟨?_,hb',Nat.lt_of_lt_of_le hc hg.size⟩
  rcases hb with hb | hb
  ·rw [hb];exact ha
  ·rw [hb];intro e;injection e with e;omega
theorem Bx.grown {g:Nat} {U:TypeId} {cs:Array Value} {r:Option Nat} (h:Bx w wr g U cs) (hg:wr.grownBy w' r) (hne:r≠some g) (hb:Below w.heap.size wr w'):Bx w w' g U cs:=
 ⟨h.new,(hg.block g h.lt (fun e=>hne e.symm)).trans h.blk,Below.trans h.ext hb⟩
end
end Go.Proofs.YtioglicfndkgiaaGreatDoor
namespace Go.Proofs.YtioglicfndkgiaaGreatDoor
open Go.RowKit
set_option maxRecDepth 100000
abbrev Elem.part:Elem (List Ava):=Elem.slc Elem.ava
theorem zqj:(Tryz.prog.info? 123).map (fun i=>(i.zero,i.size,i.bytes))=some (some (.slice none 0 0),1,24):=by kernel_rfl
theorem zlQ {w w0:World} {ops:Array Oper} {rest:List Oper} {o:Oper} {a:Act} {Q:Exit→Act→World→Prop} (hgd:o.guard=none) (s x:Operand)
 (ho:o.op=.call { callee:=.builtin .append,args:=#[s,x],argTypes:=#[118,118] }) {L:Option Nat} (v:Value) (l:List (List Ava)) (hs:a.eval s=v) (hg:GrowR Elem.part 123 L w0 w v l)
 {A:Option Addr} {n c:Nat} {t:TypeId} (y:List Ava) (hr:Row Elem.ava (zgy w0 v L) w A n c y) (hx:a.eval x=.slice (some ⟨w.heap.size,0,none⟩) 1 1) (hb:l.length≤4000000)
 (h:∀ v' w',GrowR Elem.part 123 L w0 w' v' (l++[y])→(w.alloc (.cells #[.slice A n c] t)).grownBy w' v.ownBlock→Below w0.heap.size (w.alloc (.cells #[.slice A n c] t)) w'→wpList Tryz.prog ops Q rest (a.put o.dst v') w') :
 wpList Tryz.prog ops Q (o::rest) a (w.alloc (.cells #[.slice A n c] t)):=by
 have hg':=hg.later (Ext.alloc w (.cells #[.slice A n c] t))
 have hg2:=hg'
 obtain ⟨⟨vss,h1,h2,h3⟩,h4,h5⟩:=hg'
 refine wpList_plain hgd fun _ hK=>?_
 refine zbO s x 118 ho w0.heap.size 123 (.slice none 0 0) 1 24 Tryz.underlying118 zqj rfl (by decide) v l.length vss.flatten hs h2 _ 1 1 [.slice A n c] hx rfl (.inr ⟨_,0,rfl,fun j u hj=>by rw [Nat.zero_add,zda];simpa using hj⟩)
  (fun u hu=>by simp at hu;subst hu;rfl) (by simp [maxLen];omega) (by omega) (zaD h4) ?_
 intro v' w' q1 q2 q3
 have hE:Elem.part.R (zgy w0 v L) (w.alloc (.cells #[.slice A n c] t)) [.slice A n c] y:=⟨A,n,c,rfl,hr.ext (Ext.alloc _ _)⟩
 obtain ⟨k1,k2⟩:=hg2.snoc (v':=v') (w':=w') hE (fun vs' hvs'=>by
  have e:vs'=vss.flatten:=by
   have e1:=hvs'.2
   have e2:=h2.2
   rcases e1 with ⟨_,z1⟩ | ⟨g,cap,cur,e3,e4,e5,e6,e7,e8,e9⟩
   ·have z2:=hvs'.1
    have z3:=h2.1
    rw [z1,Nat.zero_mul] at z2 z3
    rw [List.eq_nil_of_length_eq_zero z2,List.eq_nil_of_length_eq_zero z3]
   ·rcases e2 with ⟨z0,z1⟩ | ⟨g',cap',cur',f3,f4,f5,f6,f7,f8,f9⟩
    ·rw [e3] at z0;cases z0
    ·rw [e3] at f3
     injection f3 with f3 _ f3'
     injection f3 with f3
     injection f3 with f3
     subst f3
     rw [e5] at f5
     injection f5 with f5
     injection f5 with f5
     subst f5
     rw [← e9,← f9]
  rw [e]
  exact q1) q2 q3
 exact hK _ _ (h v' w' k1 q2 k2)
theorem zpI:(Tryz.prog.info? 143).map (fun i=>(i.zero,i.size,i.bytes))=some (some (.slice none 0 0),1,24):=by kernel_rfl
theorem zk6 {w w0:World} {ops:Array Oper} {rest:List Oper} {o:Oper} {a:Act} {Q:Exit→Act→World→Prop} (hgd:o.guard=none) (s x:Operand)
 (ho:o.op=.call { callee:=.builtin .append,args:=#[s,x],argTypes:=#[140,140] }) {L:Option Nat} (v:Value) (l:List (List Ava)) (hs:a.eval s=v) (hg:GrowR Elem.part 143 L w0 w v l)
 {A:Option Addr} {n c:Nat} {t:TypeId} (y:List Ava) (hr:Row Elem.ava (zgy w0 v L) w A n c y) (hx:a.eval x=.slice (some ⟨w.heap.size,0,none⟩) 1 1) (hb:l.length≤4000000)
 (h:∀ v' w',GrowR Elem.part 143 L w0 w' v' (l++[y])→(w.alloc (.cells #[.slice A n c] t)).grownBy w' v.ownBlock→Below w0.heap.size (w.alloc (.cells #[.slice A n c] t)) w'→wpList Tryz.prog ops Q rest (a.put o.dst v') w') :
 wpList Tryz.prog ops Q (o::rest) a (w.alloc (.cells #[.slice A n c] t)):=by
 have hg':=hg.later (Ext.alloc w (.cells #[.slice A n c] t))
 have hg2:=hg'
 obtain ⟨⟨vss,h1,h2,h3⟩,h4,h5⟩:=hg'
 refine wpList_plain hgd fun _ hK=>?_
 refine zbO s x 140 ho w0.heap.size 143 (.slice none 0 0) 1 24 Tryz.underlying140 zpI rfl (by decide) v l.length vss.flatten hs h2 _ 1 1 [.slice A n c] hx rfl (.inr ⟨_,0,rfl,fun j u hj=>by rw [Nat.zero_add,zda];simpa using hj⟩)
  (fun u hu=>by simp at hu;subst hu;rfl) (by simp [maxLen];omega) (by omega) (zaD h4) ?_
 intro v' w' q1 q2 q3
 have hE:Elem.part.R (zgy w0 v L) (w.alloc (.cells #[.slice A n c] t)) [.slice A n c] y:=⟨A,n,c,rfl,hr.ext (Ext.alloc _ _)⟩
 obtain ⟨k1,k2⟩:=hg2.snoc (v':=v') (w':=w') hE (fun vs' hvs'=>by
  have e:vs'=vss.flatten:=by
   have e1:=hvs'.2
   have e2:=h2.2
   rcases e1 with ⟨_,z1⟩ | ⟨g,cap,cur,e3,e4,e5,e6,e7,e8,e9⟩
   ·have z2:=hvs'.1
    have z3:=h2.1
    rw [z1,Nat.zero_mul] at z2 z3
    rw [List.eq_nil_of_length_eq_zero z2,List.eq_nil_of_length_eq_zero z3]
   ·rcases e2 with ⟨z0,z1⟩ | ⟨g',cap',cur',f3,f4,f5,f6,f7,f8,f9⟩
    ·rw [e3] at z0;cases z0
    ·rw [e3] at f3
     injection f3 with f3 _ f3'
     injection f3 with f3
     injection f3 with f3
     subst f3
     rw [e5] at f5
     injection f5 with f5
     injection f5 with f5
     subst f5
     rw [← e9,← f9]
  rw [e]
  exact q1) q2 q3
 exact hK _ _ (h v' w' k1 q2 k2)
end Go.Proofs.YtioglicfndkgiaaGreatDoor
namespace Go.Proofs.YtioglicfndkgiaaGreatDoor
open Go.RowKit
structure Ent where
 name:ByteArray
 atts:List Att
def Elem.ent:Elem Ent:=
 ⟨2,by decide,fun S w v a=>∃ A n c,v=[.string a.name,.slice A n c]∧Row Elem.att S w A n c a.atts,fun ⟨_,_,_,h,_⟩=>by rw [h];rfl,fun ⟨A,n,c,h,hr⟩ hk=>⟨A,n,c,h,hr.same hk⟩,fun ⟨A,n,c,h,hr⟩ hs=>⟨A,n,c,h,hr.mono hs⟩⟩
end Go.Proofs.YtioglicfndkgiaaGreatDoor
namespace Go.Proofs.YtioglicfndkgiaaGreatDoor
theorem zpf (c:UInt8):loB (loB c)=loB c:=by
 unfold loB
 by_cases h:65≤c.toNat∧c.toNat≤90
 ·rw [if_pos h]
  have e:(UInt8.ofNat (c.toNat+32)).toNat=c.toNat+32:=by rw [UInt8.toNat_ofNat'];omega
  rw [if_neg (by rw [e];omega)]
 ·rw [if_neg h,if_neg h]
theorem zcZ:∀ (l cur:List UInt8),(32:UInt8) ∉ cur→∀ x∈zaB cur l,(32:UInt8) ∉ x
 | [],cur,h,x,hx=>by simp [zaB] at hx;rw [hx];exact h
 | c::t,cur,h,x,hx=>by
  unfold zaB at hx
  by_cases hc:c=32
  ·rw [if_pos hc] at hx
   rcases List.mem_cons.1 hx with e | e
   ·rw [e];exact h
   ·exact zcZ t [] (by simp) x e
  ·rw [if_neg hc] at hx
   exact zcZ t _ (by simp [h,Ne.symm hc]) x hx
theorem zez:∀ (l cur:List UInt8),∀ x∈zaB cur l,∀ b∈x,b∈cur∨b∈l
 | [],cur,x,hx,b,hb=>by simp [zaB] at hx;rw [hx] at hb;exact .inl hb
 | c::t,cur,x,hx,b,hb=>by
  unfold zaB at hx
  by_cases hc:c=32
  ·rw [if_pos hc] at hx
   rcases List.mem_cons.1 hx with e | e
   ·rw [e] at hb;exact .inl hb
   ·rcases zez t [] x e b hb with h | h
    ·cases h
    ·exact .inr (by simp [h])
  ·rw [if_neg hc] at hx
   rcases zez t _ x hx b hb with h | h
   ·rcases List.mem_append.1 h with h | h
    ·exact .inl h
    ·simp at h;exact .inr (by simp [h])
   ·exact .inr (by simp [h])
theorem ziG:∀ ws:List (List UInt8),ws≠[]→(∀ x∈ws,(32:UInt8) ∉ x)→zaB [] (zaE ws)=ws
 | [],h,_=>absurd rfl h
 | [x],_,h=>by simp only [zaE];rw [zef x [] (h x (by simp))];rfl
 | x::y::t,_,h=>by
  simp only [zaE]
  rw [zfh x [] _ (h x (by simp)),ziG (y::t) (by simp) (fun z hz=>h z (by simp [hz]))]
  rfl
theorem zh8 (x:List UInt8):∀ ws:List (List UInt8),(zaE (x::ws)).length≤x.length+1+(zaE ws).length
 | []=>by simp [zaE]
 | y::t=>by simp [zaE];omega
theorem zfm:∀ (l cur:List UInt8),(zaE ((zaB cur l).filter fun x=>decide (x≠[]))).length≤cur.length+l.length
 | [],cur=>by
  simp only [zaB]
  by_cases h:cur=[]
  ·simp [h,zaE]
  ·simp [h,zaE]
 | c::t,cur=>by
  unfold zaB
  by_cases hc:c=32
  ·rw [if_pos hc]
   have ih:=zfm t []
   simp only [List.length_nil] at ih
   by_cases h:cur=[]
   ·rw [List.filter_cons,if_neg (by simp [h])]
    simp only [List.length_cons];omega
   ·rw [List.filter_cons,if_pos (by simp [h])]
    have:=zh8 cur ((zaB [] t).filter fun x=>decide (x≠[]))
    simp only [List.length_cons];omega
  ·rw [if_neg hc]
   have ih:=zfm t (cur++[c])
   simp only [List.length_append,List.length_cons,List.length_nil] at ih ⊢
   omega
theorem zl1 {v u:List UInt8} (h:zhU v=some u):zhU u=some u∧u≠[]∧u.length≤v.length:=by
 unfold zhU at h
 simp only at h
 split at h
 ·cases h
 ·rename_i hn
  injection h with h
  obtain ⟨ws,hws⟩:∃ ws,ws=zaY (zat v):=⟨_,rfl⟩
  rw [← hws] at h hn
  have hlen:u.length≤v.length:=by
   have:=zfm (zat v) []
   rw [← h,hws]
   simp only [List.length_nil,Nat.zero_add] at this
   have e:(zat v).length=v.length:=by simp [zat]
   rw [e] at this
   exact this
  have hne:ws≠[]:=fun e=>hn (.inl (by rw [e];rfl))
  have h1:∀ x∈ws,x≠[]∧(32:UInt8) ∉ x∧∀ b∈x,loB b=b:=by
   intro x hx
   rw [hws] at hx
   obtain ⟨hm,hx0⟩:=List.mem_filter.1 hx
   refine ⟨by simpa using hx0,zcZ _ _ (by simp) x hm,fun b hb=>?_⟩
   rcases zez _ _ x hm b hb with e | e
   ·cases e
   ·obtain ⟨c,_,rfl⟩:=List.mem_map.1 e
    exact zpf c
  have hlo:zat u=u:=by
   unfold zat
   conv=>rhs;rw [← List.map_id u]
   refine List.map_congr_left fun b hb=>?_
   show loB b=b
   by_cases hb32:b=32
   ·rw [hb32];rfl
   ·rw [← h] at hb
    obtain ⟨x,hx,hbx⟩:=(zgm b hb32 ws).1 hb
    exact (h1 x hx).2.2 b hbx
  have hw:zaY u=ws:=by
   unfold zaY
   rw [← h,ziG ws hne (fun x hx=>(h1 x hx).2.1),List.filter_eq_self]
   intro x hx
   exact decide_eq_true (h1 x hx).1
  refine ⟨?_,fun e=>hn (.inl (by rw [h,e])),hlen⟩
  unfold zhU
  simp only [hlo,hw]
  rw [if_neg hn,h]
theorem zhP {k:Nat} {v u:List UInt8} (h:zcv k v=some u):zcv k u=some u:=by
 unfold zcv at h
 split at h
 ·cases h
 rename_i h0
 by_cases h1:k=1
 ·rw [if_pos h1] at h
  obtain ⟨a,b,c⟩:=zl1 h
  unfold zcv
  rw [if_neg (by rintro (e | e);exact b e;exact h0 (.inr (by omega))),if_pos h1,a]
 ·rw [if_neg h1] at h
  by_cases h3:k=3
  ·rw [if_pos h3] at h
   split at h
   ·rename_i hi
    injection h with h
    subst h
    unfold zcv
    rw [if_neg h0,if_neg h1,if_pos h3,if_pos hi]
   ·cases h
  ·rw [if_neg h3] at h;cases h
theorem zjy:∀ n<16,hexB (zbr n)=some n∧zbs (zbr n)=false∧zbr n≠35∧zbr n≠61∧zbr n≠32∧zbr n≠92∧zbr n≠44∧zbr n≠43:=by decide
theorem znz {b:Bool} {t:List UInt8}:(zaA b t).isEmpty=t.isEmpty:=by
 cases t with
 | nil=>rfl
 | cons c t=>
  simp only [zaA]
  split
  ·rfl
  ·split <;> rfl
theorem ziw:∀ (v:List UInt8) (b:Bool) (acc:List UInt8),readF acc (zaA b v)=some (acc++v)
 | [],b,acc=>by simp [zaA,readF]
 | c::t,b,acc=>by
  have ih:=fun a=>ziw t false a
  by_cases h1:((c==32 && (b || t.isEmpty)) || (c==35 && b) || zbs c)=true
  ·rw [zaA,if_pos h1]
   have h2:(zbs c || c==35 || c==61 || c==32)=true:=by
    simp only [Bool.or_eq_true,Bool.and_eq_true] at h1 ⊢
    rcases h1 with (h1 | h1) | h1
    ·exact .inr h1.1
    ·exact .inl (.inl (.inr h1.1))
    ·exact .inl (.inl (.inl h1))
   show readF acc (92::c::zaA false t)=_
   rw [readF.eq_def]
   simp only [if_true,h2,ih]
   simp
  ·rw [zaA,if_neg h1]
   by_cases h3:c.toNat<32∨126<c.toNat
   ·rw [if_pos h3]
    have hc:=c.toNat_lt
    obtain ⟨d1,d2,d3,d4,d5,-,-,-⟩:=zjy (c.toNat / 16) (by omega)
    obtain ⟨e1,-⟩:=zjy (c.toNat % 16) (by omega)
    show readF acc (92::zbr (c.toNat / 16)::zbr (c.toNat % 16)::zaA false t)=_
    rw [readF.eq_def]
    have h4:(zbs (zbr (c.toNat / 16)) || zbr (c.toNat / 16)==35 || zbr (c.toNat / 16)==61 || zbr (c.toNat / 16)==32)=false:=by simp [d2,d3,d4,d5]
    simp only [if_true,h4,d1,e1,ih,Bool.false_eq_true,if_false]
    have h5:UInt8.ofNat (16 * (c.toNat / 16)+c.toNat % 16)=c:=by
     rw [show 16 * (c.toNat / 16)+c.toNat % 16=c.toNat by omega]
     exact UInt8.ofNat_toNat
    rw [h5]
    simp
   ·rw [if_neg h3]
    show readF acc (c::zaA false t)=_
    have hc92:c≠92:=by
     intro e
     subst e
     exact h1 (by simp [zbs])
    have hc0:c≠0:=by
     intro e
     subst e
     exact h3 (.inl (by decide))
    have hs:zbs c=false:=by
     cases hs:zbs c with
     | false=>rfl
     | true=>exact absurd (by rw [hs];simp) h1
    have hb:(c==32 && (zaA false t).isEmpty)=false:=by
     rw [znz]
     cases hq:(c==32 && t.isEmpty) with
     | false=>rfl
     | true=>
      rw [Bool.and_eq_true] at hq
      exact absurd (by rw [hq.1,hq.2];simp) h1
    rw [readF.eq_def]
    simp only [if_neg hc92]
    rw [if_neg (by rw [hs,hb];simp [hc0]),ih]
    simp
theorem zlG {v:List UInt8}:za9 (zaA true v)=some v:=by
 unfold za9
 have hh:¬ ((zaA true v).head?=some 32∨(zaA true v).head?=some 35):=by
  cases v with
  | nil=>simp [zaA]
  | cons c t=>
   by_cases h1:((c==32 && (true || t.isEmpty)) || (c==35 && true) || zbs c)=true
   ·rw [zaA,if_pos h1];simp
   ·rw [zaA,if_neg h1]
    have h32:c≠32:=by rintro rfl;exact h1 (by simp)
    have h35:c≠35:=by rintro rfl;exact h1 (by simp)
    split
    ·simp
    ·simp [h32,h35]
 rw [if_neg hh,ziw]
 rfl
def clos (sep:UInt8):List UInt8→Bool
 | []=>true
 | c::t=>
  if c=sep then false
  else if c=92 then
   match t with
   | []=>false
   | _::t=>clos sep t
  else clos sep t
theorem zcQ (sep:UInt8):∀ (n:Nat) (x:List UInt8),x.length≤n→clos sep x=true→∀ cur r,splitF sep cur (x++r)=splitF sep (cur++x) r
 | _,[],_,_,cur,r=>by simp
 | 0,c::t,hn,_,_,_=>by simp at hn
 | n+1,c::t,hn,h,cur,r=>by
  simp only [List.length_cons] at hn
  rw [clos.eq_def] at h
  simp only at h
  by_cases h1:c=sep
  ·rw [if_pos h1] at h;cases h
  rw [if_neg h1] at h
  by_cases h2:c=92
  ·rw [if_pos h2] at h
   cases t with
   | nil=>cases h
   | cons d t=>
    simp only [List.length_cons] at hn
    show splitF sep cur (c::d::(t++r))=_
    rw [splitF.eq_def]
    simp only [if_neg h1,if_pos h2]
    rw [zcQ sep n t (by omega) h,h2]
    simp
  ·rw [if_neg h2] at h
   show splitF sep cur (c::(t++r))=_
   rw [splitF.eq_def]
   simp only [if_neg h1,if_neg h2]
   rw [zcQ sep n t (by omega) h]
   simp
theorem zff (sep:UInt8):∀ (n:Nat) (x y:List UInt8),x.length≤n→clos sep x=true→clos sep y=true→clos sep (x++y)=true
 | _,[],y,_,_,h=>h
 | 0,c::t,y,hn,_,_=>by simp at hn
 | n+1,c::t,y,hn,h,k=>by
  simp only [List.length_cons] at hn
  rw [clos.eq_def] at h
  simp only at h
  by_cases h1:c=sep
  ·rw [if_pos h1] at h;cases h
  rw [if_neg h1] at h
  by_cases h2:c=92
  ·rw [if_pos h2] at h
   cases t with
   | nil=>cases h
   | cons d t=>
    simp only [List.length_cons] at hn
    show clos sep (c::d::(t++y))=true
    rw [clos.eq_def]
    simp only [if_neg h1,if_pos h2]
    exact zff sep n t y (by omega) h k
  ·rw [if_neg h2] at h
   show clos sep (c::(t++y))=true
   rw [clos.eq_def]
   simp only [if_neg h1,if_neg h2]
   exact zff sep n t y (by omega) h k
theorem zmW {sep:UInt8} {x y:List UInt8} (h:clos sep x=true) (k:clos sep y=true):clos sep (x++y)=true:=zff sep _ x y (Nat.le_refl _) h k
theorem zg1 {sep c:UInt8} {y:List UInt8} (h1:c≠sep) (h2:c≠92) (k:clos sep y=true):clos sep (c::y)=true:=by
 rw [clos.eq_def]
 simp only [if_neg h1,if_neg h2]
 exact k
theorem zmo {sep c:UInt8} {y:List UInt8} (h1:(92:UInt8)≠sep) (k:clos sep y=true):clos sep (92::c::y)=true:=by
 rw [clos.eq_def]
 simp only [if_neg h1,if_true]
 exact k
theorem ziN {sep:UInt8} (hs:sep=44∨sep=43):∀ (v:List UInt8) (b:Bool),clos sep (zaA b v)=true
 | [],b=>rfl
 | c::t,b=>by
  have ih:=ziN hs t false
  have h92:(92:UInt8)≠sep:=by rcases hs with rfl | rfl <;> decide
  by_cases h1:((c==32 && (b || t.isEmpty)) || (c==35 && b) || zbs c)=true
  ·rw [zaA,if_pos h1]
   exact zmo h92 ih
  ·rw [zaA,if_neg h1]
   by_cases h3:c.toNat<32∨126<c.toNat
   ·rw [if_pos h3]
    have hc:=c.toNat_lt
    obtain ⟨-,-,-,-,-,e1,e2,e3⟩:=zjy (c.toNat % 16) (by omega)
    exact zmo h92 (zg1 (by rcases hs with rfl | rfl <;> assumption) e1 ih)
   ·rw [if_neg h3]
    have hs':zbs c=false:=by
     cases hq:zbs c with
     | false=>rfl
     | true=>exact absurd (by rw [hq];simp) h1
    refine zg1 ?_ ?_ ih
    ·rintro rfl
     rcases hs with rfl | rfl <;> exact absurd hs' (by decide)
    ·rintro rfl
     exact absurd hs' (by decide)
theorem zmN:∀ p∈typTab,clos 44 p.1=true∧clos 43 p.1=true∧(61:UInt8) ∉ p.1∧p.1≠[]:=by decide
theorem zov (n:List UInt8):zar n∈typTab∨zar n=([],0):=by
 unfold zar
 cases h:typTab.find? (fun p=>zat p.1==zat n) with
 | none=>exact .inr rfl
 | some p=>exact .inl (List.mem_of_find?_eq_some h)
def avaT (a:Ava):List UInt8:=a.type++61::zaA true a.val
theorem zi2 {a:Ava} (h:zbP a=true):zar a.type∈typTab∧(zar a.type).1=a.type∧(zar a.type).2≠0∧(zcv (zar a.type).2 a.val).isSome=true:=by
 unfold zbP at h
 rw [Bool.and_eq_true,Bool.and_eq_true,Bool.or_eq_true,decide_eq_true_eq,decide_eq_true_eq,decide_eq_true_eq] at h
 obtain ⟨⟨h1,h2⟩,h3⟩:=h
 refine ⟨?_,h1,by omega,h3⟩
 rcases zov a.type with h | h
 ·exact h
 ·rw [h] at h2;omega
theorem zfY {a:Ava} (h:zbP a=true) {sep:UInt8} (hs:sep=44∨sep=43):clos sep (avaT a)=true:=by
 obtain ⟨h1,h2,-,-⟩:=zi2 h
 have h3:=zmN _ h1
 rw [h2] at h3
 refine zmW ?_ (zg1 ?_ (by decide) (ziN hs _ _))
 ·rcases hs with rfl | rfl
  ·exact h3.1
  ·exact h3.2.1
 ·rcases hs with rfl | rfl <;> decide
theorem zpi {a:Ava} (h:zbP a=true):avaB (avaT a)=some a:=by
 obtain ⟨h1,h2,h3,-⟩:=zi2 h
 have h4:=zmN _ h1
 rw [h2] at h4
 unfold avaB avaT
 rw [zfL _ _ h4.2.2.1]
 simp only
 rw [if_neg h3,zlG,h2]
 rfl
theorem zgI:∀ l:List Ava,l≠[]→(∀ a∈l,zbP a=true)→splitF 43 [] (za4 l)=l.map avaT
 | [],h,_=>absurd rfl h
 | [a],_,h=>by
  have hc:=zcQ 43 _ (avaT a) (Nat.le_refl _) (zfY (h a (by simp)) (.inr rfl)) [] []
  rw [List.append_nil,List.nil_append] at hc
  show splitF 43 [] (avaT a)=_
  rw [hc]
  rfl
 | a::b::t,_,h=>by
  have hc:=zcQ 43 _ (avaT a) (Nat.le_refl _) (zfY (h a (by simp)) (.inr rfl)) [] (43::za4 (b::t))
  have ih:=zgI (b::t) (by simp) (fun x hx=>h x (by simp [hx]))
  have e:za4 (a::b::t)=avaT a++43::za4 (b::t):=by simp [za4,avaT]
  rw [e,hc,List.nil_append,splitF.eq_def]
  simp only [if_true]
  rw [ih]
  rfl
theorem zfs:∀ l:List Ava,(∀ a∈l,zbP a=true)→clos 44 (za4 l)=true
 | [],_=>rfl
 | [a],h=>zfY (h a (by simp)) (.inl rfl)
 | a::b::t,h=>by
  have e:za4 (a::b::t)=avaT a++43::za4 (b::t):=by simp [za4,avaT]
  rw [e]
  exact zmW (zfY (h a (by simp)) (.inl rfl)) (zg1 (by decide) (by decide) (zfs (b::t) (fun x hx=>h x (by simp [hx]))))
theorem zfp:∀ l:List (List UInt8),l≠[]→(∀ x∈l,clos 44 x=true)→splitF 44 [] (za3 l)=l
 | [],h,_=>absurd rfl h
 | [x],_,h=>by
  have hc:=zcQ 44 _ x (Nat.le_refl _) (h x (by simp)) [] []
  rw [List.append_nil,List.nil_append] at hc
  show splitF 44 [] x=_
  rw [hc]
  rfl
 | x::y::t,_,h=>by
  have hc:=zcQ 44 _ x (Nat.le_refl _) (h x (by simp)) [] (44::za3 (y::t))
  have ih:=zfp (y::t) (by simp) (fun z hz=>h z (by simp [hz]))
  show splitF 44 [] (x++44::za3 (y::t))=_
  rw [hc,List.nil_append,splitF.eq_def]
  simp only [if_true]
  rw [ih]
theorem zfg {l:List Ava} (h:l.all zbP=true):zbd (zbd l)=zbd l∧(zbd l).all zbP=true:=by
 rw [List.all_eq_true] at h
 constructor
 ·unfold zbd
  rw [List.map_map]
  refine List.map_congr_left fun a ha=>?_
  obtain ⟨-,-,-,h4⟩:=zi2 (h a ha)
  obtain ⟨u,hu⟩:=Option.isSome_iff_exists.1 h4
  simp only [Function.comp,hu,Option.getD_some,zhP hu]
 ·rw [List.all_eq_true]
  intro b hb
  obtain ⟨a,ha,rfl⟩:=List.mem_map.1 hb
  have hk:=h a ha
  obtain ⟨-,-,-,h4⟩:=zi2 hk
  obtain ⟨u,hu⟩:=Option.isSome_iff_exists.1 h4
  unfold zbP at hk ⊢
  simp only [hu,Option.getD_some,zhP hu] at hk ⊢
  exact hk
theorem zgB:∀ l:List Ava,zb4 (zbd l)=zb4 l
 | []=>rfl
 | [a]=>rfl
 | a::b::t=>by
  have ih:=zgB (b::t)
  unfold zbd at ih ⊢
  simp only [List.map_cons,zb4] at ih ⊢
  rw [ih]
theorem zch {l:List Ava} (h:zan l=true):zan (zbd l)=true:=by
 unfold zan at h ⊢
 rw [Bool.and_eq_true,Bool.and_eq_true] at h
 rw [zgB,h.2,(zfg h.1.2).2,show (zbd l).length=l.length by simp [zbd],h.1.1]
 rfl
theorem zj8 {l:List Ava} (h:zan l=true):zcC l=l:=by
 unfold zan at h
 rw [Bool.and_eq_true,Bool.and_eq_true,Bool.and_eq_true,decide_eq_true_eq,decide_eq_true_eq] at h
 obtain ⟨⟨⟨h1,h2⟩,-⟩,h4⟩:=h
 match l,h2 with
 | [],_=>rfl
 | [a],_=>rfl
 | [a,b],_=>
  simp only [zb4,Bool.and_true] at h4
  simp [zcC,insA,h4]
 | [a,b,c],_=>
  simp only [zb4,Bool.and_true,Bool.and_eq_true] at h4
  have h5:=zdF _ _ _ h4.1 h4.2
  simp [zcC,insA,h4.1,h4.2,h5]
theorem zfZ {α β:Type} {f:α→Option β} {g:β→α}:∀ {l:List β},(∀ x∈l,f (g x)=some x)→(l.map g).mapM f=some l
 | [],_=>rfl
 | x::t,h=>by
  rw [List.map_cons,List.mapM_cons,h x (by simp),zfZ (fun y hy=>h y (by simp [hy]))]
  rfl
theorem zhL {l:List Ava} (h:zan l=true):zbk (za4 l)=some l:=by
 have hall:∀ a∈l,zbP a=true:=by
  unfold zan at h
  rw [Bool.and_eq_true,Bool.and_eq_true] at h
  exact List.all_eq_true.1 h.1.2
 have hne:l≠[]:=by
  rintro rfl
  cases h
 unfold zbk
 rw [zgI l hne hall,zfZ (fun a ha=>zpi (hall a ha))]
 simp only
 rw [zj8 h,if_pos h]
theorem zfW {s:List UInt8} {l:List Ava} (h:zbk s=some l):zan l=true:=by
 unfold zbk at h
 cases hm:(splitF 43 [] s).mapM avaB with
 | none=>rw [hm] at h;cases h
 | some k=>
  rw [hm] at h
  simp only at h
  split at h
  ·rename_i hf
   injection h with h
   rw [← h];exact hf
  ·cases h
theorem zgU {α β:Type} {f:α→Option β}:∀ {x:List α} {l:List β},x.mapM f=some l→(∀ y∈l,∃ a∈x,f a=some y)∧l.length=x.length
 | [],l,h=>by simp at h;subst h;simp
 | a::t,l,h=>by
  rw [List.mapM_cons] at h
  cases ha:f a with
  | none=>rw [ha] at h;cases h
  | some v=>
   rw [ha] at h
   cases hb:t.mapM f with
   | none=>rw [hb] at h;cases h
   | some w=>
    rw [hb] at h
    cases h
    obtain ⟨h1,h2⟩:=zgU hb
    refine ⟨fun y hy=>?_,by simp [h2]⟩
    rcases List.mem_cons.1 hy with e | e
    ·exact ⟨a,by simp,by rw [e];exact ha⟩
    ·obtain ⟨c,hc,hf⟩:=h1 y e
     exact ⟨c,by simp [hc],hf⟩
theorem zmU {x:List UInt8} {t:List (List UInt8)} (h:x≠[]):za3 (x::t)≠[]:=by
 cases t with
 | nil=>exact h
 | cons y t=>simp [za3]
theorem zkL {l:List Ava} (h:l≠[]):za4 l≠[]:=by
 match l,h with
 | [a],_=>simp [za4]
 | a::b::t,_=>simp [za4]
theorem zlO {s:List UInt8} {l:List (List UInt8)} (h:zac s=.ok l):zac (za3 l)=.ok l:=by
 unfold zac at h
 by_cases h1:1000<s.length
 ·rw [if_pos h1] at h;cases h
 rw [if_neg h1] at h
 by_cases h2:s=[]
 ·rw [if_pos h2] at h
  injection h with h
  subst h
  rfl
 rw [if_neg h2] at h
 by_cases h3:12<(splitF 44 [] s).length
 ·rw [if_pos h3] at h;cases h
 rw [if_neg h3] at h
 cases hm:(splitF 44 [] s).mapM zbk with
 | none=>rw [hm] at h;cases h
 | some k=>
  rw [hm] at h
  simp only at h
  by_cases h4:1000<(za3 (k.map fun p=>zb7 (zbd p))).length
  ·rw [if_pos h4] at h;cases h
  rw [if_neg h4] at h
  injection h with h
  obtain ⟨hk1,hk2⟩:=zgU hm
  have hlen:=(zbA 44 s.length [] s (Nat.le_refl _)).2.1
  have hf:∀ p∈k,zan p=true:=fun p hp=>by obtain ⟨a,-,ha⟩:=hk1 p hp;exact zfW ha
  have hl:l=k.map fun p=>za4 (zbd p):=by
   rw [← h]
   refine List.map_congr_left fun p hp=>?_
   unfold zb7
   rw [if_pos (zch (hf p hp))]
  have hn:∀ q∈k.map zbd,zan q=true:=by
   intro q hq
   obtain ⟨p,hp,rfl⟩:=List.mem_map.1 hq
   exact zch (hf p hp)
  have hl2:l=(k.map zbd).map za4:=by rw [hl,List.map_map];rfl
  have hkne:k≠[]:=by rintro rfl;simp at hk2;omega
  have hlne:l≠[]:=by rw [hl];simp [hkne]
  have hcl:∀ x∈l,clos 44 x=true:=by
   intro x hx
   rw [hl2] at hx
   obtain ⟨q,hq,rfl⟩:=List.mem_map.1 hx
   have:=hn q hq
   unfold zan at this
   rw [Bool.and_eq_true,Bool.and_eq_true] at this
   exact zfs q (List.all_eq_true.1 this.1.2)
  have hsp:=zfp l hlne hcl
  have hjn:za3 l≠[]:=by
   cases hk:l with
   | nil=>exact absurd hk hlne
   | cons x t=>
    refine zmU ?_
    have hx:x∈(k.map zbd).map za4:=by rw [← hl2,hk];simp
    obtain ⟨q,hq,rfl⟩:=List.mem_map.1 hx
    exact zkL (by rintro rfl;have:=hn _ hq;cases this)
  unfold zac
  rw [if_neg (by rw [← h];exact h4),if_neg hjn,hsp,if_neg (by rw [hl,List.length_map,hk2];exact h3)]
  have hmm:l.mapM zbk=some (k.map zbd):=by
   rw [hl2]
   exact zfZ fun q hq=>zhL (hn q hq)
  rw [hmm]
  have e2:(k.map zbd).map (fun p=>zb7 (zbd p))=l:=by
   rw [hl2]
   refine List.map_congr_left fun q hq=>?_
   obtain ⟨p,hp,rfl⟩:=List.mem_map.1 hq
   have hfp:=hf p hp
   have ha:p.all zbP=true:=by
    unfold zan at hfp
    rw [Bool.and_eq_true,Bool.and_eq_true] at hfp
    exact hfp.1.2
   rw [(zfg ha).1]
   unfold zb7
   rw [if_pos (zch hfp)]
  simp only [e2]
  rw [if_neg (by rw [← h];exact h4)]
end Go.Proofs.YtioglicfndkgiaaGreatDoor
namespace Go.Proofs.YtioglicfndkgiaaGreatDoor
open Go.RowKit
set_option maxRecDepth 100000
def BoolSays (w:World) (e:Ending) (w':World):Prop:=∃ b:Bool,e=.returned (.bool b)∧Ext w w'
theorem BoolSays.of {w w':World} {e:Ending} {b:Bool} (h:e=.returned (.bool b)) (hx:Ext w w'):BoolSays w e w':=⟨b,h,hx⟩
theorem zkS {S:Nat→Prop} {A:Option Addr} {n c:Nat} {w:World} {l:List Ent} (h:Row Elem.ent S w A n c l):Calls Tryz.prog 17 #[.slice A n c] w (BoolSays w):=by
 have HR:=hid h
 have hn:n≤9223372036854775807:=by have:=h.cap;have:=h.most;simp only [maxLen] at this;omega
 clear h
 go_enter Tryz.func17,Tryz.ntmps17
 go_wp2
 go_loopw [3,9] (fun z i wr=>∃ (j:Nat) (y:Int),j≤n∧i=.int .i64 j∧z=.int .i64 y∧Hid (Ext w wr)) (fun _ i _=>n-(intOf i).toNat)
 case atStart=>exact ⟨0,0,by omega,rfl,rfl,Ext.refl _⟩
 case round=>
  obtain ⟨j,y,hj,rfl,rfl,hx⟩:=hrel
  by_cases hlt:j<n
  ·obtain ⟨b1,o1,v1,x1,rfl,g1,-,⟨A1,n1,c1,rfl,r1⟩,q1⟩:=(HR.out.ext hx.out).at_ hlt
   have e10:=q1 0 _ rfl
   have e11:=q1 1 _ rfl
   simp only [Elem.ent,Nat.add_zero] at e10 e11
   have R1:=hid r1
   have hn1:n1≤9223372036854775807:=by have:=r1.cap;have:=r1.most;simp only [maxLen] at this;omega
   clear q1 g1 r1
   go_wp2
   obtain ⟨wo,hwo⟩:∃ x,x=wr:=⟨_,rfl⟩
   subst hwo
   go_loopw [3,28] (fun z i wr=>∃ (k:Nat) (y:Int),k≤n1∧i=.int .i64 k∧z=.int .i64 y∧wr=wo) (fun _ i _=>n1-(intOf i).toNat)
   case atStart=>exact ⟨0,_,by omega,rfl,rfl,rfl⟩
   case round=>
    obtain ⟨k,y2,hk,rfl,rfl,rfl⟩:=hrel
    by_cases hlt2:k<n1
    ·obtain ⟨b2,o2,v2,x2,rfl,g2,-,⟨A2,n2,c2,rfl,r2⟩,q2⟩:=R1.out.at_ hlt2
     have e20:=q2 0 _ rfl
     have e21:=q2 1 _ rfl
     simp only [Elem.att,Nat.add_zero] at e20 e21
     have R2:=hid r2
     have hn2:n2≤9223372036854775807:=by have:=r2.cap;have:=r2.most;simp only [maxLen] at this;omega
     clear q2 g2 r2
     go_wp2
     obtain ⟨wp,hwp⟩:∃ x,x=wr:=⟨_,rfl⟩
     subst hwp
     go_loopw [3,54] (fun z i wr=>∃ (p:Nat) (y:Int),p≤n2∧i=.int .i64 p∧z=.int .i64 y∧wr=wp) (fun _ i _=>n2-(intOf i).toNat)
     case atStart=>exact ⟨0,_,by omega,rfl,rfl,rfl⟩
     case round=>
      obtain ⟨p,y3,hp,rfl,rfl,rfl⟩:=hrel
      by_cases hlt3:p<n2
      ·obtain ⟨b3,o3,rfl,c3⟩:=R2.out.str_cell (by omega)
       have e30:=c3 p hlt3
       clear c3
       generalize x2.vals[p]?.getD ByteArray.empty=s3 at *
       go_wp2
       exact ⟨⟨p+1,_,by omega,by go_num,rfl,by first | rfl | trivial⟩,by simp [intOf];omega⟩
      ·obtain rfl:p=n2:=by omega
       go_wp2
       exact ⟨⟨k+1,_,by omega,by go_num,rfl,by first | rfl | trivial⟩,by simp [intOf];omega⟩
    ·obtain rfl:k=n1:=by omega
     go_wp2
     all_goals first
      | (go_ret;exact BoolSays.of rfl (hx.out))
      | exact ⟨⟨j+1,_,by omega,by go_num,rfl,hx⟩,by simp [intOf];omega⟩
  ·obtain rfl:j=n:=by omega
   go_wp2
   go_ret
   exact BoolSays.of rfl (hx.out)
end Go.Proofs.YtioglicfndkgiaaGreatDoor
namespace Go.Proofs.YtioglicfndkgiaaGreatDoor
open Go.RowKit
structure Pre where
 r:World→World→Prop
 refl:∀ w,r w w
 trans:∀ {a b c:World},r a b→r b c→r a c
abbrev Pre.same (S:Nat→Prop):Pre:=⟨Same S,Same.refl S,Same.trans⟩
theorem Same.alloc_of {S:Nat→Prop} {w:World} (h:∀ b,S b→b<w.heap.size) (o:Obj):Same S w (w.alloc o):=fun b hb=>(Ext.alloc w o).block b (h b hb)
theorem Same.set_of {S:Nat→Prop} {w:World} {g i:Nat} (h:∀ b,S b→b≠g) (v:Value):Same S w (w.setCell ⟨g,i,none⟩ v):=fun b hb=>Below.heap_setCell _ _ _ _ (h b hb)
section
variable {P:Program} {ops:Array Oper} {md:Region.Mode} {Q:Act→World→Prop} {B:Pre}
def staysR (B:Pre) (P:Program) (ops:Array Oper) (o:Oper) (v:Value) (a:Act) (w:World):Prop:=
 (Region.wanted o (yielded ops a.tmps)=true∧∀ w',B.r w w'→(execOp a.eval o).run P w'=.ok (.value v) w') ∨
 (Region.wanted o (yielded ops a.tmps)=false∧v=undef)
theorem staysR.comesUp {o:Oper} {v:Value} {a:Act} {w:World} {K:Act→World→Prop} (h:staysR B P ops o v a w) (hk:K (a.put o.dst v) w):comesUp P ops o K a w:=by
 unfold Go.Proofs.YtioglicfndkgiaaGreatDoor.comesUp
 rcases h with ⟨hw,hv⟩ | ⟨hw,rfl⟩
 ·rw [if_pos hw];unfold Oper.wp;rw [hv w (B.refl w)];exact hk
 ·rw [if_neg (by simp [hw])];exact hk
theorem staysR.later {o:Oper} {v:Value} {a:Act} {w w':World} (h:staysR B P ops o v a w) (hx:B.r w w'):staysR B P ops o v a w':=by
 rcases h with ⟨hw,hv⟩ | h
 ·exact .inl ⟨hw,fun w2 h2=>hv w2 (B.trans hx h2)⟩
 ·exact .inr h
theorem staysR.same {o:Oper} {v:Value} {a a':Act} {w:World} (h:staysR B P ops o v a w) (he:execOp a'.eval o=execOp a.eval o)
 (hw:Region.wanted o (yielded ops a'.tmps)=Region.wanted o (yielded ops a.tmps)):staysR B P ops o v a' w:=by
 unfold staysR at *
 rw [he,hw]
 exact h
def anyOrderR (B:Pre) (P:Program) (md:Region.Mode) (ops:Array Oper) (Q:Act→World→Prop):Nat→Array Bool→Act→World→Prop
 | 0,listed,a,w=>Region.ready md ops listed=[]∧Q a w
 | fuel+1,listed,a,w=>(Region.ready md ops listed=[]→Q a w) ∧
  ∀ i∈Region.ready md ops listed,∀ o,ops[i]?=some o→comesUp P ops o (fun a' w'=>B.r w w'∧anyOrderR B P md ops Q fuel (listed.setIfInBounds i true) a' w') a w
theorem anyOrderR.wpAny {R:Exit→Act→World→Prop} (hQ:∀ a w,Q a w→R .normal a w) :
 ∀ (fuel:Nat) (listed:Array Bool) (a:Act) (w:World),anyOrderR B P md ops Q fuel listed a w→Go.wpAny P md ops R fuel listed a w
 | 0,_,_,_,h=>⟨h.1,hQ _ _ h.2⟩
 | fuel+1,listed,a,w,h=>by
  refine ⟨fun h0=>hQ _ _ (h.1 h0),fun i hi=>?_⟩
  obtain ⟨_,o,ho,_⟩:=mem_ready.1 hi
  have h1:=h.2 i hi o ho
  unfold comesUp at h1
  unfold wpOp
  simp only [ho]
  split
  ·rename_i hw
   rw [if_pos hw] at h1
   exact .inl (zel (Oper.wp_mono (fun a' w' hh=>anyOrderR.wpAny hQ fuel _ a' w' hh.2) h1))
  ·rename_i hw
   rw [if_neg hw] at h1
   exact anyOrderR.wpAny hQ fuel _ _ _ h1.2
theorem zhr {oi oj:Oper} {v:Value} (hap:oi.apart ops oj=true) (hsi:∀ cs b,oi.op≠.select cs b) (hsj:∀ cs b,oj.op≠.select cs b)
 {K:Act→World→Prop} {a:Act} {w:World}
 (h:comesUp P ops oj K (a.put oi.dst v) w) :
 comesUp P ops oj (fun a' w'=>(∀ w0,staysR B P ops oi v a w0→staysR B P ops oi v a' w0)∧K (a'.put oi.dst v) w') a w:=by
 obtain ⟨h1,h2,h3⟩:=Oper.apart_spec hap
 have keep:∀ (b:Act) (u:Value),b.eval=a.eval→b.tmps=a.tmps→∀ w0,staysR B P ops oi v a w0→staysR B P ops oi v (b.put oj.dst u) w0:=fun b u hb ht w0 hs=>
  (hs.same (a':=b) (by rw [hb]) (by rw [ht])).same (execOp_put oi hsi b oj.dst u h3) (wanted_put oi b oj.dst u h3)
 unfold comesUp at *
 rw [wanted_put oj a oi.dst v h1] at h
 split
 ·rename_i hw
  rw [if_pos hw] at h
  unfold Oper.wp at *
  rw [execOp_put oj hsj a oi.dst v h1] at h
  generalize (execOp a.eval oj).run P w=r at *
  cases r with
  | ok n w'=>
   cases n <;> simp only [Oper.upon] at h ⊢
   case value u=>exact ⟨keep a u rfl rfl,by rw [← Act.put_comm a v u h2];exact h⟩
   case skip=>exact ⟨keep a _ rfl rfl,by rw [← Act.put_comm a v undef h2];exact h⟩
   case defer d=>exact ⟨keep { a with defers:=d::a.defers } _ rfl rfl,by rw [← Act.put_comm _ v undef h2,← Act.put_defers];exact h⟩
   case enter f args=>
    refine Calls.mono h fun e w'' he=>?_
    cases e with
    | returned u=>exact ⟨keep a u rfl rfl,by rw [← Act.put_comm a v u h2];exact he⟩
    | panicked c=>exact he
    | outgrown=>exact he
   case row row args=>exact Rows.mono h fun u w'' he=>⟨keep a u rfl rfl,by rw [← Act.put_comm a v u h2];exact he⟩
  | halt x w'=>cases x <;> simp only [Oper.upon] at h ⊢ <;> exact h
 ·rename_i hw
  rw [if_neg hw] at h
  exact ⟨keep a _ rfl rfl,by rw [← Act.put_comm a v undef h2];exact h⟩
theorem zhO {i:Nat} {oi:Oper} {v:Value} (hi:ops[i]?=some oi) (hsel:∀ (j:Nat) (o:Oper) cs b,ops[j]?=some o→o.op≠.select cs b) :
 ∀ (fuel:Nat) (listed:Array Bool) (a:Act) (w:World),
  (∀ j oj,ops[j]?=some oj→j≠i→listed.getD j true=false→(∀ e∈oj.after,Region.binds md e=true→e.on≠i)→oi.apart ops oj=true) →
  i∈Region.ready md ops listed→staysR B P ops oi v a w →
  anyOrderR B P md ops Q fuel (listed.setIfInBounds i true) (a.put oi.dst v) w→anyOrderR B P md ops Q (fuel+1) listed a w:=by
 intro fuel
 induction fuel with
 | zero=>
  intro listed a w _ hr hy H
  refine ⟨fun h=>(by rw [h] at hr;cases hr),fun j hj o ho=>?_⟩
  by_cases hji:j=i
  ·subst hji
   have:o=oi:=by rw [hi] at ho;exact (Option.some.inj ho).symm
   subst this
   exact hy.comesUp ⟨B.refl w,H⟩
  ·have:=ready_mono hj hji
   rw [H.1] at this
   cases this
 | succ fuel ih=>
  intro listed a w hfree hr hy H
  refine ⟨fun h=>(by rw [h] at hr;cases hr),fun j hj oj hoj=>?_⟩
  by_cases hji:j=i
  ·subst hji
   have:oj=oi:=by rw [hi] at hoj;exact (Option.some.inj hoj).symm
   subst this
   exact hy.comesUp ⟨B.refl w,H⟩
  ·have h1:=H.2 j (ready_mono hj hji) oj hoj
   obtain ⟨hjun,oj',hoj',hall⟩:=mem_ready.1 hj
   have:oj'=oj:=by rw [hoj] at hoj';exact (Option.some.inj hoj').symm
   subst this
   have hnot:∀ e∈oj'.after,Region.binds md e=true→e.on≠i:=fun e he hb heq=>by
    have h1:=hall e he hb
    have h0:=(mem_ready.1 hr).1
    rw [heq] at h1
    rcases Nat.lt_or_ge i listed.size with h' | h'
    ·simp [h'] at h0 h1;rw [h0] at h1;cases h1
    ·simp [Array.getElem?_eq_none h'] at h1
   have h2:=zhr (B:=B) (hfree j oj' hoj hji hjun hnot) (fun cs b=>hsel i oi cs b hi) (fun cs b=>hsel j oj' cs b hoj) h1
   have hfree':∀ k ok,ops[k]?=some ok→k≠i→(listed.setIfInBounds j true).getD k true=false →
    (∀ e∈ok.after,Region.binds md e=true→e.on≠i)→oi.apart ops ok=true:=fun k ok hk hki hun hno=>by
    refine hfree k ok hk hki ?_ hno
    by_cases hjk:j=k
    ·subst hjk;exact hjun
    ·rw [getD_set_ne true hjk] at hun;exact hun
   refine h2.mono fun a' w' h3=>⟨h3.2.1,ih (listed.setIfInBounds j true) a' w' hfree' (ready_mono hr (Ne.symm hji)) ((h3.1 w hy).later h3.2.1) ?_⟩
   rw [Array.setIfInBounds_comm _ _ hji]
   exact h3.2.2
def zbL (B:Pre) (P:Program) (ops:Array Oper) (Q:Act→World→Prop):Plan→Act→World→Prop
 | .done,a,w=>Q a w
 | .read i p,a,w=>∃ o v,ops[i]?=some o∧staysR B P ops o v a w∧zbL B P ops Q p (a.put o.dst v) w
 | .main i p,a,w=>∃ o,ops[i]?=some o∧comesUp P ops o (fun a' w'=>B.r w w'∧zbL B P ops Q p a' w') a w
 | .alt i p q,a,w=>(∃ o,ops[i]?=some o∧comesUp P ops o (fun a' w'=>B.r w w'∧zbL B P ops Q p a' w') a w)∧zbL B P ops Q q a w
theorem ze7 {listed:Array Bool} {a:Act} {w:World} (hr:Region.ready md ops listed=[]) (h:Q a w):∀ fuel,anyOrderR B P md ops Q fuel listed a w
 | 0=>⟨hr,h⟩
 | _+1=>⟨fun _=>h,by rw [hr];simp⟩
theorem zge (hs:Region.noSelect ops=true):∀ (fuel:Nat) (p:Plan),
 (∀ (listed:Array Bool) (a:Act) (w:World),p.size≤fuel→p.fits md ops false listed=true→zbL B P ops Q p a w→anyOrderR B P md ops Q fuel listed a w) ∧
 (∀ (listed:Array Bool) (a:Act) (w:World),p.size≤fuel+1→p.fits md ops true listed=true→zbL B P ops Q p a w →
   ∀ i∈p.heads,∀ o,ops[i]?=some o→comesUp P ops o (fun a' w'=>B.r w w'∧anyOrderR B P md ops Q fuel (listed.setIfInBounds i true) a' w') a w):=by
 have one:∀ (fuel:Nat) (i:Nat) (p:Plan) (listed:Array Bool) (a:Act) (w:World),
  (∀ (a:Act) (w:World),zbL B P ops Q p a w→anyOrderR B P md ops Q fuel (listed.setIfInBounds i true) a w) →
  (∃ o,ops[i]?=some o∧comesUp P ops o (fun a' w'=>B.r w w'∧zbL B P ops Q p a' w') a w) →
  ∀ o,ops[i]?=some o→comesUp P ops o (fun a' w'=>B.r w w'∧anyOrderR B P md ops Q fuel (listed.setIfInBounds i true) a' w') a w:=by
  intro fuel i p listed a w ih ⟨o,ho,hc⟩ o' ho'
  have:o'=o:=by rw [ho] at ho';exact (Option.some.inj ho').symm
  subst this
  exact hc.mono fun a' w' hh=>⟨hh.1,ih a' w' hh.2⟩
 have second:∀ (fuel:Nat),(∀ (p:Plan) (listed:Array Bool) (a:Act) (w:World),p.size≤fuel→p.fits md ops false listed=true→zbL B P ops Q p a w→anyOrderR B P md ops Q fuel listed a w) →
  ∀ (p:Plan) (listed:Array Bool) (a:Act) (w:World),p.size≤fuel+1→p.fits md ops true listed=true→zbL B P ops Q p a w →
  ∀ i∈p.heads,∀ o,ops[i]?=some o→comesUp P ops o (fun a' w'=>B.r w w'∧anyOrderR B P md ops Q fuel (listed.setIfInBounds i true) a' w') a w:=by
  intro fuel ih p
  induction p with
  | done=>intro _ _ _ _ hf;simp [Plan.fits] at hf
  | read i p _=>intro _ _ _ _ hf;simp [Plan.fits] at hf
  | main i p _=>
   intro listed a w hz hf hw j hj
   simp only [Plan.fits,Bool.true_or,Bool.true_and] at hf
   simp only [Plan.heads,List.mem_singleton] at hj
   subst hj
   exact one fuel j p listed a w (fun a' w' hh=>ih p _ a' w' (by simp [Plan.size] at hz;omega) hf hh) hw
  | alt i p q _ ihq=>
   intro listed a w hz hf hw j hj
   simp only [Plan.fits,Bool.true_or,Bool.true_and,Bool.and_eq_true] at hf
   simp only [Plan.size] at hz
   simp only [Plan.heads,List.mem_cons] at hj
   rcases hj with hj | hj
   ·subst hj
    exact one fuel j p listed a w (fun a' w' hh=>ih p _ a' w' (by omega) hf.1 hh) hw.1
   ·exact ihq listed a w (by omega) hf.2 hw.2 j hj
 have first:∀ (fuel:Nat) (p:Plan) (listed:Array Bool) (a:Act) (w:World),p.size≤fuel→p.fits md ops false listed=true→zbL B P ops Q p a w→anyOrderR B P md ops Q fuel listed a w:=by
  intro fuel
  induction fuel with
  | zero=>
   intro p listed a w hz hf hw
   cases p with
   | done=>exact ze7 (by simpa [Plan.fits] using hf) hw 0
   | read i p=>simp [Plan.size] at hz
   | main i p=>simp [Plan.size] at hz
   | alt i p q=>simp [Plan.size] at hz
  | succ fuel ih=>
   intro p listed a w hz hf hw
   cases p with
   | done=>exact ze7 (by simpa [Plan.fits] using hf) hw _
   | read i p=>
    simp only [Plan.fits,Bool.not_false,Bool.true_and,Bool.and_eq_true] at hf
    obtain ⟨o,v,ho,hy,hw'⟩:=hw
    exact zhO ho (Region.noSelect_spec hs) fuel listed a w (Region.free_spec ho hf.1.2) (by simpa using hf.1.1) hy (ih p _ _ _ (by simp [Plan.size] at hz;omega) hf.2 hw')
   | main i p=>
    have hf0:=hf
    simp only [Plan.fits,Bool.false_or,Bool.and_eq_true,beq_iff_eq] at hf
    refine ⟨fun h0=>(by rw [hf.1] at h0;cases h0),fun j hj=>?_⟩
    rw [hf.1] at hj
    exact second fuel ih (.main i p) listed a w hz (by simp only [Plan.fits,Bool.true_or,Bool.true_and];exact hf.2) hw j hj
   | alt i p q=>
    simp only [Plan.fits,Bool.false_or,Bool.and_eq_true,beq_iff_eq] at hf
    refine ⟨fun h0=>(by rw [hf.1.1] at h0;cases h0),fun j hj=>?_⟩
    rw [hf.1.1] at hj
    exact second fuel ih (.alt i p q) listed a w hz (by simp only [Plan.fits,Bool.true_or,Bool.true_and,Bool.and_eq_true];exact ⟨hf.1.2,hf.2⟩) hw j hj
 intro fuel p
 exact ⟨first fuel p,second fuel (first fuel) p⟩
theorem zbv (B:Pre) {id:Nat} {R:Exit→Act→World→Prop} {a:Act} {w:World} (p:Plan) (hm:P.follows .mixedOrders=true)
 (hf:(Region.noSelect ops && p.fits .any ops false (Array.replicate ops.size false) && decide (p.size≤ops.size))=true)
 (h:∀ wD,Ext w wD→zbL B P ops (R .normal) p a wD):(Code.region id ops true).wp P R a w:=by
 simp only [Bool.and_eq_true,decide_eq_true_eq] at hf
 exact wp_region_any hm (anyOrderR.wpAny (Q:=R .normal) (fun _ _ hq=>hq) _ _ _ _ ((zge (md:=.any) hf.1.1 ops.size p).1 _ _ _ hf.2 hf.1.2 (h w.drew (Ext.drew w))))
theorem zcy {a:Act} {w:World} (h:Q a w):zbL B P ops Q .done a w:=h
theorem zbi {i:Nat} {p:Plan} {a:Act} {w:World} {d:Option Tmp} {op:Op} {ty:TypeId} {pos:String} {af:Array Edge} {gd:Option (Nat × Bool)} {v:Value}
 (ho:ops[i]?=some ⟨d,op,ty,pos,af,gd⟩) (hw:Region.wanted ⟨d,op,ty,pos,af,gd⟩ (yielded ops a.tmps)=true)
 (hv:∀ w',B.r w w'→(execOp a.eval ⟨d,op,ty,pos,af,gd⟩).run P w'=.ok (.value v) w') (h:zbL B P ops Q p (a.put d v) w):zbL B P ops Q (.read i p) a w:=⟨_,v,ho,.inl ⟨hw,hv⟩,h⟩
theorem zcx {i:Nat} {p:Plan} {a:Act} {w:World} {d:Option Tmp} {x:Operand} {ty:TypeId} {pos:String} {af:Array Edge} {gd:Option (Nat × Bool)}
 (ho:ops[i]?=some ⟨d,.move x,ty,pos,af,gd⟩) (hw:Region.wanted ⟨d,.move x,ty,pos,af,gd⟩ (yielded ops a.tmps)=true)
 (h:zbL B P ops Q p (a.put d (a.eval x)) w):zbL B P ops Q (.read i p) a w:=zbi ho hw (fun _ _=>by simp [execOp]) h
theorem zb0 {i:Nat} {p:Plan} {a:Act} {w:World} {d:Option Tmp} {x:Operand} {ty:TypeId} {pos:String} {af:Array Edge} {gd:Option (Nat × Bool)}
 (ho:ops[i]?=some ⟨d,.assign x,ty,pos,af,gd⟩) (hw:Region.wanted ⟨d,.assign x,ty,pos,af,gd⟩ (yielded ops a.tmps)=true)
 (h:zbL B P ops Q p (a.put d (a.eval x)) w):zbL B P ops Q (.read i p) a w:=zbi ho hw (fun _ _=>by simp [execOp]) h
theorem zbq {i:Nat} {p:Plan} {a:Act} {w:World} {d:Option Tmp} {op:Op} {ty:TypeId} {pos:String} {af:Array Edge} {gd:Option (Nat × Bool)}
 (ho:ops[i]?=some ⟨d,op,ty,pos,af,gd⟩) (hw:Region.wanted ⟨d,op,ty,pos,af,gd⟩ (yielded ops a.tmps)=true)
 (h:∀ K:Act→World→Prop,(∀ a' w',B.r w w'→zbL B P ops Q p a' w'→K a' w')→Oper.wp P ⟨d,op,ty,pos,af,gd⟩ a w K zlk):zbL B P ops Q (.main i p) a w:=by
 refine ⟨_,ho,?_⟩
 unfold comesUp
 rw [if_pos hw]
 exact h _ fun _ _ h1 h2=>⟨h1,h2⟩
theorem zcP {i:Nat} {p q:Plan} {a:Act} {w:World} (h:zbL B P ops Q (.main i p) a w) (h':zbL B P ops Q q a w):zbL B P ops Q (.alt i p q) a w:=⟨h,h'⟩
end
end Go.Proofs.YtioglicfndkgiaaGreatDoor
namespace Go.Proofs.YtioglicfndkgiaaGreatDoor
open Go.RowKit
open Go.Maps Go.MapKept
set_option maxRecDepth 100000
theorem mlawE:Keyed Tryz.prog 9:=string_keyed Tryz.underlying9
theorem zrQ (w:World):(zeroValue 44).run Tryz.prog w=.ok (.agg #[.string ⟨#[]⟩,.slice none 0 0]) w:=by kernel_rfl
def zpk (w:World) (e:Ending) (w':World):Prop:=∃ g B,e=.returned (.pointer (some ⟨g,0,none⟩))∧w'.heap[g]?=some (.cells #[.map (some B)] 84 (0,0))∧w'.heap[B]?=some (.map #[] 0)∧w.heap.size≤B∧B<g∧Ext w w'
theorem zsm (w:World):Calls Tryz.prog 36 #[] w (zpk w):=by
 have hmm:=@run_makeMap Tryz.prog
 go_enter Tryz.func36,Tryz.ntmps36
 go_wp2
 go_ret
 refine ⟨_,w.heap.size,rfl,?_,?_,Nat.le_refl _,by simp,(Ext.alloc _ _).trans (Ext.alloc _ _)⟩
 ·have:=heap_alloc_new (w.alloc (.map #[] 0)) (.cells #[.map (some w.heap.size)] 84)
  rwa [show (w.alloc (.map #[] 0)).heap.size=w.heap.size+1 by simp] at this
 ·exact ((Ext.alloc (w.alloc (.map #[] 0)) _).block _ (by simp)).trans (heap_alloc_new w _)
theorem zoH {w w':World} {o:Oper} {a:Act} {K:Act→World→Prop} {Q:Exit→Act→World→Prop} (T:TypeId) (m x v:Operand) (ho:o.op=.mapUpdate T m x v) {M X V:Value} (hm:a.eval m=M) (hx:a.eval x=X) (hv:a.eval v=V)
 (hrun:(Instr.mapUpdate T M X V).run Tryz.prog w=.ok () w') (h:K (a.put o.dst undef) w'):o.wp Tryz.prog a w K Q:=by
 unfold Oper.wp
 simp [execOp,ho,hm,hx,hv,hrun,Result.andThen]
 exact h
end Go.Proofs.YtioglicfndkgiaaGreatDoor
namespace Go.Proofs.YtioglicfndkgiaaGreatDoor.Drw
open Go
set_option maxRecDepth 100000
theorem zsT {α:Type} (k:Ask α):∀ w:World,w.drawn≤(w.ask k).2.drawn:=by
 induction k with
 | done a=>intro w;exact Nat.le_refl _
 | ask what range k ih=>
  intro w
  unfold World.ask
  simp only []
  split
  ·exact ih _ _
  ·exact Nat.le_trans (Nat.le_succ _) (ih _ { w with drawn:=w.drawn+1 })
theorem zsV (w:World) (c:Sys):w.drawn≤(w.sys c).2.drawn:=by
 unfold World.sys
 have h:=zsT (Kernel.perform c w.os) w
 split
 ·exact Nat.le_refl _
 ·rename_i h2
  rw [h2] at h
  exact h
theorem zkR (p:Program) (w:World) (at_:Addr) (u:TypeId) (k:Addr) (v:Value) (m:Bool) {w':World} {l:List Addr} (h:w.viewStore p at_ u k v m=.ok (w',l)):w.drawn≤w'.drawn:=by
 unfold World.viewStore at h
 simp only [bind,Except.bind,pure,Except.pure,throw,throwThe,MonadExceptOf.throw] at h
 repeat' first
  | (cases h;done)
  | (simp only [Except.ok.injEq,Prod.mk.injEq] at h;obtain ⟨rfl,_⟩:=h;exact Nat.le_refl _)
  | split at h
theorem zl4 (p:Program) (w:World) (a:Addr) (v:Value) (m:Bool) {w':World} {l:List Addr} (h:w.farStore p a v m=.ok (w',l)):w.drawn≤w'.drawn:=by
 unfold World.farStore at h
 split at h
 ·split at h
  ·rename_i h2
   cases h
   exact zkR p w _ _ _ _ _ h2
  ·cases h
 ·cases h
def resUp {α:Type} (n:Nat):Result α→Prop
 | .ok _ w=>n≤w.drawn
 | .halt _ w=>n≤w.drawn
theorem resUp.le {α:Type} {n m:Nat} {r:Result α} (h:resUp m r) (hn:n≤m):resUp n r:=by
 cases r <;> exact Nat.le_trans hn h
theorem zmC {α:Type} (p:Program) (s:Sem α):∀ w:World,resUp w.drawn (s.run p w):=by
 induction s with
 | pure a=>intro w;exact Nat.le_refl _
 | load m a k ih=>
  intro w
  unfold Sem.run
  repeat' first
   | exact ih _ _
   | exact Nat.le_refl _
   | split
 | store m a v k ih=>
  intro w
  have hs:(w.setCell a v).drawn=w.drawn:=rfl
  cases v <;> simp only [Sem.run]
  repeat' first
   | exact (ih _).le (Nat.le_of_eq hs.symm)
   | exact Nat.le_refl _
   | (rename_i h2;exact (ih _).le (zl4 p w _ _ _ h2))
   | split
 | new o k ih=>intro w;exact ih _ _
 | shape r k ih=>intro w;exact ih _ _
 | freeze a n k ih=>
  intro w
  have hs:(w.freeze a n).drawn=w.drawn:=by unfold World.freeze;split <;> rfl
  exact (ih _).le (Nat.le_of_eq hs.symm)
 | frozen a k ih=>intro w;exact ih _ _
 | getObj r k ih=>
  intro w
  unfold Sem.run
  repeat' first
   | exact ih _ _
   | exact Nat.le_refl _
   | split
 | setObj r o k ih=>
  intro w
  unfold Sem.run
  repeat' first
   | exact ih _
   | exact Nat.le_refl _
   | split
 | choose q k ih=>
  intro w
  unfold Sem.run
  split
  ·exact ih _ _
  ·exact (ih _ _).le (Nat.le_succ _)
 | sys c k ih=>intro w;exact (ih _ _).le (zsV w c)
 | program k ih=>intro w;exact ih _ _
 | mark m k ih=>intro w;exact ih _
 | halt h=>intro w;exact Nat.le_refl _
theorem zc7 {α:Type} {p:Program} {s:Sem α} {w w':World} {a:α} (h:s.run p w=.ok a w'):w.drawn≤w'.drawn:=by
 have:=zmC p s w
 rw [h] at this
 exact this
theorem zeA {α:Type} {p:Program} {s:Sem α} {w w':World} {a:Halt} (h:s.run p w=.halt a w'):w.drawn≤w'.drawn:=by
 have:=zmC p s w
 rw [h] at this
 exact this
def gUp (n:Nat):GStep→Prop
 | .go _ w _=>n≤w.drawn
 | .comm _ _ _ _ w _=>n≤w.drawn
 | .spawn _ _ w _=>n≤w.drawn
 | .count _ w _=>n≤w.drawn
 | .timer _ _ w _=>n≤w.drawn
 | .alone _ _ w _=>n≤w.drawn
 | .newcoro _ _ _ w _=>n≤w.drawn
 | .coroswitch _ _ _ w _=>n≤w.drawn
 | .collect _ w _=>n≤w.drawn
 | .watch _ w _=>n≤w.drawn
 | .ended _ _ _=>True
theorem gUp.after {n:Nat} {s:GStep} (es:Array Event) (h:gUp n s):gUp n (GStep.after es s):=by
 cases s <;> exact h
theorem gUp.le {n m:Nat} {s:GStep} (h:gUp m s) (hn:n≤m):gUp n s:=by
 cases s <;> first | exact trivial | exact Nat.le_trans hn h
theorem znw (n:Nat) (w:World) (fd:Nat) (text:ByteArray) (o:Outcome):gUp n (endWith w fd text o):=by
 unfold endWith
 simp only []
 repeat' first
  | exact trivial
  | split
theorem ze5 (p:Program) (fr:Frame) (v:Value) (w:World):gUp w.drawn (endPrinting p fr v w):=by
 unfold endPrinting endThrow dieOf
 simp only []
 repeat' first
  | exact trivial
  | exact Nat.le_refl _
  | split
theorem zdN (fr:Frame) (m:String) (w:World):gUp w.drawn (endThrow fr m w):=Nat.le_refl _
theorem zhd (p:Program) (fr:Frame) (cs:List Frame) (dy:Option Dying) (m:String) (w:World):gUp w.drawn (endFatal p fr cs dy m w):=by
 unfold endFatal dieOf
 simp only []
 repeat' first
  | exact trivial
  | exact zc7 (by assumption)
  | split
theorem znv (p:Program) (fr:Frame) (d:Dying) (f:Fatal) (w:World):gUp w.drawn (writeOn p fr d f w):=by
 unfold writeOn
 simp only [Sem.runT_eq]
 split
 ·exact trivial
 ·split <;> rename_i h <;> simp only [Prod.mk.injEq] at h <;> (try obtain ⟨h,_⟩:=h)
  ·exact zc7 h
  ·exact zeA h
  ·exact trivial
  ·exact trivial
theorem zsX (p:Program) (fr:Frame) (d:Dying) (w:World):gUp w.drawn (die p fr d w):=by
 unfold die
 simp only [Sem.runT_eq]
 repeat' first
  | exact trivial
  | exact Nat.le_refl _
  | exact zc7 (by assumption)
  | exact znv _ _ _ _ _
  | exact znw _ _ _ _ _
  | exact (ze5 _ _ _ _).le (zeA (by assumption))
  | refine gUp.after _ ?_
  | split
theorem zrg (p:Program) (fr:Frame) (cs:List Frame) (dy:Option Dying) (g:Nat) (w:World):gUp w.drawn (early p fr cs dy g w):=by
 unfold early
 simp only []
 repeat' first
  | exact trivial
  | exact Nat.le_refl _
  | exact zc7 (by assumption)
  | (simp only [gUp];exact zc7 (by assumption))
  | split
theorem zfl (p:Program) (main:Bool) (fr:Frame) (cs:List Frame) (dy:Option Dying) (v:Value) (w:World):gUp w.drawn (doReturn p main fr cs dy v w):=by
 unfold doReturn
 simp only []
 repeat' first
  | exact trivial
  | exact Nat.le_refl _
  | split
theorem zho (p:Program) (fr:Frame) (cs:List Frame) (dy:Option Dying) (d:Deferred) (w:World):gUp w.drawn (callDeferred p fr cs dy d w):=by
 unfold callDeferred
 simp only [Sem.runT_eq]
 have h:=zmC p (invoke d.target d.args) w
 generalize (invoke d.target d.args).run p w=r at h
 repeat' first
  | exact trivial
  | exact h
  | exact (zhd _ _ _ _ _ _).le h
  | exact (zdN _ _ _).le h
  | refine gUp.after _ ?_
  | split
theorem zpA (p:Program) (main:Bool) (fr:Frame) (cs:List Frame) (dy:Option Dying) (w:World):gUp w.drawn (unwind p main fr cs dy w):=by
 unfold unwind
 simp only [Sem.runT_eq]
 repeat' first
  | exact trivial
  | exact Nat.le_refl _
  | exact zc7 (by assumption)
  | exact zho _ _ _ _ _ _
  | exact zfl _ _ _ _ _ _ _
  | exact ze5 _ _ _ _
  | exact (zfl _ _ _ _ _ _ _).le (zc7 (by assumption))
  | refine gUp.after _ ?_
  | split
theorem zjl (p:Program) (b:Bool) (fr:Frame) (cs:List Frame) (dy:Option Dying) (s:Sem Next) (w:World):gUp w.drawn (stepG.apply p b fr cs dy s w):=by
 unfold stepG.apply
 cases b
 all_goals
  simp only [Sem.runT_eq,Bool.false_eq_true,if_false,if_true]
  refine gUp.after _ ?_
  repeat' first
   | exact trivial
   | exact zc7 (by assumption)
   | exact zeA (by assumption)
   | exact (zdN _ _ _).le (zc7 (by assumption))
   | exact (zdN _ _ _).le (zeA (by assumption))
   | exact (zhd _ _ _ _ _ _).le (zeA (by assumption))
   | exact (zrg _ _ _ _ _ _).le (zeA (by assumption))
   | split
theorem zsb (p:Program) (b:Bool) (fr:Frame) (cs:List Frame) (dy:Option Dying) (w:World):gUp w.drawn (stepG.oper p b fr cs dy w):=by
 unfold stepG.oper
 repeat' first
  | exact trivial
  | exact zjl _ _ _ _ _ _ _
  | split
theorem zsg {α:Type} {n:Nat} (o:Option α) (a:GStep) (f:α→GStep) (ha:gUp n a) (hf:∀ x,gUp n (f x)):gUp n (o.elim a f):=by
 cases o
 ·exact ha
 ·exact hf _
theorem zsz (p:Program) (main b:Bool) (fr:Frame) (cs:List Frame) (dy:Option Dying) (w:World):gUp w.drawn (stepG.exec p main b fr cs dy w):=by
 unfold stepG.exec
 simp only [Sem.runT_eq]
 repeat' first
  | exact trivial
  | exact Nat.le_refl _
  | exact zc7 (by assumption)
  | exact zeA (by assumption)
  | exact zsb _ _ _ _ _ _
  | exact zjl _ _ _ _ _ _ _
  | exact (zjl _ _ _ _ _ _ _).le (zc7 (by assumption))
  | exact (zfl _ _ _ _ _ _ _).le (zc7 (by assumption))
  | refine gUp.after _ ?_
  | refine zsg _ _ _ ?_ (fun _=>?_)
  | split
theorem zqL (p:Program) (main:Bool) (g:Goroutine) (w:World) (b:Bool):gUp w.drawn (stepG p main g w b):=by
 obtain ⟨fr,callers,status,dying,offers⟩:=g
 simp only [stepG]
 split
 ·exact zsX _ _ _ _
 ·exact zsz _ _ _ _ _ _ _
 ·exact zpA _ _ _ _ _ _
theorem zkn {rest:Rest} {cases:Array CommCase} {w w':World} (h:waitingAt rest cases w=some w'):w.drawn≤w'.drawn:=by
 unfold waitingAt at h
 repeat' first
  | (simp at h;done)
  | (simp only [Option.some.injEq] at h;subst h;exact Nat.le_refl _)
  | split at h
theorem zif (p:Program) (rest:Rest) (gs:Array Goroutine) (i:Nat) (g:Goroutine) (cases:Array CommCase) (blocking:Bool)
 (shape:CommShape) (w:World) (m':Machine) (h:(communicate p rest gs i g cases blocking shape w).1=.next m'):w.drawn≤m'.world.drawn:=by
 unfold communicate at h
 simp only [] at h
 repeat' first
  | (simp at h;done)
  | (simp only [Stepped.next.injEq] at h;subst h;simp only [];exact Nat.le_refl _)
  | (simp only [Stepped.next.injEq] at h;subst h;simp only [];exact zc7 (by assumption))
  | (simp only [Stepped.next.injEq] at h;subst h;simp only [];exact zkn (by assumption))
  | (simp only [Stepped.next.injEq] at h;subst h;simp only [];rename_i h1 _ _ _ _ h2;exact Nat.le_trans (zc7 (by assumption)) (zc7 h2))
  | (simp only [Stepped.next.injEq] at h;subst h;simp only [];rename_i h2;exact Nat.le_trans (zc7 (by assumption)) (zeA h2))
  | (simp only [Stepped.next.injEq] at h;subst h;simp only [];rename_i h2;exact Nat.le_trans (zc7 (by assumption)) (zc7 h2))
  | split at h
theorem zpj (p:Program) (gs:Array Goroutine) (rest:Rest) (w:World) (m':Machine) (h:look p gs rest w=.next m'):w.drawn≤m'.world.drawn:=by
 unfold look at h
 simp only [] at h
 repeat' first
  | (simp at h;done)
  | (simp only [Stepped.next.injEq] at h;subst h;simp only [];exact zc7 (by assumption))
  | split at h
theorem zoR {m m':Machine} {var:Addr} (h:timerOp.opened m var=some m'):m.world.drawn≤m'.world.drawn:=by
 unfold timerOp.opened at h
 repeat' first
  | (simp at h;done)
  | (simp only [Option.some.injEq] at h;subst h;exact Nat.le_refl _)
  | split at h
theorem zm4 (m m':Machine) (op:TimerOp) (v:Value) (h:timerOp m op=.ok (v,m')):m.world.drawn≤m'.world.drawn:=by
 unfold timerOp timerOp.named retime drain Machine.withTimers at h
 simp only [] at h
 repeat' first
  | (cases h;done)
  | (simp only [Except.ok.injEq,Prod.mk.injEq] at h;obtain ⟨_,rfl⟩:=h;exact Nat.le_refl _)
  | (simp only [Except.ok.injEq,Prod.mk.injEq] at h;obtain ⟨_,rfl⟩:=h;(try simp only []);exact zoR (by assumption))
  | split at h
theorem zqD (p:Program) (m m':Machine) (k:Nat) (h:serve p m k=.next m'):m.world.drawn≤m'.world.drawn:=by
 unfold serve at h
 simp only [] at h
 repeat' first
  | (simp at h;done)
  | (simp only [Stepped.next.injEq] at h;subst h;exact Nat.le_refl _)
  | split at h
theorem zlw {fr:Frame} {m:String} {w w':World} {g:Goroutine} {es:Array Event} (h:endThrow fr m w=.go g w' es):w.drawn≤w'.drawn:=by
 have:=zdN fr m w
 rw [h] at this
 exact this
theorem zsv (p:Program) (m m':Machine) (i:Nat) (b:Bool) (h:(runT p m i b).1=.next m'):m.world.drawn≤m'.world.drawn:=by
 simp only [runT] at h
 generalize m.gs.swapAt! _ _=gg at h
 have hs:=zqL p (i==0) gg.1 m.world b
 generalize stepG p _ gg.1 m.world b=s at hs h
 cases s <;> simp only [] at h
 all_goals first
  | (simp at h;done)
  | exact Nat.le_trans hs (zif _ _ _ _ _ _ _ _ _ _ h)
  | exact Nat.le_trans hs (zpj _ _ _ _ _ h)
  | (simp only [Stepped.next.injEq] at h;subst h;exact hs)
  | (repeat' first
      | (simp at h;done)
      | (simp only [Stepped.next.injEq] at h;subst h;exact hs)
      | (simp only [Stepped.next.injEq] at h;subst h;simp only [];refine Nat.le_trans hs ?_;have h9:=zm4 _ _ _ _ (by assumption);exact h9)
      | (simp only [Stepped.next.injEq] at h;subst h;simp only [];refine Nat.le_trans hs ?_;exact zlw (by assumption))
      | split at h)
theorem zsr (p:Program) (m m':Machine) (i:Nat) (h:askOn p m=.goroutine m' i):m.world.drawn≤m'.world.drawn:=by
 unfold askOn at h
 simp only [Machine.advanceTo] at h
 repeat' first
  | (simp at h;done)
  | (simp only [Move.goroutine.injEq] at h;obtain ⟨rfl,_⟩:=h)
  | split at h
 all_goals
  (try simp only [])
  repeat' first
   | exact Nat.le_refl _
   | refine Nat.le_trans ?_ (zc7 (by assumption))
   | (simp only [];refine Nat.le_trans ?_ (zc7 (by assumption)))
theorem zrV (p:Program) (m m':Machine) (ops:Array MemOp) (h:askOn p m=.machine (.next m') ops):m.world.drawn≤m'.world.drawn:=by
 unfold askOn at h
 simp only [Machine.advanceTo] at h
 repeat' first
  | (simp at h;done)
  | (simp only [Move.machine.injEq] at h;have:=zqD _ _ _ _ h.1;exact Nat.le_trans (zc7 (by assumption)) this)
  | (simp only [Move.machine.injEq,Stepped.next.injEq] at h;obtain ⟨rfl,_⟩:=h;simp only [])
  | split at h
 all_goals
  repeat' first
   | exact Nat.le_refl _
   | refine Nat.le_trans ?_ (zc7 (by assumption))
theorem zpE (p:Program) (m:Machine):(∃ m₂:Machine,m.world.drawn≤m₂.world.drawn∧ask p m=askOn p m₂)∨(∃ o w,ask p m=.machine (.ended o w) #[]):=by
 unfold ask
 split
 ·have h:=zmC p (choose (.extern "collector.look" 2)) m.world
  generalize (choose (.extern "collector.look" 2)).run p m.world=r at h
  cases r with
  | halt h w=>exact .inr ⟨_,_,rfl⟩
  | ok k world=>
   rcases k with _ | _ | k
   ·exact .inl ⟨{ m with world },h,rfl⟩
   ·simp only []
    cases hl:look p m.gs m.rest world with
    | next m₂=>exact .inl ⟨m₂,Nat.le_trans h (zpj _ _ _ _ _ hl),rfl⟩
    | ended o w=>exact .inr ⟨o,w,rfl⟩
   ·exact .inl ⟨{ m with world },h,rfl⟩
 ·exact .inl ⟨m,Nat.le_refl _,rfl⟩
theorem zs4 (p:Program) (m m':Machine) (i:Nat) (h:ask p m=.goroutine m' i):m.world.drawn≤m'.world.drawn:=by
 rcases zpE p m with ⟨m2,h3,h4⟩ | ⟨o,w,h4⟩
 ·rw [h4] at h
  exact Nat.le_trans h3 (zsr _ _ _ _ h)
 ·rw [h4] at h
  cases h
theorem zs1 (p:Program) (m m':Machine) (ops:Array MemOp) (h:ask p m=.machine (.next m') ops):m.world.drawn≤m'.world.drawn:=by
 rcases zpE p m with ⟨m2,h3,h4⟩ | ⟨o,w,h4⟩
 ·rw [h4] at h
  exact Nat.le_trans h3 (zrV _ _ _ _ h)
 ·rw [h4] at h
  cases h
theorem zsR (p:Program) (m m':Machine) (i:Nat) (h:move p m=.goroutine m' i):m.world.drawn≤m'.world.drawn:=by
 unfold move at h
 repeat' first
  | (simp at h;done)
  | (have:=zs4 p _ m' i h;exact this)
  | (simp only [Move.goroutine.injEq] at h;obtain ⟨rfl,_⟩:=h;exact Nat.le_refl _)
  | split at h
theorem zsO (p:Program) (m m':Machine) (ops:Array MemOp) (h:move p m=.machine (.next m') ops):m.world.drawn≤m'.world.drawn:=by
 unfold move at h
 repeat' first
  | (simp at h;done)
  | (have:=zs1 p _ m' ops h;exact this)
  | split at h
theorem zsh (p:Program) (m m':Machine) (h:step p m=.next m'):m.world.drawn≤m'.world.drawn:=by
 unfold step stepT at h
 cases hm:move p m with
 | goroutine m1 i=>
  rw [hm] at h
  exact Nat.le_trans (zsR p m m1 i hm) (zsv p m1 m' i true h)
 | machine s ops=>
  rw [hm] at h
  simp only [] at h
  subst h
  exact zsO p m m' ops hm
theorem zpm (p:Program):∀ (n:Nat) (m m':Machine),runN p n m=.next m'→m.world.drawn≤m'.world.drawn
 | 0,m,m',h=>by cases h;exact Nat.le_refl _
 | n+1,m,m',h=>by
  unfold runN at h
  split at h
  ·rename_i m1 h1
   exact Nat.le_trans (zsh p m m1 h1) (zpm p n m1 m' h)
  ·rename_i e h1
   exact absurd h (h1 m')
theorem calls_up {P:Program} {f:FuncId} {args:Array Value} {w:World} {R:Ending→World→Prop} (h:Calls P f args w R) :
 Calls P f args w fun e w'=>R e w'∧(∀ v,e=.returned v→w.drawn≤w'.drawn):=by
 intro cs
 obtain ⟨e,w',fr,hr,hc,rest⟩:=h cs
 refine ⟨e,w',fr,⟨hr,?_⟩,hc,rest⟩
 intro v hv
 subst hv
 obtain ⟨n,hn⟩:=hc
 exact zpm P n _ _ hn
end Go.Proofs.YtioglicfndkgiaaGreatDoor.Drw
namespace Go.Proofs.YtioglicfndkgiaaGreatDoor.Sxx
open Go Go.Sort Go.RowKit Go.Shelf
section
variable {α:Type} [Inhabited α] {enc:α→Value} {w:World} {g m:Nat} {dk:Array α} {os:Array Obj}
theorem zrm {k:Nat} (hk:k<w.heap.size) (hne:k≠g):(sortWorld enc w g 0 m dk os).heap[k]?=w.heap[k]?:=by
 unfold sortWorld
 rw [heap_grow_old _ _ (by rw [size_putRow];exact hk)]
 unfold putRow mapBlock Sort.ahead
 simp only [Array.getElem?_modify,if_neg (fun e=>hne (Eq.symm e))]
theorem zsB {cur:Array Value} {e:TypeId} {fr:Nat × Nat} (h:w.heap[g]?=some (.cells cur e fr)):(sortWorld enc w g 0 m dk os).heap[g]?=some (.cells (putCells enc 0 dk cur) e fr):=by
 have hk:=(Array.getElem?_eq_some_iff.1 h).1
 unfold sortWorld
 rw [heap_grow_old _ _ (by rw [size_putRow];exact hk)]
 unfold putRow mapBlock Sort.ahead
 simp only [Array.getElem?_modify,if_true,h,Option.map_some,onCells]
theorem sw_grown:w.grownBy (sortWorld enc w g 0 m dk os) (some g):=by
 refine ⟨rfl,rfl,rfl,?_,fun k hk hne=>zrm hk (fun e=>hne (by rw [e]))⟩
 unfold sortWorld
 rw [size_grow,size_putRow]
 exact Nat.le_add_right _ _
theorem zq7 (cur:Array Value) (h:dk.size≤cur.size):(putCells enc 0 dk cur).toList.take dk.size=dk.toList.map enc:=by
 apply List.ext_getElem?
 intro i
 rw [List.getElem?_map,List.getElem?_take,Array.getElem?_toList,Array.getElem?_toList]
 by_cases hi:i<dk.size
 ·rw [if_pos hi]
  unfold putCells
  rw [Array.getElem?_mapIdx,Array.getElem?_eq_getElem (Nat.lt_of_lt_of_le hi h),Array.getElem?_eq_getElem hi]
  simp [hi]
 ·rw [if_neg hi,Array.getElem?_eq_none (by omega)]
  rfl
theorem sw_own {base n cap:Nat} {e:TypeId} {xs:List Value} (h:w.ownsRow base e 1 (.slice (some ⟨g,0,none⟩) n cap) n xs) (hn:dk.size=n) :
 (sortWorld enc w g 0 m dk os).ownsRow base e 1 (.slice (some ⟨g,0,none⟩) n cap) n (dk.toList.map enc):=by
 refine ⟨by simp [hn],?_⟩
 rcases h.2 with ⟨h',_⟩ | ⟨g',cap',cur,h',hb,hg,hnc,hcm,hcs,htake⟩
 ·cases h'
 ·simp only [Value.slice.injEq,Option.some.injEq,Addr.mk.injEq,and_true,true_and] at h'
  obtain ⟨rfl,rfl⟩:=h'
  refine .inr ⟨g,cap,_,rfl,hb,zsB hg,hnc,hcm,by unfold putCells;rw [Array.size_mapIdx];exact hcs,?_⟩
  rw [Nat.mul_one,← hn]
  exact zq7 cur (by rw [hcs,hn];omega)
theorem own_holds {base n cap:Nat} {e:TypeId} (h:w.ownsRow base e 1 (.slice (some ⟨g,0,none⟩) n cap) n (dk.toList.map enc)):Holds enc w g 0 dk∧base≤g∧g<w.heap.size∧dk.size=n∧n≤maxLen:=by
 have hl:=h.1
 rw [List.length_map,Nat.mul_one,Array.length_toList] at hl
 rcases h.2 with ⟨h',_⟩ | ⟨g',cap',cur,h',hb,hg,hnc,hcm,hcs,htake⟩
 ·cases h'
 ·simp only [Value.slice.injEq,Option.some.injEq,Addr.mk.injEq,and_true,true_and] at h'
  obtain ⟨rfl,rfl⟩:=h'
  refine ⟨fun j hj=>?_,hb,(Array.getElem?_eq_some_iff.1 hg).1,hl,Nat.le_trans hnc hcm⟩
  have e1:cur[j]?=some (enc dk[j]!):=by
   have:=congrArg (·[j]?) htake
   simp only [List.getElem?_take,List.getElem?_map,Array.getElem?_toList] at this
   rw [if_pos (by omega),Array.getElem?_eq_getElem hj] at this
   rw [this,getElem!_pos dk j hj]
   rfl
  refine ⟨?_,?_⟩
  ·simp [World.cell?,hg,e1]
  ·simp [World.frozen?,hg]
theorem permIn_perm {d d':Array α} (h:PermIn 0 d.size d d'):d'.toList.Perm d.toList:=by
 obtain ⟨h1,_,h3⟩:=h
 have e:d'.extract 0 d.size=d':=by rw [← h1];simp
 rw [e] at h3
 simpa using h3
theorem sortedIn_pairwise {lt:α→α→Bool} {d':Array α} {n:Nat} (hn:n=d'.size) (h:SortedIn lt 0 n d'):d'.toList.Pairwise fun x y=>lt y x=false:=by
 rw [List.pairwise_iff_getElem]
 intro i j hi hj hij
 have:=h i j (Nat.zero_le _) hij (by rw [hn];simpa using hj)
 rw [getElem!_pos d' i (by simpa using hi),getElem!_pos d' j (by simpa using hj)] at this
 simpa using this
end
theorem grown_of_ext {w w':World} (h:Go.RowKit.Below w.heap.size w w') (hd:w.drawn≤w'.drawn):∃ q os,w'=grow (w.drewN q) os:=by
 obtain ⟨p,hp⟩:=regrown_of_below h
 refine ⟨w'.drawn-w.drawn,p.os,?_⟩
 have hdr:w'.drawn=p.d:=by rw [hp];rfl
 have e:redrawn w p.d=w.drewN (w'.drawn-w.drawn):=by
  unfold redrawn World.drewN
  rw [show w.drawn+(w'.drawn-w.drawn)=p.d by omega]
 rw [← e]
 exact hp
end Go.Proofs.YtioglicfndkgiaaGreatDoor.Sxx
namespace Go.Proofs.YtioglicfndkgiaaGreatDoor
open Go.RowKit
open Go.Maps
set_option maxRecDepth 100000
def MSet (w:World) (B n:Nat) (l:List ByteArray):Prop:=
 ∃ D:DataW Unit,w.ownsMap Tryz.prog 9 (plainElem Tryz.prog 4) B n D∧IsMap D∧∀ s:ByteArray,s.size≤maxLen→D.atKey (.string s.data.toList) (.lit (.bool false))=.lit (.bool (l.any (fun t=>decide (t=s))))
theorem mlaw:Keyed Tryz.prog 9:=string_keyed Tryz.underlying9
theorem zdj {P:Program} {e:TypeId} (he:P.underlying e=some .bool) {v:Value} {z:DataW Unit × List MemPlace} (h:plainElem P e v=some z):∃ a,v=.bool a∧z=(.lit (.bool a),[]):=by
 unfold plainElem at h
 rw [he] at h
 cases v <;> simp at h
 exact ⟨_,rfl,h.symm⟩
theorem MSet.made (w:World):MSet (w.alloc (.map #[] 0)) w.heap.size 0 []:=
 ⟨.map [],World.ownsMap_made _ _ _ _,⟨[],rfl⟩,fun s _=>by simp [DataW.atKey]⟩
theorem MSet.kept {w w':World} {B n:Nat} {l:List ByteArray} {row:Option Nat} (h:MSet w B n l) (hg:w.grownBy w' row) (hne:some B≠row):MSet w' B n l:=by
 obtain ⟨D,h1,h2,h3⟩:=h
 exact ⟨D,h1.kept hg hne,h2,h3⟩
section
variable {w:World} {ops:Array Oper} {rest:List Oper} {o:Oper} {a:Act} {Q:Exit→Act→World→Prop} {B n:Nat} {l:List ByteArray}
theorem zqa (hg:o.guard=none) (m x:Operand) (hop:o.op=Op.lookup 87 m x false) (h:MSet w B n l) (hm:a.eval m=.map (some B)) (s:ByteArray) (hs:s.size≤maxLen) (hx:a.eval x=.string s)
 (hK:wpList Tryz.prog ops Q rest (a.put o.dst (.bool (l.any (fun t=>decide (t=s))))) w):wpList Tryz.prog ops Q (o::rest) a w:=by
 obtain ⟨D,h1,h2,h3⟩:=h
 have hz:(zeroValue 4).run Tryz.prog w=.ok (.bool false) w:=by kernel_rfl
 obtain ⟨v,ps,hrun,hv⟩:=h1.lookup mlaw Tryz.underlying87 hz (plainElem_bool Tryz.underlying4 false) (key:=.string s) (kl:=.string s.data.toList) (WideMaps.keyOf_string_mk Tryz.underlying9 hs)
 rw [h3 s hs] at hv
 obtain ⟨b,rfl,hb⟩:=zdj Tryz.underlying4 hv
 simp at hb
 obtain ⟨hb,-⟩:=hb
 subst hb
 refine wpList_plain hg fun K' hK'=>?_
 unfold Oper.wp
 simp [execOp,hop,hm,hx,hrun,Result.andThen]
 exact hK' _ _ (by simpa using hK)
theorem zqy (hg:o.guard=none) (m x v:Operand) (hop:o.op=Op.mapUpdate 87 m x v) (h:MSet w B n l) (hn:n<maxLen) (hm:a.eval m=.map (some B)) (s:ByteArray) (hs:s.size≤maxLen) (hx:a.eval x=.string s) (hv:a.eval v=.bool true)
 (hK:∀ w',MSet w' B (n+1) (l++[s])→w.grownBy w' (some B)→wpList Tryz.prog ops Q rest (a.put o.dst undef) w'):wpList Tryz.prog ops Q (o::rest) a w:=by
 obtain ⟨D,h1,h2,h3⟩:=h
 refine wpList_mapUpdate_own _ hg m x v 87 hop 9 4 mlaw Tryz.underlying87 _ B n D hm h1 hn (.string s) (.bool true) (.string s.data.toList) hx hv (WideMaps.keyOf_string_mk Tryz.underlying9 hs) _ [] (plainElem_bool Tryz.underlying4 true) ?_
 intro w' ho hgr
 refine hK w' ⟨_,ho,ho.isMap,fun u hu=>?_⟩ hgr
 by_cases he:u=s
 ·subst he
  rw [atKey_put_same h2 (by trivial)]
  simp [List.any_append]
 ·rw [atKey_put_other (fun e=>he (by injection e with e;exact ByteArray.ext (Array.ext' (by simpa using e)))),h3 u hu]
  have e2:decide (s=u)=false:=decide_eq_false (fun e=>he e.symm)
  simp [List.any_append,e2]
end
end Go.Proofs.YtioglicfndkgiaaGreatDoor
namespace Go.Proofs.YtioglicfndkgiaaGreatDoor.bulks
theorem zsW {H:Type} (d:DataW H):1≤Rows.uptoBulk d:=by
 cases d with
 | lit l=>cases l <;> simp [Rows.uptoBulk]
 | nil=>simp [Rows.uptoBulk]
 | ptr d=>simp [Rows.uptoBulk]
 | slice elems spare=>simp [Rows.uptoBulk]
 | agg parts=>simp [Rows.uptoBulk]
 | iface t d=>simp [Rows.uptoBulk]
 | map entries=>simp [Rows.uptoBulk]
 | held h=>simp [Rows.uptoBulk]
theorem part_le {H:Type} {d:DataW H} {l:List (DataW H)} (h:d∈l):Rows.uptoBulk d≤Rows.uptoBulkAll l:=by
 induction l with
 | nil=>cases h
 | cons x r ih=>
  simp only [Rows.uptoBulkAll]
  cases List.mem_cons.1 h with
  | inl e=>subst e;omega
  | inr e=>have:=ih e;omega
theorem zkl {H:Type} (l:List (DataW H)):l.length≤Rows.uptoBulkAll l:=by
 induction l with
 | nil=>simp [Rows.uptoBulkAll]
 | cons x r ih=>have:=zsW x;simp only [Rows.uptoBulkAll,List.length_cons];omega
theorem slice_le {H:Type} (elems spare:List (DataW H)):elems.length+spare.length+1≤Rows.uptoBulk (.slice elems spare):=by
 have h1:=zkl elems
 have h2:=zkl spare
 simp only [Rows.uptoBulk]
 omega
theorem slice_elems {H:Type} (elems spare:List (DataW H)):Rows.uptoBulkAll elems+1≤Rows.uptoBulk (.slice elems spare):=by
 simp only [Rows.uptoBulk]
 omega
theorem bound {H:Type} {l:List (DataW H)} (hk:Rows.uptoSmall H l=true):Rows.uptoBulkAll l≤1048576:=of_decide_eq_true hk
end Go.Proofs.YtioglicfndkgiaaGreatDoor.bulks
namespace Go.Proofs.YtioglicfndkgiaaGreatDoor
open Go.RowKit Go.ChangeShapes Go.WideShapes Go.Deep
set_option maxRecDepth 10000
theorem zim {k:Nat}:∀ {vss:List (List Value)},(∀ v∈vss,v.length=k)→∀ {j:Nat} {u:Value},vss.flatten[j]?=some u→∃ i r v,vss[i]?=some v∧v[r]?=some u∧j=i * k+r∧r<k
 | [],_,j,u,h=>by simp at h
 | v0::vss,hl,j,u,h=>by
  have h0:=hl v0 (by simp)
  rw [List.flatten_cons] at h
  rcases Nat.lt_or_ge j v0.length with hj | hj
  ·rw [List.getElem?_append_left hj] at h
   exact ⟨0,j,v0,rfl,h,by omega,by omega⟩
  ·rw [List.getElem?_append_right hj] at h
   obtain ⟨i,r,v,h1,h2,h3,h4⟩:=zim (fun v hv=>hl v (by simp [hv])) h
   exact ⟨i+1,r,v,by simpa using h1,h2,by rw [Nat.succ_mul];omega,h4⟩
section
variable {H:Type} {enc:TypeId × Value→H} {W:World}
theorem zeH {α:Type} (E:Elem α) (Q:α→Prop) {t e:TypeId} (ht:Tryz.prog.underlying t=some (.slice e)) (hk:Tryz.prog.cellsOf e=E.k) {M:Nat}
 (hE:∀ (n:Nat) cs (x:DataW H × List MemPlace),DataW.trod enc Tryz.prog W 0 (fun _=>true) true n e cs=some x→Rows.uptoBulk x.1<M→∃ a,E.R (fun _=>True) W cs a∧Q a)
 {fuel:Nat} {cs:List Value} {x:DataW H × List MemPlace} (h:DataW.trod enc Tryz.prog W 0 (fun _=>true) true fuel t cs=some x) (hM:Rows.uptoBulk x.1≤M) :
 ∃ A n c l,cs=[.slice A n c]∧Row E (fun _=>True) W A n c l∧l.length≤M∧∀ a∈l,Q a:=by
 rcases open_slice ht h with ⟨rfl,rfl⟩ | ⟨a,len,cap,m,n,D,Pl,rfl,-,hl,hm,hmm,rfl,hx⟩
 ·exact ⟨none,0,0,[],rfl,Row.nil E _ W,by simp,by simp⟩
 ·simp only [if_true] at hmm
  subst hmm
  have hb:=bulks.slice_le (H:=H) ((List.range len).map D) ((List.range (m-len)).map fun j=>D (len+j))
  have hb2:=bulks.slice_elems (H:=H) ((List.range len).map D) ((List.range (m-len)).map fun j=>D (len+j))
  simp only [List.length_map,List.length_range] at hb
  simp only [] at hM
  have hD:∀ i,i<len→Rows.uptoBulk (D i)<M:=fun i hi=>by
   have:=bulks.part_le (d:=D i) (l:=(List.range len).map D) (List.mem_map.2 ⟨i,List.mem_range.2 hi,rfl⟩)
   omega
  rcases Nat.eq_zero_or_pos len with h0 | h0
  ·subst h0
   exact ⟨some a,0,m,[],rfl,⟨rfl,Nat.zero_le _,hm,[],rfl,.inl rfl,fun i v x hi=>by simp at hi⟩,by simp,by simp⟩
  ·have hone:∀ i,i<len→∃ y:List Value × α,W.cells? 0 (a.add (i * E.k)) E.k=some y.1∧E.R (fun _=>True) W y.1 y.2∧Q y.2:=fun i hi=>by
    obtain ⟨cs',h1,h2⟩:=hx i (by omega)
    rw [hk] at h1
    obtain ⟨o,hR,hQ⟩:=hE n cs' _ h2 (hD i hi)
    exact ⟨(cs',o),h1,hR,hQ⟩
   haveI:Inhabited α:=⟨(hone 0 h0).choose.2⟩
   obtain ⟨f,hf⟩:=choose_lt hone
   have hspot:∃ b off,a=⟨b,off,none⟩:=by
    obtain ⟨h1,-,-⟩:=hf 0 h0
    obtain ⟨-,hlen,hc⟩:=World.cells?_some h1
    have h2:=hc 0 E.pos
    rw [List.getElem?_eq_getElem (by rw [hlen];exact E.pos)] at h2
    obtain ⟨b,off,spot⟩:=a
    have hs:spot=none:=by simpa [Addr.add] using World.cell?_spot h2
    exact ⟨b,off,by rw [hs]⟩
   obtain ⟨b,off,rfl⟩:=hspot
   have hall:∀ v∈(List.range len).map fun i=>(f i).1,v.length=E.k:=fun v hv=>by
    obtain ⟨i,hi,rfl⟩:=List.mem_map.1 hv
    exact E.len (hf i (List.mem_range.1 hi)).2.1
   refine ⟨_,_,_,(List.range len).map fun i=>(f i).2,rfl,⟨by simp,hl,hm,(List.range len).map fun i=>(f i).1,by simp,.inr ⟨b,off,rfl,trivial,fun j u hj=>?_⟩,fun i v x hi hx=>?_⟩,by simp;omega,fun o ho=>?_⟩
   ·obtain ⟨i,r,v,h1,h2,rfl,hr⟩:=zim hall hj
    have hi:i<len:=by have:=(List.getElem?_eq_some_iff.1 h1).1;simpa using this
    have hv:v=(f i).1:=by simpa [hi] using h1.symm
    obtain ⟨-,-,hc⟩:=World.cells?_some (hf i hi).1
    have:=hc r hr
    rw [add_add,zeJ] at this
    rw [this,← hv,h2]
   ·have hi':i<len:=by have:=(List.getElem?_eq_some_iff.1 hi).1;simpa using this
    have h1:v=(f i).1:=by simpa [hi'] using hi.symm
    have h2:x=(f i).2:=by simpa [hi'] using hx.symm
    subst h1 h2
    exact (hf i hi').2.1
   ·obtain ⟨i,hi,rfl⟩:=List.mem_map.1 ho
    exact (hf i (List.mem_range.1 hi)).2.2
theorem ziX {t:TypeId} {fs:Array Field} (ht:Tryz.prog.underlying t=some (.struct fs)) {M:Nat} {fuel:Nat} {cs:List Value} {x:DataW H × List MemPlace}
 (h:DataW.trod enc Tryz.prog W 0 (fun _=>true) true fuel t cs=some x) (hM:Rows.uptoBulk x.1≤M) :
 cs.length=Tryz.prog.cellsOf t∧∀ (i:Nat) (f:Field),fs[i]?=some f→∃ m y,DataW.trod enc Tryz.prog W 0 (fun _=>true) true m f.type ((cs.drop f.offset).take (Tryz.prog.cellsOf f.type))=some y∧Rows.uptoBulk y.1<M:=by
 obtain ⟨xs,n,-,rfl,hl,hlen,hf⟩:=DataW.trod_struct ht h
 refine ⟨hl,fun i f hi=>?_⟩
 have hi':i<xs.length:=by rw [hlen];exact (Array.getElem?_eq_some_iff.1 hi).1
 have h1:=hf i f hi
 rw [List.getElem?_eq_getElem hi'] at h1
 refine ⟨n,xs[i],h1,?_⟩
 have h2:=bulks.part_le (d:=xs[i].1) (l:=xs.map (·.1)) (List.mem_map.2 ⟨_,List.getElem_mem hi',rfl⟩)
 simp only [Rows.uptoBulk] at hM
 omega
theorem zeQ {t:TypeId} (ht:Tryz.prog.underlying t=some .string) {M:Nat} {fuel:Nat} {cs:List Value} {x:DataW H × List MemPlace}
 (h:DataW.trod enc Tryz.prog W 0 (fun _=>true) true fuel t cs=some x) (hM:Rows.uptoBulk x.1≤M):∃ s:ByteArray,cs=[.string s]∧s.size<M:=by
 obtain ⟨s,rfl,rfl,-⟩:=DataW.trod_string ht h
 exact ⟨s,rfl,by simp only [Rows.uptoBulk,Array.length_toList] at hM;exact hM⟩
theorem zqI {t:TypeId} (ht:Tryz.prog.underlying t=some (.int .i64)) {fuel:Nat} {cs:List Value} {x:DataW H × List MemPlace}
 (h:DataW.trod enc Tryz.prog W 0 (fun _=>true) true fuel t cs=some x):∃ k:Int,cs=[.int .i64 k]∧-9223372036854775808≤k∧k≤9223372036854775807:=by
 obtain ⟨s,rfl,rfl,hw⟩:=DataW.trod_int ht h
 refine ⟨s,rfl,?_⟩
 simp only [Lit.wf,Bool.and_eq_true] at hw
 exact ⟨of_decide_eq_true hw.1,of_decide_eq_true hw.2⟩
theorem drop_one {cs:List Value} {i k j:Nat} {v:Value} (h:(cs.drop i).take k=[v]) (hk:k=1) (hj:i+1=j):cs.drop i=v::cs.drop j:=by
 subst hk hj
 have h1:=List.take_append_drop 1 (cs.drop i)
 rw [h,List.drop_drop] at h1
 exact h1.symm
theorem zjw {cs:List Value} {n k:Nat} (h:cs.length=k) (hk:k=n):cs.drop n=[]:=List.drop_eq_nil_of_le (by omega)
end
end Go.Proofs.YtioglicfndkgiaaGreatDoor
namespace Go.Proofs.YtioglicfndkgiaaGreatDoor
open Go.RowKit Go.ChangeShapes Go.WideShapes Go.Deep
set_option maxRecDepth 100000
def zsK (s:ByteArray):Prop:=s.size≤1048576
def zsq (a:Att):Prop:=a.type.size≤1048576∧a.vals.length≤1048576∧∀ v∈a.vals,v.size≤1048576
def zno (e:Ent):Prop:=e.name.size≤1048576∧e.atts.length≤1048576∧∀ a∈e.atts,zsq a
section
variable {H:Type} {enc:TypeId × Value→H} {W:World}
theorem zpo {M:Nat} (hM0:M≤1048576) {fuel:Nat} {cs:List Value} {x:DataW H × List MemPlace} (h:DataW.trod enc Tryz.prog W 0 (fun _=>true) true fuel 9 cs=some x) (hM:Rows.uptoBulk x.1≤M):∃ s:ByteArray,Elem.str.R (fun _=>True) W cs s∧zsK s:=by
 obtain ⟨s,e0,q0⟩:=zeQ Tryz.underlying9 h hM
 exact ⟨s,e0,Nat.le_trans (Nat.le_of_lt q0) hM0⟩
theorem zqU {M:Nat} (hM0:M≤1048576) {fuel:Nat} {cs:List Value} {x:DataW H × List MemPlace} (h:DataW.trod enc Tryz.prog W 0 (fun _=>true) true fuel 57 cs=some x) (hM:Rows.uptoBulk x.1≤M):∃ a:Att,Elem.att.R (fun _=>True) W cs a∧zsq a:=by
 obtain ⟨hl,hf⟩:=ziX Tryz.underlying57 h hM
 obtain ⟨m0,y0,h0,b0⟩:=hf 0 _ rfl
 obtain ⟨s,e0,q0⟩:=zeQ Tryz.underlying9 h0 (Nat.le_of_lt b0)
 obtain ⟨m1,y1,h1,b1⟩:=hf 1 _ rfl
 obtain ⟨A,n,c,l,e1,r1,l1,q1⟩:=zeH Elem.str zsK Tryz.underlying55 (by kernel_rfl) (fun n cs x hx hb=>zpo (M:=1048576) (Nat.le_refl _) hx (by omega)) h1 (Nat.le_of_lt b1)
 have hcs:cs.drop 0=[.string s,.slice A n c]:=by rw [drop_one (i:=0) (j:=1) e0 (by kernel_rfl) rfl,drop_one (i:=1) (j:=2) e1 (by kernel_rfl) rfl,zjw (n:=2) hl (by kernel_rfl)]
 rw [List.drop_zero] at hcs
 exact ⟨⟨s,l⟩,⟨A,n,c,hcs,r1⟩,Nat.le_trans (Nat.le_of_lt q0) hM0,Nat.le_trans l1 hM0,q1⟩
theorem zmX {M:Nat} (hM0:M≤1048576) {fuel:Nat} {cs:List Value} {x:DataW H × List MemPlace} (h:DataW.trod enc Tryz.prog W 0 (fun _=>true) true fuel 44 cs=some x) (hM:Rows.uptoBulk x.1≤M):∃ a:Ent,Elem.ent.R (fun _=>True) W cs a∧zno a:=by
 obtain ⟨hl,hf⟩:=ziX Tryz.underlying44 h hM
 obtain ⟨m0,y0,h0,b0⟩:=hf 0 _ rfl
 obtain ⟨s,e0,q0⟩:=zeQ Tryz.underlying9 h0 (Nat.le_of_lt b0)
 obtain ⟨m1,y1,h1,b1⟩:=hf 1 _ rfl
 obtain ⟨A,n,c,l,e1,r1,l1,q1⟩:=zeH Elem.att zsq Tryz.underlying42 (by kernel_rfl) (fun n cs x hx hb=>zqU (M:=1048576) (Nat.le_refl _) hx (by omega)) h1 (Nat.le_of_lt b1)
 have hcs:cs.drop 0=[.string s,.slice A n c]:=by rw [drop_one (i:=0) (j:=1) e0 (by kernel_rfl) rfl,drop_one (i:=1) (j:=2) e1 (by kernel_rfl) rfl,zjw (n:=2) hl (by kernel_rfl)]
 rw [List.drop_zero] at hcs
 exact ⟨⟨s,l⟩,⟨A,n,c,hcs,r1⟩,Nat.le_trans (Nat.le_of_lt q0) hM0,Nat.le_trans l1 hM0,q1⟩
end
end Go.Proofs.YtioglicfndkgiaaGreatDoor
