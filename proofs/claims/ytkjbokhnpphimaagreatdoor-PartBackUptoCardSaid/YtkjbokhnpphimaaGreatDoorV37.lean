/- Lemmas of the walk. -/
import Derived.Test.YtkjbokhnpphimaaGreatDoorV34
import Derived.Test.YtkjbokhnpphimaaGreatDoorV35
import Derived.Test.YtkjbokhnpphimaaGreatDoorV36
set_option maxHeartbeats 40000000
set_option linter.unusedVariables false
set_option linter.unusedSimpArgs false
namespace Go.Proofs.YtkjbokhnpphimaaGreatDoor
section
open Go.RowKit
open Go.Maps Go.MapKept Go.WideShapes Go.ChangeShapes Go.ChangeMaps
open Go.WideElems (rd_mk)
set_option maxRecDepth 100000
def oneR:Value→Option (DataW Unit×List MemPlace):=fun _=>some (.lit (.bool true),[])
structure MapAt(w:World)(B:Nat)(es:Array MapEntry)(clock:Nat):Prop where
 blk:w.heap[B]?=some (.map es clock)
 fit:WideElems.Fit Tryz.prog 9 oneR es clock
theorem MapAt.ext{w w':World}{B:Nat}{es:Array MapEntry}{clock:Nat}(h:MapAt w B es clock)(hx:Ext w w'):MapAt w' B es clock:=
 ⟨(hx.block B (Array.getElem?_eq_some_iff.1 h.blk).1).trans h.blk,h.fit⟩
theorem MapAt.lt{w:World}{B:Nat}{es:Array MapEntry}{clock:Nat}(h:MapAt w B es clock):B<w.heap.size:=(Array.getElem?_eq_some_iff.1 h.blk).1
theorem zi1(s:ByteArray)(hs:s.size≤maxLen):keyOf Tryz.prog 9 (.string s)=some (.string s.data.toList):=WideMaps.keyOf_string_mk Tryz.underlying9 hs
theorem MapAt.look{w:World}{B:Nat}{es:Array MapEntry}{clock:Nat}(h:MapAt w B es clock)(s:ByteArray)(hs:s.size≤maxLen) :
 ((Instr.lookup 111 (.map (some B)) (.string s) true).run Tryz.prog w=.ok (.tuple #[.agg #[.string ⟨#[]⟩,.slice none 0 0],.bool false]) w∧∀x∈es.toList,x.key≠.string s) ∨
 ∃x∈es.toList,x.key=.string s∧(Instr.lookup 111 (.map (some B)) (.string s) true).run Tryz.prog w=.ok (.tuple #[x.val,.bool true]) w:=by
 rcases Maps.fit_look true mlawE Tryz.underlying111 (zsq w) h.blk h.fit (zi1 s hs) with⟨h1,h2,-⟩|⟨x,y,h1,h2,h3,-⟩
 ·exact .inl ⟨h1,h2⟩
 ·exact .inr ⟨x,h1,h2,h3⟩
theorem zdS:∀{l:List MapEntry},l.Pairwise (fun x y=>x.key≠y.key)→∀{x y:MapEntry},x∈l→y∈l→x.key=y.key→x=y
 |[],_,_,_,hx,_,_=>by simp at hx
 |a::r,hp,x,y,hx,hy,h=>by
  obtain⟨h1,h2⟩:=List.pairwise_cons.1 hp
  rcases List.mem_cons.1 hx with ex|hx'
  ·rcases List.mem_cons.1 hy with ey|hy'
   ·rw[ex,ey]
   ·exact absurd (ex ▸ h) (h1 y hy')
  ·rcases List.mem_cons.1 hy with ey|hy'
   ·exact absurd (ey ▸ h).symm (h1 x hx')
   ·exact zdS h2 hx' hy' h
theorem MapAt.put{w:World}{B:Nat}{es:Array MapEntry}{clock:Nat}(h:MapAt w B es clock)(hz:es.size<maxLen)(s:ByteArray)(hs:s.size≤maxLen)(hnew:∀x∈es.toList,x.key≠.string s)(v:Value) :
 (Instr.mapUpdate 111 (.map (some B)) (.string s) v).run Tryz.prog w=.ok () (setBlock w B (.map (es.push ⟨.string s,v,clock⟩) (clock+1)))∧MapAt (setBlock w B (.map (es.push ⟨.string s,v,clock⟩) (clock+1))) B (es.push ⟨.string s,v,clock⟩) (clock+1):=by
 have F:=h.fit
 rcases mlawE.find w (zi1 s hs) es.toList F.keys with⟨h1,h2⟩|⟨j,e0,h1,h2,h3⟩
 ·refine⟨?_,heap_setBlock_same h.blk _,⟨by simp;omega,stamped_push F.stamped hnew,?_⟩⟩
  ·simp[Instr.mapUpdate,run_underlying Tryz.underlying111,MapKept.run_getObj_map h.blk,mlawE.check w false (zi1 s hs),h1,MapKept.run_setObj_map _ h.blk,Result.andThen,setBlock]
  ·intro x hx
   simp only[Array.toList_push,List.mem_append,List.mem_singleton] at hx
   rcases hx with hx|rfl
   ·exact F.reads x hx
   ·exact⟨_,rd_mk (zi1 s hs) rfl⟩
 ·exact absurd h3 (hnew e0 (List.mem_of_getElem? h2))
def EntV(S:Nat→Prop)(w:World)(v:Value)(e:Ent):Prop:=∃A n c,v=.agg #[.string e.name,.slice A n c]∧Row Elem.att S w A n c e.atts
theorem EntV.same{S:Nat→Prop}{w w':World}{v:Value}{e:Ent}(h:EntV S w v e)(hx:Same S w w'):EntV S w' v e:=by
 obtain⟨A,n,c,h1,h2⟩:=h
 exact⟨A,n,c,h1,h2.same hx⟩
theorem EntV.ext{S:Nat→Prop}{w w':World}{v:Value}{e:Ent}(h:EntV S w v e)(hx:Ext w w'):EntV S w' v e:=by
 obtain⟨A,n,c,h1,h2⟩:=h
 exact⟨A,n,c,h1,h2.ext hx⟩
def Ents(S:Nat→Prop)(w:World)(es:Array MapEntry)(l:List Ent):Prop:=es.toList.length=l.length∧∀(i:Nat) x e,es.toList[i]?=some x→l[i]?=some e→x.key=.string e.name∧EntV S w x.val e
theorem Ents.same{S:Nat→Prop}{w w':World}{es:Array MapEntry}{l:List Ent}(h:Ents S w es l)(hx:Same S w w'):Ents S w' es l:=⟨h.1,fun i x e h1 h2=>⟨(h.2 i x e h1 h2).1,(h.2 i x e h1 h2).2.same hx⟩⟩
theorem Ents.ext{S:Nat→Prop}{w w':World}{es:Array MapEntry}{l:List Ent}(h:Ents S w es l)(hx:Ext w w'):Ents S w' es l:=⟨h.1,fun i x e h1 h2=>⟨(h.2 i x e h1 h2).1,(h.2 i x e h1 h2).2.ext hx⟩⟩
theorem Ents.of_mem{S:Nat→Prop}{w:World}{es:Array MapEntry}{l:List Ent}(h:Ents S w es l){x:MapEntry}(hx:x∈es.toList):∃(i:Nat) (e:Ent),es.toList[i]?=some x∧l[i]?=some e∧x.key=.string e.name∧EntV S w x.val e:=by
 obtain⟨i,hi⟩:=List.getElem?_of_mem hx
 have hl:=(List.getElem?_eq_some_iff.1 hi).1
 obtain⟨e,he⟩:∃e,l[i]?=some e:=⟨_,List.getElem?_eq_getElem (by rw[←h.1];exact hl)⟩
 exact⟨i,e,hi,he,h.2 i x e hi he⟩
theorem Ents.of_ent{S:Nat→Prop}{w:World}{es:Array MapEntry}{l:List Ent}(h:Ents S w es l){e:Ent}(he:e∈l):∃x∈es.toList,x.key=.string e.name∧EntV S w x.val e:=by
 obtain⟨i,hi⟩:=List.getElem?_of_mem he
 have hl:=(List.getElem?_eq_some_iff.1 hi).1
 obtain⟨x,hx⟩:∃x,es.toList[i]?=some x:=⟨_,List.getElem?_eq_getElem (by rw[h.1];exact hl)⟩
 exact⟨x,List.mem_of_getElem? hx,h.2 i x e hx hi⟩
theorem Ents.push{S:Nat→Prop}{w:World}{es:Array MapEntry}{l:List Ent}(h:Ents S w es l){v:Value}{e:Ent}(hv:EntV S w v e)(born:Nat):Ents S w (es.push ⟨.string e.name,v,born⟩) (l++[e]):=by
 refine⟨by simp[h.1.symm],fun i x e' h1 h2=>?_⟩
 rw[Array.toList_push] at h1
 rcases Nat.lt_or_ge i es.toList.length with hi|hi
 ·rw[List.getElem?_append_left hi] at h1
  rw[List.getElem?_append_left (by rw[←h.1];exact hi)] at h2
  exact h.2 i x e' h1 h2
 ·rw[List.getElem?_append_right hi] at h1
  rw[List.getElem?_append_right (by rw[←h.1];exact hi),←h.1] at h2
  obtain⟨k,hk⟩:∃k,i-es.toList.length=k:=⟨_,rfl⟩
  rw[hk] at h1 h2
  cases k with
  |zero=>simp at h1 h2;subst h1 h2;exact⟨rfl,hv⟩
  |succ k=>simp at h1
structure TreeAt(S:Nat→Prop)(w:World)(g B:Nat)(es:Array MapEntry)(clock:Nat)(l:List Ent):Prop where
 ptr:w.heap[g]?=some (.cells #[.map (some B)] 113 (0,0))
 map:MapAt w B es clock
 ents:Ents S w es l
 ne:g≠B
 out:¬S B
theorem TreeAt.ext{S:Nat→Prop}{w w':World}{g B:Nat}{es:Array MapEntry}{clock:Nat}{l:List Ent}(h:TreeAt S w g B es clock l)(hx:Ext w w'):TreeAt S w' g B es clock l:=
 ⟨zib h.ptr hx,h.map.ext hx,h.ents.ext hx,h.ne,h.out⟩
theorem TreeAt.cell{S:Nat→Prop}{w:World}{g B:Nat}{es:Array MapEntry}{clock:Nat}{l:List Ent}(h:TreeAt S w g B es clock l):w.cell? ⟨g,0,none⟩=some (.map (some B)):=by
 rw[cell_of_row w g 0 _ _ (0,0) h.ptr];rfl
theorem TreeAt.mono{S T:Nat→Prop}{w:World}{g B:Nat}{es:Array MapEntry}{clock:Nat}{l:List Ent}(h:TreeAt S w g B es clock l)(hs:∀b,b<w.heap.size→S b→T b)(hB:¬T B):TreeAt T w g B es clock l:=
 ⟨h.ptr,h.map,⟨h.ents.1,fun i x e h1 h2=>⟨(h.ents.2 i x e h1 h2).1,by
  obtain⟨A,n,c,q1,q2⟩:=(h.ents.2 i x e h1 h2).2
  exact ⟨A,n,c,q1,q2.mono hs⟩⟩⟩,h.ne,hB⟩
theorem TreeAt.low{S:Nat→Prop}{w:World}{g B:Nat}{es:Array MapEntry}{clock:Nat}{l:List Ent}(h:TreeAt S w g B es clock l):TreeAt (fun b=>S b∧b<w.heap.size) w g B es clock l:=h.mono (fun b hb hS=>⟨hS,hb⟩) fun hb=>h.out hb.1
def zc0(l:List Ent)(s:ByteArray):Option Ent:=l.find? fun e=>decide (e.name=s)
theorem MapAt.look_none{w:World}{B:Nat}{es:Array MapEntry}{clock:Nat}(h:MapAt w B es clock)(s:ByteArray)(hs:s.size≤maxLen)(hn:∀x∈es.toList,x.key≠.string s) :
 (Instr.lookup 111 (.map (some B)) (.string s) true).run Tryz.prog w=.ok (.tuple #[.agg #[.string ⟨#[]⟩,.slice none 0 0],.bool false]) w:=by
 rcases h.look s hs with⟨h1,-⟩|⟨x,hx,hk,-⟩
 ·exact h1
 ·exact absurd hk (hn x hx)
theorem MapAt.one{w:World}{B:Nat}{es:Array MapEntry}{clock:Nat}(h:MapAt w B es clock){x y:MapEntry}(hx:x∈es.toList)(hy:y∈es.toList)(hk:x.key=y.key):x=y:=
 zdS ((stamped_iff es clock).1 h.fit.stamped).2.2 hx hy hk
theorem MapAt.look_some{w:World}{B:Nat}{es:Array MapEntry}{clock:Nat}(h:MapAt w B es clock)(s:ByteArray)(hs:s.size≤maxLen){x:MapEntry}(hx:x∈es.toList)(hk:x.key=.string s) :
 (Instr.lookup 111 (.map (some B)) (.string s) true).run Tryz.prog w=.ok (.tuple #[x.val,.bool true]) w:=by
 rcases h.look s hs with⟨-,h2⟩|⟨y,hy,hk2,h1⟩
 ·exact absurd hk (h2 x hx)
 ·rw[h.one hx hy (by rw[hk,hk2])]
  exact h1
theorem TreeAt.find{S:Nat→Prop}{w:World}{g B:Nat}{es:Array MapEntry}{clock:Nat}{l:List Ent}(h:TreeAt S w g B es clock l)(s:ByteArray) :
 (zc0 l s=none∧∀x∈es.toList,x.key≠.string s) ∨
 ∃e A n c x,zc0 l s=some e∧e.name=s∧Row Elem.att S w A n c e.atts∧x∈es.toList∧x.key=.string s∧x.val=.agg #[.string s,.slice A n c]:=by
 cases hf:zc0 l s with
 |none=>
  refine .inl ⟨rfl,fun x hx hk=>?_⟩
  obtain⟨i,e,hi,he,hk2,-⟩:=h.ents.of_mem hx
  unfold zc0 at hf
  rw[List.find?_eq_none] at hf
  refine hf e (List.mem_of_getElem? he) (decide_eq_true ?_)
  rw[hk] at hk2
  injection hk2 with hk2
  exact hk2.symm
 |some e=>
  have hm:e∈l:=List.mem_of_find?_eq_some hf
  have hn:e.name=s:=by have:=List.find?_some hf;simpa using this
  obtain⟨x,hx,hk,A,n,c,hv,hr⟩:=h.ents.of_ent hm
  exact .inr ⟨e,A,n,c,x,rfl,hn,hr,hx,by rw[hk,hn],by rw[hv,hn]⟩
theorem TreeAt.look{S:Nat→Prop}{w:World}{g B:Nat}{es:Array MapEntry}{clock:Nat}{l:List Ent}(h:TreeAt S w g B es clock l)(s:ByteArray)(hs:s.size≤maxLen) :
 ((Instr.lookup 111 (.map (some B)) (.string s) true).run Tryz.prog w=.ok (.tuple #[.agg #[.string ⟨#[]⟩,.slice none 0 0],.bool false]) w∧zc0 l s=none) ∨
 ∃e A n c,zc0 l s=some e∧e.name=s∧Row Elem.att S w A n c e.atts∧(Instr.lookup 111 (.map (some B)) (.string s) true).run Tryz.prog w=.ok (.tuple #[.agg #[.string s,.slice A n c],.bool true]) w:=by
 rcases h.find s with⟨h1,h2⟩|⟨e,A,n,c,x,h1,h2,h3,h4,h5,h6⟩
 ·exact .inl ⟨h.map.look_none s hs h2,h1⟩
 ·exact .inr ⟨e,A,n,c,h1,h2,h3,by rw[h.map.look_some s hs h4 h5,h6]⟩
def zdr(l:List Ent)(p:ByteArray):Int:=if bys p=[] then 0 else match zc0 l p with|none=>32|some e=>if(zcV e.atts).2 then 64 else 0
theorem zoW{S:Nat→Prop}{w:World}{g B:Nat}{es:Array MapEntry}{clock:Nat}{l:List Ent}(h:TreeAt S w g B es clock l)(p:ByteArray)(hp:p.size≤4000000)(hG:Gu w)(hv:∀e∈l,∀a∈e.atts,a.vals.length≤8796093022208) :
 Calls Tryz.prog 51 #[.pointer (some ⟨g,0,none⟩),.string p] w fun e w'=>e=.returned (.int .i64 (zdr l p))∧Ext w w':=by
 have c0:=h.cell
 have HD:Hid (zdr l p=if bys p=[] then 0 else match zc0 l p with|none=>32|some e=>if(zcV e.atts).2 then 64 else 0):=rfl
 generalize zdr l p=r at*
 by_cases hz:p.size=0
 ·have HE:Hid (r=0):=by show _=_;rw[HD.out,if_pos (by rw[zb3 hz];rfl)]
  have e1:=zdf hz
  clear hz HD c0 hG hv h
  go_enter Tryz.func51,Tryz.ntmps51
  go_wp2
  go_ret
  exact⟨by rw[HE.out];rfl,Ext.refl _⟩
 ·have e1:=zfj hz
  rw[if_neg (show ¬bys p=[] by intro h;exact hz (by rw[←zaj,h];rfl))] at HD
  clear hz
  rcases h.look p (by simp only[maxLen];omega) with⟨hlk,hn⟩|⟨e,A,n,c,hn,hne,hr,hlk⟩
  ·rw[hn] at HD
   have HE:Hid (r=32):=HD
   clear hn HD hG hv h
   go_enter Tryz.func51,Tryz.ntmps51
   go_wp2
   go_ret
   exact⟨by rw[HE.out];rfl,(Ext.alloc _ _)⟩
  ·rw[hn] at HD
   simp only at HD
   have HB:=hid (Bx.make (Ext.refl w) #[.string p,.slice A n c] 58)
   have HAL:∀w',Ext w w'→Calls Tryz.prog 53 #[.agg #[.string p,.slice A n c]] w' (zdn w' e.atts):=fun w' hx=>zkl (hr.ext hx) p (hG.ext hx) (hv e (List.mem_of_find?_eq_some hn))
   unfold zdn at HAL
   generalize zcV e.atts=al at*
   obtain⟨a1,a2⟩:=al
   simp only at HAL HD
   clear hn hG hv h hr hne
   cases a2
   have HE:Hid (r=0):=by show _=_;rw[HD.out];rfl
   rotate_left
   have HE:Hid (r=64):=by show _=_;rw[HD.out];rfl
   rotate_left
   all_goals
    clear HD
    go_enter Tryz.func51,Tryz.ntmps51
    go_wp2_with(go_at_call 53;(with_reducible refine(HAL _ HB.out.ext).mono ?_);rintro e w2 ⟨rfl,hx2⟩;have HX2:=hid (HB.out.ext.trans hx2);clear hx2)
    go_ret
    exact⟨by rw[HE.out];rfl,HX2.out⟩
end
section
open Go.RowKit
open Go.Maps Go.MapKept Go.WideShapes Go.ChangeShapes Go.ChangeMaps
set_option maxRecDepth 100000
structure EntFits(e:Ent):Prop where
 name:e.name.size≤4000000
 few:e.atts.length≤4000000
 fewer:e.atts.length≤2000000
 types:∀a∈e.atts,a.type.size≤4000000
 vals:∀a∈e.atts,a.vals.length≤8796093022208
def OkOf1(l:List Ent)(j:Nat):Prop:=∀i e,i<j→l[i]?=some e→zc0 (l.take i) e.name=none∧zcE (bys e.name) e.atts=true
def zsZ(l:List Ent):Prop:=∀e∈l,zdr l (str (zaT (bys e.name)).1)=0
def OkOf(l:List Ent):Prop:=l.length≤400∧OkOf1 l l.length∧zsZ l
theorem OkOf1.next{l:List Ent}{j:Nat}{e:Ent}(h:OkOf1 l j)(hj:l[j]?=some e)(h1:zc0 (l.take j) e.name=none)(h2:zcE (bys e.name) e.atts=true):OkOf1 l (j+1):=by
 intro i x hi hx
 rcases Nat.lt_or_ge i j with h3|h3
 ·exact h i x h3 hx
 ·obtain rfl:i=j:=by omega
  rw[hj] at hx
  injection hx with hx
  subst hx
  exact⟨h1,h2⟩
def zhe(S:Nat→Prop)(w:World)(B:Nat):Nat→Prop:=fun b=>b≠B∧((S b∧b<w.heap.size)∨w.heap.size≤b)
def zlN(S:Nat→Prop)(w:World)(l:List Ent)(e:Ending)(w':World):Prop:=
 (OkOf l∧∃g B es clock,e=.returned (.tuple #[.pointer (some ⟨g,0,none⟩),.int .i64 0])∧TreeAt (zhe S w B) w' g B es clock l∧w.heap.size≤B∧w.heap.size≤g∧Ext w w') ∨
 (¬OkOf l∧e=.returned (.tuple #[.pointer none,.int .i64 2])∧Ext w w')
theorem zoA{S:Nat→Prop}{w w0:World}{g B:Nat}(hg:w.heap[g]?=some (.cells #[.map (some B)] 113 (0,0)))(hb:w.heap[B]?=some (.map #[] 0))(hne:g≠B):TreeAt (zhe S w0 B) w g B #[] 0 []:=
 ⟨hg,⟨hb,⟨by simp,stamped_empty 0,by simp⟩⟩,⟨rfl,fun i x e h=>by simp at h⟩,hne,fun h=>h.1 rfl⟩
theorem zqA{w w':World}(h:Ext w w'){B:Nat}(hB:w.heap.size≤B)(o:Obj):Ext w (setBlock w' B o):=
 ⟨h.os,h.tape,h.output,by simpa [setBlock] using h.size,fun k hk=>by
  have e:B≠k:=by omega
  simp only[setBlock,Array.getElem?_setIfInBounds_ne e]
  exact h.block k hk⟩
theorem zhj(w:World)(B:Nat)(o:Obj):Same (fun b=>b≠B) w (setBlock w B o):=fun b hb=>by
 have e:B≠b:=fun h=>hb h.symm
 simp only[setBlock,Array.getElem?_setIfInBounds_ne e]
theorem Same.allocs_of{S:Nat→Prop}{w:World}(h:∀b,S b→b<w.heap.size)(o o':Obj):Same S (w.alloc o) (w.alloc o'):=fun b hb=>by
 rw[(Ext.alloc w o).block b (h b hb),(Ext.alloc w o').block b (h b hb)]
theorem TreeAt.put{S:Nat→Prop}{w:World}{g B:Nat}{es:Array MapEntry}{clock:Nat}{l:List Ent}(h:TreeAt S w g B es clock l)(hz:es.size<maxLen){e:Ent}(hs:e.name.size≤maxLen)(hnew:∀x∈es.toList,x.key≠.string e.name){v:Value}(hv:EntV S w v e) :
 (Instr.mapUpdate 111 (.map (some B)) (.string e.name) v).run Tryz.prog w=.ok () (setBlock w B (.map (es.push ⟨.string e.name,v,clock⟩) (clock+1))) ∧
 TreeAt S (setBlock w B (.map (es.push ⟨.string e.name,v,clock⟩) (clock+1))) g B (es.push ⟨.string e.name,v,clock⟩) (clock+1) (l++[e]):=by
 obtain⟨h1,h2⟩:=h.map.put hz e.name hs hnew v
 refine⟨h1,?_,h2,(h.ents.push hv clock).same ((zhj w B _).mono fun b hb e=>h.out (by rw[←e];exact hb)),h.ne,h.out⟩
 rw[zhj w B _ g h.ne]
 exact h.ptr
end
section
open Go.RowKit
open Go.Maps Go.MapKept Go.WideShapes Go.ChangeShapes Go.ChangeMaps
set_option maxRecDepth 100000
structure RangeAt(w:World)(B r:Nat)(es:Array MapEntry)(clock:Nat)(ks:List MapEntry):Prop where
 map:MapAt w B es clock
 ne:r≠B
 it:∃since c0,w.heap[r]?=some (.mapIter (some B) since (ks.map (·.born)).toArray c0)∧(∀x∈es.toList,x.born<since)∧since≤c0∧since≤clock
 sub:∀x∈ks,x∈es.toList
 nodup:ks.Nodup
section
variable {w w':World}{B r:Nat}{es:Array MapEntry}{clock:Nat}{ks:List MapEntry}
theorem RangeAt.lt(h:RangeAt w B r es clock ks):r<w.heap.size:=by
 obtain⟨since,c0,h1,-⟩:=h.it
 exact(Array.getElem?_eq_some_iff.1 h1).1
theorem RangeAt.kept{row:Option Nat}(h:RangeAt w B r es clock ks)(hg:w.grownBy w' row)(hB:some B≠row)(hr:some r≠row):RangeAt w' B r es clock ks:=by
 obtain⟨since,c0,h1,h2⟩:=h.it
 exact⟨⟨(hg.block B h.map.lt hB).trans h.map.blk,h.map.fit⟩,h.ne,⟨since,c0,(hg.block r h.lt hr).trans h1,h2⟩,h.sub,h.nodup⟩
theorem RangeAt.ext(h:RangeAt w B r es clock ks)(hx:Ext w w'):RangeAt w' B r es clock ks:=h.kept (row:=none) ⟨hx.os,hx.tape,hx.output,hx.size,fun k hk _=>hx.block k hk⟩ (by simp) (by simp)
theorem RangeAt.left_eq(h:RangeAt w B r es clock ks):w.rangeLeft B r=(leftOf es (ks.map (·.born)).toArray).size:=by
 obtain⟨since,c0,h1,-⟩:=h.it
 simp only[World.rangeLeft,h.map.blk,h1]
theorem RangeAt.start(h:MapAt w B es clock):(Instr.range 111 (.map (some B))).run Tryz.prog w=.ok (.pointer (some ⟨w.heap.size,0,none⟩)) (w.alloc (.mapIter (some B) clock #[] clock)) ∧
 RangeAt (w.alloc (.mapIter (some B) clock #[] clock)) B w.heap.size es clock []:=
 ⟨run_range_map w _ 9 58 B es clock Tryz.underlying111 h.blk,h.ext (Ext.alloc _ _),by have:=h.lt;omega,
  ⟨clock,clock,heap_alloc_new w _,h.fit.stamped.1,Nat.le_refl _,Nat.le_refl _⟩,fun x hx=>by simp at hx,List.nodup_nil⟩
theorem zq9(h:MapAt w B es clock){x y:MapEntry}(hx:x∈es.toList)(hy:y∈es.toList)(e:x.born=y.born):x=y:=
 born_inj ((stamped_iff es clock).1 h.fit.stamped).2.1 hx hy e
theorem RangeAt.next(h:RangeAt w B r es clock ks)(ty:TypeId) :
 ((∀x∈es.toList,x∈ks)∧(Instr.next (.pointer (some ⟨r,0,none⟩)) false ty).run Tryz.prog w=.ok (.tuple #[.bool false]) w) ∨
 ∃e w',e∈es.toList∧e ∉ ks∧(Instr.next (.pointer (some ⟨r,0,none⟩)) false ty).run Tryz.prog w=.ok (.tuple #[.bool true,e.key,e.val]) w'∧RangeAt w' B r es clock (ks++[e])∧w.grownBy w' (some r)∧w'.heap.size=w.heap.size ∧
  w'.rangeLeft B r<w.rangeLeft B r∧(Instr.entry (.pointer (some ⟨r,0,none⟩))).run Tryz.prog w'=.ok (.tuple #[e.key,e.val]) w':=by
 obtain⟨since,c0,hr,hold,hsc,hsk⟩:=h.it
 have hb:=h.map.blk
 rcases run_next_at (P:=Tryz.prog) w ty r B since c0 _ es clock hr hb hold hsc with⟨h0,hrun⟩|⟨e,he,w1,hal,hrun⟩
 ·refine .inl ⟨fun x hx=>?_,hrun⟩
  have h1:=all_seen es _ h0 x hx
  rw[List.contains_toArray,List.contains_iff_mem] at h1
  obtain⟨y,hy,e⟩:=List.mem_map.1 h1
  rw[←zq9 h.map (h.sub y hy) hx e]
  exact hy
 ·obtain⟨hem,hes⟩:=mem_left he
  have hnk:e ∉ ks:=fun hk=>by
   rw[List.contains_toArray] at hes
   have:(ks.map (·.born)).contains e.born=true:=List.contains_iff_mem.2 (List.mem_map.2 ⟨e,hk,rfl⟩)
   rw[hes] at this
   cases this
  have hr1:w1.heap[r]?=some (.mapIter (some B) since (ks.map (·.born)).toArray c0):=by rcases hal with rfl|rfl<;>exact hr
  have hb1:w1.heap[B]?=some (.map es clock):=by rcases hal with rfl|rfl<;>exact hb
  have hpush:(ks.map (·.born)).toArray.push e.born=((ks++[e]).map (·.born)).toArray:=by simp
  have hset:=heap_set (o':=.mapIter (some B) since ((ks.map (·.born)).toArray.push e.born) clock) hr1
  have hb':(setBlock w1 r (.mapIter (some B) since ((ks.map (·.born)).toArray.push e.born) clock)).heap[B]?=some (.map es clock):=(hset.2 B (fun e1=>h.ne e1.symm)).trans hb1
  have hR:RangeAt (setBlock w1 r (.mapIter (some B) since ((ks.map (·.born)).toArray.push e.born) clock)) B r es clock (ks++[e]):=
   ⟨⟨hb',h.map.fit⟩,h.ne,⟨since,clock,by rw [← hpush];exact hset.1,hold,hsk,hsk⟩,fun x hx=>by
    rcases List.mem_append.1 hx with h1|h1
    ·exact h.sub x h1
    ·simp at h1;rw[h1];exact hem,by
    rw[List.nodup_append]
    exact ⟨h.nodup,by simp,fun a ha b hb=>by simp at hb;subst hb;intro e1;exact hnk (e1 ▸ ha)⟩⟩
  refine .inr ⟨e,_,hem,hnk,hrun,hR,?_,?_,?_,run_entry_at _ r B since _ es clock e hset.1 hb' hem ((stamped_iff es clock).1 h.map.fit.stamped).2.1⟩
  ·rcases hal with rfl|rfl<;>exact⟨rfl,rfl,rfl,by simp[setBlock],fun i _ hi=>hset.2 i (fun e1=>hi (by rw[e1]))⟩
  ·rcases hal with rfl|rfl<;>simp[setBlock]
  ·rw[hR.left_eq,h.left_eq,←hpush]
   exact left_shrinks es _ e he
end
structure TRange(S:Nat→Prop)(w0 w:World)(g B r:Nat)(es:Array MapEntry)(clock:Nat)(l:List Ent)(zs:List (MapEntry×Ent)):Prop where
 tree:TreeAt S w0 g B es clock l
 ext:Ext w0 w
 old:w0.heap.size≤r
 rng:RangeAt w B r es clock (zs.map (·.1))
 mem:∀z∈zs,z∈es.toList.zip l
section
variable {S:Nat→Prop}{w0 w w':World}{g B r:Nat}{es:Array MapEntry}{clock:Nat}{l:List Ent}{zs:List (MapEntry × Ent)}
theorem TRange.later(h:TRange S w0 w g B r es clock l zs)(hx:Ext w w'):TRange S w0 w' g B r es clock l zs:=⟨h.tree,h.ext.trans hx,h.old,h.rng.ext hx,h.mem⟩
theorem TRange.kept{row:Option Nat}(h:TRange S w0 w g B r es clock l zs)(hg:w.grownBy w' row)(hr:some r≠row)(hn:∀k,row=some k→w0.heap.size≤k):TRange S w0 w' g B r es clock l zs:=
 ⟨h.tree,Below.grown h.ext hg h.ext.size hn,h.old,h.rng.kept hg (fun e=>by have h1:=hn B e.symm;have h2:=h.tree.map.lt;omega) hr,h.mem⟩
theorem TRange.start(h:TreeAt S w g B es clock l):(Instr.range 111 (.map (some B))).run Tryz.prog w=.ok (.pointer (some ⟨w.heap.size,0,none⟩)) (w.alloc (.mapIter (some B) clock #[] clock)) ∧
 TRange S w (w.alloc (.mapIter (some B) clock #[] clock)) g B w.heap.size es clock l []:=
 ⟨(RangeAt.start h.map).1,h,Ext.alloc _ _,Nat.le_refl _,(RangeAt.start h.map).2,fun z hz=>by simp at hz⟩
theorem zsC{x:MapEntry}(h:TreeAt S w g B es clock l)(hx:x∈es.toList):∃e,(x,e)∈es.toList.zip l∧e∈l∧x.key=.string e.name∧EntV S w x.val e:=by
 obtain⟨i,e,h1,h2,h3,h4⟩:=h.ents.of_mem hx
 exact⟨e,List.mem_of_getElem? (i:=i) (by rw[List.getElem?_zip_eq_some];exact⟨h1,h2⟩),List.mem_of_getElem? h2,h3,h4⟩
theorem zrS(h:TreeAt S w g B es clock l){x:MapEntry}{e e':Ent}(h1:(x,e)∈es.toList.zip l)(h2:(x,e')∈es.toList.zip l):e=e':=by
 obtain⟨i,hi⟩:=List.getElem?_of_mem h1
 obtain⟨j,hj⟩:=List.getElem?_of_mem h2
 rw[List.getElem?_zip_eq_some] at hi hj
 have hn:es.toList.Nodup:=List.Pairwise.imp (fun h e=>h (by rw[e])) ((stamped_iff es clock).1 h.map.fit.stamped).2.2
 have hij:i=j:=by
  have h3:=(List.getElem?_eq_some_iff.1 hi.1)
  have h4:=(List.getElem?_eq_some_iff.1 hj.1)
  exact(List.getElem_inj (h₀:=h3.1) (h₁:=h4.1) hn).1 (h3.2.trans h4.2.symm)
 subst hij
 exact Option.some.inj (hi.2.symm.trans hj.2)
theorem TRange.perm(h:TRange S w0 w g B r es clock l zs)(ha:∀x∈es.toList,x∈zs.map (·.1)):(zs.map (·.2)).Perm l:=by
 have hn:es.toList.Nodup:=List.Pairwise.imp (fun h e=>h (by rw[e])) ((stamped_iff es clock).1 h.tree.map.fit.stamped).2.2
 have hz1:zs.Nodup:=by
  have:=h.rng.nodup
  rw[List.Nodup,List.pairwise_map] at this
  exact this.imp (fun h e=>h (by rw[e]))
 have hf:(es.toList.zip l).map (·.1)=es.toList:=List.map_fst_zip (Nat.le_of_eq h.tree.ents.1)
 have hs:(es.toList.zip l).map (·.2)=l:=List.map_snd_zip (Nat.le_of_eq h.tree.ents.1.symm)
 have hz2:(es.toList.zip l).Nodup:=by
  rw[←hf,List.Nodup,List.pairwise_map] at hn
  exact hn.imp (fun h e=>h (by rw[e]))
 have hp:zs.Perm (es.toList.zip l):=(List.perm_ext_iff_of_nodup hz1 hz2).2 fun a=>⟨h.mem a,fun hm=>by
  have h1:a.1∈es.toList:=by rw[←hf];exact List.mem_map.2 ⟨a,hm,rfl⟩
  obtain⟨z,hz,e⟩:=List.mem_map.1 (ha a.1 h1)
  have h2:=h.mem z hz
  have:a=z:=by
   obtain⟨a1,a2⟩:=a
   obtain⟨z1,z2⟩:=z
   simp only at e
   subst e
   rw[zrS h.tree hm h2]
  rw[this]
  exact hz⟩
 rw[←hs]
 exact hp.map _
theorem zis{α:Type}:∀{ks es:List α},ks.Nodup→(∀x∈ks,x∈es)→ks.length≤es.length
 |[],_,_,_=>Nat.zero_le _
 |k::ks,es,hn,hs=>by
  obtain⟨s,t,e⟩:=List.append_of_mem (hs k (by simp))
  rw[List.nodup_cons] at hn
  have:=zis (ks:=ks) (es:=s++t) hn.2 fun x hx=>by
   have h1:=hs x (by simp[hx])
   rw[e] at h1
   simp only[List.mem_append,List.mem_cons] at h1 ⊢
   rcases h1 with h1|h1|h1
   ·exact .inl h1
   ·exact absurd (h1 ▸ hx) hn.1
   ·exact .inr h1
  rw[e]
  simp only[List.length_append,List.length_cons] at this ⊢
  omega
theorem TRange.count(h:TRange S w0 w g B r es clock l zs):zs.length≤l.length:=by
 have h1:=h.rng.sub
 have hn:(zs.map (·.1)).Nodup:=h.rng.nodup
 have:=zis hn h1
 rw[List.length_map,h.tree.ents.1] at this
 exact this
theorem TRange.next(h:TRange S w0 w g B r es clock l zs)(ty:TypeId) :
 ((zs.map (·.2)).Perm l∧(Instr.next (.pointer (some ⟨r,0,none⟩)) false ty).run Tryz.prog w=.ok (.tuple #[.bool false]) w) ∨
 ∃x e w' A n c,e∈l∧x∈es.toList∧x ∉ zs.map (·.1)∧(Instr.next (.pointer (some ⟨r,0,none⟩)) false ty).run Tryz.prog w=.ok (.tuple #[.bool true,.string e.name,.agg #[.string e.name,.slice A n c]]) w'∧TRange S w0 w' g B r es clock l (zs++[(x,e)])∧w.grownBy w' (some r)∧w'.heap.size=w.heap.size ∧
  w'.rangeLeft B r<w.rangeLeft B r∧(Instr.entry (.pointer (some ⟨r,0,none⟩))).run Tryz.prog w'=.ok (.tuple #[.string e.name,.agg #[.string e.name,.slice A n c]]) w'∧Row Elem.att (fun b=>S b∧b<w0.heap.size) w' A n c e.atts:=by
 rcases h.rng.next ty with⟨h1,h2⟩|⟨x,w',h1,h2,h3,h4,h5,h6,h7,h8⟩
 ·exact .inl ⟨h.perm h1,h2⟩
 ·obtain⟨e,q1,q2,q3,A,n,c,q6,q7⟩:=zsC h.tree h1
  have hx:Ext w0 w':=Below.grown h.ext h5 h.ext.size (fun k hk=>by injection hk with hk;rw[←hk];exact h.old)
  have q8:Row Elem.att (fun b=>S b∧b<w0.heap.size) w' A n c e.atts:=q7.lt.same fun b hb=>hx.block b hb.2
  refine .inr ⟨x,e,w',A,n,c,q2,h1,h2,by rw[h3,q3,q6],⟨h.tree,hx,h.old,by simpa using h4,fun z hz=>?_⟩,h5,h6,h7,by rw[h8,q3,q6],q8⟩
  rcases List.mem_append.1 hz with hz|hz
  ·exact h.mem z hz
  ·simp at hz;rw[hz];exact q1
end
section
variable {S:Nat→Prop}{w0 w:World}{ops:Array Oper}{rest:List Oper}{o:Oper}{a:Act}{Q:Exit→Act→World→Prop}{g B r:Nat}{es:Array MapEntry}{clock:Nat}{l:List Ent}{zs:List (MapEntry × Ent)}
theorem zht(hgd:o.guard=none)(m:Operand)(hop:o.op=.range 111 m)(hm:a.eval m=.map (some B))(h:TreeAt S w g B es clock l)
 (hK:∀w',TRange S w w' g B w.heap.size es clock l []→Ext w w'→wpList Tryz.prog ops Q rest (a.put o.dst (.pointer (some ⟨w.heap.size,0,none⟩))) w'):wpList Tryz.prog ops Q (o::rest) a w:=by
 refine wpList_plain hgd fun K' hK'=>?_
 obtain⟨h1,h2⟩:=TRange.start h
 unfold Oper.wp
 simp[execOp,hop,hm,h1,Result.andThen]
 exact hK' _ _ (hK _ h2 (Ext.alloc _ _))
theorem zjc(hgd:o.guard=none)(it:Operand)(hop:o.op=.next it false)(hit:a.eval it=.pointer (some ⟨r,0,none⟩))(h:TRange S w0 w g B r es clock l zs)
 (hDone:(zs.map (·.2)).Perm l→wpList Tryz.prog ops Q rest (a.put o.dst (.tuple #[.bool false])) w)
 (hMore:∀ x e w' A n c,e∈l→x ∉ zs.map (·.1)→TRange S w0 w' g B r es clock l (zs++[(x,e)])→w.grownBy w' (some r)→w'.rangeLeft B r<w.rangeLeft B r →
   (Instr.entry (.pointer (some ⟨r,0,none⟩))).run Tryz.prog w'=.ok (.tuple #[.string e.name,.agg #[.string e.name,.slice A n c]]) w'→Row Elem.att (fun b=>S b∧b<w0.heap.size) w' A n c e.atts →
   wpList Tryz.prog ops Q rest (a.put o.dst (.tuple #[.bool true,.string e.name,.agg #[.string e.name,.slice A n c]])) w'):wpList Tryz.prog ops Q (o::rest) a w:=by
 refine wpList_plain hgd fun K' hK'=>?_
 unfold Oper.wp
 rcases h.next o.type with⟨h1,h2⟩|⟨x,e,w',A,n,c,q1,q2,q3,q4,q5,q6,q7,q8,q9,q10⟩
 ·simp[execOp,hop,hit,h2,Result.andThen]
  exact hK' _ _ (hDone h1)
 ·simp[execOp,hop,hit,q4,Result.andThen]
  exact hK' _ _ (hMore x e w' A n c q1 q3 q5 q6 q8 q9 q10)
end
end
section
open Go.RowKit
open Go.Maps Go.MapKept Go.WideShapes Go.ChangeShapes Go.ChangeMaps
set_option maxRecDepth 100000
inductive All2 {α β:Type} (R:α→β→Prop):List α→List β→Prop where
 |nil:All2 R [] []
 |cons {a:α} {b:β} {l:List α} {m:List β}:R a b→All2 R l m→All2 R (a::l) (b::m)
section
variable {α β:Type}{R:α→β→Prop}{g:α→List UInt8}{f:β→List UInt8}
theorem All2.len:∀{l:List α} {m:List β},All2 R l m→l.length=m.length
 |_,_,.nil=>rfl
 |_,_,.cons _ h=>by simp[h.len]
theorem All2.get:∀{l:List α} {m:List β},All2 R l m→∀(i:Nat) a b,l[i]?=some a→m[i]?=some b→R a b
 |_,_,.nil,i,a,b,h,_=>by simp at h
 |_,_,.cons h1 h,0,a,b,h2,h3=>by simp at h2 h3;subst h2 h3;exact h1
 |_,_,.cons h1 h,i+1,a,b,h2,h3=>h.get i a b (by simpa using h2) (by simpa using h3)
theorem All2.mono{R':α→β→Prop}(h:∀a b,R a b→R' a b):∀{l:List α} {m:List β},All2 R l m→All2 R' l m
 |_,_,.nil=>.nil
 |_,_,.cons h1 h2=>.cons (h _ _ h1) (h2.mono h)
theorem All2.ins(hk:∀a b,R a b→g a=f b){a:α}{b:β}(hab:R a b):∀{l:List α} {m:List β},All2 R l m→All2 R (insN g a l) (insN f b m)
 |_,_,.nil=>.cons hab .nil
 |_,_,.cons (a:=x) (b:=y) h1 h2=>by
  unfold insN
  rw[hk _ _ h1,hk _ _ hab]
  split
  ·exact .cons h1 (h2.ins hk hab)
  ·split
   ·exact .cons h1 h2
   ·exact .cons hab (.cons h1 h2)
theorem All2.fold(hk:∀a b,R a b→g a=f b):∀{l:List α} {m:List β},All2 R l m→∀{o:List α} {p:List β},All2 R o p→All2 R (l.foldl (fun out e=>insN g e out) o) (m.foldl (fun out e=>insN f e out) p)
 |_,_,.nil,_,_,h=>h
 |_,_,.cons h1 h2,_,_,h=>h2.fold hk (h.ins hk h1)
theorem All2.sort(hk:∀a b,R a b→g a=f b){l:List α}{m:List β}(h:All2 R l m):All2 R (sortN g l) (sortN f m):=h.fold hk .nil
theorem All2.keys(hk:∀a b,R a b→g a=f b):∀{l:List α} {m:List β},All2 R l m→l.map g=m.map f
 |_,_,.nil=>rfl
 |_,_,.cons h1 h2=>by simp[hk _ _ h1,h2.keys hk]
end
theorem zkL{α:Type}{f:α→List UInt8}{l:List α}:Apart f l↔(l.map f).Pairwise (·≠·):=by unfold Apart;rw[List.pairwise_map]
abbrev nmC(e:EntC):List UInt8:=bys e.name
def zmH(S:Nat→Prop)(w:World)(c:EntC)(e:Ent):Prop:=c.name=e.name∧Row Elem.att S w c.A c.n c.c e.atts
theorem zqV{S:Nat→Prop}{w:World}{vss:List (List Value)}{l:List Ent}(hl:vss.length=l.length)(h:∀(i:Nat) u x,vss[i]?=some u→l[i]?=some x→Elem.ent.R S w u x) :
 ∃cs:List EntC,vss=cs.map (two EntC.c0 EntC.c1)∧All2 (zmH S w) cs l:=by
 induction vss generalizing l with
 |nil=>
  cases l with
  |nil=>exact⟨[],rfl,.nil⟩
  |cons a l=>simp at hl
 |cons v vss ih=>
  cases l with
  |nil=>simp at hl
  |cons a l=>
   obtain⟨cs,h1,h2⟩:=ih (l:=l) (by simpa using hl) fun i u x hu hx=>h (i+1) u x (by simpa using hu) (by simpa using hx)
   obtain⟨A,n,c,e1,e2⟩:=h 0 v a rfl rfl
   exact⟨⟨a.name,A,n,c⟩::cs,by rw[h1,e1];rfl,.cons ⟨rfl,e2⟩ h2⟩
theorem GrowM.cellsE{S:Nat→Prop}{T:TypeId}{w wr:World}{v:Value}{l:List Ent}(h:GrowM Elem.ent S T none w wr v l):∃cs:List EntC,GrowV EntC.c0 EntC.c1 T w wr v cs∧All2 (zmH (zcD S v none) wr) cs l:=by
 obtain⟨⟨vss,h1,h2,h3⟩,h4,h5⟩:=h
 obtain⟨cs,e1,e2⟩:=zqV h1 h3
 refine⟨cs,⟨?_,h4⟩,e2⟩
 rw[e2.len,←e1]
 exact h2
theorem GrowV.entsM{S:Nat→Prop}{T:TypeId}{w wr:World}{v:Value}{cs:List EntC}{l:List Ent}(h:GrowV EntC.c0 EntC.c1 T w wr v cs)(k:All2 (zmH (zcD S v none) wr) cs l):GrowM Elem.ent S T none w wr v l:=by
 refine⟨⟨cs.map (two EntC.c0 EntC.c1),by rw[List.length_map,k.len],?_,fun i u x hu hx=>?_⟩,h.ext,fun g hg=>by cases hg⟩
 ·have:=h.own
  rw[k.len] at this
  exact this
 ·rw[List.getElem?_map] at hu
  cases hc:cs[i]? with
  |none=>rw[hc] at hu;cases hu
  |some c=>
   rw[hc] at hu
   injection hu with hu
   obtain⟨e1,e2⟩:=k.get i c x hc hx
   exact⟨c.A,c.n,c.c,by rw[←hu,←e1];rfl,e2⟩
theorem zqm(x y:EntC)(w:World)(hG:Gl w):Calls Tryz.prog 90 #[.agg #[x.c0,x.c1],.agg #[y.c0,y.c1]] w fun e w'=>e=.returned (.int .i64 (zbc (nmC x) (nmC y)))∧Ext w w':=by
 have HC:∀w',Ext w w'→Calls Tryz.prog 60 #[.string x.name,.string y.name] w' fun e w''=>e=.returned (.int .i64 (zbc (nmC x) (nmC y)))∧Ext w' w'':=fun w' hx=>zdO x.name y.name w' (hG.ext hx)
 clear hG
 generalize zbc (nmC x) (nmC y)=k at*
 obtain⟨xn,xA,xl,xc⟩:=x
 obtain⟨yn,yA,yl,yc⟩:=y
 simp only[EntC.c0,EntC.c1] at*
 go_enter Tryz.func90,Tryz.ntmps90
 go_wp2_with(go_at_call 60;(with_reducible refine(HC _ ((Ext.alloc _ _).trans (Ext.alloc _ _))).mono ?_);rintro e w1 ⟨rfl,hx1⟩;have HX1:=hid (((Ext.alloc _ _).trans (Ext.alloc _ _)).trans hx1);clear hx1)
 go_ret
 exact⟨rfl,HX1.out⟩
def zgM(S:Nat→Prop)(w0 w:World)(v:Value)(l:List Ent)(e:Ending)(w':World):Prop:=e=.returned (.tuple #[])∧GrowM Elem.ent S 58 none w0 w' v (sortN nmE l)∧w.grownBy w' v.ownBlock
theorem zga{S:Nat→Prop}{w0 w:World}{g n cap:Nat}{l:List Ent}(h:GrowM Elem.ent S 58 none w0 w (.slice (some ⟨g,0,none⟩) n cap) l)(hG:Gl w0)(hn:n≤4000000)(hs:∀e∈l,zbZ (nmE e)=true)(ha:Apart nmE l) :
 Calls Tryz.prog 43 #[.slice (some ⟨g,0,none⟩) n cap] w (zgM S w0 w (.slice (some ⟨g,0,none⟩) n cap) l):=by
 obtain⟨cs,h1,h2⟩:=h.cellsE
 have hk:∀(a:EntC) (b:Ent),zmH (zcD S (.slice (some ⟨g,0,none⟩) n cap) none) w a b→nmC a=nmE b:=fun a b h=>by unfold nmC nmE;rw[h.1]
 have hkey:=h2.keys hk
 have hcs:∀c∈cs,zbZ (nmC c)=true:=fun c hc=>by
  have:nmC c∈l.map nmE:=by rw[←hkey];exact List.mem_map.2 ⟨c,hc,rfl⟩
  obtain⟨e,he,e2⟩:=List.mem_map.1 this
  rw[←e2]
  exact hs e he
 have hca:Apart nmC cs:=by rw[zkL,hkey,←zkL];exact ha
 have HST:=zpM (K:=fun x y=>zbc (nmC x) (nmC y)) (P:=fun _=>True) (w0:=w0) (w:=w) (fun wr hx x y _ _=>zqm x y wr (hG.ext hx)) h1 (fun _ _=>trivial) hn
 unfold zca at HST
 have HF:Hid (∀l' w',StOk (ltKE fun x y=>zbc (nmC x) (nmC y)) cs l'→GVE w0 w' (.slice (some ⟨g,0,none⟩) n cap) l'→w.grownBy w' (some g)→GrowM Elem.ent S 58 none w0 w' (.slice (some ⟨g,0,none⟩) n cap) (sortN nmE l)):=fun l' w' q1 q2 q3=>by
  have e1:l'=sortN nmC cs:=q1.sortN (f:=nmC) hcs hca
  rw[e1] at q2
  refine q2.entsM ((h2.sort hk).mono fun a b hab=>⟨hab.1,?_⟩)
  exact(hab.2.lt.same fun b hb=>q3.block b hb.2 (fun e=>hb.1.2.1 e)).mono fun b _ hb=>hb.1
 clear h h1 h2 hk hkey hcs hca hs ha hG
 unfold zgM
 go_enter Tryz.func43,Tryz.ntmps43
 go_wp2_with(go_at_call 89;(with_reducible refine HST.mono ?_);rintro e w2 ⟨rfl,⟨l',hg,hs⟩,hf⟩;have HR:=hid (HF.out l' w2 hs hg hf);have HGR:=hid hf;clear hg hs hf)
 go_end0
 exact⟨rfl,HR.out,HGR.out⟩
end
section
open Go.RowKit
open Go.Maps Go.MapKept Go.WideShapes Go.ChangeShapes Go.ChangeMaps
set_option maxRecDepth 100000
theorem zk5(w:World):Calls Tryz.prog 156 #[.slice none 0 0,.int .i64 0,.int .i64 0,zfX] w fun e w'=>e=.returned (.tuple #[])∧Ext w w':=by
 go_enter Tryz.func156,Tryz.ntmps156
 go_wp2
 refine wp_loop_once ?_
 go_wp2
 go_end0
 exact⟨rfl,Ext.refl _⟩
theorem zlW(w:World):Calls Tryz.prog 130 #[.slice none 0 0,.int .i64 0,zfX] w fun e w'=>e=.returned (.tuple #[])∧Ext w w':=by
 go_enter Tryz.func130,Tryz.ntmps130
 go_wp2
 go_loopw [7,8] (fun u v wr=>u=.int .i64 0∧v=.int .i64 20∧wr=w) (fun u v _=>0)
 case atStart=>exact⟨rfl,rfl,rfl⟩
 case round=>
  obtain⟨rfl,rfl,rfl⟩:=hrel
  go_wp2_with(go_at_call 156;(with_reducible refine(zk5 _).mono ?_);rintro e w2 ⟨rfl,hx2⟩;have HX2:=hid hx2;clear hx2)
  go_loopw [6,7,8,9] (fun u _ _ _ wq=>u=.int .i64 20∧wq=w2) (fun u v _ _ _=>0)
  case atStart=>exact⟨rfl,rfl⟩
  case round=>
   obtain⟨rfl,rfl⟩:=hrel
   go_wp2
   go_end0
   exact⟨rfl,HX2.out⟩
theorem zox(w:World):Calls Tryz.prog 89 #[.slice none 0 0,zfX] w fun e w'=>e=.returned (.tuple #[])∧Ext w w':=by
 go_enter Tryz.func89,Tryz.ntmps89
 go_wp2_with(go_at_call 130;(with_reducible refine(zlW _).mono ?_);rintro e w2 ⟨rfl,hx2⟩;have HX2:=hid hx2;clear hx2)
 go_end0
 exact⟨rfl,HX2.out⟩
theorem zlc(w:World):Calls Tryz.prog 142 #[.slice none 0 0,.int .i64 0,.int .i64 0,zf4] w fun e w'=>e=.returned (.tuple #[])∧Ext w w':=by
 go_enter Tryz.func142,Tryz.ntmps142
 go_wp2
 refine wp_loop_once ?_
 go_wp2
 go_end0
 exact⟨rfl,Ext.refl _⟩
theorem zl0(w:World):Calls Tryz.prog 106 #[.slice none 0 0,.int .i64 0,zf4] w fun e w'=>e=.returned (.tuple #[])∧Ext w w':=by
 go_enter Tryz.func106,Tryz.ntmps106
 go_wp2
 go_loopw [7,8] (fun u v wr=>u=.int .i64 0∧v=.int .i64 20∧wr=w) (fun u v _=>0)
 case atStart=>exact⟨rfl,rfl,rfl⟩
 case round=>
  obtain⟨rfl,rfl,rfl⟩:=hrel
  go_wp2_with(go_at_call 142;(with_reducible refine(zlc _).mono ?_);rintro e w2 ⟨rfl,hx2⟩;have HX2:=hid hx2;clear hx2)
  go_loopw [6,7,8,9] (fun u _ _ _ wq=>u=.int .i64 20∧wq=w2) (fun u v _ _ _=>0)
  case atStart=>exact⟨rfl,rfl⟩
  case round=>
   obtain⟨rfl,rfl⟩:=hrel
   go_wp2
   go_end0
   exact⟨rfl,HX2.out⟩
theorem zou(w:World):Calls Tryz.prog 58 #[.slice none 0 0,zf4] w fun e w'=>e=.returned (.tuple #[])∧Ext w w':=by
 go_enter Tryz.func58,Tryz.ntmps58
 go_wp2_with(go_at_call 106;(with_reducible refine(zl0 _).mono ?_);rintro e w2 ⟨rfl,hx2⟩;have HX2:=hid hx2;clear hx2)
 go_end0
 exact⟨rfl,HX2.out⟩
theorem zgr(w:World):Calls Tryz.prog 43 #[.slice none 0 0] w fun e w'=>e=.returned (.tuple #[])∧Ext w w':=by
 go_enter Tryz.func43,Tryz.ntmps43
 go_wp2_with(go_at_call 89;(with_reducible refine(zox _).mono ?_);rintro e w2 ⟨rfl,hx2⟩;have HX2:=hid hx2;clear hx2)
 go_end0
 exact⟨rfl,HX2.out⟩
def zl3(S:Nat→Prop)(w:World)(l:List Ent)(e:Ending)(w':World):Prop:=∃A n c,e=.returned (.slice A n c)∧Row Elem.ent (fun b=>S b∨w.heap.size≤b) w' A n c (sortN nmE l)∧Ext w w'
theorem zjZ{S:Nat→Prop}{w:World}{g B:Nat}{es:Array MapEntry}{clock:Nat}{l:List Ent}(h:TreeAt S w g B es clock l)(hG:Gl w)(hn:l.length≤1000000)(hf:∀e∈l,EntFits e)(hN:Named l) :
 Calls Tryz.prog 27 #[.pointer (some ⟨g,0,none⟩)] w (zl3 S w l):=by
 have HT:=hid h
 have HG:=hid hG
 have HN:=hid hn
 have HFT:=hid hf
 have HNM:=hid hN
 have cg:=h.cell
 unfold zl3
 clear h hG hn hf hN
 go_enter Tryz.func27,Tryz.ntmps27
 go_wp2_with(at_range;refine zht rfl _ rfl rfl HT.out ?_;intro w3 h3 hx3;have HTR3:=hid h3;have HX3:=hid hx3;clear h3 hx3)
 go_frame
 clear cg
 go_loopw [3] (fun v wq=>∃zs,Hid (TRange S w wq g B w.heap.size es clock l zs)∧Hid (GrowM Elem.ent (fun b=>S b∨w.heap.size≤b) 58 (some w.heap.size) w wq v (zs.map (·.2)))) (fun _ wq=>wq.rangeLeft B w.heap.size)
 case atStart=>exact⟨[],HTR3.out,GrowM.nil HX3.out (fun g hg=>by injection hg with hg;rw[←hg];exact⟨Nat.le_refl _,HTR3.out.rng.lt⟩)⟩
 case round=>
  obtain⟨zs,HTZ,HGR⟩:=hrel
  go_wp2_with(at_next;refine zjc rfl _ rfl rfl HTZ.out ?_ ?_)
  ·intro hperm
   have HP:=hid hperm
   have HXW:=hid HTZ.out.ext
   rcases HGR.out.forms with⟨rfl,hz⟩|⟨g9,n9,c9,rfl,hn9⟩
   ·have HL:Hid (l=[]):=by
     rw[hz] at hperm
     exact List.Perm.eq_nil hperm.symm
    clear hz hperm
    go_wp2_with(go_at_call 43;(with_reducible refine(zgr _).mono ?_);rintro e w5 ⟨rfl,hx5⟩;have HX5:=hid (HXW.out.trans hx5);clear hx5)
    go_ret
    exact⟨none,0,0,rfl,by rw[HL.out];exact Row.nil _ _ _,HX5.out⟩
   ·have hs9:∀e∈zs.map (·.2),zbZ (nmE e)=true:=fun e he=>HNM.out.self e (hperm.mem_iff.1 he)
    have ha9:Apart nmE (zs.map (·.2)):=HNM.out.apart.perm hperm
    have hle:n9≤4000000:=by rw[hn9,hperm.length_eq];have:=HN.out;omega
    have HSR:Calls Tryz.prog 43 #[.slice (some ⟨g9,0,none⟩) n9 c9] wr (zgM (fun b=>S b∨w.heap.size≤b) w wr (.slice (some ⟨g9,0,none⟩) n9 c9) (zs.map (·.2))):=zga HGR.out.free HG.out hle hs9 ha9
    unfold zgM at HSR
    rw[znO (f:=nmE) HNM.out.self HNM.out.apart hperm] at HSR
    have HLN:Hid (n9=(sortN nmE l).length):=by
     show _=_
     rw[(zbo HNM.out.self HNM.out.apart).1.length_eq,←hperm.length_eq]
     exact hn9
    clear hperm hs9 ha9 hle hn9
    go_wp2_with(go_at_call 43;(with_reducible refine HSR.mono ?_);rintro e w5 ⟨rfl,hg5,hf5⟩;have HG5:=hid hg5;clear hg5 hf5)
    go_ret
    obtain⟨A6,c6,hv,hr⟩:=HG5.out.row
    injection hv with y1 y2 y3
    subst y1 y3
    refine⟨_,n9,c9,rfl,?_,HG5.out.ext⟩
    rw[y2]
    refine hr.mono fun b _ hb=>?_
    rcases hb with hb|hb
    ·exact hb
    ·exact .inr hb
  ·intro x e w4 A4 n4 c4 hmem hx hT4 hg4 hlt4 hen hr4
   have HTN:=hid hT4
   have HLT:=hid hlt4
   have HR4:=hid hr4
   have HFX:=hid (HFT.out e hmem)
   have HCN:=hid hT4.count
   have HGK:=hid (HGR.out.turnL hg4)
   have HB1:=hid (Bx.make (Ext.refl w4) #[.string e.name,.slice A4 n4 c4] 58)
   have p0:=HB1.out.cell (i:=0) rfl
   have p1:=HB1.out.cell (i:=1) rfl
   have HCP:=zfn (HR4.out.ext HB1.out.ext) e.name HFX.out.few HFX.out.vals
   unfold zbU at HCP
   have HLN:Hid ((zs.map (·.2)).length≤4000000):=by
    show _≤_
    have h1:=HCN.out
    have h2:=HN.out
    rw[List.length_append] at h1
    rw[List.length_map]
    omega
   have HMP:Hid (zs.map (·.2)++[e]=(zs++[(x,e)]).map (·.2)):=by show _=_;simp
   have HTB:Hid (B<w.heap.size):=HT.out.map.lt
   have HZ4:Hid (w.heap.size≤w4.heap.size):=hT4.ext.size
   clear hmem hx hT4 hg4 hlt4 hr4
   go_wp2_with (first
    |(go_at_call 41;(with_reducible refine HCP.mono ?_);rintro e5 w5 ⟨A5,n5,c5,rfl,hr5,hx5⟩;have HX5:=hid (HB1.out.ext.trans hx5);have HG5:=hid (HGK.out.later HX5.out);have HE5:=hid ((HGK.out.later HB1.out.ext).new (w1:=w5) (u:=[.string e.name,.slice A5 n5 c5]) (x:=e) (S':=fun b=>(S b∧b<w.heap.size)∨(w4.alloc (.cells #[.string e.name,.slice A4 n4 c4] 58)).heap.size≤b) (fun b _ hb=>by(rcases hb with hb|hb);(exact .inl hb.1);(have h2:=HZ4.out;simp only[World.alloc,Array.size_push] at hb;exact .inr (by omega))) (fun b hb=>by(rcases hb with hb|hb);(exact .inl hb.2);(exact .inr hb)) ⟨A5,n5,c5,rfl,hr5⟩);clear hr5 hx5)
    | (at_builtin;refine zcT Tryz.underlying22 zdP rfl (by decide) rfl _ _ rfl _ _ rfl HG5.out (u:=[.string e.name,.slice A5 n5 c5]) e HE5.out (by intro c hc;simp at hc;rcases hc with rfl | rfl <;> rfl) rfl rfl HLN.out ?_;intro v6 w6 hg6 hq6 hb6;have HG6:=hid hg6;have HX6:=hid (HX5.out.trans (Ext.alloc _ (.cells #[.string e.name,.slice A5 n5 c5] 58)));have HT6:=hid ((HTN.out.later HX6.out).kept hq6 (fun e=>(HG5.out.apart _ rfl).1 e.symm) (fun k hk=>(HG5.out.lt hk).1));clear hg6 hq6 hb6))
   refine⟨⟨zs++[(x,e)],HT6.out,?_⟩,?_⟩
   ·rw[←HMP.out]
    exact HG6.out
   ·rw[HT6.out.rng.left_eq,←HTN.out.rng.left_eq]
    exact HLT.out
end
section
open Go.RowKit
set_option maxRecDepth 100000
theorem zlF{nm:List UInt8}{l:List Att}(h:zcE nm l=true):zbZ nm=true:=by
 unfold zcE zrw at h
 simp only[Bool.and_eq_true] at h
 exact h.1.1.1.1
theorem zoZ{l:List Ent}{p:ByteArray}:zc0 l p=none↔l.any (fun e=>decide (nmE e=bys p))=false:=by
 unfold zc0
 rw[List.find?_eq_none,List.any_eq_false]
 constructor
 ·intro h x hx
  have:=h x hx
  simp only[decide_eq_true_eq] at this ⊢
  intro e
  exact this (by rw[←zaK x.name];unfold nmE at e;rw[e,zaK])
 ·intro h x hx
  have:=h x hx
  simp only[decide_eq_true_eq] at this ⊢
  intro e
  exact this (by unfold nmE;rw[e])
theorem zma{α:Type}{f:α→List UInt8}{e x:α}:∀{out:List α},x∈insN f e out→x=e∨x∈out
 |[],h=>by simp[insN] at h;exact .inl h
 |o::t,h=>by
  unfold insN at h
  split at h
  ·rcases List.mem_cons.1 h with h|h
   ·exact .inr (by simp[h])
   ·rcases zma h with h|h
    ·exact .inl h
    ·exact .inr (by simp[h])
  ·split at h
   ·exact .inr h
   ·rcases List.mem_cons.1 h with h|h
    ·exact .inl h
    ·exact .inr h
theorem zeK{α:Type}{f:α→List UInt8}{x:α}:∀(l out:List α),x∈l.foldl (fun out e=>insN f e out) out→x∈l∨x∈out
 |[],_,h=>.inr h
 |a::l,out,h=>by
  rcases zeK l _ h with h|h
  ·exact .inl (by simp[h])
  ·rcases zma h with h|h
   ·exact .inl (by simp[h])
   ·exact .inr h
theorem zoz{α:Type}{f:α→List UInt8}{l:List α}{x:α}(h:x∈sortN f l):x∈l:=by
 rcases zeK l [] h with h|h
 ·exact h
 ·cases h
end
section
open Go.RowKit
open Go.Maps Go.MapKept Go.WideShapes Go.ChangeShapes Go.ChangeMaps
set_option maxRecDepth 100000
theorem zlh{S:Nat→Prop}{A:Option Addr}{n c:Nat}{l:List Ent}{w:World}(h:Row Elem.ent S w A n c l)(hG:Gu w)(hf:∀e∈l,EntFits e) :
 Calls Tryz.prog 24 #[.slice A n c] w (zlN S w l):=by
 have HG:=hid hG
 have HR:=hid h.lt
 have hl:=hid h.len
 have HFT:=hid hf
 have hnl:n≤9223372036854775807:=by have:=h.cap;have:=h.most;simp only[maxLen] at this;omega
 show Calls _ _ _ _ (fun e w'=>zlN S w l e w')
 clear hG h hf
 by_cases h4:400<n
 ·have HE:Hid (¬OkOf l):=fun h=>by have:=h.1;have:=hl.out;omega
  have e1:400<(n:Int):=by omega
  clear h4
  go_enter Tryz.func24,Tryz.ntmps24
  go_wp2
  go_ret2
  exact .inr ⟨HE.out,rfl,Ext.refl _⟩
 ·have e1:decide (400<(n:Int))=false:=by rw[decide_eq_false_iff_not];omega
  have hn4:n≤400:=by omega
  have HN:=fun w=>zsf w
  unfold zn2 at HN
  clear h4
  go_enter Tryz.func24,Tryz.ntmps24
  go_wp2_with(go_at_call 50;(with_reducible refine(HN _).mono ?_);rintro e w1 ⟨g,B,rfl,hg,hb,hB,hBg,hx1⟩;have HTR:=hid (zoA (S:=S) (w0:=w) hg hb (show g≠B by omega));have HX1:=hid hx1;have HBL:=hid (show w.heap.size≤B from hB);have HGL:=hid (show w.heap.size≤g by omega);clear hg hb hB hBg hx1)
  clear HN e1
  go_loopw [18] (fun i wr=>∃(j:Nat) (es:Array MapEntry) (clock:Nat),j≤n∧i=.int .i64 j∧Hid (TreeAt (zhe S w B) wr g B es clock (l.take j))∧Hid (OkOf1 l j)∧Hid (Ext w wr)) (fun i _=>n-(intOf i).toNat)
  case atStart=>exact⟨0,#[],0,by omega,rfl,HTR.out,fun i e hi=>absurd hi (Nat.not_lt_zero i),HX1.out⟩
  case round=>
   obtain⟨j,es,clock,hj,rfl,HT,HO,HX⟩:=hrel
   by_cases hlt:j<n
   ·obtain⟨b1,o1,v1,x1,rfl,g1,-,⟨A1,n1,c1,rfl,r1⟩,q1⟩:=(HR.out.ext HX.out).at_ hlt
    have e10:=q1 0 _ rfl
    have e11:=q1 1 _ rfl
    simp only[Elem.ent,Nat.add_zero] at e10 e11
    have R1:=hid r1
    have Hg1:=hid g1
    have HFX:=hid (HFT.out x1 (List.mem_of_getElem? g1))
    clear q1 r1 g1
    have HB1:=hid (Bx.make (Ext.refl wr) #[.string x1.name,.slice A1 n1 c1] 58)
    obtain⟨S9,hS9⟩:∃S:Nat→Prop,S=fun b=>b<wr.heap.size+1:=⟨_,rfl⟩
    have HSI:Hid (∀b,S9 b→b<wr.heap.size+1):=fun b hb=>by rw[hS9] at hb;exact hb
    have HS1:Hid (S9 wr.heap.size):=by show S9 _;rw[hS9];show _<_;omega
    have HS2:Hid (S9 g):=by show S9 _;rw[hS9];show _<_;have:=zpe HT.out.ptr;omega
    have HS3:Hid (S9 B):=by show S9 _;rw[hS9];show _<_;have:=HT.out.map.lt;omega
    obtain⟨PR,hPR⟩:∃p,p=Pre.same S9:=⟨_,rfl⟩
    have HPS:Hid (∀w w',Same S9 w w'→PR.r w w'):=fun w w' h=>by rw[hPR];exact h
    have HPT:Hid (∀w w',PR.r w w'→Same S9 w w'):=fun w w' h=>by rw[hPR] at h;exact h
    clear hPR hS9
    rcases HT.out.find x1.name with⟨hn,hno⟩|⟨ef,Af,nf,cf,xf,hn,hne,hrf,hxf,hkf,hvf⟩
    ·have HNO:=hid hno
     have HNN:=hid hn
     clear hno hn
     go_wp2
     refine zbi PR (.read 0 (.read 1 (.read 2 (.read 3 (.read 4 (.read 5 (.read 6 (.read 7 (.read 8 (.read 9 (.main 10 (.main 11 (.read 12 .done))))))))))))) (by kernel_rfl) (by kernel_rfl) ?_
     intro wD hxD
     have XR:Hid (PR.r wD wD):=PR.refl _
     have HBD:=hid (HB1.out.later hxD)
     have HTD:=hid (HT.out.ext HBD.out.ext)
     have HSR:Hid (∀b,S9 b→b<wD.heap.size):=fun b hb=>by have h1:=HSI.out b hb;have h2:=hxD.size;simp only[World.alloc,Array.size_push] at h2;omega
     have HNE:Hid (∀b,S9 b→b≠wD.heap.size):=fun b hb=>by have h1:=HSR.out b hb;omega
     have ce0:∀w',PR.r wD w'→w'.cell? ⟨wr.heap.size,0,none⟩=some (.string x1.name):=fun w' hk=>by rw[World.cell?_of_block (HPT.out _ _ hk _ HS1.out)];exact HBD.out.cell (i:=0) rfl
     have cg:∀w',PR.r wD w'→w'.cell? ⟨g,0,none⟩=some (.map (some B)):=fun w' hk=>by rw[World.cell?_of_block (HPT.out _ _ hk _ HS2.out),cell_of_row wD g 0 _ _ (0,0) HTD.out.ptr];rfl
     have hlk:∀w',PR.r wD w'→(Instr.lookup 111 (.map (some B)) (.string x1.name) true).run Tryz.prog w'=.ok (.tuple #[.agg #[.string ⟨#[]⟩,.slice none 0 0],.bool false]) w':=fun w' hk=>MapAt.look_none ⟨by rw[HPT.out _ _ hk _ HS3.out];exact HTD.out.map.blk,HTD.out.map.fit⟩ x1.name (by have:=HFX.out.name;simp only[maxLen];omega) HNO.out
     repeat' ((first
      |refine zcb rfl rfl ?_
      |refine zby rfl rfl ?_
      |refine walksR_skip rfl rfl ?_
      |refine walksR_unwanted rfl rfl ?_
      |(refine za9 (v:=?_) rfl rfl (fun w' hE=>?_) ?_;rotate_left 1;(· ((try(have hEx:=Pre.trans _ (Hid.out XR) hE));go_simp;(try go_bits);with_reducible rfl)))
      |refine zcu ?_ ?_
      | (refine zba rfl rfl (fun K hK=>?_);go_wp2_with (fail);refine hK _ _ (by first | assumption | exact Pre.refl _ _ | exact Hid.out HPS _ _ (Same.alloc_of (Hid.out HSR) _) | exact Hid.out HPS _ _ (Same.set_of (Hid.out HNE) _) | exact Hid.out HPS _ _ (Same.allocs_of (Hid.out HSR) _ _)) ?_;clear hK K));try simp only [Act.put,Act.eval,evs])
     all_goals
      refine zcd ?_
      have HB2:=hid (HBD.out.later (Ext.alloc wD (.cells #[.string ⟨#[]⟩,.slice none 0 0] 58)))
      have p0:=HB2.out.cell (i:=0) rfl
      have p1:=HB2.out.cell (i:=1) rfl
      clear XR cg ce0 hlk
      have HFE:∀w',Ext wr w'→Calls Tryz.prog 40 #[.agg #[.string x1.name,.slice A1 n1 c1]] w' fun e w''=>e=.returned (.bool (zcE (bys x1.name) x1.atts))∧Ext w' w'':=fun w' hx=>zmR (R1.out.ext hx) x1.name (HG.out.ext (HX.out.trans hx)) HFX.out.types HFX.out.vals
      cases hfe:zcE (bys x1.name) x1.atts with
      |false=>
       have HE:Hid (¬OkOf l):=fun h=>by
        have h1:=(h.2.1 j x1 (by have:=hl.out;omega) Hg1.out).2
        rw[hfe] at h1
        cases h1
       rw[hfe] at HFE
       clear hfe
       go_wp2_with(go_at_call 40;(with_reducible refine(HFE _ HB2.out.ext).mono ?_);rintro e w3 ⟨rfl,hx3⟩;have HX3:=hid (HX.out.trans (HB2.out.ext.trans hx3));clear hx3)
       go_ret2
       exact .inr ⟨HE.out,rfl,HX3.out⟩
      |true=>
       have HO2:=hid (HO.out.next Hg1.out HNN.out hfe)
       rw[hfe] at HFE
       clear hfe
       go_wp2_with(go_at_call 40;(with_reducible refine(HFE _ HB2.out.ext).mono ?_);rintro e w3 ⟨rfl,hx3⟩;have HB3:=hid (HB2.out.later hx3);clear hx3)
       clear HFE p0 p1 HSR HNE HSI HS1 HS2 HS3 HPS HPT HBD HTD hxD
       have HT3:=hid (HT.out.ext HB3.out.ext)
       obtain⟨S8,hS8⟩:∃S:Nat→Prop,S=fun b=>b<w3.heap.size∧b≠B:=⟨_,rfl⟩
       have HSI:Hid (∀b,S8 b→b<w3.heap.size∧b≠B):=fun b hb=>by rw[hS8] at hb;exact hb
       have HSJ:Hid (∀b,b<w3.heap.size→b≠B→S8 b):=fun b h1 h2=>by show S8 _;rw[hS8];exact⟨h1,h2⟩
       obtain⟨P8,hP8⟩:∃p,p=Pre.same S8:=⟨_,rfl⟩
       have HPS:Hid (∀w w',Same S8 w w'→P8.r w w'):=fun w w' h=>by rw[hP8];exact h
       have HPT:Hid (∀w w',P8.r w w'→Same S8 w w'):=fun w w' h=>by rw[hP8] at h;exact h
       have HS1:Hid (S8 wr.heap.size):=HSJ.out _ (by have h1:=HB3.out.ext.size;have h2:=HB1.out.ext;have h3:=zpe HB3.out.blk;omega) (by have:=HT.out.map.lt;omega)
       have HS2:Hid (S8 g):=HSJ.out _ (zpe HT3.out.ptr) HT3.out.ne
       clear hP8 hS8
       refine zbi P8 (.read 0 (.read 1 (.read 2 (.read 3 (.read 4 (.read 5 (.read 6 (.main 7 (.main 8 .done))))))))) (by kernel_rfl) (by kernel_rfl) ?_
       intro wD hxD
       have XR:Hid (P8.r wD wD):=P8.refl _
       have HBD:=hid (HB3.out.later hxD)
       have HTD:=hid (HT.out.ext HBD.out.ext)
       have HSR:Hid (∀b,S8 b→b<wD.heap.size):=fun b hb=>by have h1:=(HSI.out b hb).1;have h2:=hxD.size;omega
       have ce0:∀w',P8.r wD w'→w'.cell? ⟨wr.heap.size,0,none⟩=some (.string x1.name):=fun w' hk=>by rw[World.cell?_of_block (HPT.out _ _ hk _ HS1.out)];exact HBD.out.cell (i:=0) rfl
       have cg:∀w',P8.r wD w'→w'.cell? ⟨g,0,none⟩=some (.map (some B)):=fun w' hk=>by rw[World.cell?_of_block (HPT.out _ _ hk _ HS2.out),cell_of_row wD g 0 _ _ (0,0) HTD.out.ptr];rfl
       have hblk:∀w',P8.r wD w'→w'.heap[wr.heap.size]?=some (.cells #[.string x1.name,.slice A1 n1 c1] 58 (0,0)):=fun w' hk=>by rw[HPT.out _ _ hk _ HS1.out];exact HBD.out.blk
       have HCP:Calls Tryz.prog 41 #[.agg #[.string x1.name,.slice A1 n1 c1]] wD (zbU (fun b=>S b∧b<w.heap.size) wD x1.name x1.atts):=zfn (R1.out.ext HBD.out.ext) x1.name HFX.out.few HFX.out.vals
       unfold zbU at HCP
       have hz:es.size<maxLen:=by have h1:=HT.out.ents.1;rw[List.length_take,Array.length_toList] at h1;simp only[maxLen];omega
       have HPUT:Hid (∀ A5 n5 c5 w5,Row Elem.att (fun b=>(S b∧b<w.heap.size)∨wD.heap.size≤b) w5 A5 n5 c5 x1.atts→Ext wD w5 →
        (Instr.mapUpdate 111 (.map (some B)) (.string x1.name) (.agg #[.string x1.name,.slice A5 n5 c5])).run Tryz.prog w5=.ok () (setBlock w5 B (.map (es.push ⟨.string x1.name,.agg #[.string x1.name,.slice A5 n5 c5],clock⟩) (clock+1))) ∧
        TreeAt (zhe S w B) (setBlock w5 B (.map (es.push ⟨.string x1.name,.agg #[.string x1.name,.slice A5 n5 c5],clock⟩) (clock+1))) g B (es.push ⟨.string x1.name,.agg #[.string x1.name,.slice A5 n5 c5],clock⟩) (clock+1) (l.take j++[x1])):=fun A5 n5 c5 w5 hr hx=>
        (HTD.out.ext hx).put hz (by have:=HFX.out.name;simp only [maxLen];omega) HNO.out ⟨A5,n5,c5,rfl,hr.mono fun b _ hb=>by
          have h1:=HTD.out.map.lt
          have h2:=HBL.out
          refine⟨by rcases hb with hb|hb<;>omega,?_⟩
          rcases hb with hb|hb
          ·exact .inl hb
          ·exact .inr (by omega)⟩
       have HTK:Hid (l.take j++[x1]=l.take (j+1)):=by show _=_;rw[List.take_add_one,Hg1.out];rfl
       clear hz
       repeat' ((first
        |refine zcb rfl rfl ?_
        |refine zby rfl rfl ?_
        |refine walksR_skip rfl rfl ?_
        |refine walksR_unwanted rfl rfl ?_
        |(refine za9 (v:=.agg #[.string x1.name,.slice A1 n1 c1]) rfl rfl (fun w' hE=>zcz 58 (.tmp 6) rfl _ rfl _ _ _ (hblk w' (Pre.trans _ (Hid.out XR) hE)) Tryz.underlying58 rfl (by kernel_rfl)) ?_)
        |(refine za9 (v:=?_) rfl rfl (fun w' hE=>?_) ?_;rotate_left 1;(· ((try(have hEx:=Pre.trans _ (Hid.out XR) hE));go_simp;(try go_bits);with_reducible rfl)))
        |(refine zba rfl rfl (fun K hK=>?_);(first|(refine zn7 111 (.tmp 41) (.tmp 43) (.tmp 45) rfl rfl rfl rfl HRUN.out ?_));refine hK _ _ (by first|assumption|exact Pre.refl _ _|exact Hid.out HPS _ _ (Same.alloc_of (Hid.out HSR) _)|exact Hid.out HPS _ _ (Same.set_of (Hid.out HNE) _)|exact Hid.out HPS _ _ (Same.allocs_of (Hid.out HSR) _ _)) ?_;clear hK K)
        |refine zcu ?_ ?_
        | (refine zba rfl rfl (fun K hK=>?_);go_wp2_with ((go_at_call 41;(with_reducible refine HCP.mono ?_);rintro e w5 ⟨A5,n5,c5,rfl,hr5,hx5⟩;have HX5:=hid hx5;have hs5:P8.r wD w5:=HPS.out _ _ (fun b hb=>hx5.block b (HSR.out b hb));have HRUN:=hid (HPUT.out A5 n5 c5 w5 hr5 hx5).1;have HT6:=hid (HPUT.out A5 n5 c5 w5 hr5 hx5).2;have hs6:P8.r w5 (setBlock w5 B (.map (es.push ⟨.string x1.name,.agg #[.string x1.name,.slice A5 n5 c5],clock⟩) (clock+1))):=HPS.out _ _ ((zhj w5 B _).mono fun b hb=>(HSI.out b hb).2);clear hr5 hx5));refine hK _ _ (by first | assumption | exact Pre.refl _ _ | exact Hid.out HPS _ _ (Same.alloc_of (Hid.out HSR) _) | exact Hid.out HPS _ _ (Same.set_of (Hid.out HNE) _) | exact Hid.out HPS _ _ (Same.allocs_of (Hid.out HSR) _ _)) ?_;clear hK K));try simp only [Act.put,Act.eval,evs])
       all_goals
        refine zcd ?_
        go_wp2
        exact⟨⟨j+1,_,_,by omega,by go_num,by have h:=HT6.out;rw[HTK.out] at h;exact h,HO2.out,zqA (HX.out.trans (HBD.out.ext.trans HX5.out)) HBL.out _⟩,by simp[intOf];omega⟩
    ·have HE:Hid (¬OkOf l):=fun h=>by
      have h1:=(h.2.1 j x1 (by have:=hl.out;omega) Hg1.out).1
      rw[hn] at h1
      cases h1
     have HXF:=hid hxf
     have HKF:=hid hkf
     have HVF:=hid hvf
     clear hn hne hrf hxf hkf hvf
     go_wp2
     refine zbi PR (.read 0 (.read 1 (.read 2 (.read 3 (.read 4 (.read 5 (.read 6 (.read 7 (.read 8 (.read 9 (.main 10 (.main 11 (.read 12 .done))))))))))))) (by kernel_rfl) (by kernel_rfl) ?_
     intro wD hxD
     have XR:Hid (PR.r wD wD):=PR.refl _
     have HBD:=hid (HB1.out.later hxD)
     have HTD:=hid (HT.out.ext HBD.out.ext)
     have HSR:Hid (∀b,S9 b→b<wD.heap.size):=fun b hb=>by have h1:=HSI.out b hb;have h2:=hxD.size;simp only[World.alloc,Array.size_push] at h2;omega
     have HNE:Hid (∀b,S9 b→b≠wD.heap.size):=fun b hb=>by have h1:=HSR.out b hb;omega
     have ce0:∀w',PR.r wD w'→w'.cell? ⟨wr.heap.size,0,none⟩=some (.string x1.name):=fun w' hk=>by rw[World.cell?_of_block (HPT.out _ _ hk _ HS1.out)];exact HBD.out.cell (i:=0) rfl
     have cg:∀w',PR.r wD w'→w'.cell? ⟨g,0,none⟩=some (.map (some B)):=fun w' hk=>by rw[World.cell?_of_block (HPT.out _ _ hk _ HS2.out),cell_of_row wD g 0 _ _ (0,0) HTD.out.ptr];rfl
     have hlk:∀w',PR.r wD w'→(Instr.lookup 111 (.map (some B)) (.string x1.name) true).run Tryz.prog w'=.ok (.tuple #[.agg #[.string x1.name,.slice Af nf cf],.bool true]) w':=fun w' hk=>by
      have h1:MapAt w' B es clock:=⟨by rw[HPT.out _ _ hk _ HS3.out];exact HTD.out.map.blk,HTD.out.map.fit⟩
      have:=h1.look_some x1.name (by have:=HFX.out.name;simp only[maxLen];omega) HXF.out HKF.out
      rw[HVF.out] at this
      exact this
     repeat' ((first
      |refine zcb rfl rfl ?_
      |refine zby rfl rfl ?_
      |refine walksR_skip rfl rfl ?_
      |refine walksR_unwanted rfl rfl ?_
      |(refine za9 (v:=?_) rfl rfl (fun w' hE=>?_) ?_;rotate_left 1;(· ((try(have hEx:=Pre.trans _ (Hid.out XR) hE));go_simp;(try go_bits);with_reducible rfl)))
      |refine zcu ?_ ?_
      | (refine zba rfl rfl (fun K hK=>?_);go_wp2_with (fail);refine hK _ _ (by first | assumption | exact Pre.refl _ _ | exact Hid.out HPS _ _ (Same.alloc_of (Hid.out HSR) _) | exact Hid.out HPS _ _ (Same.set_of (Hid.out HNE) _) | exact Hid.out HPS _ _ (Same.allocs_of (Hid.out HSR) _ _)) ?_;clear hK K));try simp only [Act.put,Act.eval,evs])
     all_goals
      refine zcd ?_
      clear XR cg ce0 hlk
      have HX3:=hid (HX.out.trans (HBD.out.ext.trans (Ext.alloc wD (.cells #[.string x1.name,.slice Af nf cf] 58))))
      go_wp2
      go_ret2
      exact .inr ⟨HE.out,rfl,HX3.out⟩
   ·obtain rfl:j=n:=by omega
    have HTK:Hid (l.take j=l):=by show _=_;rw[List.take_of_length_le (Nat.le_of_eq hl.out.symm)]
    rw[HTK.out] at HT
    have cg:=HT.out.cell
    have HO9:Hid (OkOf1 l l.length):=by show OkOf1 _ _;rw[←hl.out];exact HO.out
    have HLL:Hid (l.length≤400):=by show _≤_;have:=hl.out;omega
    clear HTK HO
    go_wp2_with(at_range;refine zht rfl _ rfl rfl HT.out ?_;intro w3 h3 hx3;have HTR3:=hid h3;have HX3:=hid hx3;clear h3 hx3)
    go_frame
    obtain⟨w2,hw2⟩:∃x,x=wr:=⟨_,rfl⟩
    subst hw2
    go_loopw [9] (fun _ wq=>∃zs,Hid (TRange (zhe S w B) w2 wq g B w2.heap.size es clock l zs)∧Hid (∀z∈zs,zdr l (str (zaT (bys z.2.name)).1)=0)) (fun _ wq=>wq.rangeLeft B w2.heap.size)
    case atStart=>exact⟨[],HTR3.out,fun z hz=>by simp at hz⟩
    case round=>
     obtain⟨zs,HTZ,HAZ⟩:=hrel
     go_wp2_with(at_next;refine zjc rfl _ rfl rfl HTZ.out ?_ ?_)
     ·intro hperm
      have HOK:Hid (OkOf l):=⟨HLL.out,HO9.out,fun e he=>by
       obtain⟨z,hz,ez⟩:=List.mem_map.1 (hperm.mem_iff.2 he)
       rw[←ez]
       exact HAZ.out z hz⟩
      have HTT:=hid (HT.out.ext HTZ.out.ext)
      have HXT:=hid (HX.out.trans HTZ.out.ext)
      clear hperm
      go_wp2
      go_ret2
      exact .inl ⟨HOK.out,g,B,es,clock,rfl,HTT.out,HBL.out,HGL.out,HXT.out⟩
     ·intro x e w4 A4 n4 c4 hmem hx hT4 hg4 hlt4 hen hr4
      have HTN:=hid hT4
      have HLT:=hid hlt4
      have HXW:=hid (HX.out.trans hT4.ext)
      have HMM:=hid hmem
      have HT4:=hid (HT.out.ext hT4.ext)
      have HPA:∀w',Ext w4 w'→Calls Tryz.prog 29 #[.string e.name] w' (zcj w' (bys e.name)):=fun w' hx=>zd6 e.name w' (HG.out.gl.ext (HXW.out.trans hx))
      unfold zcj at HPA
      have HAZ2:Hid (zdr l (str (zaT (bys e.name)).1)=0→∀z∈zs++[(x,e)],zdr l (str (zaT (bys z.2.name)).1)=0):=fun h z hz=>by
       rcases List.mem_append.1 hz with hz|hz
       ·exact HAZ.out z hz
       ·simp at hz;rw[hz];exact h
      have HNO:Hid (¬zdr l (str (zaT (bys e.name)).1)=0→¬OkOf l):=fun h k=>h (k.2.2 e HMM.out)
      have hsz:(zaT (bys e.name)).1.length≤1000:=by
       unfold zaT
       have h1:=(zcU (bys e.name)).2
       cases hl:okL (zak (bys e.name)) with
       |nil=>simp
       |cons a t=>rw[hl] at h1;exact Nat.le_trans (zhd a t) h1
      obtain⟨ps,hps⟩:∃ps,ps=str (zaT (bys e.name)).1:=⟨_,rfl⟩
      rw[←hps] at HPA HAZ2 HNO
      have hpz:ps.size≤4000000:=by rw[hps,←zaj,zao];omega
      clear hps hsz hmem hx hT4 hg4 hlt4 hr4
      have HAB:∀w',Ext w4 w'→Calls Tryz.prog 51 #[.pointer (some ⟨g,0,none⟩),.string ps] w' fun e w''=>e=.returned (.int .i64 (zdr l ps))∧Ext w' w'':=fun w' hx=>
       zoW (HT4.out.ext hx) ps hpz (HG.out.ext (HXW.out.trans hx)) (fun e he=>(HFT.out e he).vals)
      generalize zdr l ps=k at*
      by_cases hk:k=0
      ·have HZ:=hid (HAZ2.out hk)
       subst hk
       go_wp2_with (first
        |(go_at_call 29;(with_reducible refine(HPA _ (Ext.refl _)).mono ?_);rintro e5 w5 ⟨rfl,hx5⟩;have HX5:=hid hx5;clear hx5)
        | (go_at_call 51;(with_reducible refine (HAB _ HX5.out).mono ?_);rintro e6 w6 ⟨rfl,hx6⟩;have HX6:=hid (HX5.out.trans hx6);clear hx6))
       have HT9:=HTN.out.later HX6.out
       refine⟨⟨zs++[(x,e)],HT9,HZ.out⟩,?_⟩
       rw[HT9.rng.left_eq,←HTN.out.rng.left_eq]
       exact HLT.out
      ·have HE:=hid (HNO.out hk)
       have hk':(k != 0)=true:=by rw[bne_iff_ne];exact hk
       clear hk
       go_wp2_with (first
        |(go_at_call 29;(with_reducible refine(HPA _ (Ext.refl _)).mono ?_);rintro e5 w5 ⟨rfl,hx5⟩;have HX5:=hid hx5;clear hx5)
        | (go_at_call 51;(with_reducible refine (HAB _ HX5.out).mono ?_);rintro e6 w6 ⟨rfl,hx6⟩;have HX6:=hid (HX5.out.trans hx6);clear hx6))
       go_ret2
       exact .inr ⟨HE.out,rfl,HXW.out.trans HX6.out⟩
end
end Go.Proofs.YtkjbokhnpphimaaGreatDoor
