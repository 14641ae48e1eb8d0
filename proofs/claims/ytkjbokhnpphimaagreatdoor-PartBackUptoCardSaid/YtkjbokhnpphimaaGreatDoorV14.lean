/- Lemmas of the walk. -/
import Derived.Test.YtkjbokhnpphimaaGreatDoorV10
import Derived.Test.YtkjbokhnpphimaaGreatDoorV13
import Derived.Laws.Cover1
set_option maxHeartbeats 40000000
set_option linter.unusedVariables false
set_option linter.unusedSimpArgs false
namespace Go.Proofs.YtkjbokhnpphimaaGreatDoor
section
open Go.RowKit
set_option maxRecDepth 100000
def zay(x:Ava):List Value:=[.string (str x.type),.string (str x.val)]
def Elem.ava:Elem Ava:=⟨2,by decide,fun _ _ v x=>v=zay x,fun h=>by rw[h];rfl,fun h _=>h,fun h _=>h⟩
theorem zn3{w:World}{base:Nat}{e:TypeId}{v:Value}{n size:Nat}{vs:List Value}(h:w.ownsRow base e size v n vs):∃A c,v=.slice A n c:=by
 rcases h.2 with⟨rfl,rfl⟩|⟨g,cap,cur,rfl,_⟩
 ·exact⟨_,_,rfl⟩
 ·exact⟨_,_,rfl⟩
theorem zc4(l:List Ava):(l.map zay).flatten.length=l.length * 2:=by
 induction l with
 |nil=>rfl
 |cons x t ih=>simp only[List.map_cons,List.flatten_cons,List.length_append,ih,List.length_cons,zay,List.length_nil];omega
structure GrowA(T:TypeId)(w wr:World)(v:Value)(l:List Ava):Prop where
 own:wr.ownsRow w.heap.size T 2 v l.length (l.map zay).flatten
 ext:Ext w wr
theorem GrowA.nil{T:TypeId}{w wr:World}(hx:Ext w wr):GrowA T w wr (.slice none 0 0) []:=⟨World.ownsRow_nil _ _ _ _,hx⟩
theorem GrowA.later{T:TypeId}{w wr w':World}{v:Value}{l:List Ava}(h:GrowA T w wr v l)(hx:Ext wr w'):GrowA T w w' v l:=⟨zdC h.own hx,h.ext.trans hx⟩
theorem GrowA.base{T:TypeId}{w w1 wr:World}{v:Value}{l:List Ava}(h:GrowA T w1 wr v l)(hx:Ext w w1):GrowA T w wr v l:=⟨zgL h.own (zaz hx),hx.trans h.ext⟩
theorem GrowA.row{T:TypeId}{w wr:World}{v:Value}{l:List Ava}(h:GrowA T w wr v l):∃A c,v=.slice A l.length c∧Row Elem.ava (fun b=>w.heap.size≤b) wr A l.length c l:=by
 have ho:=h.own
 obtain⟨A,c,rfl⟩:=zn3 ho
 refine⟨A,c,rfl,ze9 (E:=Elem.ava) (vss:=l.map zay) ho rfl (by simp) (fun g hg=>(ho.lt g hg).1) fun i v x hi hx=>?_⟩
 rw[List.getElem?_map,hx] at hi
 simpa[Elem.ava,zay] using hi.symm
theorem zrP:(Tryz.prog.info? 189).map (fun i=>(i.zero,i.size,i.bytes))=some (some (.agg #[.string ByteArray.empty,.string ByteArray.empty]),2,32):=by kernel_rfl
theorem zqx:(Tryz.prog.info? 199).map (fun i=>(i.zero,i.size,i.bytes))=some (some (.agg #[.string ByteArray.empty,.string ByteArray.empty]),2,32):=by kernel_rfl
theorem zft(l:List Ava):∀u∈(l.map zay).flatten,u.oneCell'=true:=by
 intro u hu
 obtain⟨l',h1,h2⟩:=List.mem_flatten.1 hu
 obtain⟨x,_,rfl⟩:=List.mem_map.1 h1
 simp only[zay,List.mem_cons,List.not_mem_nil,or_false] at h2
 rcases h2 with rfl|rfl<;>rfl
section
variable {w w0:World}{ops:Array Oper}{rest:List Oper}{o:Oper}{a:Act}{Q:Exit→Act→World→Prop}{K:Act→World→Prop}
theorem zhO(s x:Operand)(ho:o.op=.call { callee:=.builtin .append,args:=#[s,x],argTypes:=#[168,168] })
 (v:Value) (l:List Ava) (hs:a.eval s=v) (hg:GrowA 189 w0 w v l) (A:Option Addr) (m c:Nat) (ys:List Ava) (hx:a.eval x=.slice A m c) (hm:m=ys.length) (hy:Cells w A (ys.map zay).flatten)
 (hb:l.length+m≤4398046511104) (h:∀v' w',GrowA 189 w0 w' v' (l++ys)→Below w0.heap.size w w'→K (a.put o.dst v') w'):o.wp Tryz.prog a w K Q:=by
 refine zbN s x 168 ho w0.heap.size 189 (.agg #[.string ByteArray.empty,.string ByteArray.empty]) 2 32 Tryz.underlying168 zrP rfl (by decide) v l.length (l.map zay).flatten hs hg.own A m c (ys.map zay).flatten hx (by rw[zc4,hm]) hy (zft ys) (by simp[maxLen];omega) (by omega) (zaz hg.ext) ?_
 intro v' w' h1 h2 _
 have hb:=zbM hg.own h2 (zaz hg.ext) (Nat.le_refl _)
 refine h v' w' ⟨?_,Below.trans hg.ext hb⟩ hb
 rw[List.length_append,←hm,List.map_append,List.flatten_append]
 exact h1
theorem zgP(hgd:o.guard=none)(s x:Operand)(ho:o.op=.call { callee:=.builtin .append,args:=#[s,x],argTypes:=#[168,168] })
 (v:Value) (l:List Ava) (hs:a.eval s=v) (hg:GrowA 189 w0 w v l) (A:Option Addr) (m c:Nat) (ys:List Ava) (hx:a.eval x=.slice A m c) (hm:m=ys.length) (hy:Cells w A (ys.map zay).flatten)
 (hb:l.length+m≤4398046511104) (h:∀v' w',GrowA 189 w0 w' v' (l++ys)→wpList Tryz.prog ops Q rest (a.put o.dst v') w'):wpList Tryz.prog ops Q (o::rest) a w:=
 wpList_plain hgd fun _ hK=>zhO s x ho v l hs hg A m c ys hx hm hy hb fun v' w' h1 _=>hK _ _ (h v' w' h1)
theorem zg6(s x:Operand)(ho:o.op=.call { callee:=.builtin .append,args:=#[s,x],argTypes:=#[149,149] })
 (v:Value) (l:List Ava) (hs:a.eval s=v) (hg:GrowA 199 w0 w v l) (A:Option Addr) (m c:Nat) (ys:List Ava) (hx:a.eval x=.slice A m c) (hm:m=ys.length) (hy:Cells w A (ys.map zay).flatten)
 (hb:l.length+m≤4398046511104) (h:∀v' w',GrowA 199 w0 w' v' (l++ys)→Below w0.heap.size w w'→K (a.put o.dst v') w'):o.wp Tryz.prog a w K Q:=by
 refine zbN s x 149 ho w0.heap.size 199 (.agg #[.string ByteArray.empty,.string ByteArray.empty]) 2 32 Tryz.underlying149 zqx rfl (by decide) v l.length (l.map zay).flatten hs hg.own A m c (ys.map zay).flatten hx (by rw[zc4,hm]) hy (zft ys) (by simp[maxLen];omega) (by omega) (zaz hg.ext) ?_
 intro v' w' h1 h2 _
 have hb:=zbM hg.own h2 (zaz hg.ext) (Nat.le_refl _)
 refine h v' w' ⟨?_,Below.trans hg.ext hb⟩ hb
 rw[List.length_append,←hm,List.map_append,List.flatten_append]
 exact h1
theorem zbW(hgd:o.guard=none)(s x:Operand)(ho:o.op=.call { callee:=.builtin .append,args:=#[s,x],argTypes:=#[149,149] })
 (v:Value) (l:List Ava) (hs:a.eval s=v) (hg:GrowA 199 w0 w v l) (A:Option Addr) (m c:Nat) (ys:List Ava) (hx:a.eval x=.slice A m c) (hm:m=ys.length) (hy:Cells w A (ys.map zay).flatten)
 (hb:l.length+m≤4398046511104) (h:∀v' w',GrowA 199 w0 w' v' (l++ys)→wpList Tryz.prog ops Q rest (a.put o.dst v') w'):wpList Tryz.prog ops Q (o::rest) a w:=
 wpList_plain hgd fun _ hK=>zg6 s x ho v l hs hg A m c ys hx hm hy hb fun v' w' h1 _=>hK _ _ (h v' w' h1)
end
theorem zhD{S:Nat→Prop}{w:World}{A:Option Addr}{n c:Nat}{l:List Ava}(h:Row Elem.ava S w A n c l):Cells w A (l.map zay).flatten:=by
 obtain⟨h1,h2,h3,vss,h4,h5,h6⟩:=h
 have e:vss=l.map zay:=by
  apply List.ext_getElem?
  intro i
  rw[List.getElem?_map]
  cases hv:vss[i]? with
  |none=>
   have:l[i]?=none:=by rw[List.getElem?_eq_none_iff] at hv ⊢;omega
   rw[this];rfl
  |some v=>
   have hi:=(List.getElem?_eq_some_iff.1 hv).1
   have hx:l[i]?=some l[i]:=List.getElem?_eq_getElem (by omega)
   rw[hx,Option.map_some]
   exact congrArg some (h6 i v _ hv hx)
 rw[←e]
 exact h5.cells
theorem zgF(w:World)(x:Ava)(t:TypeId):Cells (w.alloc (.cells #[.string (str x.type),.string (str x.val)] t)) (some ⟨w.heap.size,0,none⟩) ([x].map zay).flatten:=by
 refine .inr ⟨w.heap.size,0,rfl,fun j u hj=>?_⟩
 rw[Nat.zero_add,zc2]
 simpa[zay] using hj
theorem zgj{S:Nat→Prop}{w:World}{A:Option Addr}{n c:Nat}{l:List Ava}(h:Row Elem.ava S w A n c l){i:Nat}(hi:i<n) :
 ∃b o x,A=some ⟨b,o,none⟩∧l[i]?=some x∧w.cell? ⟨b,o+i * 2,none⟩=some (.string (str x.type))∧w.cell? ⟨b,o+i * 2+1,none⟩=some (.string (str x.val)):=by
 obtain⟨b,o,v,x,rfl,h1,-,rfl,h2⟩:=h.at_ hi
 exact⟨b,o,x,rfl,h1,h2 0 _ rfl,h2 1 _ rfl⟩
end
section
open Go.RowKit
set_option maxRecDepth 100000
theorem zqy{l:List Ava}{j:Nat}{x:Ava}(h:l[j]?=some x):(l.map zay).flatten[j * 2]?=some (.string (str x.type)):=by
 have:=zci (k:=2) (vss:=l.map zay) (by intro v hv;obtain⟨y,_,rfl⟩:=List.mem_map.1 hv;rfl) (i:=j) (j:=0) (v:=zay x) (u:=.string (str x.type)) (by rw[List.getElem?_map,h];rfl) rfl
 simpa using this
theorem zq2{l:List Ava}{j:Nat}{x:Ava}(h:l[j]?=some x):(l.map zay).flatten[j * 2+1]?=some (.string (str x.val)):=
 zci (k:=2) (vss:=l.map zay) (by intro v hv;obtain⟨y,_,rfl⟩:=List.mem_map.1 hv;rfl) (i:=j) (j:=1) (v:=zay x) (u:=.string (str x.val)) (by rw[List.getElem?_map,h];rfl) rfl
theorem zkT:∀{l:List Ava} {j:Nat} {x:Ava} (t:List UInt8),l[j]?=some x→(l.map zay).flatten.set (j * 2) (.string (str t))=((l.set j ⟨t,x.val⟩).map zay).flatten
 |[],j,x,t,h=>by simp at h
 |a::l,0,x,t,h=>by simp at h;subst h;rfl
 |a::l,j+1,x,t,h=>by
  have:=zkT (l:=l) (j:=j) t (by simpa using h)
  simp only[List.map_cons,List.flatten_cons,List.set_cons_succ,←this]
  rw[List.set_append_right _ _ (by simp[zay];omega)]
  congr 2
  simp[zay];omega
theorem zkg:∀{l:List Ava} {j:Nat} {x:Ava} (t:List UInt8),l[j]?=some x→(l.map zay).flatten.set (j * 2+1) (.string (str t))=((l.set j ⟨x.type,t⟩).map zay).flatten
 |[],j,x,t,h=>by simp at h
 |a::l,0,x,t,h=>by simp at h;subst h;rfl
 |a::l,j+1,x,t,h=>by
  have:=zkg (l:=l) (j:=j) t (by simpa using h)
  simp only[List.map_cons,List.flatten_cons,List.set_cons_succ,←this]
  rw[List.set_append_right _ _ (by simp[zay];omega)]
  congr 2
  simp[zay];omega
section
variable {T:TypeId}{w wr w':World}{v:Value}{l:List Ava}{g n cap:Nat}
theorem GrowA.new(h:GrowA T w wr (.slice (some ⟨g,0,none⟩) n cap) l):w.heap.size≤g:=(h.own.lt g rfl).1
theorem GrowA.form(h:GrowA T w wr v l)(hl:0<l.length):∃g cap,v=.slice (some ⟨g,0,none⟩) l.length cap∧l.length≤cap∧cap≤maxLen:=by
 rcases h.own.2 with⟨h',h0⟩|⟨g,cap,cur,h',hb,hg,hnc,hcm,hcs,htake⟩
 ·omega
 ·exact⟨g,cap,h',hnc,hcm⟩
theorem GrowA.n_eq{A:Option Addr}(h:GrowA T w wr (.slice A n cap) l):n=l.length:=by
 rcases h.own.2 with⟨h',h0⟩|⟨g,cap,cur,h',hb,hg,hnc,hcm,hcs,htake⟩
 ·injection h' with _ h2 _;rw[h0];exact h2
 ·injection h' with _ h2 _
theorem GrowA.own'{A:Option Addr}(h:GrowA T w wr (.slice A n cap) l):wr.ownsRow w.heap.size T 2 (.slice A n cap) n (l.map zay).flatten:=by
 have:=h.own
 rwa[←h.n_eq] at this
theorem GrowA.at0(h:GrowA T w wr (.slice (some ⟨g,0,none⟩) n cap) l){j:Nat}{x:Ava}(hj:l[j]?=some x):wr.cell? ⟨g,j * 2,none⟩=some (.string (str x.type)):=by
 have hl:=(List.getElem?_eq_some_iff.1 hj).1
 rw[h.own'.cellAt (j * 2) (by rw[h.n_eq];omega)]
 exact zqy hj
theorem GrowA.at1(h:GrowA T w wr (.slice (some ⟨g,0,none⟩) n cap) l){j:Nat}{x:Ava}(hj:l[j]?=some x):wr.cell? ⟨g,j * 2+1,none⟩=some (.string (str x.val)):=by
 have hl:=(List.getElem?_eq_some_iff.1 hj).1
 rw[h.own'.cellAt (j * 2+1) (by rw[h.n_eq];omega)]
 exact zq2 hj
theorem GrowA.thaw(h:GrowA T w wr (.slice (some ⟨g,0,none⟩) n cap) l)(j:Nat):wr.frozen? ⟨g,j,none⟩=false:=h.own'.frozenAt j
theorem GrowA.set0(h:GrowA T w wr (.slice (some ⟨g,0,none⟩) n cap) l){j:Nat}{x:Ava}(hj:l[j]?=some x)(t:List UInt8) :
 GrowA T w (wr.setCell ⟨g,j * 2,none⟩ (.string (str t))) (.slice (some ⟨g,0,none⟩) n cap) (l.set j ⟨t,x.val⟩):=by
 obtain⟨h1,h2⟩:=h.own'.stored (j * 2) (.string (str t))
 refine⟨?_,h.ext.setCell h.new _⟩
 rw[zkT t hj] at h1
 rw[List.length_set,←h.n_eq]
 exact h1
theorem GrowA.set1(h:GrowA T w wr (.slice (some ⟨g,0,none⟩) n cap) l){j:Nat}{x:Ava}(hj:l[j]?=some x)(t:List UInt8) :
 GrowA T w (wr.setCell ⟨g,j * 2+1,none⟩ (.string (str t))) (.slice (some ⟨g,0,none⟩) n cap) (l.set j ⟨x.type,t⟩):=by
 obtain⟨h1,h2⟩:=h.own'.stored (j * 2+1) (.string (str t))
 refine⟨?_,h.ext.setCell h.new _⟩
 rw[zkg t hj] at h1
 rw[List.length_set,←h.n_eq]
 exact h1
theorem GrowA.put(h:GrowA T w wr (.slice (some ⟨g,0,none⟩) n cap) l){j:Nat}(hj:j<l.length)(x:Ava) :
 GrowA T w ((wr.setCell ⟨g,j * 2,none⟩ (.string (str x.type))).setCell ⟨g,j * 2+1,none⟩ (.string (str x.val))) (.slice (some ⟨g,0,none⟩) n cap) (l.set j x):=by
 have h1:=h.set0 (List.getElem?_eq_getElem hj) x.type
 have h2:=h1.set1 (j:=j) (x:=⟨x.type,l[j].val⟩) (by rw[List.getElem?_set_self hj]) x.val
 rw[List.set_set] at h2
 exact h2
end
end
section
open Go.RowKit
set_option maxRecDepth 100000
theorem zmE(v:List UInt8):(zbb v).length≤v.length:=by unfold zbb;split<;>simp
theorem zeq(s:ByteArray)(k:Nat):bys (s.extract k s.size)=(bys s).drop k:=Lib.extract_to_end s k
def zoF(w:World)(v:List UInt8)(e:Ending)(w':World):Prop:=e=.returned (.tuple #[.int .i64 (if intB v then intV v else 0),.bool (intB v)])∧Ext w w'
theorem zkb(s:ByteArray)(w:World)(hs:s.size≤4000000) :
 Calls Tryz.prog 160 #[.string s] w fun e w'=>zoF w (bys s) e w':=by
 have Hs:=hid hs
 by_cases h0:s.size=0
 ·have t0:¬(0:Int)<(s.size:Int):=by omega
  have HF:Hid (intB (bys s)=false):=by rw[zb3 h0];rfl
  have t1:(s.size:Int)<1:=by omega
  clear h0 hs
  go_enter Tryz.func160,Tryz.ntmps160
  go_wp2
  go_ret2
  exact⟨by rw[HF.out];rfl,Ext.refl _⟩
 ·have t0:(0:Int)<(s.size:Int):=by omega
  obtain⟨y,hy⟩:∃x,(bys s)[0]?=some x:=⟨_,List.getElem?_eq_getElem (by rw[zaj];omega)⟩
  have hsz:0<s.size:=by omega
  have gy:=zaV hy hsz
  have Hy:Hid ((bys s).head?=some y):=by show _=_;rw[List.head?_eq_getElem?,hy]
  clear h0 hy
  by_cases h45:y=45
  ·have ty:((y.toNat:Int)==45)=true:=za0 (k:=45) (by decide) h45
   have HNEG:Hid (negB (bys s)=true):=by show _=_;unfold negB;rw[Hy.out,h45];rfl
   clear h45
   obtain⟨d,hd⟩:∃d,s.extract 1 s.size=d:=⟨_,rfl⟩
   have HD:Hid (bys d=zbb (bys s)):=by show _=_;rw[←hd,zeq];unfold zbb;rw[HNEG.out];rfl
   go_enter Tryz.func160,Tryz.ntmps160
   have hz1:d.size≤4000000:=by rw[←zaj d,HD.out];exact Nat.le_trans (zmE (bys s)) (by rw[zaj];exact Hs.out)
   have HN:Hid (intB (bys s)=true↔(1≤d.size∧d.size≤18∧¬((bys d).head?=some 48∧(1<d.size∨negB (bys s)=true))∧(bys d).all digC=true)):=by
    show _↔_
    rw[zeu,←HD.out,zaj]
   have HV:Hid (intV (bys s) = -(zal 0 (bys d):Int)):=by show _=_;unfold intV;rw[HNEG.out,←HD.out];rfl
   by_cases hl1:d.size<1
   ·have hl1':(d.size:Int)<1:=by omega
    have HF:Hid (intB (bys s)=false):=by show _=_;cases h:intB (bys s) with|false=>rfl|true=>(have:=HN.out.1 h;omega)
    clear hl1
    go_wp2
    go_ret2
    exact⟨by rw[HF.out];rfl,Ext.refl _⟩
   ·have hl1':¬(d.size:Int)<1:=by omega
    by_cases hl2:18<d.size
    ·have hl2':18<(d.size:Int):=by omega
     have HF:Hid (intB (bys s)=false):=by show _=_;cases h:intB (bys s) with|false=>rfl|true=>(have:=HN.out.1 h;omega)
     clear hl1 hl2
     go_wp2
     go_ret2
     exact⟨by rw[HF.out];rfl,Ext.refl _⟩
    ·have hl2':¬18<(d.size:Int):=by omega
     obtain⟨x0,hx0⟩:∃x,(bys d)[0]?=some x:=⟨_,List.getElem?_eq_getElem (by rw[zaj];omega)⟩
     have hz0:0<d.size:=by omega
     have g0:=zaV hx0 hz0
     have hh0:Hid ((bys d).head?=some x0):=by show _=_;rw[List.head?_eq_getElem?,hx0]
     clear hx0
     skip
     by_cases hb:x0=48∧(1<d.size∨negB (bys s)=true)
     ·have t0:((x0.toNat:Int)==48)=true:=za0 (k:=48) (by decide) hb.1
      have HF:Hid (intB (bys s)=false):=by
       show _=_
       cases h:intB (bys s) with
       |false=>rfl
       |true=>exact absurd ⟨by rw[hh0.out,hb.1],hb.2⟩ (HN.out.1 h).2.2.1
      have hb2:=hb.2
      clear hl1 hl2 hb
      rw[HNEG.out] at hb2
      by_cases hg:1<d.size
      ·have hg':1<(d.size:Int):=by omega
       clear hb2 hg
       go_wp2
       go_ret2
       exact⟨by rw[HF.out];rfl,Ext.refl _⟩
      ·have hg':¬1<(d.size:Int):=by omega
       clear hg
       have hb3:(true:Bool)=true:=by rcases hb2 with h|h;exact absurd h (by omega);exact h
       clear hb2
       first
        |exact absurd hb3 (by decide)
        | (go_wp2
           go_ret2
           exact ⟨by rw [HF.out];rfl,Ext.refl _⟩)
     ·have hok:Hid (¬((bys d).head?=some 48∧(1<d.size∨negB (bys s)=true))):=by
       show ¬_
       rintro⟨h1,h2⟩
       rw[hh0.out] at h1
       injection h1 with h1
       exact hb ⟨h1,h2⟩
      have HT:Hid ((((x0.toNat:Int)==48)=false)∨(((x0.toNat:Int)==48)=true∧¬1<(d.size:Int)∧(true:Bool)=false)):=by
       show _∨_
       by_cases h48:x0=48
       ·right
        refine⟨za0 (k:=48) (by decide) h48,?_,?_⟩
        ·exact fun h=>hb ⟨h48,.inl (by omega)⟩
        ·cases hq:(true:Bool) with
         |false=>rfl
         |true=>exact absurd ⟨h48,.inr (by first|(rw[HNEG.out];done)|(rw[HNEG.out];exact hq))⟩ hb
       ·exact .inl (zav (k:=48) h48)
      clear hl1 hl2 hb
      rcases HT.out with t0|⟨t0,t1,t2⟩
      ·clear HT
       go_wp2
       go_loop [6,7] (fun n i=>∃k:Nat,k≤d.size∧i=.int .i64 k∧n=.int .i64 (zal 0 ((bys d).take k):Int)∧Hid (((bys d).take k).all digC=true)) (fun _ i=>d.size-(intOf i).toNat)
       case atStart=>exact⟨0,by omega,rfl,rfl,rfl⟩
       case round=>
        obtain⟨k,hk,rfl,rfl,HA⟩:=hrel
        have hd18:d.size≤18:=by omega
        have HB:Hid (zal 0 ((bys d).take k)<10 ^ k):=by
         have h:=zce ((bys d).take k) 0 HA.out
         have h2:((bys d).take k).length≤k:=List.length_take_le _ _
         have h3:10 ^ ((bys d).take k).length≤10 ^ k:=Nat.pow_le_pow_right (by decide) h2
         show _<_
         omega
        by_cases hlt:k<d.size
        ·have hv17:zal 0 ((bys d).take k)<100000000000000000:=by
          have h3:10 ^ k≤10 ^ 17:=Nat.pow_le_pow_right (by decide) (by omega)
          have h4:=HB.out
          have h5:(10:Nat) ^ 17=100000000000000000:=rfl
          omega
         obtain⟨x,hx⟩:∃x,(bys d)[k]?=some x:=⟨_,List.getElem?_eq_getElem (by rw[zaj];exact hlt)⟩
         have gk:=zaV hx hlt
         have hx1:(x.toNat:Int)<256:=by have:=x.toNat_lt;omega
         have HX:=hid hx
         clear hx
         by_cases h48:(x.toNat:Int)<48
         ·have HF:Hid (intB (bys s)=false):=by
           show _=_
           cases h:intB (bys s) with
           |false=>rfl
           |true=>
            have h7:=(HN.out.1 h).2.2.2
            rw[List.all_eq_true] at h7
            have:=(zaM x).1 (h7 x (List.mem_of_getElem? HX.out))
            omega
          go_wp2
          go_ret2
          exact⟨by rw[HF.out];rfl,Ext.refl _⟩
         ·by_cases h57:57<(x.toNat:Int)
          ·have HF:Hid (intB (bys s)=false):=by
            show _=_
            cases h:intB (bys s) with
            |false=>rfl
            |true=>
             have h7:=(HN.out.1 h).2.2.2
             rw[List.all_eq_true] at h7
             have:=(zaM x).1 (h7 x (List.mem_of_getElem? HX.out))
             omega
           go_wp2
           go_ret2
           exact⟨by rw[HF.out];rfl,Ext.refl _⟩
          ·have h48':48≤(x.toNat:Int):=by omega
           have HT:Hid ((bys d).take (k+1)=(bys d).take k++[x]):=by show _=_;rw[List.take_add_one,HX.out];rfl
           have HD2:Hid (digC x=true):=(zaM x).2 (by omega)
           generalize hv:zal 0 ((bys d).take k)=m at*
           go_wp2
           refine⟨⟨k+1,by omega,by go_num,?_,?_⟩,by simp[intOf];omega⟩
           ·rw[HT.out,zbm,hv]
            congr 1
            omega
           ·rw[HT.out]
            show _=_
            rw[List.all_append,HA.out]
            simp[HD2.out]
        ·obtain rfl:k=d.size:=by omega
         have htk:Hid ((bys d).take d.size=bys d):=by show _=_;rw[List.take_of_length_le (by rw[zaj];omega)]
         have HF:Hid (intB (bys s)=true):=HN.out.2 ⟨by omega,by omega,hok.out,by have:=HA.out;rwa[htk.out] at this⟩
         have hv18:zal 0 ((bys d).take d.size)<1000000000000000000:=by
          have h3:10 ^ d.size≤10 ^ 18:=Nat.pow_le_pow_right (by decide) (by omega)
          have h4:=HB.out
          have h5:(10:Nat) ^ 18=1000000000000000000:=rfl
          omega
         have HW:Hid (zal 0 ((bys d).take d.size)=zal 0 (bys d)):=by show _=_;rw[htk.out]
         generalize zal 0 ((bys d).take d.size)=m at*
         go_wp2
         go_ret2
         refine⟨?_,Ext.refl _⟩
         rw[HF.out,HV.out,←HW.out]
         rfl
      ·clear HT
       exact absurd t2 (by decide)
  ·have ty:((y.toNat:Int)==45)=false:=zav (k:=45) h45
   have HNEG:Hid (negB (bys s)=false):=by show _=_;unfold negB;rw[Hy.out];simpa using h45
   clear h45
   have HD:Hid (bys s=zbb (bys s)):=by show _=_;unfold zbb;rw[HNEG.out];rfl
   go_enter Tryz.func160,Tryz.ntmps160
   have hz1:s.size≤4000000:=by rw[←zaj s,HD.out];exact Nat.le_trans (zmE (bys s)) (by rw[zaj];exact Hs.out)
   have HN:Hid (intB (bys s)=true↔(1≤s.size∧s.size≤18∧¬((bys s).head?=some 48∧(1<s.size∨negB (bys s)=true))∧(bys s).all digC=true)):=by
    show _↔_
    rw[zeu,←HD.out,zaj]
   have HV:Hid (intV (bys s)=(zal 0 (bys s):Int)):=by show _=_;unfold intV;rw[HNEG.out,←HD.out];rfl
   by_cases hl1:s.size<1
   ·have hl1':(s.size:Int)<1:=by omega
    have HF:Hid (intB (bys s)=false):=by show _=_;cases h:intB (bys s) with|false=>rfl|true=>(have:=HN.out.1 h;omega)
    clear hl1
    go_wp2
    go_ret2
    exact⟨by rw[HF.out];rfl,Ext.refl _⟩
   ·have hl1':¬(s.size:Int)<1:=by omega
    by_cases hl2:18<s.size
    ·have hl2':18<(s.size:Int):=by omega
     have HF:Hid (intB (bys s)=false):=by show _=_;cases h:intB (bys s) with|false=>rfl|true=>(have:=HN.out.1 h;omega)
     clear hl1 hl2
     go_wp2
     go_ret2
     exact⟨by rw[HF.out];rfl,Ext.refl _⟩
    ·have hl2':¬18<(s.size:Int):=by omega
     obtain⟨x0,hx0⟩:∃x,(bys s)[0]?=some x:=⟨_,List.getElem?_eq_getElem (by rw[zaj];omega)⟩
     have hz0:0<s.size:=by omega
     have g0:=zaV hx0 hz0
     have hh0:Hid ((bys s).head?=some x0):=by show _=_;rw[List.head?_eq_getElem?,hx0]
     clear hx0
     (have exy:x0=y:=g0.symm.trans gy;subst exy)
     by_cases hb:x0=48∧(1<s.size∨negB (bys s)=true)
     ·have t0:((x0.toNat:Int)==48)=true:=za0 (k:=48) (by decide) hb.1
      have HF:Hid (intB (bys s)=false):=by
       show _=_
       cases h:intB (bys s) with
       |false=>rfl
       |true=>exact absurd ⟨by rw[hh0.out,hb.1],hb.2⟩ (HN.out.1 h).2.2.1
      have hb2:=hb.2
      clear hl1 hl2 hb
      rw[HNEG.out] at hb2
      by_cases hg:1<s.size
      ·have hg':1<(s.size:Int):=by omega
       clear hb2 hg
       go_wp2
       go_ret2
       exact⟨by rw[HF.out];rfl,Ext.refl _⟩
      ·have hg':¬1<(s.size:Int):=by omega
       clear hg
       have hb3:(false:Bool)=true:=by rcases hb2 with h|h;exact absurd h (by omega);exact h
       clear hb2
       first
        |exact absurd hb3 (by decide)
        | (go_wp2
           go_ret2
           exact ⟨by rw [HF.out];rfl,Ext.refl _⟩)
     ·have hok:Hid (¬((bys s).head?=some 48∧(1<s.size∨negB (bys s)=true))):=by
       show ¬_
       rintro⟨h1,h2⟩
       rw[hh0.out] at h1
       injection h1 with h1
       exact hb ⟨h1,h2⟩
      have HT:Hid ((((x0.toNat:Int)==48)=false)∨(((x0.toNat:Int)==48)=true∧¬1<(s.size:Int)∧(false:Bool)=false)):=by
       show _∨_
       by_cases h48:x0=48
       ·right
        refine⟨za0 (k:=48) (by decide) h48,?_,?_⟩
        ·exact fun h=>hb ⟨h48,.inl (by omega)⟩
        ·cases hq:(false:Bool) with
         |false=>rfl
         |true=>exact absurd ⟨h48,.inr (by first|(rw[HNEG.out];done)|(rw[HNEG.out];exact hq))⟩ hb
       ·exact .inl (zav (k:=48) h48)
      clear hl1 hl2 hb
      rcases HT.out with t0|⟨t0,t1,t2⟩
      all_goals
       clear HT
       go_wp2
       go_loop [6,7] (fun n i=>∃k:Nat,k≤s.size∧i=.int .i64 k∧n=.int .i64 (zal 0 ((bys s).take k):Int)∧Hid (((bys s).take k).all digC=true)) (fun _ i=>s.size-(intOf i).toNat)
       case atStart=>exact⟨0,by omega,rfl,rfl,rfl⟩
       case round=>
        obtain⟨k,hk,rfl,rfl,HA⟩:=hrel
        have hd18:s.size≤18:=by omega
        have HB:Hid (zal 0 ((bys s).take k)<10 ^ k):=by
         have h:=zce ((bys s).take k) 0 HA.out
         have h2:((bys s).take k).length≤k:=List.length_take_le _ _
         have h3:10 ^ ((bys s).take k).length≤10 ^ k:=Nat.pow_le_pow_right (by decide) h2
         show _<_
         omega
        by_cases hlt:k<s.size
        ·have hv17:zal 0 ((bys s).take k)<100000000000000000:=by
          have h3:10 ^ k≤10 ^ 17:=Nat.pow_le_pow_right (by decide) (by omega)
          have h4:=HB.out
          have h5:(10:Nat) ^ 17=100000000000000000:=rfl
          omega
         obtain⟨x,hx⟩:∃x,(bys s)[k]?=some x:=⟨_,List.getElem?_eq_getElem (by rw[zaj];exact hlt)⟩
         have gk:=zaV hx hlt
         have hx1:(x.toNat:Int)<256:=by have:=x.toNat_lt;omega
         have HX:=hid hx
         clear hx
         by_cases h48:(x.toNat:Int)<48
         ·have HF:Hid (intB (bys s)=false):=by
           show _=_
           cases h:intB (bys s) with
           |false=>rfl
           |true=>
            have h7:=(HN.out.1 h).2.2.2
            rw[List.all_eq_true] at h7
            have:=(zaM x).1 (h7 x (List.mem_of_getElem? HX.out))
            omega
          go_wp2
          go_ret2
          exact⟨by rw[HF.out];rfl,Ext.refl _⟩
         ·by_cases h57:57<(x.toNat:Int)
          ·have HF:Hid (intB (bys s)=false):=by
            show _=_
            cases h:intB (bys s) with
            |false=>rfl
            |true=>
             have h7:=(HN.out.1 h).2.2.2
             rw[List.all_eq_true] at h7
             have:=(zaM x).1 (h7 x (List.mem_of_getElem? HX.out))
             omega
           go_wp2
           go_ret2
           exact⟨by rw[HF.out];rfl,Ext.refl _⟩
          ·have h48':48≤(x.toNat:Int):=by omega
           have HT:Hid ((bys s).take (k+1)=(bys s).take k++[x]):=by show _=_;rw[List.take_add_one,HX.out];rfl
           have HD2:Hid (digC x=true):=(zaM x).2 (by omega)
           generalize hv:zal 0 ((bys s).take k)=m at*
           go_wp2
           refine⟨⟨k+1,by omega,by go_num,?_,?_⟩,by simp[intOf];omega⟩
           ·rw[HT.out,zbm,hv]
            congr 1
            omega
           ·rw[HT.out]
            show _=_
            rw[List.all_append,HA.out]
            simp[HD2.out]
        ·obtain rfl:k=s.size:=by omega
         have htk:Hid ((bys s).take s.size=bys s):=by show _=_;rw[List.take_of_length_le (by rw[zaj];omega)]
         have HF:Hid (intB (bys s)=true):=HN.out.2 ⟨by omega,by omega,hok.out,by have:=HA.out;rwa[htk.out] at this⟩
         have hv18:zal 0 ((bys s).take s.size)<1000000000000000000:=by
          have h3:10 ^ s.size≤10 ^ 18:=Nat.pow_le_pow_right (by decide) (by omega)
          have h4:=HB.out
          have h5:(10:Nat) ^ 18=1000000000000000000:=rfl
          omega
         have HW:Hid (zal 0 ((bys s).take s.size)=zal 0 (bys s)):=by show _=_;rw[htk.out]
         generalize zal 0 ((bys s).take s.size)=m at*
         go_wp2
         go_ret2
         refine⟨?_,Ext.refl _⟩
         rw[HF.out,HV.out,←HW.out]
         rfl
theorem zk2{v:List UInt8}{n:Int}(h:Lib.parseIntB 64 v=.ok n):-9223372036854775808≤n∧n≤9223372036854775807:=by
 cases v with
 |nil=>cases h
 |cons c t=>
  simp only[Lib.parseIntB] at h
  generalize Lib.parseUintB 64 _=r at h
  rcases r with u|_|_
  ·simp only at h
   by_cases hc:c.toNat=45
   ·simp only[hc,not_true_eq_false,false_and,if_false,true_and,if_true] at h
    by_cases h2:2 ^ (64-1)<u
    ·rw[if_pos h2] at h;cases h
    ·rw[if_neg h2] at h;injection h with h;omega
   ·simp only[hc,not_false_eq_true,true_and,false_and,if_false] at h
    by_cases h2:2 ^ (64-1)≤u
    ·rw[if_pos h2] at h;cases h
    ·rw[if_neg h2] at h;injection h with h;omega
  ·cases h
  ·cases h
def zdk(k:Int)(v:List UInt8):List UInt8×Bool:=
 if k=1 then(zaD (zaU (zas v)),decide (zaD (zaU (zas v))≠[]∧(0:UInt8) ∉ zaD (zaU (zas v))))
 else if k=3 then(v,intB v) else(v,true)
def zdx(w:World)(k:Int)(v:List UInt8)(e:Ending)(w':World):Prop:=e=.returned (.tuple #[.string (str (zdk k v).1),.bool (zdk k v).2])∧Ext w w'
theorem zlt(s:ByteArray)(w:World)(hG:Gl w)(hs:s.size≤1000000) :
 Calls Tryz.prog 164 #[.int .i64 1,.string s] w (zdx w 1 (bys s)):=by
 have Hs:=hid hs
 have HG:=hid hG
 have hlo:(zas (bys s)).length≤1000000:=by unfold zas;rw[List.length_map,zaj];exact hs
 have HN:Hid (zdk 1 (bys s)=(zaD (zaU (zas (bys s))),decide (zaD (zaU (zas (bys s)))≠[]∧(0:UInt8) ∉ zaD (zaU (zas (bys s)))))):=rfl
 have HL:∀w:World,Calls Tryz.prog 121 #[.string s] w fun e w'=>e=.returned (.string (str (zas (bys s))))∧Ext w w':=fun w=>zdo s w (by have:=Hs.out;simp only[maxLen];omega)
 have HJ:=hid (zqt (zas (bys s)))
 have HW:=hid (zm1 (zas (bys s)))
 generalize zas (bys s)=m at*
 obtain⟨t,ht⟩:∃t,t=zaD (zaU m):=⟨_,rfl⟩
 have HT:=hid ht
 rw[←ht] at HN
 have Hm:=hid hlo
 clear hs hG ht hlo
 by_cases h0:t=[]
 ·have t0:(t == [])=true:=by rw[h0];rfl
  have HF:Hid (zdk 1 (bys s)=(t,false)):=by show _=_;rw[HN.out,decide_eq_false (fun h=>h.1 h0)]
  clear h0
  go_enter Tryz.func164,Tryz.ntmps164
  go_wp2_with (first
   |(go_at_call 121;(with_reducible refine(HL _).mono ?_);rintro e w1 ⟨rfl,hx1⟩;have HX1:=hid hx1;clear hx1)
   |(go_at_call 191;(with_reducible refine(zhG (str m) _ (HG.out.ext HX1.out) (by rw[zaI];have:=Hm.out;omega)).mono ?_);rintro e w2 ⟨A2,n2,c2,rfl,hr2,hx2⟩;rw[zao] at hr2;have HX2:=hid hx2;have HR2:=hid hr2;clear hx2 hr2)
   |(go_at_call 64;(with_reducible refine(zet _ ⟨#[32]⟩ HR2.out (by have h1:=HW.out;have h2:=Hm.out;rw[List.length_map];omega) (by rw[zcX];have h3:=ze1 (zaU m);have h1:=HJ.out;have h2:=Hm.out;show(Lib.join (zaU m) [32]).length≤_;rw[h3];omega)).mono ?_);rintro e w3 ⟨he3,hx3⟩;have HX3:=hid hx3;rw[zc5,ze1,←HT.out] at he3;subst he3;clear hx3)
   )
  go_ret2
  exact⟨by rw[HF.out];rfl,HX1.out.trans (HX2.out.trans HX3.out)⟩
 ·have t0:(t == [])=false:=by rw[beq_eq_false_iff_ne];exact h0
  by_cases hz:(0:UInt8)∈t
  have HF:Hid (zdk 1 (bys s)=(t,false)):=by show _=_;rw[HN.out,decide_eq_false (fun h=>h.2 hz)]
  have HZ:=hid hz
  clear h0 hz
  go_enter Tryz.func164,Tryz.ntmps164
  go_wp2_with (first
   |(go_at_call 182;(with_reducible refine(zbY (str t) 0 0 rfl _ (by rw[zao];exact HZ.out)).mono ?_);rintro e w4 ⟨⟨i,rfl⟩,rfl⟩)
   |(go_at_call 121;(with_reducible refine(HL _).mono ?_);rintro e w1 ⟨rfl,hx1⟩;have HX1:=hid hx1;clear hx1)
   |(go_at_call 191;(with_reducible refine(zhG (str m) _ (HG.out.ext HX1.out) (by rw[zaI];have:=Hm.out;omega)).mono ?_);rintro e w2 ⟨A2,n2,c2,rfl,hr2,hx2⟩;rw[zao] at hr2;have HX2:=hid hx2;have HR2:=hid hr2;clear hx2 hr2)
   |(go_at_call 64;(with_reducible refine(zet _ ⟨#[32]⟩ HR2.out (by have h1:=HW.out;have h2:=Hm.out;rw[List.length_map];omega) (by rw[zcX];have h3:=ze1 (zaU m);have h1:=HJ.out;have h2:=Hm.out;show(Lib.join (zaU m) [32]).length≤_;rw[h3];omega)).mono ?_);rintro e w3 ⟨he3,hx3⟩;have HX3:=hid hx3;rw[zc5,ze1,←HT.out] at he3;subst he3;clear hx3)
  )
  rotate_left
  have HF:Hid (zdk 1 (bys s)=(t,true)):=by show _=_;rw[HN.out,decide_eq_true ⟨h0,hz⟩]
  have HZ:=hid hz
  clear h0 hz
  go_enter Tryz.func164,Tryz.ntmps164
  go_wp2_with (first
   |(go_at_call 182;(with_reducible refine(zaP (str t) 0 0 rfl _ (by rw[zao];exact HZ.out)).mono ?_);rintro e w4 ⟨rfl,rfl⟩)
   |(go_at_call 121;(with_reducible refine(HL _).mono ?_);rintro e w1 ⟨rfl,hx1⟩;have HX1:=hid hx1;clear hx1)
   |(go_at_call 191;(with_reducible refine(zhG (str m) _ (HG.out.ext HX1.out) (by rw[zaI];have:=Hm.out;omega)).mono ?_);rintro e w2 ⟨A2,n2,c2,rfl,hr2,hx2⟩;rw[zao] at hr2;have HX2:=hid hx2;have HR2:=hid hr2;clear hx2 hr2)
   |(go_at_call 64;(with_reducible refine(zet _ ⟨#[32]⟩ HR2.out (by have h1:=HW.out;have h2:=Hm.out;rw[List.length_map];omega) (by rw[zcX];have h3:=ze1 (zaU m);have h1:=HJ.out;have h2:=Hm.out;show(Lib.join (zaU m) [32]).length≤_;rw[h3];omega)).mono ?_);rintro e w3 ⟨he3,hx3⟩;have HX3:=hid hx3;rw[zc5,ze1,←HT.out] at he3;subst he3;clear hx3)
  )
  rotate_left
  all_goals
   go_ret2
   exact⟨by rw[HF.out];rfl,HX1.out.trans (HX2.out.trans HX3.out)⟩
theorem zk0(s:ByteArray)(w:World)(hG:Gl w)(hs:s.size≤1000000) :
 Calls Tryz.prog 164 #[.int .i64 3,.string s] w (zdx w 3 (bys s)):=by
 have Hs:=hid hs
 have HG:=hid hG
 have HN:Hid (zdk 3 (bys s)=(bys s,intB (bys s))):=rfl
 clear hs hG
 cases hb:intB (bys s) with
 |true=>
  have HB:=hid hb
  have HP:=hid (znZ hb)
  have HI:=hid (zqD hb)
  have hsm:=ziC hb
  have HV:Hid (-9223372036854775808≤intV (bys s)∧intV (bys s)≤9223372036854775807):=by
   show _∧_
   unfold intV
   split<;>omega
  have hl:((zbb (bys s)).length:Int)≤18:=by have:=((zeu _).1 hb).2.1;omega
  have te:(bys s==s.toList)=true:=by rw[ByteArray.toList_eq,beq_iff_eq]
  clear hb hsm
  go_enter Tryz.func164,Tryz.ntmps164
  go_wp2_with (first
   |(go_at_call 192;(with_reducible refine(zeZ s _ _ (by have:=Hs.out;omega) HP.out).mono ?_);rintro e w1 ⟨rfl,hx1⟩;have HX1:=hid hx1;clear hx1)
   |(go_at_call 193;(with_reducible refine(zbl _ _ (HG.out.ext HX1.out) HV.out.1 HV.out.2).mono ?_);rintro e w2 ⟨he2,hx2⟩;rw[HI.out] at he2;subst he2;have HX2:=hid hx2;clear hx2)
   | (go_at_call 194;(with_reducible refine (zgg s _).mono ?_);rintro e w3 ⟨rfl,rfl⟩))
  go_ret2
  refine⟨?_,HX1.out.trans HX2.out⟩
  rw[HN.out,HB.out,zaK]
  rfl
 |false=>
  have HB:=hid hb
  by_cases hp:∃n,Lib.parseIntB 64 (bys s)=.ok n
  ·obtain⟨n,hn⟩:=hp
   have HP:=hid hn
   have HV:=hid (zk2 hn)
   by_cases he:Lib.itoa n=bys s
   ·have HI:=hid he
    have hl:decide (((zbb (bys s)).length:Int)≤18)=false:=by
     rw[decide_eq_false_iff_not]
     intro h
     have:=zqO (bys s) n he (by rw[zgU];omega)
     rw[hb] at this
     cases this
    have te:(bys s==s.toList)=true:=by rw[ByteArray.toList_eq,beq_iff_eq]
    clear hb hn he
    go_enter Tryz.func164,Tryz.ntmps164
    go_wp2_with (first
     |(go_at_call 192;(with_reducible refine(zeZ s _ _ (by have:=Hs.out;omega) HP.out).mono ?_);rintro e w1 ⟨rfl,hx1⟩;have HX1:=hid hx1;clear hx1)
     |(go_at_call 193;(with_reducible refine(zbl _ _ (HG.out.ext HX1.out) HV.out.1 HV.out.2).mono ?_);rintro e w2 ⟨he2,hx2⟩;rw[HI.out] at he2;subst he2;have HX2:=hid hx2;clear hx2)
     | (go_at_call 194;(with_reducible refine (zgg s _).mono ?_);rintro e w3 ⟨rfl,rfl⟩))
    go_ret2
    refine⟨?_,HX1.out.trans HX2.out⟩
    rw[HN.out,HB.out,zaK]
    rfl
   ·have te:(Lib.itoa n==s.toList)=false:=by rw[ByteArray.toList_eq,beq_eq_false_iff_ne];exact he
    clear hb hn he
    go_enter Tryz.func164,Tryz.ntmps164
    go_wp2_with (first
     |(go_at_call 192;(with_reducible refine(zeZ s _ _ (by have:=Hs.out;omega) HP.out).mono ?_);rintro e w1 ⟨rfl,hx1⟩;have HX1:=hid hx1;clear hx1)
     | (go_at_call 193;(with_reducible refine (zbl _ _ (HG.out.ext HX1.out) HV.out.1 HV.out.2).mono ?_);rintro e w2 ⟨rfl,hx2⟩;have HX2:=hid hx2;clear hx2))
    go_ret2
    refine⟨?_,HX1.out.trans HX2.out⟩
    rw[HN.out,HB.out,zaK]
    rfl
  ·have HP:Hid (∀n,Lib.parseIntB 64 (bys s)≠.ok n):=fun n h=>hp ⟨n,h⟩
   clear hp hb
   go_enter Tryz.func164,Tryz.ntmps164
   go_wp2_with (first
    | (go_at_call 192;(with_reducible refine (zj4 s _ HG.out (by have:=Hs.out;omega) HP.out).mono ?_);rintro e w1 ⟨⟨n1,t1,a1,rfl⟩,hx1⟩;have HX1:=hid hx1;clear hx1))
   go_ret2
   refine⟨?_,HX1.out⟩
   rw[HN.out,HB.out,zaK]
   rfl
theorem zk1(k:Int)(s:ByteArray)(w:World)(h1:k≠1)(h3:k≠3)(h4:k≠4) :
 Calls Tryz.prog 164 #[.int .i64 k,.string s] w (zdx w k (bys s)):=by
 have HN:Hid (zdk k (bys s)=(bys s,true)):=by show _=_;unfold zdk;rw[if_neg h1,if_neg h3]
 have t1:(k==1)=false:=by rw[beq_eq_false_iff_ne];exact h1
 have t3:(k==3)=false:=by rw[beq_eq_false_iff_ne];exact h3
 have t4:(k==4)=false:=by rw[beq_eq_false_iff_ne];exact h4
 clear h1 h3 h4
 go_enter Tryz.func164,Tryz.ntmps164
 go_wp2
 go_ret2
 refine⟨?_,Ext.refl _⟩
 rw[HN.out,zaK]
 rfl
def zb0(n v:List UInt8):List UInt8×Int:=
 if(zat n).2=0 then([],5) else if(zat n).2=5 then([],1) else if v=[]∨200<v.length then([],2)
 else if(zdk (zat n).2 v).2 then((zdk (zat n).2 v).1,0) else([],2)
def zb1(w:World)(n v:List UInt8)(e:Ending)(w':World):Prop:=e=.returned (.tuple #[.string (str (zb0 n v).1),.int .i64 (zb0 n v).2])∧Ext w w'
theorem zpt(k:Nat)(s:ByteArray)(w:World)(hG:Gl w)(hs:s.size≤1000000)(h4:k≠4) :
 Calls Tryz.prog 164 #[.int .i64 k,.string s] w (zdx w k (bys s)):=by
 by_cases h1:k=1
 ·subst h1;exact zlt s w hG hs
 ·by_cases h3:k=3
  ·subst h3;exact zk0 s w hG hs
  ·exact zk1 k s w (by omega) (by omega) (by omega)
theorem zen(n s:ByteArray)(w:World)(hG:Gl w)(hn:n.size≤4000000)(h4:(zat (bys n)).2≠4) :
 Calls Tryz.prog 139 #[.string n,.string s] w (zb1 w (bys n) (bys s)):=by
 have HG:=hid hG
 have HT:∀w,Calls Tryz.prog 75 #[.string n] w (zaX w (bys n)):=fun w=>zc3 n w (by simp only[maxLen];omega)
 have HN:Hid (zb0 (bys n) (bys s)=if (zat (bys n)).2=0 then ([],5) else if (zat (bys n)).2=5 then ([],1) else if bys s=[]∨200<(bys s).length then ([],2)
  else if (zdk (zat (bys n)).2 (bys s)).2 then ((zdk (zat (bys n)).2 (bys s)).1,0) else ([],2)):=rfl
 unfold zaX at HT
 obtain⟨p,hp⟩:∃p,p=zat (bys n):=⟨_,rfl⟩
 rw[←hp] at HN HT h4
 clear hp hG
 obtain⟨t,k⟩:=p
 have H4:Hid (k≠4):=h4
 clear h4
 simp only at HN HT
 by_cases k0:k=0
 ·have HE:Hid (zb0 (bys n) (bys s)=([],5)):=by show _=_;rw[HN.out,if_pos k0]
  have t0:((k:Int)==0)=true:=by rw[k0];rfl
  clear k0 HN
  go_enter Tryz.func139,Tryz.ntmps139
  go_wp2_with(go_at_call 75;(with_reducible refine(HT _).mono ?_);rintro e w1 ⟨rfl,hx1⟩;have HX1:=hid hx1;clear hx1)
  go_ret2
  exact⟨by rw[HE.out];rfl,HX1.out⟩
 ·have t0:((k:Int)==0)=false:=by rw[beq_eq_false_iff_ne];omega
  by_cases k5:k=5
  ·have HE:Hid (zb0 (bys n) (bys s)=([],1)):=by show _=_;rw[HN.out,if_neg k0,if_pos k5]
   have t5:((k:Int)==5)=true:=by rw[k5];rfl
   clear k0 k5 HN
   go_enter Tryz.func139,Tryz.ntmps139
   go_wp2_with(go_at_call 75;(with_reducible refine(HT _).mono ?_);rintro e w1 ⟨rfl,hx1⟩;have HX1:=hid hx1;clear hx1)
   go_ret2
   exact⟨by rw[HE.out];rfl,HX1.out⟩
  ·have t5:((k:Int)==5)=false:=by rw[beq_eq_false_iff_ne];omega
   by_cases hz:s.size=0
   ·have HE:Hid (zb0 (bys n) (bys s)=([],2)):=by show _=_;rw[HN.out,if_neg k0,if_neg k5,if_pos (.inl (by rw[zb3 hz];rfl))]
    have e1:=zdf hz
    clear k0 k5 HN hz
    go_enter Tryz.func139,Tryz.ntmps139
    go_wp2_with(go_at_call 75;(with_reducible refine(HT _).mono ?_);rintro e w1 ⟨rfl,hx1⟩;have HX1:=hid hx1;clear hx1)
    go_ret2
    exact⟨by rw[HE.out];rfl,HX1.out⟩
   ·have e1:=zfj hz
    by_cases hl:200<s.size
    ·have HE:Hid (zb0 (bys n) (bys s)=([],2)):=by show _=_;rw[HN.out,if_neg k0,if_neg k5,if_pos (.inr (by rw[zaj];exact hl))]
     have e2:200<(s.size:Int):=by omega
     clear k0 k5 HN hz hl
     go_enter Tryz.func139,Tryz.ntmps139
     go_wp2_with(go_at_call 75;(with_reducible refine(HT _).mono ?_);rintro e w1 ⟨rfl,hx1⟩;have HX1:=hid hx1;clear hx1)
     go_ret2
     exact⟨by rw[HE.out];rfl,HX1.out⟩
    ·have e2:decide (200<(s.size:Int))=false:=by rw[decide_eq_false_iff_not];omega
     have hbs:¬(bys s=[]∨200<(bys s).length):=by
      rw[zaj]
      rintro(h|h)
      ·exact hz (by rw[←zaj,h];rfl)
      ·exact hl h
     rw[if_neg k0,if_neg k5,if_neg hbs] at HN
     have HP:∀w,Gl w→Calls Tryz.prog 164 #[.int .i64 k,.string s] w (zdx w k (bys s)):=fun w hG=>zpt k s w hG (by omega) H4.out
     unfold zdx at HP
     generalize zdk (k:Int) (bys s)=q at*
     obtain⟨r,b⟩:=q
     simp only at HN HP
     have HE:Hid (zb0 (bys n) (bys s)=if b=true then(r,0) else([],2)):=HN.out
     clear k0 k5 hz hl hbs HN
     cases b
     all_goals
      go_enter Tryz.func139,Tryz.ntmps139
      go_wp2_with (first
       |(go_at_call 75;(with_reducible refine(HT _).mono ?_);rintro e w1 ⟨rfl,hx1⟩;have HX1:=hid hx1;clear hx1)
       | (go_at_call 164;(with_reducible refine (HP _ (HG.out.ext HX1.out)).mono ?_);rintro e w2 ⟨rfl,hx2⟩;have HX2:=hid hx2;clear hx2))
      go_ret2
      exact⟨by rw[HE.out];rfl,HX1.out.trans HX2.out⟩
def sgnD(v:List UInt8):List UInt8:=if v.head?=some 45∨v.head?=some 43 then v.drop 1 else v
def numR(v:List UInt8):Option Int:=
 if 1≤(sgnD v).length∧(sgnD v).length≤9∧(sgnD v).all digC=true then some (if negB v then -(zal 0 (sgnD v):Int) else(zal 0 (sgnD v):Int)) else none
def zk3(w:World)(v:List UInt8)(e:Ending)(w':World):Prop:=e=.returned (.tuple #[.int .i64 ((numR v).getD 0),.bool (numR v).isSome])∧Ext w w'
theorem zfM{v:List UInt8}{n:Int}(h:numR v=some n):-1000000000<n∧n<1000000000:=by
 unfold numR at h
 split at h
 ·rename_i hc
  have h1:=zce (sgnD v) 0 hc.2.2
  have h2:10 ^ (sgnD v).length≤10 ^ 9:=Nat.pow_le_pow_right (by decide) hc.2.1
  have h5:(10:Nat) ^ 9=1000000000:=rfl
  injection h with h
  split at h<;>omega
 ·cases h
theorem zie(s:ByteArray)(w:World)(hs:s.size≤4000000):Calls Tryz.prog 188 #[.string s] w (zk3 w (bys s)):=by
 have Hs:=hid hs
 by_cases h0:s.size=0
 ·have t0:¬(0:Int)<(s.size:Int):=by omega
  have HF:Hid (numR (bys s)=none):=by rw[zb3 h0];rfl
  have t1:(s.size:Int)<1:=by omega
  clear h0 hs
  go_enter Tryz.func188,Tryz.ntmps188
  go_wp2
  go_ret2
  exact⟨by rw[HF.out];rfl,Ext.refl _⟩
 ·have t0:(0:Int)<(s.size:Int):=by omega
  obtain⟨y,hy⟩:∃x,(bys s)[0]?=some x:=⟨_,List.getElem?_eq_getElem (by rw[zaj];omega)⟩
  have hsz:0<s.size:=by omega
  have gy:=zaV hy hsz
  have Hy:Hid ((bys s).head?=some y):=by show _=_;rw[List.head?_eq_getElem?,hy]
  clear h0 hy
  by_cases h45:y=45
  ·have ty:((y.toNat:Int)==45)=true:=za0 (k:=45) (by decide) h45
   have HNEG:Hid (negB (bys s)=true):=by show _=_;unfold negB;rw[Hy.out,h45];rfl
   obtain⟨d,hd⟩:∃d,s.extract 1 s.size=d:=⟨_,rfl⟩
   have HD:Hid (bys d=sgnD (bys s)):=by show _=_;rw[←hd,zeq];unfold sgnD;rw[Hy.out,h45,if_pos (.inl rfl)]
   clear h45
   go_enter Tryz.func188,Tryz.ntmps188
   have HN:Hid (¬(1≤d.size∧d.size≤9∧(bys d).all digC=true)→numR (bys s)=none):=by
    intro h
    unfold numR
    rw[←HD.out,zaj,if_neg h]
   have HY:Hid ((1≤d.size∧d.size≤9∧(bys d).all digC=true)→numR (bys s)=some (-(zal 0 (bys d):Int))):=by
    intro h
    unfold numR
    rw[←HD.out,zaj,if_pos h,HNEG.out]
    rfl
   by_cases hl1:d.size<1
   ·have hl1':(d.size:Int)<1:=by omega
    have HF:Hid (numR (bys s)=none):=HN.out (by omega)
    clear hl1
    go_wp2
    go_ret2
    exact⟨by rw[HF.out];rfl,Ext.refl _⟩
   ·have hl1':¬(d.size:Int)<1:=by omega
    by_cases hl2:9<d.size
    ·have hl2':9<(d.size:Int):=by omega
     have HF:Hid (numR (bys s)=none):=HN.out (by omega)
     clear hl1 hl2
     go_wp2
     go_ret2
     exact⟨by rw[HF.out];rfl,Ext.refl _⟩
    ·have hl2':¬9<(d.size:Int):=by omega
     go_wp2
     go_loop [4,6] (fun n i=>∃k:Nat,k≤d.size∧i=.int .i64 k∧n=.int .i64 (zal 0 ((bys d).take k):Int)∧Hid (((bys d).take k).all digC=true)) (fun _ i=>d.size-(intOf i).toNat)
     case atStart=>exact⟨0,by omega,rfl,rfl,rfl⟩
     case round=>
      obtain⟨k,hk,rfl,rfl,HA⟩:=hrel
      have hd9:d.size≤9:=by omega
      have HB:Hid (zal 0 ((bys d).take k)<10 ^ k):=by
       have h:=zce ((bys d).take k) 0 HA.out
       have h2:((bys d).take k).length≤k:=List.length_take_le _ _
       have h3:10 ^ ((bys d).take k).length≤10 ^ k:=Nat.pow_le_pow_right (by decide) h2
       show _<_
       omega
      have hv9:zal 0 ((bys d).take k)<1000000000:=by
       have h3:10 ^ k≤10 ^ 9:=Nat.pow_le_pow_right (by decide) (by omega)
       have h4:=HB.out
       have h5:(10:Nat) ^ 9=1000000000:=rfl
       omega
      by_cases hlt:k<d.size
      ·obtain⟨x,hx⟩:∃x,(bys d)[k]?=some x:=⟨_,List.getElem?_eq_getElem (by rw[zaj];exact hlt)⟩
       have gk:=zaV hx hlt
       have hx1:(x.toNat:Int)<256:=by have:=x.toNat_lt;omega
       have HX:=hid hx
       clear hx
       have HNO:Hid (¬(48≤x.toNat∧x.toNat≤57)→numR (bys s)=none):=by
        intro hno
        refine HN.out ?_
        rintro⟨-,-,h7⟩
        rw[List.all_eq_true] at h7
        exact hno ((zaM x).1 (h7 x (List.mem_of_getElem? HX.out)))
       by_cases h48:(x.toNat:Int)<48
       ·have HF:Hid (numR (bys s)=none):=HNO.out (by omega)
        go_wp2
        go_ret2
        exact⟨by rw[HF.out];rfl,Ext.refl _⟩
       ·by_cases h57:57<(x.toNat:Int)
        ·have HF:Hid (numR (bys s)=none):=HNO.out (by omega)
         go_wp2
         go_ret2
         exact⟨by rw[HF.out];rfl,Ext.refl _⟩
        ·have h48':48≤(x.toNat:Int):=by omega
         have HT:Hid ((bys d).take (k+1)=(bys d).take k++[x]):=by show _=_;rw[List.take_add_one,HX.out];rfl
         have HD2:Hid (digC x=true):=(zaM x).2 (by omega)
         generalize hv:zal 0 ((bys d).take k)=m at*
         go_wp2
         refine⟨⟨k+1,by omega,by go_num,?_,?_⟩,by simp[intOf];omega⟩
         ·rw[HT.out,zbm,hv]
          congr 1
          omega
         ·rw[HT.out]
          show _=_
          rw[List.all_append,HA.out]
          simp[HD2.out]
      ·obtain rfl:k=d.size:=by omega
       have htk:Hid ((bys d).take d.size=bys d):=by show _=_;rw[List.take_of_length_le (by rw[zaj];omega)]
       have HF:Hid (numR (bys s)=some (-(zal 0 (bys d):Int))):=HY.out ⟨by omega,by omega,by have:=HA.out;rwa[htk.out] at this⟩
       have HW:Hid (zal 0 ((bys d).take d.size)=zal 0 (bys d)):=by show _=_;rw[htk.out]
       generalize zal 0 ((bys d).take d.size)=m at*
       go_wp2
       go_ret2
       refine⟨?_,Ext.refl _⟩
       rw[HF.out,←HW.out]
       rfl
  ·have ty:((y.toNat:Int)==45)=false:=zav (k:=45) h45
   have HNEG:Hid (negB (bys s)=false):=by show _=_;unfold negB;rw[Hy.out];simpa using h45
   by_cases h43:y=43
   ·have tz:((y.toNat:Int)==43)=true:=za0 (k:=43) (by decide) h43
    obtain⟨d,hd⟩:∃d,s.extract 1 s.size=d:=⟨_,rfl⟩
    have HD:Hid (bys d=sgnD (bys s)):=by show _=_;rw[←hd,zeq];unfold sgnD;rw[Hy.out,h43,if_pos (.inr rfl)]
    clear h45 h43
    go_enter Tryz.func188,Tryz.ntmps188
    have HN:Hid (¬(1≤d.size∧d.size≤9∧(bys d).all digC=true)→numR (bys s)=none):=by
     intro h
     unfold numR
     rw[←HD.out,zaj,if_neg h]
    have HY:Hid ((1≤d.size∧d.size≤9∧(bys d).all digC=true)→numR (bys s)=some ((zal 0 (bys d):Int))):=by
     intro h
     unfold numR
     rw[←HD.out,zaj,if_pos h,HNEG.out]
     rfl
    by_cases hl1:d.size<1
    ·have hl1':(d.size:Int)<1:=by omega
     have HF:Hid (numR (bys s)=none):=HN.out (by omega)
     clear hl1
     go_wp2
     go_ret2
     exact⟨by rw[HF.out];rfl,Ext.refl _⟩
    ·have hl1':¬(d.size:Int)<1:=by omega
     by_cases hl2:9<d.size
     ·have hl2':9<(d.size:Int):=by omega
      have HF:Hid (numR (bys s)=none):=HN.out (by omega)
      clear hl1 hl2
      go_wp2
      go_ret2
      exact⟨by rw[HF.out];rfl,Ext.refl _⟩
     ·have hl2':¬9<(d.size:Int):=by omega
      go_wp2
      go_loop [4,6] (fun n i=>∃k:Nat,k≤d.size∧i=.int .i64 k∧n=.int .i64 (zal 0 ((bys d).take k):Int)∧Hid (((bys d).take k).all digC=true)) (fun _ i=>d.size-(intOf i).toNat)
      case atStart=>exact⟨0,by omega,rfl,rfl,rfl⟩
      case round=>
       obtain⟨k,hk,rfl,rfl,HA⟩:=hrel
       have hd9:d.size≤9:=by omega
       have HB:Hid (zal 0 ((bys d).take k)<10 ^ k):=by
        have h:=zce ((bys d).take k) 0 HA.out
        have h2:((bys d).take k).length≤k:=List.length_take_le _ _
        have h3:10 ^ ((bys d).take k).length≤10 ^ k:=Nat.pow_le_pow_right (by decide) h2
        show _<_
        omega
       have hv9:zal 0 ((bys d).take k)<1000000000:=by
        have h3:10 ^ k≤10 ^ 9:=Nat.pow_le_pow_right (by decide) (by omega)
        have h4:=HB.out
        have h5:(10:Nat) ^ 9=1000000000:=rfl
        omega
       by_cases hlt:k<d.size
       ·obtain⟨x,hx⟩:∃x,(bys d)[k]?=some x:=⟨_,List.getElem?_eq_getElem (by rw[zaj];exact hlt)⟩
        have gk:=zaV hx hlt
        have hx1:(x.toNat:Int)<256:=by have:=x.toNat_lt;omega
        have HX:=hid hx
        clear hx
        have HNO:Hid (¬(48≤x.toNat∧x.toNat≤57)→numR (bys s)=none):=by
         intro hno
         refine HN.out ?_
         rintro⟨-,-,h7⟩
         rw[List.all_eq_true] at h7
         exact hno ((zaM x).1 (h7 x (List.mem_of_getElem? HX.out)))
        by_cases h48:(x.toNat:Int)<48
        ·have HF:Hid (numR (bys s)=none):=HNO.out (by omega)
         go_wp2
         go_ret2
         exact⟨by rw[HF.out];rfl,Ext.refl _⟩
        ·by_cases h57:57<(x.toNat:Int)
         ·have HF:Hid (numR (bys s)=none):=HNO.out (by omega)
          go_wp2
          go_ret2
          exact⟨by rw[HF.out];rfl,Ext.refl _⟩
         ·have h48':48≤(x.toNat:Int):=by omega
          have HT:Hid ((bys d).take (k+1)=(bys d).take k++[x]):=by show _=_;rw[List.take_add_one,HX.out];rfl
          have HD2:Hid (digC x=true):=(zaM x).2 (by omega)
          generalize hv:zal 0 ((bys d).take k)=m at*
          go_wp2
          refine⟨⟨k+1,by omega,by go_num,?_,?_⟩,by simp[intOf];omega⟩
          ·rw[HT.out,zbm,hv]
           congr 1
           omega
          ·rw[HT.out]
           show _=_
           rw[List.all_append,HA.out]
           simp[HD2.out]
       ·obtain rfl:k=d.size:=by omega
        have htk:Hid ((bys d).take d.size=bys d):=by show _=_;rw[List.take_of_length_le (by rw[zaj];omega)]
        have HF:Hid (numR (bys s)=some ((zal 0 (bys d):Int))):=HY.out ⟨by omega,by omega,by have:=HA.out;rwa[htk.out] at this⟩
        have HW:Hid (zal 0 ((bys d).take d.size)=zal 0 (bys d)):=by show _=_;rw[htk.out]
        generalize zal 0 ((bys d).take d.size)=m at*
        go_wp2
        go_ret2
        refine⟨?_,Ext.refl _⟩
        rw[HF.out,←HW.out]
        rfl
   ·have tz:((y.toNat:Int)==43)=false:=zav (k:=43) h43
    have HD:Hid (bys s=sgnD (bys s)):=by
     show _=_
     unfold sgnD
     rw[Hy.out,if_neg]
     rintro(h|h)
     ·injection h with h;exact h45 h
     ·injection h with h;exact h43 h
    clear h45 h43
    go_enter Tryz.func188,Tryz.ntmps188
    have HN:Hid (¬(1≤s.size∧s.size≤9∧(bys s).all digC=true)→numR (bys s)=none):=by
     intro h
     unfold numR
     rw[←HD.out,zaj,if_neg h]
    have HY:Hid ((1≤s.size∧s.size≤9∧(bys s).all digC=true)→numR (bys s)=some ((zal 0 (bys s):Int))):=by
     intro h
     unfold numR
     rw[←HD.out,zaj,if_pos h,HNEG.out]
     rfl
    by_cases hl1:s.size<1
    ·have hl1':(s.size:Int)<1:=by omega
     have HF:Hid (numR (bys s)=none):=HN.out (by omega)
     clear hl1
     go_wp2
     go_ret2
     exact⟨by rw[HF.out];rfl,Ext.refl _⟩
    ·have hl1':¬(s.size:Int)<1:=by omega
     by_cases hl2:9<s.size
     ·have hl2':9<(s.size:Int):=by omega
      have HF:Hid (numR (bys s)=none):=HN.out (by omega)
      clear hl1 hl2
      go_wp2
      go_ret2
      exact⟨by rw[HF.out];rfl,Ext.refl _⟩
     ·have hl2':¬9<(s.size:Int):=by omega
      go_wp2
      go_loop [4,6] (fun n i=>∃k:Nat,k≤s.size∧i=.int .i64 k∧n=.int .i64 (zal 0 ((bys s).take k):Int)∧Hid (((bys s).take k).all digC=true)) (fun _ i=>s.size-(intOf i).toNat)
      case atStart=>exact⟨0,by omega,rfl,rfl,rfl⟩
      case round=>
       obtain⟨k,hk,rfl,rfl,HA⟩:=hrel
       have hd9:s.size≤9:=by omega
       have HB:Hid (zal 0 ((bys s).take k)<10 ^ k):=by
        have h:=zce ((bys s).take k) 0 HA.out
        have h2:((bys s).take k).length≤k:=List.length_take_le _ _
        have h3:10 ^ ((bys s).take k).length≤10 ^ k:=Nat.pow_le_pow_right (by decide) h2
        show _<_
        omega
       have hv9:zal 0 ((bys s).take k)<1000000000:=by
        have h3:10 ^ k≤10 ^ 9:=Nat.pow_le_pow_right (by decide) (by omega)
        have h4:=HB.out
        have h5:(10:Nat) ^ 9=1000000000:=rfl
        omega
       by_cases hlt:k<s.size
       ·obtain⟨x,hx⟩:∃x,(bys s)[k]?=some x:=⟨_,List.getElem?_eq_getElem (by rw[zaj];exact hlt)⟩
        have gk:=zaV hx hlt
        have hx1:(x.toNat:Int)<256:=by have:=x.toNat_lt;omega
        have HX:=hid hx
        clear hx
        have HNO:Hid (¬(48≤x.toNat∧x.toNat≤57)→numR (bys s)=none):=by
         intro hno
         refine HN.out ?_
         rintro⟨-,-,h7⟩
         rw[List.all_eq_true] at h7
         exact hno ((zaM x).1 (h7 x (List.mem_of_getElem? HX.out)))
        by_cases h48:(x.toNat:Int)<48
        ·have HF:Hid (numR (bys s)=none):=HNO.out (by omega)
         go_wp2
         go_ret2
         exact⟨by rw[HF.out];rfl,Ext.refl _⟩
        ·by_cases h57:57<(x.toNat:Int)
         ·have HF:Hid (numR (bys s)=none):=HNO.out (by omega)
          go_wp2
          go_ret2
          exact⟨by rw[HF.out];rfl,Ext.refl _⟩
         ·have h48':48≤(x.toNat:Int):=by omega
          have HT:Hid ((bys s).take (k+1)=(bys s).take k++[x]):=by show _=_;rw[List.take_add_one,HX.out];rfl
          have HD2:Hid (digC x=true):=(zaM x).2 (by omega)
          generalize hv:zal 0 ((bys s).take k)=m at*
          go_wp2
          refine⟨⟨k+1,by omega,by go_num,?_,?_⟩,by simp[intOf];omega⟩
          ·rw[HT.out,zbm,hv]
           congr 1
           omega
          ·rw[HT.out]
           show _=_
           rw[List.all_append,HA.out]
           simp[HD2.out]
       ·obtain rfl:k=s.size:=by omega
        have htk:Hid ((bys s).take s.size=bys s):=by show _=_;rw[List.take_of_length_le (by rw[zaj];omega)]
        have HF:Hid (numR (bys s)=some ((zal 0 (bys s):Int))):=HY.out ⟨by omega,by omega,by have:=HA.out;rwa[htk.out] at this⟩
        have HW:Hid (zal 0 ((bys s).take s.size)=zal 0 (bys s)):=by show _=_;rw[htk.out]
        generalize zal 0 ((bys s).take s.size)=m at*
        go_wp2
        go_ret2
        refine⟨?_,Ext.refl _⟩
        rw[HF.out,←HW.out]
        rfl
def zaH(b:Int):List UInt8:=if b=1 then[105] else if b = -1 then[45,105] else Lib.itoa b++[105]
def zaR(a b:Int):List UInt8:=if b=0 then Lib.itoa a else if a=0 then zaH b else if 0<b then Lib.itoa a++43::zaH b else Lib.itoa a++zaH b
theorem zpV:∀(n u:Nat),u≤n→(Lib.decDigits u).length≤u+1
 |n,u,hn=>by
  by_cases h:u<10
  ·rw[zcp h];simp
  ·rw[zhL h]
   cases n with
   |zero=>omega
   |succ n=>
    have:=zpV n (u / 10) (by omega)
    rw[List.length_append,List.length_cons,List.length_nil]
    omega
theorem zd4(n:Int):(Lib.itoa n).length≤n.natAbs+2:=by
 unfold Lib.itoa
 split
 ·have:=zpV _ n.natAbs (Nat.le_refl _);rw[List.length_cons];omega
 ·have:=zpV _ n.toNat (Nat.le_refl _);omega
theorem zd1(n:Int):(zaH n).length≤n.natAbs+3:=by
 unfold zaH
 split
 ·simp
 ·split
  ·simp
  ·have:=zd4 n;rw[List.length_append,List.length_cons,List.length_nil];omega
theorem zf2(b:Int)(w:World)(hG:Gl w)(h0:-1000000000≤b)(h1:b≤1000000000):Calls Tryz.prog 209 #[.int .i64 b] w fun e w'=>e=.returned (.string (str (zaH b)))∧Ext w w':=by
 have HG:=hid hG
 clear hG
 by_cases hb1:b=1
 ·have t1:(b==1)=true:=by rw[hb1];rfl
  have HF:Hid (zaH b=[105]):=by show _=_;unfold zaH;rw[if_pos hb1]
  clear hb1 h0 h1
  go_enter Tryz.func209,Tryz.ntmps209
  go_wp2
  go_ret
  exact⟨by rw[HF.out];rfl,Ext.refl _⟩
 ·have t1:(b==1)=false:=by rw[beq_eq_false_iff_ne];exact hb1
  by_cases hb2:b = -1
  ·have t2:(b == -1)=true:=by rw[hb2];rfl
   have HF:Hid (zaH b=[45,105]):=by show _=_;unfold zaH;rw[if_neg hb1,if_pos hb2]
   clear hb1 hb2 h0 h1
   go_enter Tryz.func209,Tryz.ntmps209
   go_wp2
   go_ret
   exact⟨by rw[HF.out];rfl,Ext.refl _⟩
  ·have t2:(b == -1)=false:=by rw[beq_eq_false_iff_ne];exact hb2
   have HF:Hid (zaH b=Lib.itoa b++[105]):=by show _=_;unfold zaH;rw[if_neg hb1,if_neg hb2]
   have z1:¬9223372036854775807<(Lib.itoa b).length+1:=by have:=zd4 b;omega
   clear hb1 hb2
   go_enter Tryz.func209,Tryz.ntmps209
   go_wp2_with(go_at_call 193;(with_reducible refine(zbl _ _ HG.out (by omega) (by omega)).mono ?_);rintro e w2 ⟨rfl,hx2⟩;have HX2:=hid hx2;clear hx2)
   go_ret
   exact⟨by rw[HF.out,←zbh];rfl,HX2.out⟩
def zaE(a b:Int):Bool:=decide (-1000000≤a)&&decide (a≤1000000)&&decide (-1000000≤b)&&decide (b≤1000000)
theorem zbB(a b:Int)(w:World):Calls Tryz.prog 189 #[.agg #[.int .i64 a,.int .i64 b]] w fun e w'=>e=.returned (.bool (zaE a b))∧Ext w w':=by
 by_cases h1:-1000000≤a
 ·by_cases h2:a≤1000000
  ·by_cases h3:-1000000≤b
   ·by_cases h4:b≤1000000
    all_goals
     have HF:Hid (zaE a b=decide (b≤1000000)):=by show _=_;unfold zaE;simp[h1,h2,h3]
     have h5:decide (b≤1000000)=decide (b≤1000000):=rfl
     go_enter Tryz.func189,Tryz.ntmps189
     go_wp2
     go_ret
     exact⟨by rw[HF.out];first|rfl|simp[h4],Ext.alloc _ _⟩
   ·have HF:Hid (zaE a b=false):=by show _=_;unfold zaE;simp[h3]
    go_enter Tryz.func189,Tryz.ntmps189
    go_wp2
    go_ret
    exact⟨by rw[HF.out];rfl,Ext.alloc _ _⟩
  ·have HF:Hid (zaE a b=false):=by show _=_;unfold zaE;simp[h2]
   go_enter Tryz.func189,Tryz.ntmps189
   go_wp2
   go_ret
   exact⟨by rw[HF.out];rfl,Ext.alloc _ _⟩
 ·have HF:Hid (zaE a b=false):=by show _=_;unfold zaE;simp[h1]
  go_enter Tryz.func189,Tryz.ntmps189
  go_wp2
  go_ret
  exact⟨by rw[HF.out];rfl,Ext.alloc _ _⟩
theorem zbd(a b:Int)(w:World)(hG:Gl w)(ha:-1000000000≤a∧a≤1000000000)(hb:-1000000000≤b∧b≤1000000000) :
 Calls Tryz.prog 190 #[.agg #[.int .i64 a,.int .i64 b]] w fun e w'=>e=.returned (.string (str (zaR a b)))∧Ext w w':=by
 have HG:=hid hG
 have HA:=hid ha
 have HB:=hid hb
 clear hG ha hb
 by_cases b0:b=0
 ·have t1:(b==0)=true:=by rw[b0];rfl
  have HF:Hid (zaR a b=Lib.itoa a):=by show _=_;unfold zaR;rw[if_pos b0]
  clear b0
  go_enter Tryz.func190,Tryz.ntmps190
  go_wp2_with(go_at_call 193;(with_reducible refine(zbl _ _ (HG.out.ext (Ext.alloc _ _)) (by have:=HA.out;omega) (by have:=HA.out;omega)).mono ?_);rintro e w2 ⟨rfl,hx2⟩;have HX2:=hid hx2;clear hx2)
  go_ret
  exact⟨by rw[HF.out];rfl,(Ext.alloc _ _).trans HX2.out⟩
 ·have t1:(b==0)=false:=by rw[beq_eq_false_iff_ne];exact b0
  by_cases a0:a=0
  ·have t2:(a==0)=true:=by rw[a0];rfl
   have HF:Hid (zaR a b=zaH b):=by show _=_;unfold zaR;rw[if_neg b0,if_pos a0]
   clear b0 a0
   go_enter Tryz.func190,Tryz.ntmps190
   go_wp2_with(go_at_call 209;(with_reducible refine(zf2 _ _ (HG.out.ext (Ext.alloc _ _)) HB.out.1 HB.out.2).mono ?_);rintro e w2 ⟨rfl,hx2⟩;have HX2:=hid hx2;clear hx2)
   go_ret
   exact⟨by rw[HF.out];rfl,(Ext.alloc _ _).trans HX2.out⟩
  ·have t2:(a==0)=false:=by rw[beq_eq_false_iff_ne];exact a0
   by_cases hp:0<b
   ·have HF:Hid (zaR a b=Lib.itoa a++43::zaH b):=by show _=_;unfold zaR;rw[if_neg b0,if_neg a0,if_pos hp]
    have z1:¬9223372036854775807<(Lib.itoa a).length+1:=by have:=zd4 a;have:=HA.out;omega
    have z2:¬9223372036854775807<(Lib.itoa a).length+1+(zaH b).length:=by have:=zd4 a;have:=zd1 b;have:=HA.out;have:=HB.out;omega
    clear b0 a0
    go_enter Tryz.func190,Tryz.ntmps190
    go_wp2
    refine zac (.read 0 (.read 1 (.read 4 (.read 5 (.main 2 (.read 3 (.main 6 (.read 7 (.read 8 .done))))))))) (by kernel_rfl) (by kernel_rfl) ?_
    intro wD hxD
    have XE:Hid (Ext wD wD):=Ext.refl _
    have X0:Hid (Ext w wD):=(Ext.alloc _ _).trans hxD
    have p0:=zaa (zc2 w #[.int .i64 a,.int .i64 b] 220 0) _ hxD |> zaa
    have p1:=zaa (zc2 w #[.int .i64 a,.int .i64 b] 220 1) _ hxD |> zaa
    repeat' ((first
     |refine zaf rfl rfl ?_
     |refine zad rfl rfl ?_
     |refine zai rfl rfl ?_
     |refine zab rfl rfl ?_
     |(refine zae (v:=?_) rfl rfl (fun w' hE=>?_) ?_;rotate_left 1;(· ((try(have hEx:=Ext.trans (Hid.out XE) hE));go_simp;(try go_bits);with_reducible rfl)))
     |refine walks_alt ?_ ?_
     | (refine zah rfl rfl (fun K hK=>?_);go_wp2_with (first | (go_at_call 193;(with_reducible refine (zbl _ _ (HG.out.ext (X0.out.trans XE.out)) (by have:=HA.out;omega) (by have:=HA.out;omega)).mono ?_);rintro e w2 ⟨rfl,hx2⟩;replace XE:=hid (Ext.trans (Hid.out XE) hx2)) | (go_at_call 209;(with_reducible refine (zf2 _ _ (HG.out.ext (X0.out.trans XE.out)) HB.out.1 HB.out.2).mono ?_);rintro e w3 ⟨rfl,hx3⟩;replace XE:=hid (Ext.trans (Hid.out XE) hx3)));refine hK _ _ (by first | assumption | exact Ext.alloc _ _ | exact Ext.refl _) ?_;clear hK K));try simp only [Act.put,Act.eval,evs])
    refine zag ?_
    go_wp2
    go_ret
    refine⟨?_,X0.out.trans XE.out⟩
    rw[HF.out,show Lib.itoa a++43::zaH b=(Lib.itoa a++[43])++zaH b by simp,←zbh,←zbh]
    rfl
   ·have HF:Hid (zaR a b=Lib.itoa a++zaH b):=by show _=_;unfold zaR;rw[if_neg b0,if_neg a0,if_neg hp]
    have z2:¬9223372036854775807<(Lib.itoa a).length+(zaH b).length:=by have:=zd4 a;have:=zd1 b;have:=HA.out;have:=HB.out;omega
    clear b0 a0
    go_enter Tryz.func190,Tryz.ntmps190
    go_wp2
    refine zac (.read 0 (.read 1 (.read 3 (.read 4 (.main 2 (.main 5 (.read 6 (.read 7 .done)))))))) (by kernel_rfl) (by kernel_rfl) ?_
    intro wD hxD
    have XE:Hid (Ext wD wD):=Ext.refl _
    have X0:Hid (Ext w wD):=(Ext.alloc _ _).trans hxD
    have p0:=zaa (zc2 w #[.int .i64 a,.int .i64 b] 220 0) _ hxD |> zaa
    have p1:=zaa (zc2 w #[.int .i64 a,.int .i64 b] 220 1) _ hxD |> zaa
    repeat' ((first
     |refine zaf rfl rfl ?_
     |refine zad rfl rfl ?_
     |refine zai rfl rfl ?_
     |refine zab rfl rfl ?_
     |(refine zae (v:=?_) rfl rfl (fun w' hE=>?_) ?_;rotate_left 1;(· ((try(have hEx:=Ext.trans (Hid.out XE) hE));go_simp;(try go_bits);with_reducible rfl)))
     |refine walks_alt ?_ ?_
     | (refine zah rfl rfl (fun K hK=>?_);go_wp2_with (first | (go_at_call 193;(with_reducible refine (zbl _ _ (HG.out.ext (X0.out.trans XE.out)) (by have:=HA.out;omega) (by have:=HA.out;omega)).mono ?_);rintro e w2 ⟨rfl,hx2⟩;replace XE:=hid (Ext.trans (Hid.out XE) hx2)) | (go_at_call 209;(with_reducible refine (zf2 _ _ (HG.out.ext (X0.out.trans XE.out)) HB.out.1 HB.out.2).mono ?_);rintro e w3 ⟨rfl,hx3⟩;replace XE:=hid (Ext.trans (Hid.out XE) hx3)));refine hK _ _ (by first | assumption | exact Ext.alloc _ _ | exact Ext.refl _) ?_;clear hK K));try simp only [Act.put,Act.eval,evs])
    refine zag ?_
    go_wp2
    go_ret
    refine⟨?_,X0.out.trans XE.out⟩
    rw[HF.out,←zbh]
    rfl
end
section
open Go.RowKit
structure Bx(w wr:World)(g:Nat)(T:TypeId)(cs:Array Value):Prop where
 new:w.heap.size≤g
 blk:wr.heap[g]?=some (.cells cs T (0,0))
 ext:Ext w wr
section
variable {w wr w':World}{g:Nat}{T:TypeId}{cs:Array Value}
theorem Bx.make(h:Ext w wr)(cs:Array Value)(T:TypeId):Bx w (wr.alloc (.cells cs T)) wr.heap.size T cs:=⟨h.size,heap_alloc_new wr _,h.trans (Ext.alloc _ _)⟩
theorem Bx.lt(h:Bx w wr g T cs):g<wr.heap.size:=(Array.getElem?_eq_some_iff.1 h.blk).1
theorem Bx.later(h:Bx w wr g T cs)(hx:Ext wr w'):Bx w w' g T cs:=⟨h.new,(hx.block g h.lt).trans h.blk,h.ext.trans hx⟩
theorem Bx.cell(h:Bx w wr g T cs){i:Nat}{v:Value}(hi:cs[i]?=some v):wr.cell? ⟨g,i,none⟩=some v:=by rw[cell_of_row wr g i cs T (0,0) h.blk];exact hi
theorem Bx.frozen(h:Bx w wr g T cs)(i:Nat):wr.frozen? ⟨g,i,none⟩=false:=frozen_of_row wr g i cs T h.blk
theorem Bx.set(h:Bx w wr g T cs)(i:Nat)(v:Value):Bx w (wr.setCell ⟨g,i,none⟩ v) g T (cs.setIfInBounds i v):=
 ⟨h.new,heap_setCell_same wr g i cs T v h.blk,h.ext.setCell h.new v⟩
theorem Bx.aside(h:Bx w wr g T cs){k:Nat}(hk:w.heap.size≤k)(hne:g≠k)(i:Nat)(v:Value):Bx w (wr.setCell ⟨k,i,none⟩ v) g T cs:=
 ⟨h.new,by rw[heap_setCell_other _ _ _ _ hne];exact h.blk,h.ext.setCell hk v⟩
theorem Bx.load{P:Program}(h:Bx w wr g T cs)(U:TypeId)(d:TypeDesc)(hu:P.underlying U=some d)(hd:(match d with|.struct _|.array _ _=>true|_=>false)=true)(hi:(P.info? U).map (·.size)=some cs.size) :
 ∀w',Ext wr w'→(Instr.loadAt U (.pointer (some ⟨g,0,none⟩))).run P w'=.ok (.agg cs) w':=fun w' hx=>by
 have h':=(h.later hx).blk
 simp only[Instr.loadAt,Instr.sureAddr,Sem.run_bind,Sem.run_pure,Result.andThen_ok,run_loadVar_row w' g T U cs (0,0) d h' hu hd hi]
theorem Bx.set0{x y:Value}(h:Bx w wr g T #[x,y])(v:Value):Bx w (wr.setCell ⟨g,0,none⟩ v) g T #[v,y]:=h.set 0 v
theorem Bx.set1{x y:Value}(h:Bx w wr g T #[x,y])(v:Value):Bx w (wr.setCell ⟨g,1,none⟩ v) g T #[x,v]:=h.set 1 v
theorem Bx.eight{k:Nat}{U:TypeId}{x y u v:Value}(hp:Bx w wr g T #[x,y])(hr:Bx w wr k U #[u,v]) :
 wr.cell? ⟨g,0,none⟩=some x∧wr.cell? ⟨g,1,none⟩=some y∧wr.frozen? ⟨g,0,none⟩=false∧wr.frozen? ⟨g,1,none⟩=false∧wr.cell? ⟨k,0,none⟩=some u∧wr.cell? ⟨k,1,none⟩=some v∧wr.frozen? ⟨k,0,none⟩=false∧wr.frozen? ⟨k,1,none⟩=false:=
 ⟨hp.cell (i:=0) rfl,hp.cell (i:=1) rfl,hp.frozen 0,hp.frozen 1,hr.cell (i:=0) rfl,hr.cell (i:=1) rfl,hr.frozen 0,hr.frozen 1⟩
end
theorem zaq{P:Program}{fn:Func}{R:Ending→World→Prop}{a:Act}{w0 w:World}{p u:Tmp}{ty:TypeId}{g:Nat}{T:TypeId}{cs:Array Value}(d:TypeDesc)(h:fn.results=#[.cell p ty,.tmp u])
 (hp:a.tmps.getD p undef=.pointer (some ⟨g,0,none⟩)) (hb:Bx w0 w g T cs) (hu:P.underlying ty=some d) (hd:(match d with|.struct _|.array _ _=>true|_=>false)=true) (hi:(P.info? ty).map (·.size)=some cs.size)
 (hdf:a.defers=[]) (hR:R (.returned (.tuple #[.agg cs,a.tmps.getD u undef])) w):bodyPost P fn R .ret a w:=by
 refine bodyPost_ret (v:=.tuple #[.agg cs,a.tmps.getD u undef]) ?_ hdf hR
 rw[results_cell_tmp h,hp]
 simp only[asAddr,Sem.run_pure,Result.andThen_ok,run_loadVar_row w g T ty cs (0,0) d hb.blk hu hd hi]
theorem zau{w w':World}{T U:TypeId}{xs ys:Array Value}(h:Ext ((w.alloc (.cells xs T)).alloc (.cells ys U)) w'):Bx w w' w.heap.size T xs∧Bx w w' (w.heap.size+1) U ys:=by
 have h1:=((Bx.make (Ext.refl w) xs T).later (Ext.alloc _ (.cells ys U))).later h
 have h2:=(Bx.make (Ext.alloc w (.cells xs T)) ys U).later h
 rw[show(w.alloc (.cells xs T)).heap.size=w.heap.size+1 by simp] at h2
 exact⟨h1,h2⟩
end
section
open Go.RowKit
set_option maxRecDepth 100000
def za5(last:List UInt8):List Ava→Bool
 |[]=>true
 |a::t=>zbV a&&ltB last a.type&&za5 a.type t
theorem zsS{a:Ava}(h:zbV a=true):a.type≠[]:=by
 unfold zbV at h
 simp only[Bool.and_eq_true,Bool.or_eq_true,decide_eq_true_eq] at h
 intro e
 have h1:=(zhp a.type).1 (by rw[h.1.1,e])
 rcases h.1.2 with h2|h2<;>omega
theorem zry{t:List UInt8}(h:t≠[]):ltB [] t=true:=by
 cases t with
 |nil=>exact absurd rfl h
 |cons a t=>rfl
theorem zh3:∀(l:List Ava) (last:List UInt8),za5 last l=(l.all zbV&&zb4 l&&(match l with|[]=>true|a::_=>ltB last a.type))
 |[],last=>rfl
 |[a],last=>by simp[za5,zb4]
 |a::b::t,last=>by
  have h:=zh3 (b::t) a.type
  unfold za5
  rw[h]
  simp only[List.all_cons,zb4]
  cases zbV a<;>cases zbV b<;>cases t.all zbV<;>cases ltB a.type b.type<;>cases zb4 (b::t)<;>cases ltB last a.type<;>rfl
theorem zh2(l:List Ava):zan l=(decide (1≤l.length)&&decide (l.length≤3)&&za5 [] l):=by
 rw[zh3]
 unfold zan
 cases l with
 |nil=>rfl
 |cons a t=>
  simp only[List.all_cons]
  cases h:zbV a with
  |false=>simp
  |true=>
   rw[zry (zsS h)]
   simp[Bool.and_assoc]
theorem ziz{n v:List UInt8}(h:(zat n).2=1∨(zat n).2=3):(zb0 n v).2=if(zcs (zat n).2 v).isSome then 0 else 2:=by
 unfold zb0 zcs
 rw[if_neg (by omega),if_neg (by omega)]
 by_cases hv:v=[]∨200<v.length
 ·rw[if_pos hv,if_pos hv];rfl
 ·rw[if_neg hv,if_neg hv]
  rcases h with h|h
  ·rw[h]
   simp only[zdk,zhm]
   by_cases ht:zaD (zaU (zas v))=[]∨(0:UInt8)∈zaD (zaU (zas v))
   ·have h2:¬(zaD (zaU (zas v))≠[]∧(0:UInt8) ∉ zaD (zaU (zas v))):=by
     rintro⟨h3,h4⟩
     rcases ht with ht|ht
     ·exact h3 ht
     ·exact h4 ht
    simp[h2,ht]
   ·have h2:zaD (zaU (zas v))≠[]∧(0:UInt8) ∉ zaD (zaU (zas v)):=⟨fun e=>ht (.inl e),fun e=>ht (.inr e)⟩
    simp[h2]
  ·rw[h]
   cases hb:intB v<;>simp[zdk,hb]
theorem zf1:∀a b:List UInt8,Op.bytesLess a b=ltB a b
 |[],[]=>rfl
 |[],_::_=>rfl
 |_::_,[]=>rfl
 |a::s,b::t=>by
  rw[Op.bytesLess,ltB,zf1 s t]
  by_cases h1:a.toNat<b.toNat
  ·have:a<b:=h1
   simp[h1,this]
  ·have h2:¬a<b:=h1
   by_cases h3:b.toNat<a.toNat
   ·have h4:¬a=b:=fun e=>by rw[e] at h3;omega
    simp[h1,h2,h3,h4]
   ·have h4:a=b:=UInt8.toNat_inj.1 (by omega)
    simp[h4]
theorem zru{a b:List UInt8}(h:ltB b a=true):Op.bytesLess a b=false∧(a==b)=false:=by
 refine⟨by rw[zf1];exact zcY _ _ h,?_⟩
 rw[beq_eq_false_iff_ne]
 intro e
 rw[e,zbF] at h
 cases h
theorem zpR{a b:List UInt8}(h:ltB b a=false):Op.bytesLess a b=true∨(Op.bytesLess a b=false∧(a==b)=true):=by
 rw[zf1]
 cases h2:ltB a b with
 |true=>exact .inl rfl
 |false=>exact .inr ⟨rfl,by rw[ze6 _ _ h2 h];exact beq_self_eq_true _⟩
theorem zfN{S:Nat→Prop}{A:Option Addr}{n c:Nat}{l:List Ava}{w:World}(hG:Gl w)(h:Row Elem.ava S w A n c l)(hb:∀a∈l,a.type.length≤4000000) :
 Calls Tryz.prog 147 #[.slice A n c] w fun e w'=>e=.returned (.bool (zan l))∧Ext w w':=by
 have HG:=hid hG
 have HR:=hid h
 have HB:=hid hb
 have hl:=h.len
 have HF:=hid (zh2 l)
 clear hG h hb
 by_cases h0:n=0
 ·have HE:Hid (zan l=false):=by show _=_;rw[HF.out,←hl,h0];rfl
  have t0:((n:Int)==0)=true:=by rw[h0];rfl
  clear h0 hl
  go_enter Tryz.func147,Tryz.ntmps147
  go_wp2
  go_ret
  exact⟨by rw[HE.out];rfl,Ext.refl _⟩
 ·have t0:((n:Int)==0)=false:=by rw[beq_eq_false_iff_ne];omega
  by_cases h3:3<n
  ·have HE:Hid (zan l=false):=by show _=_;rw[HF.out,←hl,decide_eq_false (show ¬n≤3 by omega)];simp
   have t3:3<(n:Int):=by omega
   clear h0 hl h3
   go_enter Tryz.func147,Tryz.ntmps147
   go_wp2
   go_ret
   exact⟨by rw[HE.out];rfl,Ext.refl _⟩
  ·have t3:decide (3<(n:Int))=false:=by rw[decide_eq_false_iff_not];omega
   have HE:Hid (zan l=za5 [] l):=by show _=_;rw[HF.out,←hl,decide_eq_true (show 1≤n by omega),decide_eq_true (show n≤3 by omega)];rfl
   have hn:n≤3:=by omega
   clear h3 HF hl
   go_enter Tryz.func147,Tryz.ntmps147
   go_wp2
   go_loopw [3,20] (fun v i wr=>∃(j:Nat) (last:List UInt8),j≤n∧i=.int .i64 j∧v=.string (str last)∧Hid (za5 last (l.drop j)=za5 [] l)∧Hid (Ext w wr)) (fun _ i _=>n-(intOf i).toNat)
   case atStart=>exact⟨0,[],by omega,rfl,rfl,rfl,Ext.refl _⟩
   case round=>
    obtain⟨j,last,hj,rfl,rfl,HO,HX⟩:=hrel
    by_cases hlt:j<n
    ·obtain⟨b,o,x,rfl,hx,e1,e2⟩:=zgj (HR.out.ext HX.out) hlt
     have hd:Hid (l.drop j=x::l.drop (j+1)):=by
      show _=_
      obtain⟨h1,h2⟩:=List.getElem?_eq_some_iff.1 hx
      rw[List.drop_eq_getElem_cons h1,h2]
     have hxs:=hid (HB.out x (List.mem_of_getElem? hx))
     clear hx
     have HT:∀w,Calls Tryz.prog 75 #[.string (str x.type)] w (zaX w x.type):=fun w=>by
      have:=zc3 (str x.type) w (by have:=hxs.out;rw[zaI];simp only[maxLen];omega)
      rwa[zao] at this
     have HAV:Hid (zbV x=(decide ((zat x.type).1=x.type)&&(decide ((zat x.type).2=1) || decide ((zat x.type).2=3))&&(zcs (zat x.type).2 x.val).isSome)):=rfl
     have HNE:Hid ((zat x.type).2=1∨(zat x.type).2=3→(zb0 x.type x.val).2=if(zcs (zat x.type).2 x.val).isSome then 0 else 2):=ziz
     have HNA:Hid ((zat x.type).2=1∨(zat x.type).2=3→∀w,Gl w→Calls Tryz.prog 139 #[.string (str x.type),.string (str x.val)] w (zb1 w x.type x.val)):=fun h w hG=>by
      have:=zen (str x.type) (str x.val) w hG (by have:=hxs.out;rw[zaI];exact this) (by rw[zao];omega)
      rwa[zao,zao] at this
     have HST:Hid (za5 last (x::l.drop (j+1))=(zbV x&&ltB last x.type&&za5 x.type (l.drop (j+1)))):=rfl
     rw[←hd.out] at HST
     unfold zaX at HT
     obtain⟨p,hp⟩:∃p,p=zat x.type:=⟨_,rfl⟩
     rw[←hp] at HT HAV HNE HNA
     clear hp
     obtain⟨t,k⟩:=p
     simp only at HT HAV HNE HNA
     by_cases ht:t=x.type
     ·subst ht
      by_cases hk:k=1∨k=3
      ·have HNC:=HNA.out hk
       unfold zb1 at HNC
       have HE1:Hid ((zb0 x.type x.val).2=if(zcs k x.val).isSome then 0 else 2):=HNE.out hk
       generalize zb0 x.type x.val=q at*
       obtain⟨nv,ne⟩:=q
       simp only at HNC HE1
       have hk2:((k:Int) != 1)=false∨(((k:Int) != 1)=true∧((k:Int) != 3)=false):=by
        rcases hk with h|h
        ·left;rw[h];rfl
        ·right;rw[h];exact⟨rfl,rfl⟩
       clear HNA HNE
       cases hlt2:ltB last x.type with
       |false=>
        have HF:Hid (za5 last (l.drop j)=false):=by show _=_;rw[HST.out,hlt2,Bool.and_false,Bool.false_and]
        rw[HO.out] at HF
        rcases zpR hlt2 with q1|⟨q1,q2⟩
        all_goals
         clear hlt2
         rcases hk2 with k1|⟨k1,k2⟩
         all_goals
          go_wp2_with (first
           |(go_at_call 75;(with_reducible refine(HT _).mono ?_);rintro e w1 ⟨rfl,hx1⟩;have HX1:=hid hx1;have p0:=zaa (zc2 wr #[.string (str x.type),.string (str x.val)] 189 0) _ hx1;have p1:=zaa (zc2 wr #[.string (str x.type),.string (str x.val)] 189 1) _ hx1;clear hx1)
           )
          go_ret
          exact⟨by rw[HE.out,HF.out];rfl,HX.out.trans ((Ext.alloc _ _).trans HX1.out)⟩
       |true=>
        obtain⟨q1,q2⟩:=zru hlt2
        cases hnb:(zcs k x.val).isSome with
        |false=>
         have HN2:Hid (ne=2):=by show _=_;rw[HE1.out,hnb];rfl
         have HF:Hid (za5 last (l.drop j)=false):=by show _=_;rw[HST.out,HAV.out,hnb,Bool.and_false,Bool.false_and,Bool.false_and]
         rw[HO.out] at HF
         have e3:(ne != 0)=true:=by rw[HN2.out];rfl
         clear hlt2 hnb HAV HST
         rcases hk2 with k1|⟨k1,k2⟩
         all_goals
          go_wp2_with (first
           |(go_at_call 75;(with_reducible refine(HT _).mono ?_);rintro e w1 ⟨rfl,hx1⟩;have HX1:=hid hx1;have p0:=zaa (zc2 wr #[.string (str x.type),.string (str x.val)] 189 0) _ hx1;have p1:=zaa (zc2 wr #[.string (str x.type),.string (str x.val)] 189 1) _ hx1;clear hx1)
           |(go_at_call 139;(with_reducible refine(HNC _ (HG.out.ext (HX.out.trans ((Ext.alloc _ _).trans HX1.out)))).mono ?_);rintro e w2 ⟨rfl,hx2⟩;have HX2:=hid hx2;clear hx2)
           )
          go_ret
          exact⟨by rw[HE.out,HF.out];rfl,HX.out.trans ((Ext.alloc _ _).trans (HX1.out.trans HX2.out))⟩
        |true=>
         have e3:(ne != 0)=false:=by rw[HE1.out,hnb];rfl
         have HF:Hid (za5 x.type (l.drop (j+1))=za5 [] l):=by
          show _=_
          rw[←HO.out,HST.out,HAV.out,hnb,hlt2,decide_eq_true rfl]
          rcases hk with h|h<;>simp[h]
         clear hlt2 hnb HAV HST hk
         rcases hk2 with k1|⟨k1,k2⟩
         all_goals
          go_wp2_with (first
           |(go_at_call 75;(with_reducible refine(HT _).mono ?_);rintro e w1 ⟨rfl,hx1⟩;have HX1:=hid hx1;have p0:=zaa (zc2 wr #[.string (str x.type),.string (str x.val)] 189 0) _ hx1;have p1:=zaa (zc2 wr #[.string (str x.type),.string (str x.val)] 189 1) _ hx1;clear hx1)
           |(go_at_call 139;(with_reducible refine(HNC _ (HG.out.ext (HX.out.trans ((Ext.alloc _ _).trans HX1.out)))).mono ?_);rintro e w2 ⟨rfl,hx2⟩;have HX2:=hid hx2;clear hx2)
           )
          exact⟨⟨j+1,x.type,by omega,by go_num,rfl,HF,HX.out.trans ((Ext.alloc _ _).trans (HX1.out.trans HX2.out))⟩,by simp[intOf];omega⟩
      ·have hk1:((k:Int) != 1)=true:=by rw[bne_iff_ne];omega
       have hk2:((k:Int) != 3)=true:=by rw[bne_iff_ne];omega
       have HF:Hid (za5 last (l.drop j)=false):=by
        show _=_
        rw[HST.out,HAV.out,decide_eq_false (show ¬k=1 by omega),decide_eq_false (show ¬k=3 by omega)]
        simp
       rw[HO.out] at HF
       clear hk HNA HNE HAV HST
       go_wp2_with (first
        |(go_at_call 75;(with_reducible refine(HT _).mono ?_);rintro e w1 ⟨rfl,hx1⟩;have HX1:=hid hx1;have p0:=zaa (zc2 wr #[.string (str x.type),.string (str x.val)] 189 0) _ hx1;have p1:=zaa (zc2 wr #[.string (str x.type),.string (str x.val)] 189 1) _ hx1;clear hx1)
        )
       go_ret
       exact⟨by rw[HE.out,HF.out];rfl,HX.out.trans ((Ext.alloc _ _).trans HX1.out)⟩
     ·have te:(t==x.type)=false:=by rw[beq_eq_false_iff_ne];exact ht
      have HF:Hid (za5 last (l.drop j)=false):=by show _=_;rw[HST.out,HAV.out,decide_eq_false ht];simp
      rw[HO.out] at HF
      clear ht HNA HNE HAV HST
      go_wp2_with (first
       |(go_at_call 75;(with_reducible refine(HT _).mono ?_);rintro e w1 ⟨rfl,hx1⟩;have HX1:=hid hx1;have p0:=zaa (zc2 wr #[.string (str x.type),.string (str x.val)] 189 0) _ hx1;have p1:=zaa (zc2 wr #[.string (str x.type),.string (str x.val)] 189 1) _ hx1;clear hx1)
       )
      go_ret
      exact⟨by rw[HE.out,HF.out];rfl,HX.out.trans ((Ext.alloc _ _).trans HX1.out)⟩
    ·obtain rfl:j=n:=by omega
     have HF:Hid (za5 [] l=true):=by show _=_;rw[←HO.out,List.drop_of_length_le (Nat.le_of_eq HR.out.len.symm)];rfl
     go_wp2
     go_ret
     exact⟨by rw[HE.out,HF.out];rfl,HX.out⟩
end
end Go.Proofs.YtkjbokhnpphimaaGreatDoor
