/- Lemmas of the walk. -/
import Derived.Test.YtkjbokhnpphimaaGreatDoorV38
set_option maxHeartbeats 40000000
set_option linter.unusedVariables false
set_option linter.unusedSimpArgs false
namespace Go.Proofs.YtkjbokhnpphimaaGreatDoor
section
abbrev nmQ(c:CutR):List UInt8:=bys c.name
theorem zgW{a b:List UInt8}:zbG a b=true↔zaJ (zak a)=0∧zaJ (zak b)=0∧(okL (zak b)).length≤(okL (zak a)).length∧(okL (zak a)).drop ((okL (zak a)).length-(okL (zak b)).length)=okL (zak b):=by
 unfold zbG zf0
 simp only[Bool.and_eq_true,decide_eq_true_eq]
 constructor
 ·rintro⟨⟨h1,h2⟩,h3⟩
  refine⟨h1,h2,?_⟩
  split at h3
  ·assumption
  ·simp at h3
 ·rintro⟨h1,h2,h3⟩
  exact⟨⟨h1,h2⟩,by rw[if_pos h3];rfl⟩
theorem znf{a:List UInt8}(h:zaJ (zak a)=0):zbG a a=true:=zgW.2 ⟨h,h,Nat.le_refl _,by rw[Nat.sub_self];rfl⟩
theorem zjY{a b:List UInt8}(ha:zaJ (zak a)=0)(h:zbG (zaT a).1 b=true):zbG a b=true:=by
 obtain⟨h1,h2,h3,h4⟩:=zgW.1 h
 rw[zgo ha] at h3 h4
 refine zgW.2 ⟨ha,h2,?_⟩
 change (okL (zak b)).length≤(okL (zak a)).tail.length at h3
 change (okL (zak a)).tail.drop ((okL (zak a)).tail.length-(okL (zak b)).length)=okL (zak b) at h4
 generalize okL (zak a)=x at*
 generalize okL (zak b)=y at*
 cases x with
 |nil=>exact⟨h3,h4⟩
 |cons p t=>
  simp only[List.tail_cons,List.length_cons] at*
  refine⟨by omega,?_⟩
  rw[show t.length+1-y.length=(t.length-y.length)+1 by omega,List.drop_succ_cons]
  exact h4
def zsM(cs:List CutR)(nm:List UInt8)(i:Int):Prop:=
 (i = -1∧∀c∈cs,zbG nm (nmQ c)=false)∨∃(k:Nat) (c:CutR),i=k∧cs[k]?=some c∧zbG nm (nmQ c)=true∧∀c'∈cs,zbG nm (nmQ c')=true→zbT (nmQ c')≤zbT (nmQ c)
theorem zl8(cs:List CutR)(nm:List UInt8):zsM cs nm (zdB cs nm):=by
 have key:∀j,j≤cs.length→(zbH nm 0 (-1,-1) (cs.take j)=(-1,-1)∧∀c∈cs.take j,zbG nm (nmQ c)=false) ∨
  ∃(k:Nat) (c:CutR),zbH nm 0 (-1,-1) (cs.take j)=((k:Int),zbT (nmQ c))∧cs[k]?=some c∧zbG nm (nmQ c)=true∧∀c'∈cs.take j,zbG nm (nmQ c')=true→zbT (nmQ c')≤zbT (nmQ c):=by
  intro j
  induction j with
  |zero=>intro _;exact .inl ⟨rfl,by simp⟩
  |succ j ih=>
   intro hj
   have hc:cs[j]?=some cs[j]:=List.getElem?_eq_getElem (by omega)
   have ht:cs.take (j+1)=cs.take j++[cs[j]]:=by rw[List.take_add_one,hc];rfl
   rw[zhE hc,ht]
   generalize cs[j]=x at*
   have hd0:0≤zbT (nmQ x):=by unfold zbT;omega
   rcases ih (by omega) with⟨e,h⟩|⟨k,c,e,h1,h2,h3⟩
   ·rw[e]
    unfold zcI
    cases hu:zbG nm (nmQ x) with
    |false=>
     refine .inl ⟨by simp,fun c hc'=>?_⟩
     rcases List.mem_append.1 hc' with h4|h4
     ·exact h c h4
     ·simp at h4;rw[h4];exact hu
    |true=>
     refine .inr ⟨j,x,by show(if(decide ((-1:Int)<zbT (nmQ x))&&true)=true then _ else _)=_;rw[decide_eq_true (show(-1:Int)<zbT (nmQ x) by omega)];rfl,hc,hu,fun c' hc' hu'=>?_⟩
     rcases List.mem_append.1 hc' with h4|h4
     ·rw[h c' h4] at hu';cases hu'
     ·simp at h4;rw[h4];exact Int.le_refl _
   ·rw[e]
    unfold zcI
    cases hu:zbG nm (nmQ x) with
    |false=>
     refine .inr ⟨k,c,by simp,h1,h2,fun c' hc' hu'=>?_⟩
     rcases List.mem_append.1 hc' with h4|h4
     ·exact h3 c' h4 hu'
     ·simp at h4;rw[h4,hu] at hu';cases hu'
    |true=>
     by_cases hd:zbT (nmQ c)<zbT (nmQ x)
     ·refine .inr ⟨j,x,by show(if(decide (zbT (nmQ c)<zbT (nmQ x))&&true)=true then _ else _)=_;rw[decide_eq_true hd];rfl,hc,hu,fun c' hc' hu'=>?_⟩
      rcases List.mem_append.1 hc' with h4|h4
      ·have:=h3 c' h4 hu';omega
      ·simp at h4;rw[h4];exact Int.le_refl _
     ·refine .inr ⟨k,c,by show(if(decide (zbT (nmQ c)<zbT (nmQ x))&&true)=true then _ else _)=_;rw[decide_eq_false hd];rfl,h1,h2,fun c' hc' hu'=>?_⟩
      rcases List.mem_append.1 hc' with h4|h4
      ·exact h3 c' h4 hu'
      ·simp at h4;rw[h4];omega
 have:=key cs.length (Nat.le_refl _)
 rw[List.take_length] at this
 unfold zdB
 rcases this with⟨e,h⟩|⟨k,c,e,h⟩
 ·exact .inl ⟨by rw[e],h⟩
 ·exact .inr ⟨k,c,by rw[e],h⟩
theorem zoN{cs:List CutR}{nm:List UInt8}{c:CutR}(hc:c∈cs)(hu:zbG nm (nmQ c)=true):∃(k:Nat) (d:CutR),zdB cs nm=k∧cs[k]?=some d∧zbG nm (nmQ d)=true:=by
 rcases zl8 cs nm with⟨-,h⟩|⟨k,d,e,h1,h2,-⟩
 ·rw[h c hc] at hu;cases hu
 ·exact⟨k,d,e,h1,h2⟩
structure RightOk(l:List Ent)(cs:List CutR)(n:Int):Prop where
 srv:1≤n∧n≤8
 few:cs.length≤30
 cut:∀c∈cs,0≤c.server∧c.server<n∧∃e∈l,e.name=c.name∧(zcV e.atts).2=false
 apart:Apart nmQ cs
 top:∀e∈l,(zaT (nmE e)).1=[]→∃c∈cs,c.name=e.name
theorem RightOk.self{l:List Ent}{cs:List CutR}{n:Int}(h:RightOk l cs n)(hN:Named l):∀c∈cs,zbZ (nmQ c)=true:=fun c hc=>by
 obtain⟨-,-,e,he,hn,-⟩:=h.cut c hc
 have:=hN.self e he
 unfold nmE at this
 rw[hn] at this
 exact this
theorem zrn{l:List Ent}{cs:List CutR}{n:Int}(hok:OkOf l)(h:RightOk l cs n):∀e∈l,∃c∈cs,zbG (nmE e) (nmQ c)=true:=by
 have hN:=zcH hok
 have key:∀(m:Nat) (e:Ent),e∈l→(okL (zak (nmE e))).length≤m→∃c∈cs,zbG (nmE e) (nmQ c)=true:=by
  intro m
  induction m with
  |zero=>
   intro e he hm
   have hs:=hN.self e he
   obtain⟨h1,h2,h3⟩:=zbE hs
   have:okL (zak (nmE e))=[]:=List.eq_nil_of_length_eq_zero (by omega)
   unfold za3 at h2
   rw[this] at h2
   exact absurd h2.symm h3
  |succ m ih=>
   intro e he hm
   obtain⟨h1,h2,h3⟩:=zbE (hN.self e he)
   by_cases hp:(zaT (nmE e)).1=[]
   ·obtain⟨c,hc,hn⟩:=h.top e he hp
    refine⟨c,hc,?_⟩
    have e2:nmQ c=nmE e:=by unfold nmQ nmE;rw[hn]
    rw[e2]
    exact znf h1
   ·have ha:=hok.2.2 e he
    unfold zdr at ha
    rw[zao,if_neg hp] at ha
    cases hf:zc0 l (str (zaT (bys e.name)).1) with
    |none=>rw[hf] at ha;simp at ha
    |some e'=>
     have hm':e'∈l:=List.mem_of_find?_eq_some hf
     have hn':nmE e'=(zaT (nmE e)).1:=by
      have:=List.find?_some hf
      simp only[decide_eq_true_eq] at this
      unfold nmE
      rw[this,zao]
     have hpp:=zgo h1
     have hlen:(okL (zak (nmE e'))).length≤m:=by
      rw[hn',hpp]
      show(okL (zak (nmE e))).tail.length≤m
      rw[List.length_tail]
      omega
     obtain⟨c,hc,hu⟩:=ih e' hm' hlen
     refine⟨c,hc,zjY h1 ?_⟩
     rw[←hn']
     exact hu
 exact fun e he=>key _ e he (Nat.le_refl _)
def ctxE(l:List Ent)(cs:List CutR)(i:Nat):List Ent:=l.filter fun e=>decide (zdB cs (nmE e)=(i:Int))
def upC(cs:List CutR)(c:CutR):Int:=zdB cs (zaT (nmQ c)).1
def ctxS(cs:List CutR)(i:Nat):List CutR:=cs.filter fun c=>decide (upC cs c=(i:Int))
def topS(cs:List CutR):List CutR:=cs.filter fun c=>decide (upC cs c<0)
def nmAt(cs:List CutR)(i:Nat):ByteArray:=((cs[i]?).map (·.name)).getD ByteArray.empty
def znv(l:List Ent)(cs:List CutR)(i:Nat):Cxt:=⟨nmAt cs i,ctxE l cs i,ctxS cs i⟩
def srvF(l:List Ent)(cs:List CutR)(s:Nat):List Cxt:=((List.range cs.length).filter fun i=>decide (((cs[i]?).map (·.server)).getD (-1)=(s:Int))).map (znv l cs)
def zaS(l:List Ent)(cs:List CutR)(n:Nat):List (List Cxt):=(List.range n).map (srvF l cs)
end
section
open Go.RowKit
set_option maxRecDepth 100000
def zaN(k:Nat)(nm:Nat→ByteArray)(ve vs:Nat→Value):Array Value:=(Array.range (k * 3)).map fun j=>if j % 3=0 then .string (nm (j / 3)) else if j % 3=1 then ve (j / 3) else vs (j / 3)
theorem zdL(k:Nat)(nm:Nat→ByteArray)(ve vs:Nat→Value):(zaN k nm ve vs).size=k * 3:=by simp[zaN]
theorem zbg(k:Nat)(nm:Nat→ByteArray)(ve vs:Nat→Value)(j:Nat):(zaN k nm ve vs)[j]?=if j<k * 3 then some (if j % 3=0 then .string (nm (j / 3)) else if j % 3=1 then ve (j / 3) else vs (j / 3)) else none:=by
 unfold zaN
 rw[Array.getElem?_map]
 by_cases h:j<k * 3
 ·rw[if_pos h,Array.getElem?_eq_getElem (by simpa using h)]
  simp
 ·rw[if_neg h,Array.getElem?_eq_none (by simpa using h)]
  rfl
theorem zpd{k i:Nat}(hi:i<k)(nm:Nat→ByteArray)(ve vs:Nat→Value):(zaN k nm ve vs)[i * 3]?=some (.string (nm i)):=by
 rw[zbg,if_pos (by omega),if_pos (by omega),show i * 3 / 3=i by omega]
theorem zk6{k i:Nat}(hi:i<k)(nm:Nat→ByteArray)(ve vs:Nat→Value):(zaN k nm ve vs)[i * 3+1]?=some (ve i):=by
 rw[zbg,if_pos (by omega),if_neg (by omega),if_pos (by omega),show(i * 3+1) / 3=i by omega]
theorem zlS{k i:Nat}(hi:i<k)(nm:Nat→ByteArray)(ve vs:Nat→Value):(zaN k nm ve vs)[i * 3+2]?=some (vs i):=by
 rw[zbg,if_pos (by omega),if_neg (by omega),if_neg (by omega),show(i * 3+2) / 3=i by omega]
theorem zqe{k i:Nat}(hi:i<k)(nm:Nat→ByteArray)(ve vs:Nat→Value)(x:ByteArray):(zaN k nm ve vs).setIfInBounds (i * 3) (.string x)=zaN k (upd nm i x) ve vs:=by
 apply Array.ext_getElem?
 intro j
 rw[Array.getElem?_setIfInBounds,zdL,zbg,zbg]
 by_cases h:i * 3=j
 ·rw[if_pos h,if_pos (by omega),if_pos (by omega),if_pos (by omega),show j / 3=i by omega,zbx]
 ·rw[if_neg h]
  by_cases h2:j % 3=0
  ·rw[if_pos h2,if_pos h2,za4 _ _ (show j / 3≠i by omega)]
  ·rw[if_neg h2,if_neg h2]
theorem zrl{k i:Nat}(hi:i<k)(nm:Nat→ByteArray)(ve vs:Nat→Value)(x:Value):(zaN k nm ve vs).setIfInBounds (i * 3+1) x=zaN k nm (upd ve i x) vs:=by
 apply Array.ext_getElem?
 intro j
 rw[Array.getElem?_setIfInBounds,zdL,zbg,zbg]
 by_cases h:i * 3+1=j
 ·rw[if_pos h,if_pos (by omega),if_pos (by omega),if_neg (by omega),if_pos (by omega),show j / 3=i by omega,zbx]
 ·rw[if_neg h]
  by_cases h2:j % 3=1
  ·rw[if_neg (show ¬j % 3=0 by omega),if_pos h2,if_neg (show ¬j % 3=0 by omega),if_pos h2,za4 _ _ (show j / 3≠i by omega)]
  ·rw[if_neg h2,if_neg h2]
theorem zqG{k i:Nat}(hi:i<k)(nm:Nat→ByteArray)(ve vs:Nat→Value)(x:Value):(zaN k nm ve vs).setIfInBounds (i * 3+2) x=zaN k nm ve (upd vs i x):=by
 apply Array.ext_getElem?
 intro j
 rw[Array.getElem?_setIfInBounds,zdL,zbg,zbg]
 by_cases h:i * 3+2=j
 ·rw[if_pos h,if_pos (by omega),if_pos (by omega),if_neg (by omega),if_neg (by omega),show j / 3=i by omega,zbx]
 ·rw[if_neg h]
  by_cases h2:j % 3=0
  ·rw[if_pos h2,if_pos h2]
  ·rw[if_neg h2,if_neg h2]
   by_cases h3:j % 3=1
   ·rw[if_pos h3,if_pos h3]
   ·rw[if_neg h3,if_neg h3,za4 _ _ (show j / 3≠i by omega)]
theorem zjU(k:Nat)(nm:Nat→ByteArray)(ve vs:Nat→Value)(x:Value):zaN k nm ve (upd vs k x)=zaN k nm ve vs:=by
 apply Array.ext_getElem?
 intro j
 rw[zbg,zbg]
 by_cases h:j<k * 3
 ·rw[if_pos h,if_pos h,za4 _ _ (show j / 3≠k by omega)]
 ·rw[if_neg h,if_neg h]
def zbK(n:Nat)(vv:Nat→Value):Array Value:=(Array.range n).map vv
theorem zo6{n i:Nat}(hi:i<n)(vv:Nat→Value):(zbK n vv)[i]?=some (vv i):=by
 unfold zbK
 rw[Array.getElem?_map,Array.getElem?_eq_getElem (by simpa using hi)]
 simp
theorem zrR{n i:Nat}(hi:i<n)(vv:Nat→Value)(x:Value):(zbK n vv).setIfInBounds i x=zbK n (upd vv i x):=by
 apply Array.ext_getElem?
 intro j
 unfold zbK
 rw[Array.getElem?_setIfInBounds,Array.getElem?_map,Array.getElem?_map]
 simp only[Array.size_map,Array.size_range]
 by_cases h:i=j
 ·subst h
  rw[if_pos rfl,if_pos hi,Array.getElem?_eq_getElem (by simpa using hi)]
  simp[zbx]
 ·rw[if_neg h]
  by_cases hj:j<n
  ·rw[Array.getElem?_eq_getElem (by simpa using hj)]
   simp[za4 _ _ (show j≠i from fun e=>h e.symm)]
  ·rw[Array.getElem?_eq_none (by simpa using hj)]
   rfl
theorem zmh:(Tryz.prog.info? 72).map (fun i=>(i.zero,i.size,i.bytes))=some (some (.agg #[.string ByteArray.empty,.slice none 0 0,.slice none 0 0]),Elem.cxt.k,64):=by kernel_rfl
theorem zrd:(Tryz.prog.info? 78).map (fun i=>(i.zero,i.size,i.bytes))=some (some (.agg #[.slice none 0 0]),Elem.srw.k,24):=by kernel_rfl
theorem zqo(k:Nat)(hk:k≤65536):∀w:World,(Instr.makeSlice 68 (.int .i64 (k:Int)) (.int .i64 (k:Int))).run Tryz.prog w=.ok (.slice (some ⟨w.heap.size,0,none⟩) k k) (w.alloc (.cells (zaN k (fun _=>ByteArray.empty) (fun _=>.slice none 0 0) (fun _=>.slice none 0 0)) 72)):=fun w=>by
 obtain⟨i0,hi,hz0,hz1,hz2⟩:=info_parts zmh
 have hr:=run_make (P:=Tryz.prog) w 68 72 i0 _ Tryz.underlying68 hi hz0 .i64 .i64 k k (by omega) (by omega) (by rw[hz2];omega) (by omega)
 simp only[Int.toNat_natCast] at hr
 rw[hr]
 have e:madeCells (Value.agg #[.string ByteArray.empty,.slice none 0 0,.slice none 0 0]).cells (k * i0.size)=zaN k (fun _=>ByteArray.empty) (fun _=>.slice none 0 0) (fun _=>.slice none 0 0):=by
  rw[hz1]
  unfold madeCells zaN
  show(Array.range (k * 3)).map _=_
  congr 1
  funext j
  show(#[Value.string ByteArray.empty,.slice none 0 0,.slice none 0 0]:Array Value)[j % 3]! = _
  have h3:j % 3<3:=Nat.mod_lt _ (by decide)
  generalize j % 3=r at*
  rcases r with _|_|_|r
  ·rfl
  ·rfl
  ·rfl
  ·omega
 rw[e]
theorem zqk(k:Nat)(hk:k≤65536):∀w:World,(Instr.makeSlice 26 (.int .i64 (k:Int)) (.int .i64 (k:Int))).run Tryz.prog w=.ok (.slice (some ⟨w.heap.size,0,none⟩) k k) (w.alloc (.cells (zbK k (fun _=>.slice none 0 0)) 78)):=fun w=>by
 obtain⟨i0,hi,hz0,hz1,hz2⟩:=info_parts zrd
 have hr:=run_make (P:=Tryz.prog) w 26 78 i0 _ Tryz.underlying26 hi hz0 .i64 .i64 k k (by omega) (by omega) (by rw[hz2];omega) (by omega)
 simp only[Int.toNat_natCast] at hr
 rw[hr]
 have e:madeCells (Value.agg #[.slice none 0 0]).cells (k * i0.size)=zbK k (fun _=>.slice none 0 0):=by
  rw[hz1]
  unfold madeCells zbK
  show(Array.range (k * 1)).map _=_
  rw[Nat.mul_one]
  congr 1
  funext j
  show(#[Value.slice none 0 0]:Array Value)[j % 1]! = _
  rw[Nat.mod_one]
  rfl
 rw[e]
theorem zof(w:World)(g i:Nat)(v:Value):w.grownBy (w.setCell ⟨g,i,none⟩ v) (some g):=⟨rfl,rfl,rfl,by simp,fun k hk hne=>heap_setCell_other _ _ _ _ (fun e=>hne (by rw[e]))⟩
theorem zjk{α:Type}{E:Elem α}{S:Nat→Prop}{T TC:TypeId}{L B0 k i q:Nat}{wM wD w9:World}{ve:Nat→Value}{es:Nat→List α}{cells cells':Array Value}{o:Obj}{v' z:Value}{l':List α}(hi:i<k)(hC:wD.heap[L]?=some (.cells cells TC (0,0)))
 (hF:Fam E S T L wM B0 k wD ve es) (hS:∀b,S b→b<B0) (hB:B0≤wD.heap.size) (k1:GrowM E S T (some L) wM w9 v' l') (k2:(wD.alloc o).grownBy w9 (ve i).ownBlock) (k3:v'.ownBlock=(ve i).ownBlock∨v'.ownBlock=some (wD.alloc o).heap.size)
 (hq:cells[q]?=some z) (hset:cells.setIfInBounds q v'=cells') :
 (w9.cell? ⟨L,q,none⟩=some z∧w9.frozen? ⟨L,q,none⟩=false)∧(w9.setCell ⟨L,q,none⟩ v').heap[L]?=some (.cells cells' TC (0,0))∧Fam E S T L wM B0 k (w9.setCell ⟨L,q,none⟩ v') (upd ve i v') (upd es i l') ∧
   (∀b,b<B0→b≠L→(w9.setCell ⟨L,q,none⟩ v').heap[b]?=wD.heap[b]?)∧wD.heap.size≤(w9.setCell ⟨L,q,none⟩ v').heap.size∧Ext wM (w9.setCell ⟨L,q,none⟩ v'):=by
 have hLD:=(Array.getElem?_eq_some_iff.1 hC).1
 have hsz:(wD.alloc o).heap.size=wD.heap.size+1:=by simp
 have hne:some L≠(ve i).ownBlock:=fun e=>((hF.row i hi).apart L rfl).1 e.symm
 have hC9:w9.heap[L]?=some (.cells cells TC (0,0)):=by
  rw[k2.block L (by omega) hne,(Ext.alloc wD o).block L hLD,hC]
 have hF9:=Fam.upd hi (hF.later (Ext.alloc wD o)) hS (by omega) k1 k2 k3
 have hFS:=hF9.setL q v'
 refine⟨⟨?_,?_⟩,?_,hFS,fun b hb hbL=>?_,?_,(hFS.row i hi).ext⟩
 ·rw[cell_of_row w9 L q cells TC (0,0) hC9];exact hq
 ·exact frozen_of_row w9 L q cells TC hC9
 ·rw[←hset];exact heap_setCell_same w9 L q cells TC v' hC9
 ·rw[heap_setCell_other _ _ _ _ hbL,k2.block b (by omega) (fun e=>?_),(Ext.alloc wD o).block b (by omega)]
  have:=hF.high i hi b e.symm
  omega
 ·have:=k2.size
  have h2:(w9.setCell ⟨L,q,none⟩ v').heap.size=w9.heap.size:=by simp
  omega
theorem zrm{α:Type}{E:Elem α}{S:Nat→Prop}{T TG:TypeId}{L G B0 k i q:Nat}{wM wD w9:World}{ve:Nat→Value}{es:Nat→List α}{cells:Array Value}{o:Obj}{v' z:Value}{l':List α}(hi:i<k)(hC:wD.heap[G]?=some (.cells cells TG (0,0)))
 (hF:Fam E S T L wM B0 k wD ve es) (hS:∀b,S b→b<B0) (hB:B0≤wD.heap.size) (hGB:G<B0) (hGM:wM.heap.size≤G) (hGS:¬S G) (k1:GrowM E S T (some L) wM w9 v' l') (k2:(wD.alloc o).grownBy w9 (ve i).ownBlock) (k3:v'.ownBlock=(ve i).ownBlock∨v'.ownBlock=some (wD.alloc o).heap.size)
 (hq:cells[q]?=some z) :
 (w9.cell? ⟨G,q,none⟩=some z∧w9.frozen? ⟨G,q,none⟩=false)∧(w9.setCell ⟨G,q,none⟩ v').heap[G]?=some (.cells (cells.setIfInBounds q v') TG (0,0))∧Fam E S T L wM B0 k (w9.setCell ⟨G,q,none⟩ v') (upd ve i v') (upd es i l') ∧
   (∀b,b<B0→b≠G→(w9.setCell ⟨G,q,none⟩ v').heap[b]?=wD.heap[b]?)∧wD.heap.size≤(w9.setCell ⟨G,q,none⟩ v').heap.size∧Ext wM (w9.setCell ⟨G,q,none⟩ v'):=by
 have hsz:(wD.alloc o).heap.size=wD.heap.size+1:=by simp
 have hne:some G≠(ve i).ownBlock:=fun e=>by have:=hF.high i hi G e.symm;omega
 have hC9:w9.heap[G]?=some (.cells cells TG (0,0)):=by
  rw[k2.block G (by omega) hne,(Ext.alloc wD o).block G (by omega),hC]
 have hF9:=Fam.upd hi (hF.later (Ext.alloc wD o)) hS (by omega) k1 k2 k3
 have hFS:=hF9.kept (zof w9 G q v') (fun b hb=>by
  injection hb with hb
  subst hb
  exact ⟨hGM,fun j hj e=>by have:=hF9.high j hj G e;omega,.inr hGS⟩)
 refine⟨⟨?_,?_⟩,heap_setCell_same w9 G q cells TG v' hC9,hFS,fun b hb hbL=>?_,?_,(hFS.row i hi).ext⟩
 ·rw[cell_of_row w9 G q cells TG (0,0) hC9];exact hq
 ·exact frozen_of_row w9 G q cells TG hC9
 ·rw[heap_setCell_other _ _ _ _ hbL,k2.block b (by omega) (fun e=>?_),(Ext.alloc wD o).block b (by omega)]
  have:=hF.high i hi b e.symm
  omega
 ·have:=k2.size
  have h2:(w9.setCell ⟨G,q,none⟩ v').heap.size=w9.heap.size:=by simp
  omega
end
end Go.Proofs.YtkjbokhnpphimaaGreatDoor
