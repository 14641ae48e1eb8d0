/- Lemmas of the walk. -/
import Derived.Test.YtioglicfndkgiaaGreatDoorZ32
import Derived.Test.YtioglicfndkgiaaGreatDoorZ38
import Derived.Laws.MakeOwn
set_option maxHeartbeats 40000000
set_option linter.unusedVariables false
set_option linter.unusedSimpArgs false
namespace Go.Proofs.YtioglicfndkgiaaGreatDoor
open Go.RowKit
set_option maxRecDepth 100000
def zaS (k:Nat) (nm:Nat→ByteArray) (ve vs:Nat→Value):Array Value:=(Array.range (k * 3)).map fun j=>if j % 3=0 then .string (nm (j / 3)) else if j % 3=1 then ve (j / 3) else vs (j / 3)
theorem zd4 (k:Nat) (nm:Nat→ByteArray) (ve vs:Nat→Value):(zaS k nm ve vs).size=k * 3:=by simp [zaS]
theorem zbh (k:Nat) (nm:Nat→ByteArray) (ve vs:Nat→Value) (j:Nat):(zaS k nm ve vs)[j]?=if j<k * 3 then some (if j % 3=0 then .string (nm (j / 3)) else if j % 3=1 then ve (j / 3) else vs (j / 3)) else none:=by
 unfold zaS
 rw [Array.getElem?_map]
 by_cases h:j<k * 3
 ·rw [if_pos h,Array.getElem?_eq_getElem (by simpa using h)]
  simp
 ·rw [if_neg h,Array.getElem?_eq_none (by simpa using h)]
  rfl
theorem zol {k i:Nat} (hi:i<k) (nm:Nat→ByteArray) (ve vs:Nat→Value):(zaS k nm ve vs)[i * 3]?=some (.string (nm i)):=by
 rw [zbh,if_pos (by omega),if_pos (by omega),show i * 3 / 3=i by omega]
theorem zls {k i:Nat} (hi:i<k) (nm:Nat→ByteArray) (ve vs:Nat→Value):(zaS k nm ve vs)[i * 3+1]?=some (ve i):=by
 rw [zbh,if_pos (by omega),if_neg (by omega),if_pos (by omega),show (i * 3+1) / 3=i by omega]
theorem zl3 {k i:Nat} (hi:i<k) (nm:Nat→ByteArray) (ve vs:Nat→Value):(zaS k nm ve vs)[i * 3+2]?=some (vs i):=by
 rw [zbh,if_pos (by omega),if_neg (by omega),if_neg (by omega),show (i * 3+2) / 3=i by omega]
theorem zra {k i:Nat} (hi:i<k) (nm:Nat→ByteArray) (ve vs:Nat→Value) (x:ByteArray):(zaS k nm ve vs).setIfInBounds (i * 3) (.string x)=zaS k (upd nm i x) ve vs:=by
 apply Array.ext_getElem?
 intro j
 rw [Array.getElem?_setIfInBounds,zd4,zbh,zbh]
 by_cases h:i * 3=j
 ·rw [if_pos h,if_pos (by omega),if_pos (by omega),if_pos (by omega),show j / 3=i by omega,zbB]
 ·rw [if_neg h]
  by_cases h2:j % 3=0
  ·rw [if_pos h2,if_pos h2,zba _ _ (show j / 3≠i by omega)]
  ·rw [if_neg h2,if_neg h2]
theorem zrn {k i:Nat} (hi:i<k) (nm:Nat→ByteArray) (ve vs:Nat→Value) (x:Value):(zaS k nm ve vs).setIfInBounds (i * 3+1) x=zaS k nm (upd ve i x) vs:=by
 apply Array.ext_getElem?
 intro j
 rw [Array.getElem?_setIfInBounds,zd4,zbh,zbh]
 by_cases h:i * 3+1=j
 ·rw [if_pos h,if_pos (by omega),if_pos (by omega),if_neg (by omega),if_pos (by omega),show j / 3=i by omega,zbB]
 ·rw [if_neg h]
  by_cases h2:j % 3=1
  ·rw [if_neg (show ¬ j % 3=0 by omega),if_pos h2,if_neg (show ¬ j % 3=0 by omega),if_pos h2,zba _ _ (show j / 3≠i by omega)]
  ·rw [if_neg h2,if_neg h2]
theorem zqw {k i:Nat} (hi:i<k) (nm:Nat→ByteArray) (ve vs:Nat→Value) (x:Value):(zaS k nm ve vs).setIfInBounds (i * 3+2) x=zaS k nm ve (upd vs i x):=by
 apply Array.ext_getElem?
 intro j
 rw [Array.getElem?_setIfInBounds,zd4,zbh,zbh]
 by_cases h:i * 3+2=j
 ·rw [if_pos h,if_pos (by omega),if_pos (by omega),if_neg (by omega),if_neg (by omega),show j / 3=i by omega,zbB]
 ·rw [if_neg h]
  by_cases h2:j % 3=0
  ·rw [if_pos h2,if_pos h2]
  ·rw [if_neg h2,if_neg h2]
   by_cases h3:j % 3=1
   ·rw [if_pos h3,if_pos h3]
   ·rw [if_neg h3,if_neg h3,zba _ _ (show j / 3≠i by omega)]
theorem zkH (k:Nat) (nm:Nat→ByteArray) (ve vs:Nat→Value) (x:Value):zaS k nm ve (upd vs k x)=zaS k nm ve vs:=by
 apply Array.ext_getElem?
 intro j
 rw [zbh,zbh]
 by_cases h:j<k * 3
 ·rw [if_pos h,if_pos h,zba _ _ (show j / 3≠k by omega)]
 ·rw [if_neg h,if_neg h]
def zbI (n:Nat) (vv:Nat→Value):Array Value:=(Array.range n).map vv
theorem zpH {n i:Nat} (hi:i<n) (vv:Nat→Value):(zbI n vv)[i]?=some (vv i):=by
 unfold zbI
 rw [Array.getElem?_map,Array.getElem?_eq_getElem (by simpa using hi)]
 simp
theorem zrZ {n i:Nat} (hi:i<n) (vv:Nat→Value) (x:Value):(zbI n vv).setIfInBounds i x=zbI n (upd vv i x):=by
 apply Array.ext_getElem?
 intro j
 unfold zbI
 rw [Array.getElem?_setIfInBounds,Array.getElem?_map,Array.getElem?_map]
 simp only [Array.size_map,Array.size_range]
 by_cases h:i=j
 ·subst h
  rw [if_pos rfl,if_pos hi,Array.getElem?_eq_getElem (by simpa using hi)]
  simp [zbB]
 ·rw [if_neg h]
  by_cases hj:j<n
  ·rw [Array.getElem?_eq_getElem (by simpa using hj)]
   simp [zba _ _ (show j≠i from fun e=>h e.symm)]
  ·rw [Array.getElem?_eq_none (by simpa using hj)]
   rfl
theorem zmY:(Tryz.prog.info? 41).map (fun i=>(i.zero,i.size,i.bytes))=some (some (.agg #[.string ByteArray.empty,.slice none 0 0,.slice none 0 0]),Elem.cxt.k,64):=by kernel_rfl
theorem zrd:(Tryz.prog.info? 39).map (fun i=>(i.zero,i.size,i.bytes))=some (some (.agg #[.slice none 0 0]),Elem.srw.k,24):=by kernel_rfl
theorem zq0 (k:Nat) (hk:k≤65536):∀ w:World,(Instr.makeSlice 37 (.int .i64 (k:Int)) (.int .i64 (k:Int))).run Tryz.prog w=.ok (.slice (some ⟨w.heap.size,0,none⟩) k k) (w.alloc (.cells (zaS k (fun _=>ByteArray.empty) (fun _=>.slice none 0 0) (fun _=>.slice none 0 0)) 41)):=fun w=>by
 obtain ⟨i0,hi,hz0,hz1,hz2⟩:=info_parts zmY
 have hr:=run_make (P:=Tryz.prog) w 37 41 i0 _ Tryz.underlying37 hi hz0 .i64 .i64 k k (by omega) (by omega) (by rw [hz2];omega) (by omega)
 simp only [Int.toNat_natCast] at hr
 rw [hr]
 have e:madeCells (Value.agg #[.string ByteArray.empty,.slice none 0 0,.slice none 0 0]).cells (k * i0.size)=zaS k (fun _=>ByteArray.empty) (fun _=>.slice none 0 0) (fun _=>.slice none 0 0):=by
  rw [hz1]
  unfold madeCells zaS
  show (Array.range (k * 3)).map _=_
  congr 1
  funext j
  show (#[Value.string ByteArray.empty,.slice none 0 0,.slice none 0 0]:Array Value)[j % 3]! = _
  have h3:j % 3<3:=Nat.mod_lt _ (by decide)
  generalize j % 3=r at *
  rcases r with _ | _ | _ | r
  ·rfl
  ·rfl
  ·rfl
  ·omega
 rw [e]
theorem zrk (k:Nat) (hk:k≤65536):∀ w:World,(Instr.makeSlice 31 (.int .i64 (k:Int)) (.int .i64 (k:Int))).run Tryz.prog w=.ok (.slice (some ⟨w.heap.size,0,none⟩) k k) (w.alloc (.cells (zbI k (fun _=>.slice none 0 0)) 39)):=fun w=>by
 obtain ⟨i0,hi,hz0,hz1,hz2⟩:=info_parts zrd
 have hr:=run_make (P:=Tryz.prog) w 31 39 i0 _ Tryz.underlying31 hi hz0 .i64 .i64 k k (by omega) (by omega) (by rw [hz2];omega) (by omega)
 simp only [Int.toNat_natCast] at hr
 rw [hr]
 have e:madeCells (Value.agg #[.slice none 0 0]).cells (k * i0.size)=zbI k (fun _=>.slice none 0 0):=by
  rw [hz1]
  unfold madeCells zbI
  show (Array.range (k * 1)).map _=_
  rw [Nat.mul_one]
  congr 1
  funext j
  show (#[Value.slice none 0 0]:Array Value)[j % 1]! = _
  rw [Nat.mod_one]
  rfl
 rw [e]
theorem zoz (w:World) (g i:Nat) (v:Value):w.grownBy (w.setCell ⟨g,i,none⟩ v) (some g):=⟨rfl,rfl,rfl,by simp,fun k hk hne=>heap_setCell_other _ _ _ _ (fun e=>hne (by rw [e]))⟩
theorem zi1 {α:Type} {E:Elem α} {S:Nat→Prop} {T TC:TypeId} {L B0 k i q:Nat} {wM wD w9:World} {ve:Nat→Value} {es:Nat→List α} {cells cells':Array Value} {o:Obj} {v' z:Value} {l':List α} (hi:i<k) (hC:wD.heap[L]?=some (.cells cells TC (0,0)))
 (hF:Fam E S T L wM B0 k wD ve es) (hS:∀ b,S b→b<B0) (hB:B0≤wD.heap.size) (k1:GrowM E S T (some L) wM w9 v' l') (k2:(wD.alloc o).grownBy w9 (ve i).ownBlock) (k3:v'.ownBlock=(ve i).ownBlock∨v'.ownBlock=some (wD.alloc o).heap.size)
 (hq:cells[q]?=some z) (hset:cells.setIfInBounds q v'=cells') :
 (w9.cell? ⟨L,q,none⟩=some z∧w9.frozen? ⟨L,q,none⟩=false)∧(w9.setCell ⟨L,q,none⟩ v').heap[L]?=some (.cells cells' TC (0,0))∧Fam E S T L wM B0 k (w9.setCell ⟨L,q,none⟩ v') (upd ve i v') (upd es i l') ∧
   (∀ b,b<B0→b≠L→(w9.setCell ⟨L,q,none⟩ v').heap[b]?=wD.heap[b]?)∧wD.heap.size≤(w9.setCell ⟨L,q,none⟩ v').heap.size∧Ext wM (w9.setCell ⟨L,q,none⟩ v'):=by
 have hLD:=(Array.getElem?_eq_some_iff.1 hC).1
 have hsz:(wD.alloc o).heap.size=wD.heap.size+1:=by simp
 have hne:some L≠(ve i).ownBlock:=fun e=>((hF.row i hi).apart L rfl).1 e.symm
 have hC9:w9.heap[L]?=some (.cells cells TC (0,0)):=by
  rw [k2.block L (by omega) hne,(Ext.alloc wD o).block L hLD,hC]
 have hF9:=Fam.upd hi (hF.later (Ext.alloc wD o)) hS (by omega) k1 k2 k3
 have hFS:=hF9.setL q v'
 refine ⟨⟨?_,?_⟩,?_,hFS,fun b hb hbL=>?_,?_,(hFS.row i hi).ext⟩
 ·rw [cell_of_row w9 L q cells TC (0,0) hC9];exact hq
 ·exact frozen_of_row w9 L q cells TC hC9
 ·rw [← hset];exact heap_setCell_same w9 L q cells TC v' hC9
 ·rw [heap_setCell_other _ _ _ _ hbL,k2.block b (by omega) (fun e=>?_),(Ext.alloc wD o).block b (by omega)]
  have:=hF.high i hi b e.symm
  omega
 ·have:=k2.size
  have h2:(w9.setCell ⟨L,q,none⟩ v').heap.size=w9.heap.size:=by simp
  omega
theorem zqg {α:Type} {E:Elem α} {S:Nat→Prop} {T TG:TypeId} {L G B0 k i q:Nat} {wM wD w9:World} {ve:Nat→Value} {es:Nat→List α} {cells:Array Value} {o:Obj} {v' z:Value} {l':List α} (hi:i<k) (hC:wD.heap[G]?=some (.cells cells TG (0,0)))
 (hF:Fam E S T L wM B0 k wD ve es) (hS:∀ b,S b→b<B0) (hB:B0≤wD.heap.size) (hGB:G<B0) (hGM:wM.heap.size≤G) (hGS:¬ S G) (k1:GrowM E S T (some L) wM w9 v' l') (k2:(wD.alloc o).grownBy w9 (ve i).ownBlock) (k3:v'.ownBlock=(ve i).ownBlock∨v'.ownBlock=some (wD.alloc o).heap.size)
 (hq:cells[q]?=some z) :
 (w9.cell? ⟨G,q,none⟩=some z∧w9.frozen? ⟨G,q,none⟩=false)∧(w9.setCell ⟨G,q,none⟩ v').heap[G]?=some (.cells (cells.setIfInBounds q v') TG (0,0))∧Fam E S T L wM B0 k (w9.setCell ⟨G,q,none⟩ v') (upd ve i v') (upd es i l') ∧
   (∀ b,b<B0→b≠G→(w9.setCell ⟨G,q,none⟩ v').heap[b]?=wD.heap[b]?)∧wD.heap.size≤(w9.setCell ⟨G,q,none⟩ v').heap.size∧Ext wM (w9.setCell ⟨G,q,none⟩ v'):=by
 have hsz:(wD.alloc o).heap.size=wD.heap.size+1:=by simp
 have hne:some G≠(ve i).ownBlock:=fun e=>by have:=hF.high i hi G e.symm;omega
 have hC9:w9.heap[G]?=some (.cells cells TG (0,0)):=by
  rw [k2.block G (by omega) hne,(Ext.alloc wD o).block G (by omega),hC]
 have hF9:=Fam.upd hi (hF.later (Ext.alloc wD o)) hS (by omega) k1 k2 k3
 have hFS:=hF9.kept (zoz w9 G q v') (fun b hb=>by
  injection hb with hb
  subst hb
  exact ⟨hGM,fun j hj e=>by have:=hF9.high j hj G e;omega,.inr hGS⟩)
 refine ⟨⟨?_,?_⟩,heap_setCell_same w9 G q cells TG v' hC9,hFS,fun b hb hbL=>?_,?_,(hFS.row i hi).ext⟩
 ·rw [cell_of_row w9 G q cells TG (0,0) hC9];exact hq
 ·exact frozen_of_row w9 G q cells TG hC9
 ·rw [heap_setCell_other _ _ _ _ hbL,k2.block b (by omega) (fun e=>?_),(Ext.alloc wD o).block b (by omega)]
  have:=hF.high i hi b e.symm
  omega
 ·have:=k2.size
  have h2:(w9.setCell ⟨G,q,none⟩ v').heap.size=w9.heap.size:=by simp
  omega
end Go.Proofs.YtioglicfndkgiaaGreatDoor
