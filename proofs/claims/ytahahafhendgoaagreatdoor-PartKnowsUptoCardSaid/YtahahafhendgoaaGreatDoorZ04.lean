/- Lemmas of the walk that the last text of this claim joins. -/
import Derived.Test.YtahahafhendgoaaGreatDoorRows
import Derived.Test.YtahahafhendgoaaGreatDoorZ01
import Derived.WalkKit
import Derived.WalkSpells
import Derived.Maps.AppendAt
import Derived.Deep.AppendLies
import Derived.Deep.Draws
import Derived.Laws.OwnMore
import Derived.Laws.BytesArg
import Derived.ArgAppend
import Derived.Lib.ConvBytes
import Derived.Test.YtahahafhendgoaaGreatDoorZ03
set_option maxHeartbeats 40000000
set_option linter.unusedVariables false
set_option linter.unusedSimpArgs false
namespace Go.Proofs.YtahahafhendgoaaGreatDoor
open Go.RowKit
theorem hid {p : Prop} (h : p) : Hid p:=h
theorem cell_later {w : World} {p : Addr} {v : Value} (h : w.cell? p = some v) : ∀ w',Ext w w' → w'.cell? p = some v:=fun _ hx=>(Below.cell hx (World.block_lt_of_cell? w p h)).trans h
theorem addr_add (b off j : Nat) : (⟨b,off,none⟩ : Addr).add j = ⟨b,off + j,none⟩:=by unfold Addr.add;split <;> simp_all
def Cells (w : World) (A : Option Addr) (vs : List Value) : Prop:=
 vs = [] ∨ ∃ b off,A = some ⟨b,off,none⟩ ∧ ∀ j u,vs[j]? = some u → w.cell? ⟨b,off + j,none⟩ = some u
section
variable {w w' : World} {A : Option Addr} {vs : List Value}
theorem Cells.keep (h : Cells w A vs) (hk : ∀ p : Addr,p.block < w.heap.size → w'.cell? p = w.cell? p) : Cells w' A vs:=by
 rcases h with h | ⟨b,off,hA,hc⟩
 ·exact .inl h
 ·refine .inr ⟨b,off,hA,fun j u hj=>?_⟩
  rw [hk _ (World.block_lt_of_cell? w _ (hc j u hj))]
  exact hc j u hj
theorem Cells.below (h : Cells w A vs) (hb : Below w.heap.size w w') : Cells w' A vs:=h.keep fun _ hp=>hb.cell hp
theorem Cells.take (h : Cells w A vs) (k : Nat) : Cells w A (vs.take k):=by
 rcases h with h | ⟨b,off,hA,hc⟩
 ·exact .inl (by simp [h])
 ·refine .inr ⟨b,off,hA,fun j u hj=>hc j u ?_⟩
  rw [List.getElem?_take] at hj
  split at hj
  ·exact hj
  ·cases hj
theorem Cells.drop (h : Cells w A vs) (k : Nat) : Cells w (A.map (·.add k)) (vs.drop k):=by
 rcases h with h | ⟨b,off,hA,hc⟩
 ·exact .inl (by simp [h])
 ·refine .inr ⟨b,off + k,by simp [hA,addr_add],fun j u hj=>?_⟩
  rw [List.getElem?_drop] at hj
  rw [Nat.add_assoc]
  exact hc _ u hj
def cutA (A : Option Addr) (k cap size : Nat) : Option Addr:=if cap = k then A else A.map (·.add (k * size))
theorem Cells.of_own {base : Nat} {e : TypeId} {n c : Nat} (h : w.ownsRow base e 1 (.slice A n c) n vs) : Cells w A vs:=by
 obtain ⟨h1,h2⟩:=h
 rcases h2 with ⟨hv,hn⟩ | ⟨g,cap,cur,hv,hb,hh,hnc,hcm,hsz,htk⟩
 ·subst hn;exact .inl (List.eq_nil_of_length_eq_zero (by simpa using h1))
 ·injection hv with hA _ _
  refine .inr ⟨g,0,hA,fun j u hj=>?_⟩
  rw [Nat.zero_add,cell_of_row w g j cur e (0,0) hh]
  rw [← htk,List.getElem?_take] at hj
  split at hj
  ·simpa using hj
  ·cases hj
theorem own_cap {base : Nat} {e : TypeId} {n c : Nat} (h : w.ownsRow base e 1 (.slice A n c) n vs) : n ≤ c ∧ c ≤ maxLen:=by
 obtain ⟨h1,h2⟩:=h
 rcases h2 with ⟨hv,hn⟩ | ⟨g,cap,cur,hv,hb,hh,hnc,hcm,hsz,htk⟩
 ·injection hv with _ _ hc
  subst hn hc
  exact ⟨Nat.le_refl _,by simp [maxLen]⟩
 ·injection hv with hA _ hc
  subst hc
  exact ⟨hnc,hcm⟩
theorem own_form {base : Nat} {e : TypeId} {v : Value} {n : Nat} (h : w.ownsRow base e 1 v n vs) : ∃ A c,v = .slice A n c:=by
 rcases h.2 with ⟨rfl,rfl⟩ | ⟨g,cap,cur,rfl,_⟩
 ·exact ⟨_,_,rfl⟩
 ·exact ⟨_,_,rfl⟩
end
theorem below_drewN {B : Nat} {a w : World} (h : Below B a w) (n : Nat) : Below B a (w.drewN n):=⟨h.os,h.tape,h.output,h.size,h.block⟩
def bv (b : UInt8) : Value:=.int .u8 (b.toNat : Int)
structure Sl (w : World) (A : Option Addr) (n c : Nat) (xs : List UInt8) : Prop where
 len : n = xs.length
 cap : n ≤ c
 most : c ≤ maxLen
 cells : Cells w A (xs.map bv)
section
variable {w w' : World} {A : Option Addr} {n c : Nat} {xs : List UInt8}
theorem Sl.below (h : Sl w A n c xs) (hb : Below w.heap.size w w') : Sl w' A n c xs:=⟨h.len,h.cap,h.most,h.cells.below hb⟩
theorem Sl.of_own {base : Nat} {e : TypeId} (h : w.ownsRow base e 1 (.slice A n c) n (xs.map bv)) : Sl w A n c xs:=
 ⟨by simpa using h.1.symm,(own_cap h).1,(own_cap h).2,Cells.of_own h⟩
end
theorem run_conv {P : Program} {w : World} {A : Option Addr} {n c : Nat} {xs : List UInt8} (h : Sl w A n c xs) (src dst e : Nat)
 (hs : P.underlying src = some (.slice e)) (he : P.underlying e = some (.int .u8)) (hd : P.underlying dst = some .string) :
 (convert src dst (.slice A n c)).run P w = .ok (.string ⟨xs.toArray⟩) w:=by
 obtain ⟨hn,_,_,h⟩:=h
 subst hn
 rw [run_convert_bytes_string w src dst e _ _ c hs he hd]
 rcases A with _ | a
 ·rcases h with h | ⟨b,off,hA,_⟩
  ·have h : xs = []:=by simpa using h
   subst h;simp [Conv.bytesToString];rfl
  ·cases hA
 ·have hl : (loadCells a xs.length).run P w = .ok ((xs.map fun b=>(b.toNat : Int)).map (Value.int .u8)).toArray w:=by
   have:=run_loadCells_list (P:=P) w a (xs.map bv) (fun j v hj=>by
    rcases h with h | ⟨b,off,hA,hc⟩
    ·have h : xs = []:=by simpa using h
     subst h;simp at hj
    ·injection hA with hA
     subst hA
     rw [addr_add]
     exact hc j v hj)
   simp only [List.length_map] at this
   rw [this]
   simp [bv,Function.comp_def]
  rw [run_bytesToString w a _ c _ hl,foldl_push_bytes]
  have : List.map ((fun n : Int=>UInt8.ofNat n.toNat) ∘ fun b : UInt8=>(b.toNat : Int)) xs = xs:=by
   conv=>rhs;rw [← List.map_id xs]
   apply List.map_congr_left
   intro b _
   simp
  simp [ByteArray.empty,ByteArray.emptyWithCapacity,this]
  rfl
theorem run_append_cells {P : Program} (w : World) (base : Nat) (t ty e : TypeId) (i : TypeInfo) (z : Value) (bytes : Nat) (ht : P.underlying t = some (.slice e)) (hi : P.info? e = some i) (hz : i.zero = some z)
 (hsize : i.size = 1) (hby : i.bytes = bytes) (hzs : z.cells.size = 1)
 (v : Value) (n : Nat) (xs : List Value) (hown : w.ownsRow base e 1 v n xs)
 (A : Option Addr) (m c : Nat) (news : List Value) (hm : m = news.length) (hr : Cells w A news) (h1 : ∀ u ∈ news,u.oneCell' = true)
 (h63 : n + m ≤ maxLen) (hbytes : (n + m) * bytes ≤ 140737488355328) (hbase : base ≤ w.heap.size) :
 ∃ v' w',(Builtin.append_ #[t,t] ty #[v,.slice A m c]).run P w = .ok v' w' ∧ w'.ownsRow base e 1 v' (n + m) (xs ++ news) ∧ w.grownBy w' v.ownBlock ∧
  (v'.ownBlock = v.ownBlock ∨ v'.ownBlock = some w.heap.size):=by
 rcases A with _ | ad
 ·have hn : news = []:=by
   rcases hr with h | ⟨b,off,h,_⟩
   ·exact h
   ·cases h
  subst hn
  simp at hm
  subst hm
  refine ⟨v,w,?_,by simpa using hown,World.grownBy.refl w _,.inl rfl⟩
  rcases hown.2 with ⟨rfl,rfl⟩ | ⟨g,cap,cur,rfl,_,_,hnc,_⟩
  ·simp [Builtin.append_,run_underlying ht,sizeOf,typeInfo,hi,Builtin.lenOf,Builtin.firstCells]
  ·simp [Builtin.append_,run_underlying ht,sizeOf,typeInfo,hi,Builtin.lenOf,Builtin.firstCells,hnc,storeCells]
 ·have hcells : ∀ j u,news[j]? = some u → w.cell? (ad.add j) = some u:=by
   intro j u hu
   rcases hr with h | ⟨b,off,h,hc⟩
   ·subst h;simp at hu
   ·injection h with h
    subst h
    rw [addr_add]
    exact hc j u hu
  obtain ⟨v',w',hrun,h2,h3,_,h5⟩:=run_append_own_at (P:=P) w base t ty e i z 1 bytes ht hi hz hsize hby hzs (by decide) v n xs hown ad m c news (by simpa using hm.symm) hcells h1 h63 hbytes hbase
  exact ⟨v',w',hrun,h2,h3,h5⟩
theorem wp_append_cells {P : Program} {w : World} {o : Oper} {a : Act} {K : Act → World → Prop} {Q : Exit → Act → World → Prop} (s x : Operand) (t : TypeId)
 (ho : o.op = .call { callee:=.builtin .append,args:=#[s,x],argTypes:=#[t,t] })
 (base : Nat) (e : TypeId) (i : TypeInfo) (z : Value) (bytes : Nat) (ht : P.underlying t = some (.slice e)) (hi : P.info? e = some i) (hz : i.zero = some z)
 (hsize : i.size = 1) (hby : i.bytes = bytes) (hzs : z.cells.size = 1)
 (v : Value) (n : Nat) (xs : List Value) (hs : a.eval s = v) (hown : w.ownsRow base e 1 v n xs)
 (A : Option Addr) (m c : Nat) (news : List Value) (hx : a.eval x = .slice A m c) (hm : m = news.length) (hr : Cells w A news) (h1 : ∀ u ∈ news,u.oneCell' = true)
 (h63 : n + m ≤ maxLen) (hbytes : (n + m) * bytes ≤ 140737488355328) (hbase : base ≤ w.heap.size)
 (h : ∀ v' w',w'.ownsRow base e 1 v' (n + m) (xs ++ news) → w.grownBy w' v.ownBlock → (v'.ownBlock = v.ownBlock ∨ v'.ownBlock = some w.heap.size) → K (a.put o.dst v') w') : o.wp P a w K Q:=by
 obtain ⟨v',w',hrun,h2,h3,h4⟩:=run_append_cells (P:=P) w base t o.type e i z bytes ht hi hz hsize hby hzs v n xs hown A m c news hm hr h1 h63 hbytes hbase
 unfold Oper.wp execOp
 simp only [ho,resolve,invoke,builtin,Sem.run_bind,Sem.run_pure,Result.andThen_ok,List.map_toArray,List.map_cons,List.map_nil,hs,hx,hrun]
 exact h v' w' h2 h3 h4
theorem wpList_append_cells {P : Program} {w : World} {ops : Array Oper} {rest : List Oper} {o : Oper} {a : Act} {Q : Exit → Act → World → Prop} (hgd : o.guard = none) (s x : Operand) (t : TypeId)
 (ho : o.op = .call { callee:=.builtin .append,args:=#[s,x],argTypes:=#[t,t] })
 (base : Nat) (e : TypeId) (i : TypeInfo) (z : Value) (bytes : Nat) (ht : P.underlying t = some (.slice e)) (hi : P.info? e = some i) (hz : i.zero = some z)
 (hsize : i.size = 1) (hby : i.bytes = bytes) (hzs : z.cells.size = 1)
 (v : Value) (n : Nat) (xs : List Value) (hs : a.eval s = v) (hown : w.ownsRow base e 1 v n xs)
 (A : Option Addr) (m c : Nat) (news : List Value) (hx : a.eval x = .slice A m c) (hm : m = news.length) (hr : Cells w A news) (h1 : ∀ u ∈ news,u.oneCell' = true)
 (h63 : n + m ≤ maxLen) (hbytes : (n + m) * bytes ≤ 140737488355328) (hbase : base ≤ w.heap.size)
 (h : ∀ v' w',w'.ownsRow base e 1 v' (n + m) (xs ++ news) → w.grownBy w' v.ownBlock → (v'.ownBlock = v.ownBlock ∨ v'.ownBlock = some w.heap.size) → wpList P ops Q rest (a.put o.dst v') w') : wpList P ops Q (o :: rest) a w:=
 wpList_plain hgd fun _ hK=>wp_append_cells s x t ho base e i z bytes ht hi hz hsize hby hzs v n xs hs hown A m c news hx hm hr h1 h63 hbytes hbase fun v' w' h2 h3 h4=>hK _ _ (h v' w' h2 h3 h4)
theorem Tryz.infoByte : (Tryz.prog.info? 5).map (fun i=>(i.zero,i.size,i.bytes)) = some (some (.int .u8 0),1,1):=by kernel_rfl
theorem Sl.conv {w : World} {A : Option Addr} {n c : Nat} {xs : List UInt8} (h : Sl w A n c xs) : ∀ w',Ext w w' → (convert 126 9 (.slice A n c)).run Tryz.prog w' = .ok (.string ⟨xs.toArray⟩) w':=
 fun _ hb=>run_conv (h.below hb) _ _ _ Tryz.underlying126 Tryz.underlying5 Tryz.underlying9
theorem append_bytes {w : World} {ops : Array Oper} {rest : List Oper} {o : Oper} {a : Act} {Q : Exit → Act → World → Prop} (hgd : o.guard = none) (s x : Operand)
 (ho : o.op = .call { callee:=.builtin .append,args:=#[s,x],argTypes:=#[126,126] })
 (base : Nat) (v : Value) (n : Nat) (xs : List UInt8) (hs : a.eval s = v) (hown : w.ownsRow base 5 1 v n (xs.map bv))
 (A : Option Addr) (m c : Nat) (ys : List UInt8) (hx : a.eval x = .slice A m c) (hy : Sl w A m c ys)
 (hbytes : n + m ≤ 140737488355328) (hbase : base ≤ w.heap.size)
 (h : ∀ v' w',w'.ownsRow base 5 1 v' (n + m) ((xs ++ ys).map bv) → Below base w w' → w.grownBy w' v.ownBlock → (v'.ownBlock = v.ownBlock ∨ v'.ownBlock = some w.heap.size) → wpList Tryz.prog ops Q rest (a.put o.dst v') w') : wpList Tryz.prog ops Q (o :: rest) a w:=by
 obtain ⟨i0,hi,hz0,hz1,hz2⟩:=info_parts Tryz.infoByte
 refine wpList_append_cells hgd s x 126 ho base 5 i0 (.int .u8 0) 1 Tryz.underlying126 hi hz0 hz1 hz2 rfl v n (xs.map bv) hs hown A m c (ys.map bv) hx (by simpa using hy.len) hy.cells ?_ (by simp [maxLen];omega) (by omega) hbase ?_
 ·intro u hu
  obtain ⟨b,_,rfl⟩:=List.mem_map.1 hu
  rfl
 ·intro v' w' h1 h2 h3
  rw [← List.map_append] at h1
  exact h v' w' h1 ((Below.refl base w).grown h2 hbase (fun k hk=>(hown.lt k hk).1)) h2 h3
theorem own_ext {w w' : World} {base : Nat} {e : TypeId} {size : Nat} {v : Value} {n : Nat} {xs : List Value} (h : w.ownsRow base e size v n xs) (hx : Ext w w') : w'.ownsRow base e size v n xs:=
 h.kept ⟨hx.os,hx.tape,hx.output,hx.size,fun k hk _=>hx.block k hk⟩ (row:=none) (by cases hv : v.ownBlock <;> simp)
theorem own_new (w : World) (xs : List UInt8) (n : Nat) (hn : n = xs.length) (hm : n ≤ maxLen) (base : Nat) (hb : base ≤ w.heap.size) :
 (w.alloc (.cells (xs.map bv).toArray 5)).ownsRow base 5 1 (.slice (some ⟨w.heap.size,0,none⟩) n n) n (xs.map bv):=by
 subst hn
 exact ⟨by simp,.inr ⟨w.heap.size,xs.length,_,rfl,hb,heap_alloc_new w _,Nat.le_refl _,hm,by simp,by rw [Nat.mul_one];exact List.take_of_length_le (by simp)⟩⟩
theorem bv_of (z : Int) (h : 0 ≤ z ∧ z < 256) : Value.int .u8 z = bv (UInt8.ofNat z.toNat):=by
 unfold bv
 congr 1
 rw [UInt8.toNat_ofNat']
 omega
theorem own_one (w : World) (z : Int) (h : 0 ≤ z ∧ z < 256) (base : Nat) (hb : base ≤ w.heap.size) :
 (w.alloc (.cells #[.int .u8 z] 5)).ownsRow base 5 1 (.slice (some ⟨w.heap.size,0,none⟩) 1 1) 1 ([UInt8.ofNat z.toNat].map bv):=by
 rw [bv_of z h]
 exact own_new w [UInt8.ofNat z.toNat] 1 rfl (by simp [maxLen]) base hb
theorem sl_one (w : World) (z : Int) (h : 0 ≤ z ∧ z < 256) :
 Sl (w.alloc (.cells #[.int .u8 z] 5)) (some ⟨w.heap.size,0,none⟩) 1 1 [UInt8.ofNat z.toNat]:=Sl.of_own (own_one w z h 0 (Nat.zero_le _))
theorem lit1_wp {w : World} {o : Oper} {a : Act} {K : Act → World → Prop} {Q : Exit → Act → World → Prop} (x : Operand) (ho : o.op = .buildSlice 126 1 #[(0,x)]) (z : Int) (hx : a.eval x = .int .u8 z) (hz : 0 ≤ z ∧ z < 256)
 (h : ∀ A w',Ext w w' → Sl w' A 1 1 [UInt8.ofNat z.toNat] → K (a.put o.dst (.slice A 1 1)) w') : o.wp Tryz.prog a w K Q:=by
 have hr : (execOp a.eval o).run Tryz.prog w = .ok (.value (.slice (some ⟨w.heap.size,0,none⟩) 1 1)) (w.alloc (.cells #[.int .u8 z] 5)):=by
  unfold execOp
  simp only [ho,List.map_toArray,List.map_cons,List.map_nil,hx]
  kernel_rfl
 unfold Oper.wp
 rw [hr]
 exact h _ _ (Ext.alloc _ _) (sl_one w z hz)
section
variable {w w' : World} {A : Option Addr} {n c : Nat} {xss : List (List UInt8)}
end
end Go.Proofs.YtahahafhendgoaaGreatDoor
namespace Go.Proofs.YtahahafhendgoaaGreatDoor
open Go.RowKit
abbrev bys (s : ByteArray) : List UInt8:=s.data.toList
theorem bys_len (s : ByteArray) : (bys s).length = s.size:=by obtain ⟨⟨l⟩⟩:=s;rfl
theorem str_emp {s : ByteArray} (h : s.size = 0) : s = ByteArray.empty:=by
 obtain ⟨⟨l⟩⟩:=s
 cases l
 ·rfl
 ·simp [ByteArray.size] at h
theorem emp_yes {s : ByteArray} (h : s.size = 0) : s.toList = []:=by
 rw [str_emp h,ByteArray.toList_eq];rfl
theorem emp_no {s : ByteArray} (h : ¬ s.size = 0) : ¬ s.toList = []:=by
 intro e
 rw [ByteArray.toList_eq] at e
 apply h
 obtain ⟨⟨l⟩⟩:=s
 simp at e
 subst e
 rfl
theorem emp_nb {s : ByteArray} (h : ¬ s.size = 0) : s.toList.isEmpty = false:=by rw [List.isEmpty_eq_false_iff];exact emp_no h
section
variable {w : World} {ops : Array Oper} {rest : List Oper} {o : Oper} {a : Act} {Q : Exit → Act → World → Prop} {K : Act → World → Prop}
end
end Go.Proofs.YtahahafhendgoaaGreatDoor
namespace Go.Proofs.YtahahafhendgoaaGreatDoor
open Go.RowKit
set_option maxRecDepth 100000
abbrev str (xs : List UInt8) : ByteArray:=⟨xs.toArray⟩
theorem bys_str (xs : List UInt8) : bys (str xs) = xs:=by simp [bys]
theorem str_bys (s : ByteArray) : str (bys s) = s:=by obtain ⟨⟨l⟩⟩:=s;rfl
theorem str_size (xs : List UInt8) : (str xs).size = xs.length:=rfl
structure Buf (w w' : World) (g c : Nat) (xs : List UInt8) : Prop where
 new : w.heap.size ≤ g
 cells : ∀ j (_ : j < xs.length),w'.cell? ⟨g,j,none⟩ = some (.int .u8 (((xs[j]?).getD 0).toNat : Int))
 thaw : ∀ j (_ : j < xs.length),w'.frozen? ⟨g,j,none⟩ = false
 ext : Ext w w'
 cap : xs.length ≤ c
 most : c ≤ maxLen
theorem Buf.sl {w w' : World} {g c : Nat} {xs : List UInt8} (h : Buf w w' g c xs) : Sl w' (some ⟨g,0,none⟩) xs.length c xs:=by
 refine ⟨rfl,h.cap,h.most,.inr ⟨g,0,rfl,fun j u hj=>?_⟩⟩
 have hl : j < xs.length:=by have:=(List.getElem?_eq_some_iff.1 hj).1;simpa using this
 rw [Nat.zero_add,h.cells j hl]
 rw [List.getElem?_map,List.getElem?_eq_getElem hl] at hj
 rw [List.getElem?_eq_getElem hl]
 simpa [bv] using hj
theorem Buf.set {w w' : World} {g c : Nat} {xs : List UInt8} (h : Buf w w' g c xs) (k : Nat) (b : UInt8) (hk : k < xs.length) : Buf w (w'.setCell ⟨g,k,none⟩ (.int .u8 (b.toNat : Int))) g c (xs.set k b):=by
 refine ⟨h.new,fun j hj=>?_,fun j hj=>?_,?_,by simpa using h.cap,h.most⟩
 ·rw [List.length_set] at hj
  by_cases e : k = j
  ·subst e
   rw [World.cell?_setCell_same w' _ _ (h.cells k hk),List.getElem?_set_self hk]
   rfl
  ·rw [World.cell?_setCell_other w' _ _ _ (by intro h;injection h;omega),List.getElem?_set_ne e]
   exact h.cells j hj
 ·rw [List.length_set] at hj
  rw [World.frozen?_setCell]
  exact h.thaw j hj
 ·refine ⟨h.ext.os,h.ext.tape,h.ext.output,by simpa using h.ext.size,fun k hk=>?_⟩
  rw [heap_setCell_other _ _ _ _ (by have:=h.new;simp;omega)]
  exact h.ext.block k hk
theorem buf_new (w : World) (e : TypeId) (s : ByteArray) (hm : s.size ≤ maxLen) : Buf w (Lib.bytesWorld w e s) w.heap.size (grownCap w s.size 0 e) (bys s):=by
 refine ⟨Nat.le_refl _,fun j hj=>?_,fun j hj=>?_,?_,by rw [bys_len];exact grownCap_ge w s.size 0 e,grownCap_le_maxLen w s.size 0 e hm⟩
 ·rw [bys_len] at hj
  rw [Lib.bytesWorld_cell w e s j hj,List.getD_eq_getElem?_getD]
 ·rw [bys_len] at hj
  have : s.size ≤ (Lib.bytesCells w e s).size:=by unfold Lib.bytesCells;rw [Array.size_append,Array.size_map];show s.size ≤ s.size + _;omega
  simp [World.frozen?,Lib.bytesWorld_at_new]
  omega
 ·refine ⟨?_,?_,?_,by rw [Lib.bytesWorld_size];omega,fun k hk=>Lib.bytesWorld_at_old w e s k hk⟩
  all_goals
   simp only [Lib.bytesWorld,World.freeze,World.alloc,World.drew]
   split <;> rfl
section
variable {w : World} {ops : Array Oper} {rest : List Oper} {o : Oper} {a : Act} {Q : Exit → Act → World → Prop} {K : Act → World → Prop}
theorem tobuf_wp (x : Operand) (ho : o.op = .convert 9 126 x) (s : ByteArray) (hx : a.eval x = .string s) (hm : s.size ≤ maxLen)
 (h : ∀ g c w',Buf w w' g c (bys s) → K (a.put o.dst (.slice (some ⟨g,0,none⟩) s.size c)) w') : o.wp Tryz.prog a w K Q:=by
 have hr:=Lib.run_convert_string_bytes (P:=Tryz.prog) w _ _ _ s Tryz.underlying9 Tryz.underlying126 Tryz.underlying5
 unfold Oper.wp execOp
 simp only [ho,hx,Sem.run_bind,hr,Result.andThen_ok,Sem.run_pure]
 exact h _ _ _ (buf_new w _ s hm)
theorem tobuf_arm (hgd : o.guard = none) (x : Operand) (ho : o.op = .convert 9 126 x) (s : ByteArray) (hx : a.eval x = .string s) (hm : s.size ≤ maxLen)
 (h : ∀ g c w',Buf w w' g c (bys s) → wpList Tryz.prog ops Q rest (a.put o.dst (.slice (some ⟨g,0,none⟩) s.size c)) w') : wpList Tryz.prog ops Q (o :: rest) a w:=
 wpList_plain hgd fun _ hK=>tobuf_wp x ho s hx hm fun g c w' h1=>hK _ _ (h g c w' h1)
end
def mixL (k : Nat) (s : List UInt8) : List UInt8:=(s.take k).map loB ++ s.drop k
theorem mixL_length (k : Nat) (s : List UInt8) : (mixL k s).length = s.length:=by simp [mixL];omega
theorem mixL_zero (s : List UInt8) : mixL 0 s = s:=by simp [mixL]
theorem mixL_all (s : List UInt8) : mixL s.length s = lowerB s:=by simp [mixL,lowerB]
theorem mixL_get (k : Nat) (s : List UInt8) (j : Nat) (h : k ≤ j) (hk : k ≤ s.length) : (mixL k s)[j]? = s[j]?:=by
 unfold mixL
 rw [List.getElem?_append_right (by simp;omega)]
 simp
 congr 1
 omega
theorem mixL_step (k : Nat) (s : List UInt8) (h : k < s.length) : (mixL k s).set k (loB (s[k]?.getD 0)) = mixL (k + 1) s:=by
 unfold mixL
 rw [List.set_append_right _ _ (by simp;omega)]
 have e : k - (List.map loB (List.take k s)).length = 0:=by simp;omega
 rw [e,List.drop_eq_getElem_cons h,List.set_cons_zero,List.take_add_one,List.getElem?_eq_getElem h,List.map_append]
 simp
theorem mixL_skip (k : Nat) (s : List UInt8) (h : k < s.length) (hl : loB (s[k]?.getD 0) = s[k]?.getD 0) : mixL k s = mixL (k + 1) s:=by
 rw [← mixL_step k s h,hl]
 apply List.ext_getElem?
 intro j
 by_cases e : k = j
 ·subst e
  rw [List.getElem?_set_self (by rw [mixL_length];exact h),mixL_get k s k (Nat.le_refl _) (by omega),List.getElem?_eq_getElem h]
  simp
 ·rw [List.getElem?_set_ne e]
theorem lo_up {c : UInt8} (h : 65 ≤ (c.toNat : Int)) (k : (c.toNat : Int) ≤ 90) : loB c = UInt8.ofNat (c.toNat + 32):=by unfold loB;rw [if_pos (by omega)]
theorem lo_no {c : UInt8} (h : ¬ (65 ≤ (c.toNat : Int) ∧ (c.toNat : Int) ≤ 90)) : loB c = c:=by unfold loB;rw [if_neg (by omega)]
theorem lo_bits {c : UInt8} (h : 65 ≤ (c.toNat : Int)) (k : (c.toNat : Int) ≤ 90) : bits BinOp.or IntKind.u8 (c.toNat : Int) 32 = ((loB c).toNat : Int):=by
 have hall : ∀ c : UInt8,65 ≤ (c.toNat : Int) → (c.toNat : Int) ≤ 90 → bits BinOp.or IntKind.u8 (c.toNat : Int) 32 = ((loB c).toNat : Int):=by
  intro x
  obtain ⟨n,rfl⟩ : ∃ n : Fin 256,x = UInt8.ofFin n:=⟨x.toFin,rfl⟩
  revert n
  decide +kernel
 exact hall c h k
theorem lo_plus {c : UInt8} (h : 65 ≤ (c.toNat : Int)) (k : (c.toNat : Int) ≤ 90) : (c.toNat : Int) + 32 = ((loB c).toNat : Int):=by
 rw [lo_up h k,UInt8.toNat_ofNat']
 omega
theorem lower_done {w wr : World} {g c k n : Nat} {s : ByteArray} (hk : k = s.size) (hn : n = s.size) (h : Buf w wr g c (mixL k (bys s))) : Sl wr (some ⟨g,0,none⟩) n c (lowerB (bys s)):=by
 subst hk hn
 have h1:=h.sl
 rw [mixL_length,bys_len] at h1
 rw [← bys_len s,mixL_all] at h1
 exact h1
theorem lower_any (s : ByteArray) (w : World) (hs : s.size ≤ maxLen) : Calls Tryz.prog 75 #[.string s] w fun e w'=>e = .returned (.string (str (lowerB (bys s)))) ∧ Ext w w':=by
 have Hs:=hid hs
 have hs63 : s.size ≤ 9223372036854775807:=by unfold maxLen at hs;omega
 clear hs
 go_enter Tryz.func75,Tryz.ntmps75
 go_wp2_with (refine tobuf_arm rfl (.tmp 6) rfl s rfl Hs.out ?_;intro g c w1 hb1;have HB1:=hid hb1;clear hb1)
 go_loopw [10] (fun i wr=>∃ k : Nat,k ≤ s.size ∧ i = .int .i64 k ∧ Hid (Buf w wr g c (mixL k (bys s)))) (fun i _=>s.size - (intOf i).toNat)
 case atStart=>exact ⟨0,by omega,rfl,by rw [mixL_zero];exact HB1⟩
 case round=>
  obtain ⟨k,hk,rfl,HB⟩:=hrel
  by_cases hlt : k < s.size
  ·obtain ⟨x,hx⟩ : ∃ x,x = ((bys s)[k]?).getD 0:=⟨_,rfl⟩
   have e1 : wr.cell? ⟨g,k,none⟩ = some (.int .u8 (x.toNat : Int)):=by
    rw [HB.out.cells k (by rw [mixL_length,bys_len];exact hlt),mixL_get k _ k (Nat.le_refl _) (by rw [bys_len];exact hk),hx]
   have f1 : wr.frozen? ⟨g,k,none⟩ = false:=HB.out.thaw k (by rw [mixL_length,bys_len];exact hlt)
   have hx1 : (x.toNat : Int) < 256:=by have:=x.toNat_lt;omega
   have HX:=hid hx
   clear hx
   by_cases h65 : 65 ≤ (x.toNat : Int)
   ·by_cases h90 : (x.toNat : Int) ≤ 90
    ·have t1:=lo_bits h65 h90
     have t2:=lo_plus h65 h90
     have HS : Hid (Buf w (wr.setCell ⟨g,k,none⟩ (.int .u8 ((loB x).toNat : Int))) g c (mixL (k + 1) (bys s))):=by
      have:=HB.out.set k (loB x) (by rw [mixL_length,bys_len];exact hlt)
      rw [HX.out,mixL_step k _ (by rw [bys_len];exact hlt)] at this
      rw [HX.out]
      exact this
     go_wp2
     refine ⟨⟨k + 1,by omega,by go_num,?_⟩,by simp [intOf];omega⟩
     exact HS
    ·have HS : Hid (Buf w wr g c (mixL (k + 1) (bys s))):=by
      show Buf _ _ _ _ _
      rw [← mixL_skip k _ (by rw [bys_len];exact hlt) (by rw [← HX.out];exact lo_no (by omega))]
      exact HB.out
     go_wp2
     exact ⟨⟨k + 1,by omega,by go_num,HS⟩,by simp [intOf];omega⟩
   ·have HS : Hid (Buf w wr g c (mixL (k + 1) (bys s))):=by
     show Buf _ _ _ _ _
     rw [← mixL_skip k _ (by rw [bys_len];exact hlt) (by rw [← HX.out];exact lo_no (by omega))]
     exact HB.out
    go_wp2
    exact ⟨⟨k + 1,by omega,by go_num,HS⟩,by simp [intOf];omega⟩
  ·obtain rfl : k = s.size:=by omega
   have hC:=(lower_done rfl rfl HB.out).conv wr (Ext.refl wr)
   go_wp2
   go_ret
   exact ⟨rfl,HB.out.ext⟩
theorem rlower_any (s : ByteArray) (w : World) (hs : s.size ≤ maxLen) : Calls Tryz.prog 130 #[.string s] w fun e w'=>e = .returned (.string (str (lowerB (bys s)))) ∧ Ext w w':=by
 have Hs:=hid hs
 have hs63 : s.size ≤ 9223372036854775807:=by unfold maxLen at hs;omega
 clear hs
 go_enter Tryz.func130,Tryz.ntmps130
 go_wp2_with (refine tobuf_arm rfl (.tmp 5) rfl s rfl Hs.out ?_;intro g c w1 hb1;have HB1:=hid hb1;clear hb1)
 go_loopw [9] (fun i wr=>∃ k : Nat,k ≤ s.size ∧ i = .int .i64 k ∧ Hid (Buf w wr g c (mixL k (bys s)))) (fun i _=>s.size - (intOf i).toNat)
 case atStart=>exact ⟨0,by omega,rfl,by rw [mixL_zero];exact HB1⟩
 case round=>
  obtain ⟨k,hk,rfl,HB⟩:=hrel
  by_cases hlt : k < s.size
  ·obtain ⟨x,hx⟩ : ∃ x,x = ((bys s)[k]?).getD 0:=⟨_,rfl⟩
   have e1 : wr.cell? ⟨g,k,none⟩ = some (.int .u8 (x.toNat : Int)):=by
    rw [HB.out.cells k (by rw [mixL_length,bys_len];exact hlt),mixL_get k _ k (Nat.le_refl _) (by rw [bys_len];exact hk),hx]
   have f1 : wr.frozen? ⟨g,k,none⟩ = false:=HB.out.thaw k (by rw [mixL_length,bys_len];exact hlt)
   have hx1 : (x.toNat : Int) < 256:=by have:=x.toNat_lt;omega
   have HX:=hid hx
   clear hx
   by_cases h65 : 65 ≤ (x.toNat : Int)
   ·by_cases h90 : (x.toNat : Int) ≤ 90
    ·have t1:=lo_bits h65 h90
     have t2:=lo_plus h65 h90
     have HS : Hid (Buf w (wr.setCell ⟨g,k,none⟩ (.int .u8 ((loB x).toNat : Int))) g c (mixL (k + 1) (bys s))):=by
      have:=HB.out.set k (loB x) (by rw [mixL_length,bys_len];exact hlt)
      rw [HX.out,mixL_step k _ (by rw [bys_len];exact hlt)] at this
      rw [HX.out]
      exact this
     go_wp2
     refine ⟨⟨k + 1,by omega,by go_num,?_⟩,by simp [intOf];omega⟩
     exact HS
    ·have HS : Hid (Buf w wr g c (mixL (k + 1) (bys s))):=by
      show Buf _ _ _ _ _
      rw [← mixL_skip k _ (by rw [bys_len];exact hlt) (by rw [← HX.out];exact lo_no (by omega))]
      exact HB.out
     go_wp2
     exact ⟨⟨k + 1,by omega,by go_num,HS⟩,by simp [intOf];omega⟩
   ·have HS : Hid (Buf w wr g c (mixL (k + 1) (bys s))):=by
     show Buf _ _ _ _ _
     rw [← mixL_skip k _ (by rw [bys_len];exact hlt) (by rw [← HX.out];exact lo_no (by omega))]
     exact HB.out
    go_wp2
    exact ⟨⟨k + 1,by omega,by go_num,HS⟩,by simp [intOf];omega⟩
  ·obtain rfl : k = s.size:=by omega
   have hC:=(lower_done rfl rfl HB.out).conv wr (Ext.refl wr)
   go_wp2
   go_ret
   exact ⟨rfl,HB.out.ext⟩
end Go.Proofs.YtahahafhendgoaaGreatDoor
