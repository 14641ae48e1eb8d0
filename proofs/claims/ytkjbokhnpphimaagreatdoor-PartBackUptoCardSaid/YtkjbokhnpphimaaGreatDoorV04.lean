/- Lemmas of the walk. -/
import Derived.Test.YtkjbokhnpphimaaGreatDoorRows
import Derived.Test.YtkjbokhnpphimaaGreatDoorV01
import Derived.WalkSpells
import Derived.Deep.AppendLies
import Derived.Deep.Draws
set_option maxHeartbeats 40000000
set_option linter.unusedVariables false
set_option linter.unusedSimpArgs false
namespace Go.Proofs.YtkjbokhnpphimaaGreatDoor
open Go.RowKit
theorem hid{p:Prop}(h:p):Hid p:=h
theorem zaa{w:World}{p:Addr}{v:Value}(h:w.cell? p=some v):∀w',Ext w w'→w'.cell? p=some v:=fun _ hx=>(Below.cell hx (World.block_lt_of_cell? w p h)).trans h
theorem zeo(b off j:Nat):(⟨b,off,none⟩:Addr).add j=⟨b,off+j,none⟩:=by unfold Addr.add;split<;>simp_all
def Cells(w:World)(A:Option Addr)(vs:List Value):Prop:=
 vs=[]∨∃b off,A=some ⟨b,off,none⟩∧∀j u,vs[j]?=some u→w.cell? ⟨b,off+j,none⟩=some u
section
variable {w w':World}{A:Option Addr}{vs:List Value}
theorem Cells.keep(h:Cells w A vs)(hk:∀p:Addr,p.block<w.heap.size→w'.cell? p=w.cell? p):Cells w' A vs:=by
 rcases h with h|⟨b,off,hA,hc⟩
 ·exact .inl h
 ·refine .inr ⟨b,off,hA,fun j u hj=>?_⟩
  rw[hk _ (World.block_lt_of_cell? w _ (hc j u hj))]
  exact hc j u hj
theorem Cells.below(h:Cells w A vs)(hb:Below w.heap.size w w'):Cells w' A vs:=h.keep fun _ hp=>hb.cell hp
theorem Cells.take(h:Cells w A vs)(k:Nat):Cells w A (vs.take k):=by
 rcases h with h|⟨b,off,hA,hc⟩
 ·exact .inl (by simp[h])
 ·refine .inr ⟨b,off,hA,fun j u hj=>hc j u ?_⟩
  rw[List.getElem?_take] at hj
  split at hj
  ·exact hj
  ·cases hj
theorem Cells.drop(h:Cells w A vs)(k:Nat):Cells w (A.map (·.add k)) (vs.drop k):=by
 rcases h with h|⟨b,off,hA,hc⟩
 ·exact .inl (by simp[h])
 ·refine .inr ⟨b,off+k,by simp[hA,zeo],fun j u hj=>?_⟩
  rw[List.getElem?_drop] at hj
  rw[Nat.add_assoc]
  exact hc _ u hj
def cutA(A:Option Addr)(k cap size:Nat):Option Addr:=if cap=k then A else A.map (·.add (k * size))
theorem Cells.of_own{base:Nat}{e:TypeId}{n c:Nat}(h:w.ownsRow base e 1 (.slice A n c) n vs):Cells w A vs:=by
 obtain⟨h1,h2⟩:=h
 rcases h2 with⟨hv,hn⟩|⟨g,cap,cur,hv,hb,hh,hnc,hcm,hsz,htk⟩
 ·subst hn;exact .inl (List.eq_nil_of_length_eq_zero (by simpa using h1))
 ·injection hv with hA _ _
  refine .inr ⟨g,0,hA,fun j u hj=>?_⟩
  rw[Nat.zero_add,cell_of_row w g j cur e (0,0) hh]
  rw[←htk,List.getElem?_take] at hj
  split at hj
  ·simpa using hj
  ·cases hj
theorem zjs{base:Nat}{e:TypeId}{n c:Nat}(h:w.ownsRow base e 1 (.slice A n c) n vs):n≤c∧c≤maxLen:=by
 obtain⟨h1,h2⟩:=h
 rcases h2 with⟨hv,hn⟩|⟨g,cap,cur,hv,hb,hh,hnc,hcm,hsz,htk⟩
 ·injection hv with _ _ hc
  subst hn hc
  exact⟨Nat.le_refl _,by simp[maxLen]⟩
 ·injection hv with hA _ hc
  subst hc
  exact⟨hnc,hcm⟩
theorem zc9{base:Nat}{e:TypeId}{v:Value}{n:Nat}(h:w.ownsRow base e 1 v n vs):∃A c,v=.slice A n c:=by
 rcases h.2 with⟨rfl,rfl⟩|⟨g,cap,cur,rfl,_⟩
 ·exact⟨_,_,rfl⟩
 ·exact⟨_,_,rfl⟩
end
theorem zlD{B:Nat}{a w:World}(h:Below B a w)(n:Nat):Below B a (w.drewN n):=⟨h.os,h.tape,h.output,h.size,h.block⟩
def bv(b:UInt8):Value:=.int .u8 (b.toNat:Int)
structure Sl(w:World)(A:Option Addr)(n c:Nat)(xs:List UInt8):Prop where
 len:n=xs.length
 cap:n≤c
 most:c≤maxLen
 cells:Cells w A (xs.map bv)
section
variable {w w':World}{A:Option Addr}{n c:Nat}{xs:List UInt8}
theorem Sl.below(h:Sl w A n c xs)(hb:Below w.heap.size w w'):Sl w' A n c xs:=⟨h.len,h.cap,h.most,h.cells.below hb⟩
theorem Sl.of_own{base:Nat}{e:TypeId}(h:w.ownsRow base e 1 (.slice A n c) n (xs.map bv)):Sl w A n c xs:=
 ⟨by simpa using h.1.symm,(zjs h).1,(zjs h).2,Cells.of_own h⟩
end
theorem zqU{P:Program}{w:World}{A:Option Addr}{n c:Nat}{xs:List UInt8}(h:Sl w A n c xs)(src dst e:Nat)
 (hs:P.underlying src=some (.slice e)) (he:P.underlying e=some (.int .u8)) (hd:P.underlying dst=some .string) :
 (convert src dst (.slice A n c)).run P w=.ok (.string ⟨xs.toArray⟩) w:=by
 obtain⟨hn,_,_,h⟩:=h
 subst hn
 rw[run_convert_bytes_string w src dst e _ _ c hs he hd]
 rcases A with _|a
 ·rcases h with h|⟨b,off,hA,_⟩
  ·have h:xs=[]:=by simpa using h
   subst h;simp[Conv.bytesToString];rfl
  ·cases hA
 ·have hl:(loadCells a xs.length).run P w=.ok ((xs.map fun b=>(b.toNat:Int)).map (Value.int .u8)).toArray w:=by
   have:=run_loadCells_list (P:=P) w a (xs.map bv) (fun j v hj=>by
    rcases h with h|⟨b,off,hA,hc⟩
    ·have h:xs=[]:=by simpa using h
     subst h;simp at hj
    ·injection hA with hA
     subst hA
     rw[zeo]
     exact hc j v hj)
   simp only[List.length_map] at this
   rw[this]
   simp[bv,Function.comp_def]
  rw[run_bytesToString w a _ c _ hl,foldl_push_bytes]
  have:List.map ((fun n:Int=>UInt8.ofNat n.toNat) ∘ fun b:UInt8=>(b.toNat:Int)) xs=xs:=by
   conv=>rhs;rw[←List.map_id xs]
   apply List.map_congr_left
   intro b _
   simp
  simp[ByteArray.empty,ByteArray.emptyWithCapacity,this]
  rfl
theorem zgu{P:Program}(w:World)(base:Nat)(t ty e:TypeId)(i:TypeInfo)(z:Value)(bytes:Nat)(ht:P.underlying t=some (.slice e))(hi:P.info? e=some i)(hz:i.zero=some z)
 (hsize:i.size=1) (hby:i.bytes=bytes) (hzs:z.cells.size=1)
 (v:Value) (n:Nat) (xs:List Value) (hown:w.ownsRow base e 1 v n xs)
 (A:Option Addr) (m c:Nat) (news:List Value) (hm:m=news.length) (hr:Cells w A news) (h1:∀u∈news,u.oneCell'=true)
 (h63:n+m≤maxLen) (hbytes:(n+m) * bytes≤140737488355328) (hbase:base≤w.heap.size) :
 ∃v' w',(Builtin.append_ #[t,t] ty #[v,.slice A m c]).run P w=.ok v' w'∧w'.ownsRow base e 1 v' (n+m) (xs++news)∧w.grownBy w' v.ownBlock ∧
  (v'.ownBlock=v.ownBlock∨v'.ownBlock=some w.heap.size):=by
 rcases A with _|ad
 ·have hn:news=[]:=by
   rcases hr with h|⟨b,off,h,_⟩
   ·exact h
   ·cases h
  subst hn
  simp at hm
  subst hm
  refine⟨v,w,?_,by simpa using hown,World.grownBy.refl w _,.inl rfl⟩
  rcases hown.2 with⟨rfl,rfl⟩|⟨g,cap,cur,rfl,_,_,hnc,_⟩
  ·simp[Builtin.append_,run_underlying ht,sizeOf,typeInfo,hi,Builtin.lenOf,Builtin.firstCells]
  ·simp[Builtin.append_,run_underlying ht,sizeOf,typeInfo,hi,Builtin.lenOf,Builtin.firstCells,hnc,storeCells]
 ·have hcells:∀j u,news[j]?=some u→w.cell? (ad.add j)=some u:=by
   intro j u hu
   rcases hr with h|⟨b,off,h,hc⟩
   ·subst h;simp at hu
   ·injection h with h
    subst h
    rw[zeo]
    exact hc j u hu
  obtain⟨v',w',hrun,h2,h3,_,h5⟩:=run_append_own_at (P:=P) w base t ty e i z 1 bytes ht hi hz hsize hby hzs (by decide) v n xs hown ad m c news (by simpa using hm.symm) hcells h1 h63 hbytes hbase
  exact⟨v',w',hrun,h2,h3,h5⟩
theorem zcS{P:Program}{w:World}{o:Oper}{a:Act}{K:Act→World→Prop}{Q:Exit→Act→World→Prop}(s x:Operand)(t:TypeId)
 (ho:o.op=.call { callee:=.builtin .append,args:=#[s,x],argTypes:=#[t,t] })
 (base:Nat) (e:TypeId) (i:TypeInfo) (z:Value) (bytes:Nat) (ht:P.underlying t=some (.slice e)) (hi:P.info? e=some i) (hz:i.zero=some z)
 (hsize:i.size=1) (hby:i.bytes=bytes) (hzs:z.cells.size=1)
 (v:Value) (n:Nat) (xs:List Value) (hs:a.eval s=v) (hown:w.ownsRow base e 1 v n xs)
 (A:Option Addr) (m c:Nat) (news:List Value) (hx:a.eval x=.slice A m c) (hm:m=news.length) (hr:Cells w A news) (h1:∀u∈news,u.oneCell'=true)
 (h63:n+m≤maxLen) (hbytes:(n+m) * bytes≤140737488355328) (hbase:base≤w.heap.size)
 (h:∀v' w',w'.ownsRow base e 1 v' (n+m) (xs++news)→w.grownBy w' v.ownBlock→(v'.ownBlock=v.ownBlock∨v'.ownBlock=some w.heap.size)→K (a.put o.dst v') w'):o.wp P a w K Q:=by
 obtain⟨v',w',hrun,h2,h3,h4⟩:=zgu (P:=P) w base t o.type e i z bytes ht hi hz hsize hby hzs v n xs hown A m c news hm hr h1 h63 hbytes hbase
 unfold Oper.wp execOp
 simp only[ho,resolve,invoke,builtin,Sem.run_bind,Sem.run_pure,Result.andThen_ok,List.map_toArray,List.map_cons,List.map_nil,hs,hx,hrun]
 exact h v' w' h2 h3 h4
theorem zeT{P:Program}{w:World}{ops:Array Oper}{rest:List Oper}{o:Oper}{a:Act}{Q:Exit→Act→World→Prop}(hgd:o.guard=none)(s x:Operand)(t:TypeId)
 (ho:o.op=.call { callee:=.builtin .append,args:=#[s,x],argTypes:=#[t,t] })
 (base:Nat) (e:TypeId) (i:TypeInfo) (z:Value) (bytes:Nat) (ht:P.underlying t=some (.slice e)) (hi:P.info? e=some i) (hz:i.zero=some z)
 (hsize:i.size=1) (hby:i.bytes=bytes) (hzs:z.cells.size=1)
 (v:Value) (n:Nat) (xs:List Value) (hs:a.eval s=v) (hown:w.ownsRow base e 1 v n xs)
 (A:Option Addr) (m c:Nat) (news:List Value) (hx:a.eval x=.slice A m c) (hm:m=news.length) (hr:Cells w A news) (h1:∀u∈news,u.oneCell'=true)
 (h63:n+m≤maxLen) (hbytes:(n+m) * bytes≤140737488355328) (hbase:base≤w.heap.size)
 (h:∀v' w',w'.ownsRow base e 1 v' (n+m) (xs++news)→w.grownBy w' v.ownBlock→(v'.ownBlock=v.ownBlock∨v'.ownBlock=some w.heap.size)→wpList P ops Q rest (a.put o.dst v') w'):wpList P ops Q (o::rest) a w:=
 wpList_plain hgd fun _ hK=>zcS s x t ho base e i z bytes ht hi hz hsize hby hzs v n xs hs hown A m c news hx hm hr h1 h63 hbytes hbase fun v' w' h2 h3 h4=>hK _ _ (h v' w' h2 h3 h4)
theorem Tryz.infoByte:(Tryz.prog.info? 5).map (fun i=>(i.zero,i.size,i.bytes))=some (some (.int .u8 0),1,1):=by kernel_rfl
theorem Sl.conv{w:World}{A:Option Addr}{n c:Nat}{xs:List UInt8}(h:Sl w A n c xs):∀w',Ext w w'→(convert 174 9 (.slice A n c)).run Tryz.prog w'=.ok (.string ⟨xs.toArray⟩) w':=
 fun _ hb=>zqU (h.below hb) _ _ _ Tryz.underlying174 Tryz.underlying5 Tryz.underlying9
theorem zgk{w:World}{ops:Array Oper}{rest:List Oper}{o:Oper}{a:Act}{Q:Exit→Act→World→Prop}(hgd:o.guard=none)(s x:Operand)
 (ho:o.op=.call { callee:=.builtin .append,args:=#[s,x],argTypes:=#[174,174] })
 (base:Nat) (v:Value) (n:Nat) (xs:List UInt8) (hs:a.eval s=v) (hown:w.ownsRow base 5 1 v n (xs.map bv))
 (A:Option Addr) (m c:Nat) (ys:List UInt8) (hx:a.eval x=.slice A m c) (hy:Sl w A m c ys)
 (hbytes:n+m≤140737488355328) (hbase:base≤w.heap.size)
 (h:∀v' w',w'.ownsRow base 5 1 v' (n+m) ((xs++ys).map bv)→Below base w w'→w.grownBy w' v.ownBlock→(v'.ownBlock=v.ownBlock∨v'.ownBlock=some w.heap.size)→wpList Tryz.prog ops Q rest (a.put o.dst v') w'):wpList Tryz.prog ops Q (o::rest) a w:=by
 obtain⟨i0,hi,hz0,hz1,hz2⟩:=info_parts Tryz.infoByte
 refine zeT hgd s x 174 ho base 5 i0 (.int .u8 0) 1 Tryz.underlying174 hi hz0 hz1 hz2 rfl v n (xs.map bv) hs hown A m c (ys.map bv) hx (by simpa using hy.len) hy.cells ?_ (by simp[maxLen];omega) (by omega) hbase ?_
 ·intro u hu
  obtain⟨b,_,rfl⟩:=List.mem_map.1 hu
  rfl
 ·intro v' w' h1 h2 h3
  rw[←List.map_append] at h1
  exact h v' w' h1 ((Below.refl base w).grown h2 hbase (fun k hk=>(hown.lt k hk).1)) h2 h3
theorem zdC{w w':World}{base:Nat}{e:TypeId}{size:Nat}{v:Value}{n:Nat}{xs:List Value}(h:w.ownsRow base e size v n xs)(hx:Ext w w'):w'.ownsRow base e size v n xs:=
 h.kept ⟨hx.os,hx.tape,hx.output,hx.size,fun k hk _=>hx.block k hk⟩ (row:=none) (by cases hv:v.ownBlock<;>simp)
theorem zoS(w:World)(xs:List UInt8)(n:Nat)(hn:n=xs.length)(hm:n≤maxLen)(base:Nat)(hb:base≤w.heap.size) :
 (w.alloc (.cells (xs.map bv).toArray 5)).ownsRow base 5 1 (.slice (some ⟨w.heap.size,0,none⟩) n n) n (xs.map bv):=by
 subst hn
 exact⟨by simp,.inr ⟨w.heap.size,xs.length,_,rfl,hb,heap_alloc_new w _,Nat.le_refl _,hm,by simp,by rw[Nat.mul_one];exact List.take_of_length_le (by simp)⟩⟩
theorem zsW(z:Int)(h:0≤z∧z<256):Value.int .u8 z=bv (UInt8.ofNat z.toNat):=by
 unfold bv
 congr 1
 rw[UInt8.toNat_ofNat']
 omega
theorem zsn(w:World)(z:Int)(h:0≤z∧z<256)(base:Nat)(hb:base≤w.heap.size) :
 (w.alloc (.cells #[.int .u8 z] 5)).ownsRow base 5 1 (.slice (some ⟨w.heap.size,0,none⟩) 1 1) 1 ([UInt8.ofNat z.toNat].map bv):=by
 rw[zsW z h]
 exact zoS w [UInt8.ofNat z.toNat] 1 rfl (by simp[maxLen]) base hb
theorem zrB(w:World)(z:Int)(h:0≤z∧z<256) :
 Sl (w.alloc (.cells #[.int .u8 z] 5)) (some ⟨w.heap.size,0,none⟩) 1 1 [UInt8.ofNat z.toNat]:=Sl.of_own (zsn w z h 0 (Nat.zero_le _))
theorem zsh{w:World}{o:Oper}{a:Act}{K:Act→World→Prop}{Q:Exit→Act→World→Prop}(x:Operand)(ho:o.op=.buildSlice 174 1 #[(0,x)])(z:Int)(hx:a.eval x=.int .u8 z)(hz:0≤z∧z<256)
 (h:∀A w',Ext w w'→Sl w' A 1 1 [UInt8.ofNat z.toNat]→K (a.put o.dst (.slice A 1 1)) w'):o.wp Tryz.prog a w K Q:=by
 have hr:(execOp a.eval o).run Tryz.prog w=.ok (.value (.slice (some ⟨w.heap.size,0,none⟩) 1 1)) (w.alloc (.cells #[.int .u8 z] 5)):=by
  unfold execOp
  simp only[ho,List.map_toArray,List.map_cons,List.map_nil,hx]
  kernel_rfl
 unfold Oper.wp
 rw[hr]
 exact h _ _ (Ext.alloc _ _) (zrB w z hz)
section
variable {w w':World}{A:Option Addr}{n c:Nat}{xss:List (List UInt8)}
end
end Go.Proofs.YtkjbokhnpphimaaGreatDoor
