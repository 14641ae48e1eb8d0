/- Lemmas of the walk. -/
import Derived.Test.YtkjbokhnpphimaaGreatDoorV09
import Derived.Test.YtkjbokhnpphimaaGreatDoorShl
set_option maxHeartbeats 40000000
set_option linter.unusedVariables false
set_option linter.unusedSimpArgs false
namespace Go.Proofs.YtkjbokhnpphimaaGreatDoor
open Go.RowKit
set_option maxRecDepth 100000
def IsB(B b:Nat)(xs:List UInt8)(w:World):Prop:=Lib.IsBuilder 176 5 B b (xs.map bv) w
theorem IsB.lt{B b:Nat}{xs:List UInt8}{w:World}(h:IsB B b xs w):b<w.heap.size:=by
 rcases h with h|h
 ·exact h.lt
 ·exact h.lt
theorem IsB.base{B b:Nat}{xs:List UInt8}{w:World}(h:IsB B b xs w):B≤b:=by
 rcases h with⟨h,_⟩|⟨h,_⟩
 ·exact h
 ·exact h
theorem IsB.le{B b:Nat}{xs:List UInt8}{w:World}(h:IsB B b xs w):B≤w.heap.size:=by have:=h.lt;have:=h.base;omega
theorem zrx{B b:Nat}{xs:List Value}{p:Value}{w w':World}(h:Lib.BuilderAt 176 5 B b p xs w)(hx:Ext w w'):Lib.BuilderAt 176 5 B b p xs w':=by
 have hlt:=h.lt
 obtain⟨h1,v,h2,h3,h4⟩:=h
 exact⟨h1,v,(hx.block b hlt).trans h2,zdC h3 hx,h4⟩
theorem IsB.ext{B b:Nat}{xs:List UInt8}{w w':World}(h:IsB B b xs w)(hx:Ext w w'):IsB B b xs w':=h.elim (fun h=>.inl (zrx h hx)) (fun h=>.inr (zrx h hx))
theorem zk8(w:World):IsB w.heap.size w.heap.size [] (w.alloc (.cells #[.pointer none,.slice none 0 0] 176)):=Lib.fresh_isBuilder _ _ w
theorem zdH{B b:Nat}{xs:List UInt8}{w:World}(h:IsB B b xs w) :
 Calls Tryz.prog 151 #[.pointer (some ⟨b,0,none⟩)] w fun e w'=>e=.returned (.tuple #[])∧(Lib.BuilderAt 176 5 B b (.pointer (some ⟨b,0,none⟩)) (xs.map bv) w'∧Below B w w'∧w.grownBy w' (some b)):=by
 rcases h with h|h
 ·refine(Any.Builder_copyCheck_fresh (ρ:=Tryz.lays156_ren) { Tryz.lays156 with } Tryz.Builder_Extra_156.toX72 b w h.cell0 h.shape h.frozen0).mono ?_
  rintro e w' ⟨rfl,rfl⟩
  exact⟨rfl,h.used _,(Below.refl B w).setCell (p:=⟨b,0,none⟩) h.1 _,rfl,rfl,rfl,by simp,fun k _ hk=>heap_setCell_other w ⟨b,0,none⟩ k _ (fun e=>hk (by simp[e]))⟩
 ·refine(Any.Builder_copyCheck_used (ρ:=Tryz.lays156_ren) { Tryz.lays156 with } Tryz.Builder_Extra_156.toX72 b w h.cell0).mono ?_
  rintro e w' ⟨rfl,rfl⟩
  exact⟨rfl,h,Below.refl B _,World.grownBy.refl _ _⟩
theorem Sl.aside{w w':World}{A:Option Addr}{n c b:Nat}{xs:List UInt8}(h:Sl w A n c xs)(hg:w.grownBy w' (some b))(hA:∀a,A=some a→a.block≠b):Sl w' A n c xs:=by
 obtain⟨h1,h2,h3,h4⟩:=h
 refine⟨h1,h2,h3,?_⟩
 rcases h4 with h4|⟨g,off,hg',hc⟩
 ·exact .inl h4
 ·refine .inr ⟨g,off,hg',fun j u hj=>?_⟩
  have hu:=hc j u hj
  have hlt:=World.block_lt_of_cell? w _ hu
  rw[World.cell?_of_block (hg.block g hlt (fun e=>hA _ hg' (by injection e)))]
  exact hu
theorem zfZ{B b:Nat}{xs:List UInt8}{w:World}(h:IsB B b xs w) :
 Calls Tryz.prog 116 #[.pointer (some ⟨b,0,none⟩)] w fun e w'=>e=.returned (.string (str xs))∧Below B w w':=
 Tryz.Builder_String_any B b xs w h h.le
structure Kept(B b:Nat)(w w':World):Prop where
 below:Below B w w'
 others:Lib.OthersKept 5 (some b) w w'
theorem zdN{B b:Nat}{w w':World}(h:Ext w w')(hB:B≤w.heap.size):Kept B b w w':=
 ⟨Below.mono h hB,fun k o hk _ _=>by rw[h.block k (Array.getElem?_eq_some_iff.1 hk).1];exact hk⟩
theorem Kept.refl(B b:Nat)(w:World):Kept B b w w:=⟨Below.refl _ _,Lib.OthersKept.refl _ _ _⟩
theorem Kept.trans{B b:Nat}{a c d:World}(h:Kept B b a c)(k:Kept B b c d):Kept B b a d:=⟨Below.trans h.below k.below,h.others.trans k.others⟩
theorem Kept.cell{B b:Nat}{w w':World}(h:Kept B b w w'){g j:Nat}{v:Value}{cs:Array Value}{T:TypeId}{fz:Nat×Nat}(hg:w.heap[g]?=some (.cells cs T fz))(hT:T≠5)(hb:g≠b)(hj:cs[j]?=some v):w'.cell? ⟨g,j,none⟩=some v:=by
 have:=h.others g _ hg (fun e=>hb (by injection e)) (fun c f e=>hT (by injection e))
 rw[cell_of_row w' g j cs T fz this]
 exact hj
theorem zej{B b:Nat}{w w':World}(h:Below B w w')(hg:w.grownBy w' (some b)):Kept B b w w':=
 ⟨h,fun k o hk hb _=>by rw[hg.block k (Array.getElem?_eq_some_iff.1 hk).1 hb];exact hk⟩
theorem ze7{w:World}{B:Nat}{e:TypeId}{size n:Nat}{v:Value}{vs:List Value}(h:w.ownsRow B e size v n vs):∀g,v.ownBlock=some g→∃c fz,w.heap[g]?=some (.cells c e fz):=by
 intro g hg
 rcases h.2 with⟨rfl,_⟩|⟨g',cap,cur,rfl,_,hh,_⟩
 ·cases hg
 ·injection hg with hg
  subst hg
  exact⟨_,_,hh⟩
theorem zrO{B b:Nat}{xs ys:List UInt8}{v v':Value}{w1 w2:World}{n:Nat}(hB:B≤b)(hbk:w1.heap[b]?=some (.cells #[.pointer (some ⟨b,0,none⟩),v] 176 (0,0)))
 (hne:v.ownBlock≠some b) (hown:∀g,v.ownBlock=some g→∃c fz,w1.heap[g]?=some (.cells c 5 fz))
 (hown':w2.ownsRow B 5 1 v' n ((xs++ys).map bv)) (hn:n=(xs++ys).length) (hb:Below B w1 w2) (hg:w1.grownBy w2 v.ownBlock) :
 w2.heap[b]?=some (.cells #[.pointer (some ⟨b,0,none⟩),v] 176 (0,0))∧IsB B b (xs++ys) (w2.setCell ⟨b,1,none⟩ v')∧Kept B b w1 (w2.setCell ⟨b,1,none⟩ v'):=by
 have hlt:b<w1.heap.size:=(Array.getElem?_eq_some_iff.1 hbk).1
 have hb2:w2.heap[b]?=some (.cells #[.pointer (some ⟨b,0,none⟩),v] 176 (0,0)):=by
  rw[hg.block b hlt (fun e=>hne e.symm)];exact hbk
 refine⟨hb2,.inr (Lib.BuilderAt.put hB hb2 (by rw[List.length_map,←hn];exact hown') (by decide)),?_,?_⟩
 ·refine Below.trans hb ⟨rfl,rfl,rfl,by simp,fun k hk=>?_⟩
  rw[heap_setCell_other _ _ _ _ (by simp;omega)]
 ·exact((Lib.OthersKept.refl _ (some b) w1).grown hg hown).setCell ⟨b,1,none⟩ rfl v'
theorem zde{B b:Nat}{xs:List UInt8}{w:World}(x:UInt8)(h:IsB B b xs w)(hl:xs.length+1≤140737488355328) :
 Calls Tryz.prog 149 #[.pointer (some ⟨b,0,none⟩),.int .u8 (x.toNat:Int)] w fun e w'=>e=.returned .nilIface∧IsB B b (xs++[x]) w'∧Kept B b w w':=by
 have HI:=hid h
 have HB0:=hid h.le
 clear h
 go_enter Tryz.func149,Tryz.ntmps149
 go_wp2_with(go_at_call 151;(with_reducible refine(zdH HI.out).mono ?_))
 rintro e w1 ⟨rfl,⟨hB,v,hbk,hown,hne⟩,hb1,hgw⟩
 rw[List.length_map] at hown
 have c1:w1.cell? ⟨b,1,none⟩=some v:=by rw[Lib.cell_of_heap hbk];rfl
 have HO:=hid hown
 have HK:=hid hbk
 have HN:=hid hne
 have HX:=hid (zej hb1 hgw)
 have HC:=hid (ze7 hown)
 have HB:=hid hB
 obtain⟨A1,k1,rfl⟩:=zc9 hown
 clear hown hbk hne hb1 hB hgw
 go_wp2_with(at_builtin;refine zgk rfl _ _ rfl B _ xs.length xs rfl (zdC HO.out (Ext.alloc _ _)) _ 1 1 [x] rfl (zdF _ x) (by omega) (by have:=HB0.out;have:=HX.out.below.size;simp;omega) ?_)
 intro v' w2 ho2 hb2 hg2 _
 rw[←List.map_singleton,←List.map_append] at ho2
 obtain⟨hk2,hi3,hb3⟩:=zrO HB.out (zib HK.out (Ext.alloc _ _)) HN.out (ze7 (zdC HO.out (Ext.alloc _ _))) ho2 (by simp) hb2 hg2
 have d1:w2.cell? ⟨b,1,none⟩=some (.slice A1 xs.length k1):=by rw[Lib.cell_of_heap hk2];rfl
 have f1:w2.frozen? ⟨b,1,none⟩=false:=Lib.frozen_of_heap hk2 1
 have HI3:=hid hi3
 have HB3:=hid hb3
 obtain⟨A2,k2,rfl⟩:=zc9 ho2
 clear ho2 hb2 hg2 hk2 hi3 hb3
 go_wp2
 go_ret
 exact⟨rfl,HI3.out,HX.out.trans ((zdN (Ext.alloc _ _) (by have:=HB0.out;have:=HX.out.below.size;omega)).trans HB3.out)⟩
theorem zbX{B b:Nat}{xs:List UInt8}{w:World}(x:UInt8)(h:IsB B b xs w)(hl:xs.length+1≤140737488355328) :
 Calls Tryz.prog 149 #[.pointer (some ⟨b,0,none⟩),.int .u8 (x.toNat:Int)] w fun e w'=>e=.returned .nilIface∧IsB B b (xs++[x]) w'∧Below B w w':=
 (zde x h hl).mono fun _ _ ⟨h1,h2,h3⟩=>⟨h1,h2,h3.below⟩
theorem zf5{B b:Nat}{xs:List UInt8}{w:World}(A:Option Addr)(m c:Nat)(ys:List UInt8)(h:IsB B b xs w)(hy:Sl w A m c ys)(hA:∀a,A=some a→a.block≠b)(hl:xs.length+m≤140737488355328) :
 Calls Tryz.prog 183 #[.pointer (some ⟨b,0,none⟩),.slice A m c] w fun e w'=>e=.returned (.tuple #[.int .i64 m,.nilIface])∧IsB B b (xs++ys) w'∧Kept B b w w':=by
 have HI:=hid h
 have HB0:=hid h.le
 have HY:=hid hy
 have HA:=hid hA
 clear h hy hA
 go_enter Tryz.func183,Tryz.ntmps183
 go_wp2_with(go_at_call 151;(with_reducible refine(zdH HI.out).mono ?_))
 rintro e w1 ⟨rfl,⟨hB,v,hbk,hown,hne⟩,hb1,hgw⟩
 rw[List.length_map] at hown
 have c1:w1.cell? ⟨b,1,none⟩=some v:=by rw[Lib.cell_of_heap hbk];rfl
 have HO:=hid hown
 have HK:=hid hbk
 have HN:=hid hne
 have HX:=hid (zej hb1 hgw)
 have HC:=hid (ze7 hown)
 have HB:=hid hB
 have HS:=hid (HY.out.aside hgw HA.out)
 obtain⟨A1,k1,rfl⟩:=zc9 hown
 clear hown hbk hne hb1 hB hgw
 go_wp2_with(at_builtin;refine zgk rfl _ _ rfl B _ xs.length xs rfl HO.out _ m c ys rfl HS.out (by omega) (by have:=HB0.out;have:=HX.out.below.size;omega) ?_)
 intro v' w2 ho2 hb2 hg2 _
 rw[←List.map_append] at ho2
 obtain⟨hk2,hi3,hb3⟩:=zrO HB.out HK.out HN.out HC.out ho2 (by have:=HS.out.len;rw[List.length_append];omega) hb2 hg2
 have d1:w2.cell? ⟨b,1,none⟩=some (.slice A1 xs.length k1):=by rw[Lib.cell_of_heap hk2];rfl
 have f1:w2.frozen? ⟨b,1,none⟩=false:=Lib.frozen_of_heap hk2 1
 have HI3:=hid hi3
 have HB3:=hid hb3
 obtain⟨A2,k2,rfl⟩:=zc9 ho2
 clear ho2 hb2 hg2 hk2 hi3 hb3
 go_wp2
 go_ret2
 exact⟨rfl,HI3.out,HX.out.trans HB3.out⟩
theorem zla(s:ByteArray):Lib.strCells s=(bys s).map bv:=rfl
theorem zdT{B b:Nat}{xs:List UInt8}{w:World}(s:ByteArray)(h:IsB B b xs w)(hl:xs.length+s.size≤140737488355328) :
 Calls Tryz.prog 115 #[.pointer (some ⟨b,0,none⟩),.string s] w fun e w'=>e=.returned (.tuple #[.int .i64 s.size,.nilIface])∧IsB B b (xs++bys s) w'∧Kept B b w w':=by
 have HI:=hid h
 have HB0:=hid h.le
 obtain⟨i0,hi,hz0,hz1,hz2⟩:=info_parts Tryz.infoByte
 clear h
 go_enter Tryz.func115,Tryz.ntmps115
 go_wp2_with(go_at_call 151;(with_reducible refine(zdH HI.out).mono ?_))
 rintro e w1 ⟨rfl,⟨hB,v,hbk,hown,hne⟩,hb1,hgw⟩
 rw[List.length_map] at hown
 have c1:w1.cell? ⟨b,1,none⟩=some v:=by rw[Lib.cell_of_heap hbk];rfl
 have HO:=hid hown
 have HK:=hid hbk
 have HN:=hid hne
 have HX:=hid (zej hb1 hgw)
 have HC:=hid (ze7 hown)
 have HB:=hid hB
 obtain⟨A1,k1,rfl⟩:=zc9 hown
 clear hown hbk hne hb1 hB hgw
 go_wp2_with(at_builtin;refine Lib.wpList_append_own_string _ rfl _ _ 174 9 rfl B 5 i0 Tryz.underlying174 Tryz.underlying9 hi hz0 hz1 hz2 _ xs.length (xs.map bv) rfl HO.out s rfl (by unfold maxLen;omega) hl (by have:=HB0.out;have:=HX.out.below.size;omega) ?_)
 intro v' w2 ho2 hg2 _
 rw[zla,←List.map_append] at ho2
 obtain⟨hk2,hi3,hb3⟩:=zrO HB.out HK.out HN.out HC.out ho2 (by rw[List.length_append,zaj]) ((Below.refl B w1).grown hg2 (by have:=HB0.out;have:=HX.out.below.size;omega) (fun k hk=>(HO.out.lt k hk).1)) hg2
 have d1:w2.cell? ⟨b,1,none⟩=some (.slice A1 xs.length k1):=by rw[Lib.cell_of_heap hk2];rfl
 have f1:w2.frozen? ⟨b,1,none⟩=false:=Lib.frozen_of_heap hk2 1
 have HI3:=hid hi3
 have HB3:=hid hb3
 obtain⟨A2,k2,rfl⟩:=zc9 ho2
 clear ho2 hg2 hk2 hi3 hb3
 go_wp2
 go_ret2
 exact⟨rfl,HI3.out,HX.out.trans HB3.out⟩
end Go.Proofs.YtkjbokhnpphimaaGreatDoor
