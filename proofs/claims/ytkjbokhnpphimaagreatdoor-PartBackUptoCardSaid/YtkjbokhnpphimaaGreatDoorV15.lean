/- Lemmas of the walk. -/
import Derived.Test.YtkjbokhnpphimaaGreatDoorV14
import Derived.Deep.DeepCutAuto
set_option maxHeartbeats 40000000
set_option linter.unusedVariables false
set_option linter.unusedSimpArgs false
namespace Go.Proofs.YtkjbokhnpphimaaGreatDoor
section
open Go.RowKit
theorem zg3{k:Nat}:∀{vss:List (List Value)} {j r:Nat} {v:List Value} (u:Value),(∀v∈vss,v.length=k)→vss[j]?=some v→r<k→vss.flatten.set (j * k+r) u=(vss.set j (v.set r u)).flatten
 |[],j,r,v,u,_,h,_=>by simp at h
 |a::l,0,r,v,u,hl,h,hr=>by
  simp at h
  subst h
  rw[Nat.zero_mul,Nat.zero_add,List.flatten_cons,List.set_cons_zero,List.flatten_cons,List.set_append_left _ _ (by rw[hl a (by simp)];exact hr)]
 |a::l,j+1,r,v,u,hl,h,hr=>by
  have ih:=zg3 (vss:=l) (j:=j) (r:=r) (v:=v) u (fun v hv=>hl v (by simp[hv])) (by simpa using h) hr
  have ha:=hl a (by simp)
  rw[List.flatten_cons,List.set_cons_succ,List.flatten_cons,←ih,List.set_append_right _ _ (by rw[ha,Nat.succ_mul];omega),ha]
  congr 2
  rw[Nat.succ_mul];omega
def two{α:Type}(f0 f1:α→Value)(x:α):List Value:=[f0 x,f1 x]
structure GrowV{α:Type}(f0 f1:α→Value)(T:TypeId)(w wr:World)(v:Value)(l:List α):Prop where
 own:wr.ownsRow w.heap.size T 2 v l.length (l.map (two f0 f1)).flatten
 ext:Ext w wr
theorem zaQ{w w':World}(h:Ext w w')(r:Option Nat):w.grownBy w' r:=⟨h.os,h.tape,h.output,h.size,fun k hk _=>h.block k hk⟩
section
variable {α:Type}{f0 f1:α→Value}{T:TypeId}{w wr w':World}{v:Value}{l:List α}{g n cap:Nat}
theorem GrowV.later(h:GrowV f0 f1 T w wr v l)(hx:Ext wr w'):GrowV f0 f1 T w w' v l:=⟨zdC h.own hx,h.ext.trans hx⟩
theorem GrowV.new(h:GrowV f0 f1 T w wr (.slice (some ⟨g,0,none⟩) n cap) l):w.heap.size≤g:=(h.own.lt g rfl).1
theorem GrowV.n_eq{A:Option Addr}(h:GrowV f0 f1 T w wr (.slice A n cap) l):n=l.length:=by
 rcases h.own.2 with⟨h',h0⟩|⟨g,cap,cur,h',hb,hg,hnc,hcm,hcs,htake⟩
 ·injection h' with _ h2 _;rw[h0];exact h2
 ·injection h' with _ h2 _
theorem GrowV.own'{A:Option Addr}(h:GrowV f0 f1 T w wr (.slice A n cap) l):wr.ownsRow w.heap.size T 2 (.slice A n cap) n (l.map (two f0 f1)).flatten:=by
 have:=h.own
 rwa[←h.n_eq] at this
theorem zi9:∀v∈l.map (two f0 f1),v.length=2:=by
 intro v hv
 obtain⟨x,-,rfl⟩:=List.mem_map.1 hv
 rfl
theorem zpz{j:Nat}{x:α}(hj:l[j]?=some x):(l.map (two f0 f1))[j]?=some [f0 x,f1 x]:=by rw[List.getElem?_map,hj];rfl
theorem GrowV.at0(h:GrowV f0 f1 T w wr (.slice (some ⟨g,0,none⟩) n cap) l){j:Nat}{x:α}(hj:l[j]?=some x):wr.cell? ⟨g,j * 2,none⟩=some (f0 x):=by
 have hl:=(List.getElem?_eq_some_iff.1 hj).1
 rw[h.own'.cellAt (j * 2) (by rw[h.n_eq];omega)]
 have:=zci zi9 (zpz (f0:=f0) (f1:=f1) hj) (j:=0) (u:=f0 x) rfl
 simpa using this
theorem GrowV.at1(h:GrowV f0 f1 T w wr (.slice (some ⟨g,0,none⟩) n cap) l){j:Nat}{x:α}(hj:l[j]?=some x):wr.cell? ⟨g,j * 2+1,none⟩=some (f1 x):=by
 have hl:=(List.getElem?_eq_some_iff.1 hj).1
 rw[h.own'.cellAt (j * 2+1) (by rw[h.n_eq];omega)]
 exact zci zi9 (zpz (f0:=f0) (f1:=f1) hj) (j:=1) (u:=f1 x) rfl
theorem GrowV.thaw(h:GrowV f0 f1 T w wr (.slice (some ⟨g,0,none⟩) n cap) l)(j:Nat):wr.frozen? ⟨g,j,none⟩=false:=h.own'.frozenAt j
theorem zrK{j:Nat}{x y:α}(hj:l[j]?=some x):((l.map (two f0 f1)).flatten.set (j * 2) (f0 y)).set (j * 2+1) (f1 y)=((l.set j y).map (two f0 f1)).flatten:=by
 have hl:=(List.getElem?_eq_some_iff.1 hj).1
 have e1:(l.map (two f0 f1)).flatten.set (j * 2) (f0 y)=((l.map (two f0 f1)).set j [f0 y,f1 x]).flatten:=by
  have:=zg3 (k:=2) (r:=0) (f0 y) zi9 (zpz (f0:=f0) (f1:=f1) hj) (by decide)
  simpa using this
 rw[e1,zg3 (k:=2) (v:=[f0 y,f1 x]) (r:=1) (f1 y) (fun v hv=>?_) (List.getElem?_set_self (by simpa using hl)) (by decide),List.set_set,List.map_set]
 ·rfl
 ·rcases List.mem_or_eq_of_mem_set hv with h1|h1
  ·exact zi9 v h1
  ·rw[h1];rfl
theorem GrowV.put(h:GrowV f0 f1 T w wr (.slice (some ⟨g,0,none⟩) n cap) l){j:Nat}(hj:j<l.length)(x:α) :
 GrowV f0 f1 T w ((wr.setCell ⟨g,j * 2,none⟩ (f0 x)).setCell ⟨g,j * 2+1,none⟩ (f1 x)) (.slice (some ⟨g,0,none⟩) n cap) (l.set j x):=by
 obtain⟨h1,h2⟩:=h.own'.stored (j * 2) (f0 x)
 obtain⟨h3,h4⟩:=h1.stored (j * 2+1) (f1 x)
 refine⟨?_,(h.ext.setCell h.new _).setCell h.new _⟩
 rw[zrK (List.getElem?_eq_getElem hj)] at h3
 rw[List.length_set,←h.n_eq]
 exact h3
end
end
section
open Go.RowKit
set_option maxRecDepth 100000
structure EntC where
 name:ByteArray
 A:Option Addr
 n:Nat
 c:Nat
abbrev EntC.c0(x:EntC):Value:=.string x.name
abbrev EntC.c1(x:EntC):Value:=.slice x.A x.n x.c
abbrev GVE:=GrowV EntC.c0 EntC.c1 58
abbrev zfX:Value:=.func (.func 90) #[] #[]
abbrev ltKE(K:EntC→EntC→Int)(x y:EntC):Bool:=decide (K x y<0)
def CmpOkE(P:EntC→Prop)(K:EntC→EntC→Int)(w0:World):Prop:=∀wr,Ext w0 wr→∀x y,P x→P y→Calls Tryz.prog 90 #[.agg #[x.c0,x.c1],.agg #[y.c0,y.c1]] wr fun e w'=>e=.returned (.int .i64 (K x y))∧Ext wr w'
theorem CmpOkE.at_{P:EntC→Prop}{K:EntC→EntC→Int}{w0 wr:World}(h:CmpOkE P K w0)(hx:Ext w0 wr)(x y:EntC)(hpx:P x)(hpy:P y):Calls Tryz.prog 90 #[.agg #[x.c0,x.c1],.agg #[y.c0,y.c1]] wr fun e w'=>e=.returned (.int .i64 (K x y))∧Ext wr w':=h wr hx x y hpx hpy
def zca(R:List EntC→Prop)(w0 w:World)(g n cap:Nat)(e:Ending)(w':World):Prop:=
 e=.returned (.tuple #[])∧(∃l',GVE w0 w' (.slice (some ⟨g,0,none⟩) n cap) l'∧R l')∧w.grownBy w' (some g)
theorem znV(w:World)(g k:Nat)(x:EntC)(h0:w.cell? ⟨g,k * 2,none⟩=some x.c0)(h1:w.cell? ⟨g,k * 2+1,none⟩=some x.c1) :
 (Instr.loadAt 58 (.pointer (some ⟨g,k * 2,none⟩))).run Tryz.prog w=.ok (.agg #[x.c0,x.c1]) w:=by
 go_simp
theorem znH(w:World)(g k:Nat)(x:EntC)(c0 c1:Value)(h0:w.cell? ⟨g,k * 2,none⟩=some c0)(h1:w.cell? ⟨g,k * 2+1,none⟩=some c1)(f0:w.frozen? ⟨g,k * 2,none⟩=false)(f1:w.frozen? ⟨g,k * 2+1,none⟩=false) :
 (Instr.storeAt 58 (.pointer (some ⟨g,k * 2,none⟩)) (.agg #[x.c0,x.c1])).run Tryz.prog w=.ok () ((w.setCell ⟨g,k * 2,none⟩ x.c0).setCell ⟨g,k * 2+1,none⟩ x.c1):=by
 go_simp
section
variable {w w0:World}{o:Oper}{a:Act}{K:Act→World→Prop}{Q:Exit→Act→World→Prop}{g n cap:Nat}{l:List EntC}
theorem zda(x:Operand)(ho:o.op=.load 58 x)(k:Nat)(hx:a.eval x=.pointer (some ⟨g,k * 2,none⟩))(hG:GVE w0 w (.slice (some ⟨g,0,none⟩) n cap) l)(y:EntC)(hy:l[k]?=some y)
 (h:K (a.put o.dst (.agg #[y.c0,y.c1])) w):o.wp Tryz.prog a w K Q:=by
 have hr:(execOp a.eval o).run Tryz.prog w=.ok (.value (.agg #[y.c0,y.c1])) w:=by
  unfold execOp
  simp only[ho,hx,Sem.run_bind,znV w g k y (hG.at0 hy) (hG.at1 hy),Result.andThen_ok,Sem.run_pure]
 unfold Oper.wp
 rw[hr]
 exact h
theorem zcy(x y:Operand)(ho:o.op=.store 58 x y)(k:Nat)(hx:a.eval x=.pointer (some ⟨g,k * 2,none⟩))(v:EntC)(hy:a.eval y=.agg #[v.c0,v.c1])(hG:GVE w0 w (.slice (some ⟨g,0,none⟩) n cap) l)(hk:k<l.length)
 (h:∀w',GVE w0 w' (.slice (some ⟨g,0,none⟩) n cap) (l.set k v)→Below w0.heap.size w w'→w.grownBy w' (some g)→K (a.put o.dst undef) w'):o.wp Tryz.prog a w K Q:=by
 have hl:l[k]?=some l[k]:=List.getElem?_eq_getElem hk
 have hr:(execOp a.eval o).run Tryz.prog w=.ok .skip ((w.setCell ⟨g,k * 2,none⟩ v.c0).setCell ⟨g,k * 2+1,none⟩ v.c1):=by
  unfold execOp
  simp only[ho,hx,hy,Sem.run_bind,znH w g k v _ _ (hG.at0 hl) (hG.at1 hl) (hG.thaw _) (hG.thaw _),Result.andThen_ok,Sem.run_pure]
 unfold Oper.wp
 rw[hr]
 refine h _ (hG.put hk v) (((Below.refl _ _).setCell hG.new _).setCell hG.new _) ⟨rfl,rfl,rfl,by simp,fun b hb hne=>?_⟩
 have hbg:b≠g:=fun e=>hne (by rw[e])
 rw[heap_setCell_other _ _ _ _ hbg,heap_setCell_other _ _ _ _ hbg]
end
theorem ze2{K:EntC→EntC→Int}{P:EntC→Prop}{w0 w:World}{g n cap a b:Nat}{l:List EntC}(hc:CmpOkE P K w0)(h:GVE w0 w (.slice (some ⟨g,0,none⟩) n cap) l)(hp:∀x∈l,P x)(hb:b≤n)(ha:a≤4000000)(hn:n≤4000000) :
 Calls Tryz.prog 156 #[.slice (some ⟨g,0,none⟩) n cap,.int .i64 a,.int .i64 b,zfX] w (zca (fun l'=>zgv (ltKE K) l l' a b) w0 w g n cap):=by
 have HG0:=hid h
 have HC:=hid hc
 have HP0:=hid hp
 have HLN:=hid h.n_eq
 clear h hc hp
 have HFIN:Hid (zgv (ltKE K) l (insG (ltKE K) a (b-(a+1)) l) a b):=zpD l a b (by rw[←HLN.out];exact hb)
 have HIM:Hid (∀k,a+k<n→Mv l (insG (ltKE K) a k l) a (a+k+1)):=fun k hk=>(zmC k l (by rw[←HLN.out];exact hk)).1
 go_enter Tryz.func156,Tryz.ntmps156
 go_wp2
 go_loopw [8] (fun i wr=>∃(k:Nat),a+1+k≤max b (a+1)∧i=.int .i64 ((a+1+k:Nat):Int)∧Hid (GVE w0 wr (.slice (some ⟨g,0,none⟩) n cap) (insG (ltKE K) a k l)∧w.grownBy wr (some g))) (fun i _=>b-(intOf i).toNat)
 case atStart=>exact⟨0,by omega,by go_num,HG0,World.grownBy.refl _ _⟩
 case round=>
  obtain⟨k,hk,rfl,HGR⟩:=hrel
  by_cases hlt:a+1+k<b
  ·have hlt':((a+1+k:Nat):Int)<(b:Int):=by omega
   have hkn:a+1+k<n:=by omega
   clear hk
   have HMV:=hid (HIM.out k (by omega))
   generalize hik:a+1+k=i0 at*
   have HIK:=hid hik
   clear hik
   go_wp2
   go_loopw [9] (fun i wr'=>∃(j:Nat) (m:List EntC),j≤i0∧a≤j∧i=.int .i64 j∧Hid (GVE w0 wr' (.slice (some ⟨g,0,none⟩) n cap) m∧w.grownBy wr' (some g))∧Hid (zdj (ltKE K) a j m=insG (ltKE K) a (k+1) l)∧Hid (Mv l m a (i0+1))) (fun i _=>(intOf i).toNat)
   case atStart=>exact⟨i0,insG (ltKE K) a k l,by omega,by have:=HIK.out;omega,rfl,HGR,by show zdj _ a i0 _=zdj _ a (a+k+1) _;rw[←HIK.out];congr 1;omega,HMV.out.mono (Nat.le_refl _) (by have:=HIK.out;omega)⟩
   case round=>
    obtain⟨j,m,hj,haj,rfl,HGM,HS,HML⟩:=hrel
    by_cases hja:a<j
    ·obtain⟨q,hq⟩:∃q,j=q+1:=⟨j-1,by omega⟩
     have hml:=HML.out.len
     have hln:=HLN.out
     obtain⟨x,hx⟩:∃x,m[j]?=some x:=⟨_,List.getElem?_eq_getElem (show j<m.length by omega)⟩
     obtain⟨y,hy⟩:∃y,m[q]?=some y:=⟨_,List.getElem?_eq_getElem (show q<m.length by omega)⟩
     have z0:(j:Int)-1=(q:Int):=by omega
     have z2:(j:Int)<(n:Int):=by omega
     have z3:(q:Int)<(n:Int):=by omega
     have hja':(a:Int)<(j:Int):=by omega
     have hqn:q<n:=by omega
     have HKA:Hid (j<m.length):=by show _<_;omega
     have HKB:Hid (q<m.length):=by show _<_;omega
     have HXA:=hid hx
     have HYB:=hid hy
     have HPX:=hid (HP0.out x (HML.out.perm.mem_iff.1 (List.mem_of_getElem? hx)))
     have HPY:=hid (HP0.out y (HML.out.perm.mem_iff.1 (List.mem_of_getElem? hy)))
     have x0:=HGM.out.1.at0 hx
     have x1:=HGM.out.1.at1 hx
     have y0:=HGM.out.1.at0 hy
     have y1:=HGM.out.1.at1 hy
     have HSW:=hid (zcv hx hy)
     have HSN:Hid (zdj (ltKE K) a j m=if a<j∧ltKE K x y=true then zdj (ltKE K) a q (zdi m j q) else m):=by
      show _=_
      rw[hq,zdj]
      rw[hq] at hx
      unfold ltAt
      rw[hx,hy]
     have hql:q<j:=by omega
     have haq:a≤q:=by omega
     clear hx hy hml hq hln
     go_wp2
     refine zac (.read 0 (.read 1 (.read 2 (.read 3 (.read 4 (.read 5 (.read 6 (.read 7 (.read 8 (.read 9 (.read 10 (.read 11 (.read 12 (.read 13 (.main 14 (.read 15 (.read 16 .done))))))))))))))))) (by kernel_rfl) (by kernel_rfl) ?_
     intro wD hxD
     have XE:Hid (Ext wD wD):=Ext.refl _
     have HGE:=hid (HGM.out.1.later hxD)
     have HCW:=HC.out.at_ HGE.out.ext x y HPX.out HPY.out
     have px0:=zaa (zaa x0 _ hxD)
     have px1:=zaa (zaa x1 _ hxD)
     have py0:=zaa (zaa y0 _ hxD)
     have py1:=zaa (zaa y1 _ hxD)
     cases hlb:decide (K x y<0) with
     |false=>
      have hc:decide (K x y<0)=false:=hlb
      have HFI:Hid (insG (ltKE K) a (k+1) l=m):=by show _=_;rw[←HS.out,HSN.out];unfold ltKE;rw[hlb,if_neg (by simp)]
      clear hlb
      repeat' ((first
       |refine zaf rfl rfl ?_
       |refine zad rfl rfl ?_
       |refine zai rfl rfl ?_
       |refine zab rfl rfl ?_
       |(refine zae (v:=?_) rfl rfl (fun w' hE=>?_) ?_;rotate_left 1;(· ((try(have hEx:=Ext.trans (Hid.out XE) hE));go_simp;(try go_bits);with_reducible rfl)))
       |refine walks_alt ?_ ?_
       | (refine zah rfl rfl (fun K hK=>?_);go_wp2_with ((go_at_call 90;(with_reducible refine HCW.mono ?_);rintro e w2 ⟨rfl,hx2⟩;replace XE:=hid (Ext.trans (Hid.out XE) hx2)));refine hK _ _ (by first | assumption | exact Ext.alloc _ _ | exact Ext.refl _) ?_;clear hK K));try simp only [Act.put,Act.eval,evs])
      refine zag ?_
      clear px0 px1 py0 py1 x0 x1 y0 y1
      go_wp2
      refine⟨⟨k+1,by have:=HIK.out;omega,by have:=HIK.out;go_num,?_⟩,by have:=HIK.out;simp[intOf];omega⟩
      rw[HFI.out]
      exact⟨HGE.out.later XE.out,HGM.out.2.trans (zaQ (hxD.trans XE.out) _)⟩
     |true=>
      have hc:K x y<0:=of_decide_eq_true hlb
      have HFI:Hid (zdj (ltKE K) a q (zdi m j q)=insG (ltKE K) a (k+1) l):=by show _=_;rw[←HS.out,HSN.out];unfold ltKE;rw[hlb,if_pos ⟨hja,rfl⟩]
      clear hlb
      repeat' ((first
       |refine zaf rfl rfl ?_
       |refine zad rfl rfl ?_
       |refine zai rfl rfl ?_
       |refine zab rfl rfl ?_
       |(refine zae (v:=?_) rfl rfl (fun w' hE=>?_) ?_;rotate_left 1;(· ((try(have hEx:=Ext.trans (Hid.out XE) hE));go_simp;(try go_bits);with_reducible rfl)))
       |refine walks_alt ?_ ?_
       | (refine zah rfl rfl (fun K hK=>?_);go_wp2_with ((go_at_call 90;(with_reducible refine HCW.mono ?_);rintro e w2 ⟨rfl,hx2⟩;replace XE:=hid (Ext.trans (Hid.out XE) hx2)));refine hK _ _ (by first | assumption | exact Ext.alloc _ _ | exact Ext.refl _) ?_;clear hK K));try simp only [Act.put,Act.eval,evs])
      refine zag ?_
      clear px0 px1 py0 py1 x0 x1 y0 y1 HCW
      have HGW:=hid (HGE.out.later XE.out)
      have HBW:Hid (w.grownBy w2 (some g)):=HGM.out.2.trans (zaQ (hxD.trans XE.out) _)
      clear hxD XE
      go_wp2
      refine zap w0.heap.size (.read 0 (.read 1 (.read 2 (.read 3 (.read 4 (.read 5 (.read 6 (.read 7 (.read 8 (.read 10 (.read 11 (.read 12 (.alt 9 (.main 13 (.read 14 (.main 15 (.read 16 (.main 17 .done))))) (.main 13 (.main 9 (.read 14 (.main 15 (.read 16 (.main 17 .done))))))))))))))))))) (by kernel_rfl) (by kernel_rfl) ?_
      intro wD hxD
      have XB:Hid (Below w0.heap.size wD wD):=Below.refl _ _
      have HGD:=hid (HGW.out.later hxD)
      repeat' ((first
       |refine zaF rfl rfl ?_
       |refine zaw rfl rfl ?_
       |refine walksB_skip rfl rfl ?_
       |refine walksB_unwanted rfl rfl ?_
       |(refine zaC (v:=?_) rfl rfl (fun w' hE=>?_) ?_;rotate_left 1;(· ((try(have hEx:=Below.trans (Hid.out XB) hE));go_simp;(try go_bits);with_reducible rfl)))
       |(refine zam rfl rfl (fun K hK=>?_);(first|(refine zda _ rfl (j) rfl HGD.out x HXA.out ?_)|(refine zda _ rfl (q) rfl HGD.out y HYB.out ?_)|(refine zcy _ _ rfl (j) rfl y rfl HGD.out HKA.out ?_;intro w7 hg7 hb7 hf7;have HG7:=hid hg7;have HF7:=hid hf7;clear hg7 hf7;replace XB:=hid (Below.trans (Hid.out XB) (hb7)))|(refine zcy _ _ rfl (q) rfl x rfl HG7.out (by rw[List.length_set];exact HKB.out) ?_;intro w8 hg8 hb8 hf8;have HG8:=hid hg8;have HF8:=hid (HF7.out.trans hf8);clear hg8 hf8;replace XB:=hid (Below.trans (Hid.out XB) (hb8))));refine hK _ _ (by first|assumption|exact Below.refl _ _|exact Below.mono (Ext.alloc _ _) (Hid.out HSW)|exact Below.setCell (p:=⟨_,_,_⟩) (Below.refl _ _) (Nat.le_refl _) _) ?_;clear hK K)
       |refine zaL ?_ ?_
       | (refine zam rfl rfl (fun K hK=>?_);go_wp2_with (fail);refine hK _ _ (by first | assumption | exact Below.refl _ _ | exact Below.mono (Ext.alloc _ _) (Hid.out HSW) | exact Below.setCell (p:=⟨_,_,_⟩) (Below.refl _ _) (Nat.le_refl _) _) ?_;clear hK K));try simp only [Act.put,Act.eval,evs])
      all_goals
       refine zaG ?_
       rw[←HSW.out] at HG8
       have HBX:=hid ((HBW.out.trans (zaQ hxD _)).trans HF8.out)
       go_wp2
       exact⟨⟨q,_,by omega,haq,rfl,⟨HG8.out,HBX.out⟩,HFI,HML.out.trans' (zek HKA.out HKB.out (by omega) (by omega) (by omega) (by omega))⟩,by simp[intOf];omega⟩
    ·obtain rfl:j=a:=by omega
     have hja':decide (((j:Nat):Int)<(j:Int))=false:=by rw[decide_eq_false_iff_not];omega
     have HFI:Hid (insG (ltKE K) j (k+1) l=m):=by
      show _=_
      rw[←HS.out]
      cases j with
      |zero=>rfl
      |succ q=>rw[zdj,if_neg (by omega)]
     clear hja
     go_wp2
     refine zac (.read 0 (.read 1 (.read 2 (.read 3 (.read 4 (.read 5 (.read 6 (.read 7 (.read 8 (.read 9 (.read 10 (.read 11 (.read 12 (.read 13 (.main 14 (.read 15 (.read 16 .done))))))))))))))))) (by kernel_rfl) (by kernel_rfl) ?_
     intro wD hxD
     have XE:Hid (Ext wD wD):=Ext.refl _
     repeat' ((first
      |refine zaf rfl rfl ?_
      |refine zad rfl rfl ?_
      |refine zai rfl rfl ?_
      |refine zab rfl rfl ?_
      |(refine zae (v:=?_) rfl rfl (fun w' hE=>?_) ?_;rotate_left 1;(· ((try(have hEx:=Ext.trans (Hid.out XE) hE));go_simp;(try go_bits);with_reducible rfl)))
      |refine walks_alt ?_ ?_
      | (refine zah rfl rfl (fun K hK=>?_);go_wp2_with (fail);refine hK _ _ (by first | assumption | exact Ext.alloc _ _ | exact Ext.refl _) ?_;clear hK K));try simp only [Act.put,Act.eval,evs])
     refine zag ?_
     have HBX:=hid (HGM.out.2.trans (zaQ (hxD.trans XE.out) _))
     have HGE:=hid (HGM.out.1.later (hxD.trans XE.out))
     go_wp2
     refine⟨⟨k+1,by have:=HIK.out;omega,by have:=HIK.out;go_num,?_⟩,by have:=HIK.out;simp[intOf];omega⟩
     rw[HFI.out]
     exact⟨HGE.out,HBX.out⟩
  ·have hlt':¬((a+1+k:Nat):Int)<(b:Int):=by omega
   have HFI:Hid (b-(a+1)=k):=by show _=_;omega
   go_wp2
   go_end0
   rw[HFI.out] at HFIN
   exact⟨rfl,⟨_,HGR.out.1,HFIN.out⟩,HGR.out.2⟩
theorem zdm{w0 w:World}{g n cap a b c:Nat}{l:List EntC}(h:GVE w0 w (.slice (some ⟨g,0,none⟩) n cap) l)(ha:a+c≤b)(hb:b+c≤n)(hn:n≤4000000) :
 Calls Tryz.prog 207 #[.slice (some ⟨g,0,none⟩) n cap,.int .i64 a,.int .i64 b,.int .i64 c,zfX] w (zca (fun l'=>SwOk l l' a b c) w0 w g n cap):=by
 have HG0:=hid h
 have HLN:=hid h.n_eq
 clear h
 go_enter Tryz.func207,Tryz.ntmps207
 go_wp2
 go_loopw [10] (fun i wr=>∃(j:Nat) (m:List EntC),j≤c∧i=.int .i64 j∧Hid (GVE w0 wr (.slice (some ⟨g,0,none⟩) n cap) m∧w.grownBy wr (some g))∧Hid (SwOk l m a b j)) (fun i _=>c-(intOf i).toNat)
 case atStart=>exact⟨0,l,by omega,rfl,⟨HG0,World.grownBy.refl _ _⟩,SwOk.zero l a b 0 rfl⟩
 case round=>
  obtain⟨j,m,hj,rfl,HGM,HS⟩:=hrel
  by_cases hlt:j<c
  ·have hlt':(j:Int)<(c:Int):=by omega
   have hml:m.length=n:=by rw[HS.out.mv.len,HLN.out]
   obtain⟨p,hp⟩:∃p,p=a+j:=⟨_,rfl⟩
   obtain⟨q,hq⟩:∃q,q=b+j:=⟨_,rfl⟩
   have z0:(a:Int)+(j:Int)=(p:Int):=by omega
   have z1:(b:Int)+(j:Int)=(q:Int):=by omega
   have hpn:p<n:=by omega
   have hqn:q<n:=by omega
   have z2:(p:Int)<(n:Int):=by omega
   have z3:(q:Int)<(n:Int):=by omega
   obtain⟨x,hx⟩:∃x,m[p]?=some x:=⟨_,List.getElem?_eq_getElem (show p<m.length by omega)⟩
   obtain⟨y,hy⟩:∃y,m[q]?=some y:=⟨_,List.getElem?_eq_getElem (show q<m.length by omega)⟩
   have HKA:Hid (p<m.length):=by show _<_;omega
   have HKB:Hid (q<m.length):=by show _<_;omega
   have HXA:=hid hx
   have HYB:=hid hy
   have HSW:=hid (zcv hx hy)
   have HS2:Hid (SwOk l (zdi m p q) a b (j+1)):=by
    show SwOk _ _ _ _ _
    rw[hp,hq]
    exact HS.out.next (by omega) (by rw[←HLN.out];omega)
   clear hx hy hml hp hq
   go_wp2
   refine zap w0.heap.size (.read 0 (.read 1 (.read 2 (.read 3 (.read 4 (.read 5 (.read 6 (.read 7 (.read 8 (.read 9 (.read 10 (.read 11 (.read 12 (.read 14 (.read 15 (.read 16 (.read 17 (.read 18 (.alt 13 (.main 19 (.read 20 (.main 21 (.read 22 (.main 23 .done))))) (.main 19 (.main 13 (.read 20 (.main 21 (.read 22 (.main 23 .done))))))))))))))))))))))))) (by kernel_rfl) (by kernel_rfl) ?_
   intro wD hxD
   have XB:Hid (Below w0.heap.size wD wD):=Below.refl _ _
   have HGD:=hid (HGM.out.1.later hxD)
   repeat' ((first
    |refine zaF rfl rfl ?_
    |refine zaw rfl rfl ?_
    |refine walksB_skip rfl rfl ?_
    |refine walksB_unwanted rfl rfl ?_
    |(refine zaC (v:=?_) rfl rfl (fun w' hE=>?_) ?_;rotate_left 1;(· ((try(have hEx:=Below.trans (Hid.out XB) hE));go_simp;(try go_bits);with_reducible rfl)))
    |(refine zam rfl rfl (fun K hK=>?_);(first|(refine zda _ rfl (p) rfl HGD.out x HXA.out ?_)|(refine zda _ rfl (q) rfl HGD.out y HYB.out ?_)|(refine zcy _ _ rfl (p) rfl y rfl HGD.out HKA.out ?_;intro w7 hg7 hb7 hf7;have HG7:=hid hg7;have HF7:=hid hf7;clear hg7 hf7;replace XB:=hid (Below.trans (Hid.out XB) (hb7)))|(refine zcy _ _ rfl (q) rfl x rfl HG7.out (by rw[List.length_set];exact HKB.out) ?_;intro w8 hg8 hb8 hf8;have HG8:=hid hg8;have HF8:=hid (HF7.out.trans hf8);clear hg8 hf8;replace XB:=hid (Below.trans (Hid.out XB) (hb8))));refine hK _ _ (by first|assumption|exact Below.refl _ _|exact Below.mono (Ext.alloc _ _) (Hid.out HSW)|exact Below.setCell (p:=⟨_,_,_⟩) (Below.refl _ _) (Nat.le_refl _) _) ?_;clear hK K)
    |refine zaL ?_ ?_
    | (refine zam rfl rfl (fun K hK=>?_);go_wp2_with (fail);refine hK _ _ (by first | assumption | exact Below.refl _ _ | exact Below.mono (Ext.alloc _ _) (Hid.out HSW) | exact Below.setCell (p:=⟨_,_,_⟩) (Below.refl _ _) (Nat.le_refl _) _) ?_;clear hK K));try simp only [Act.put,Act.eval,evs])
   all_goals
    refine zaG ?_
    rw[←HSW.out] at HG8
    have HBX:=hid ((HGM.out.2.trans (zaQ hxD _)).trans HF8.out)
    go_wp2
    exact⟨⟨j+1,_,by omega,by go_num,⟨HG8.out,HBX.out⟩,HS2⟩,by simp[intOf];omega⟩
  ·obtain rfl:j=c:=by omega
   go_wp2
   go_end0
   exact⟨rfl,⟨m,HGM.out.1,HS.out⟩,HGM.out.2⟩
theorem zl2{w0 w:World}{g n cap a m b:Nat}{l:List EntC}(h:GVE w0 w (.slice (some ⟨g,0,none⟩) n cap) l)(h1:a<m)(h2:m<b)(h3:b≤n)(hn:n≤4000000) :
 Calls Tryz.prog 186 #[.slice (some ⟨g,0,none⟩) n cap,.int .i64 a,.int .i64 m,.int .i64 b,zfX] w (zca (fun l'=>RotOk l l' a m b) w0 w g n cap):=by
 have HG0:=hid h
 clear h
 go_enter Tryz.func186,Tryz.ntmps186
 go_wp2
 go_loopw [10,11] (fun u v wr=>∃(i j:Nat) (k:List EntC),1≤i∧1≤j∧i≤m∧m+j≤n∧u=.int .i64 i∧v=.int .i64 j∧Hid (GVE w0 wr (.slice (some ⟨g,0,none⟩) n cap) k∧w.grownBy wr (some g))∧Hid (∀l',RotOk k l' (m-i) m (m+j)→RotOk l l' a m b)) (fun u v _=>(intOf u).toNat+(intOf v).toNat)
 case atStart=>exact⟨m-a,b-m,l,by omega,by omega,by omega,by omega,by go_num,by go_num,⟨HG0,World.grownBy.refl _ _⟩,fun l' h=>by rwa[show m-(m-a)=a by omega,show m+(b-m)=b by omega] at h⟩
 case round=>
  obtain⟨i,j,k,hi,hj,him,hjn,rfl,rfl,HGK,HS⟩:=hrel
  obtain⟨p,hp⟩:∃p,p=m-i:=⟨_,rfl⟩
  have z0:(m:Int)-(i:Int)=(p:Int):=by omega
  have hp1:p+i≤m:=by omega
  have hp2:m≤p+i:=by omega
  have HPI:Hid (p=m-i):=hp
  clear hp
  by_cases hij:i=j
  ·subst hij
   have t0:((i:Int) != (i:Int))=false:=by simp
   go_wp2_with(go_at_call 207;(with_reducible refine(zdm (a:=p) (b:=m) (c:=i) HGK.out.1 (by omega) (by omega) hn).mono ?_);rintro e w3 ⟨rfl,⟨l3,hg3,hs3⟩,hb3⟩;have HG3:=hid hg3;have HS3:=hid hs3;have HB3:=hid hb3;clear hg3 hs3 hb3)
   go_end0
   rw[HPI.out] at HS3
   exact⟨rfl,⟨l3,HG3.out,HS.out l3 (RotOk.last him HS3.out)⟩,HGK.out.2.trans HB3.out⟩
  ·have t0:((i:Int) != (j:Int))=true:=by rw[bne_iff_ne];omega
   by_cases hgt:j<i
   ·have t1:(j:Int)<(i:Int):=by omega
    clear hij
    go_wp2_with(go_at_call 207;(with_reducible refine(zdm (a:=p) (b:=m) (c:=j) HGK.out.1 (by omega) (by omega) hn).mono ?_);rintro e w3 ⟨rfl,⟨l3,hg3,hs3⟩,hb3⟩;have HG3:=hid hg3;have HS3:=hid hs3;have HB3:=hid hb3;clear hg3 hs3 hb3)
    rw[HPI.out] at HS3
    exact⟨⟨i-j,j,l3,by omega,by omega,by omega,by omega,by go_num,rfl,⟨HG3.out,HGK.out.2.trans HB3.out⟩,fun l' h=>HS.out l' (RotOk.left him hgt HS3.out h)⟩,by simp[intOf];omega⟩
   ·have t1:¬(j:Int)<(i:Int):=by omega
    obtain⟨q,hq⟩:∃q,q=m+j-i:=⟨_,rfl⟩
    have z1:(m:Int)+(j:Int)-(i:Int)=(q:Int):=by omega
    have hq1:q+i≤m+j:=by omega
    have hq2:m+j≤q+i:=by omega
    have HQI:Hid (q=m+j-i):=hq
    clear hq
    go_wp2_with(go_at_call 207;(with_reducible refine(zdm (a:=p) (b:=q) (c:=i) HGK.out.1 (by omega) (by omega) hn).mono ?_);rintro e w3 ⟨rfl,⟨l3,hg3,hs3⟩,hb3⟩;have HG3:=hid hg3;have HS3:=hid hs3;have HB3:=hid hb3;clear hg3 hs3 hb3)
    rw[HPI.out,HQI.out] at HS3
    exact⟨⟨i,j-i,l3,by omega,by omega,by omega,by omega,rfl,by go_num,⟨HG3.out,HGK.out.2.trans HB3.out⟩,fun l' h=>HS.out l' (RotOk.right him (by omega) HS3.out h)⟩,by simp[intOf];omega⟩
end
section
open Go.RowKit
set_option maxRecDepth 100000
theorem zqv{K:EntC→EntC→Int}{P:EntC→Prop}{w0 w:World}{g n cap a m b:Nat}{l:List EntC}(hc:CmpOkE P K w0)(h:GVE w0 w (.slice (some ⟨g,0,none⟩) n cap) l)(hp:∀x∈l,P x)(h1:a<m)(h2:m<b)(h3:b≤n)(hn:n≤4000000)(hma:m=a+1) :
 Calls Tryz.prog 157 #[.slice (some ⟨g,0,none⟩) n cap,.int .i64 a,.int .i64 m,.int .i64 b,zfX] w (zca (fun l'=>SymOk (ltKE K) l l' a m b) w0 w g n cap):=by
 have HG0:=hid h
 have HC:=hid hc
 have HP:=hid hp
 have HML:Hid (l.length=n):=by show _=_;rw[h.n_eq]
 clear h hc hp
 have t0:((m:Int)-(a:Int)==1)=true:=by rw[beq_iff_eq];omega
 have hm1:m≤a+1:=by omega
 have HMA:Hid (m=a+1):=hma
 clear hma
 go_enter Tryz.func157,Tryz.ntmps157
 go_wp2
 go_loopw [10,11] (fun u v wr=>∃(i j:Nat),m≤i∧i≤j∧j≤b∧u=.int .i64 i∧v=.int .i64 j∧Hid (Ext w wr)∧Hid (BsA (ltKE K) l a b i j)) (fun u v _=>(intOf v).toNat-(intOf u).toNat)
 case atStart=>exact⟨m,b,by omega,by omega,by omega,rfl,rfl,Ext.refl _,by rw[HMA.out];exact BsA.start l⟩
 case round=>
  obtain⟨i,j,hi,hij,hj,rfl,rfl,HX,HBS⟩:=hrel
  have HGM:=hid (HG0.out.later HX.out)
  by_cases hlt:i<j
  ·have hlt':(i:Int)<(j:Int):=by omega
   obtain⟨q,hq⟩:∃q,q=(i+j) / 2:=⟨_,rfl⟩
   have hq1:i≤q:=by omega
   have hq2:q<j:=by omega
   have zq:((i:Int)+(j:Int)) / 2=(q:Int):=by omega
   clear hq
   have hml:=HML.out
   obtain⟨x,hx⟩:∃x,l[q]?=some x:=⟨_,List.getElem?_eq_getElem (show q<l.length by omega)⟩
   obtain⟨y,hy⟩:∃y,l[a]?=some y:=⟨_,List.getElem?_eq_getElem (show a<l.length by omega)⟩
   have z2:(q:Int)<(n:Int):=by omega
   have z3:(a:Int)<(n:Int):=by omega
   have z4:q<n:=by omega
   have z5:a<n:=by omega
   have x0:=HGM.out.at0 hx
   have x1:=HGM.out.at1 hx
   have y0:=HGM.out.at0 hy
   have y1:=HGM.out.at1 hy
   have HPX:=hid (HP.out x (List.mem_of_getElem? hx))
   have HPY:=hid (HP.out y (List.mem_of_getElem? hy))
   have HXQ:=hid hx
   have HYQ:=hid hy
   clear hx hy hml
   cases hcb:decide (K x y<0) with
   |false=>
    have HBN:=hid (HBS.out.down (by have:=HMA.out;omega) hq1 hq2 hj HXQ.out HYQ.out hcb)
    go_wp2
    refine zac (.read 0 (.read 1 (.read 2 (.read 3 (.read 4 (.read 5 (.read 6 (.read 7 (.read 8 (.main 9 (.read 10 .done))))))))))) (by kernel_rfl) (by kernel_rfl) ?_
    intro wD hxD
    have XE:Hid (Ext wD wD):=Ext.refl _
    have px0:=zaa (zaa x0 _ hxD)
    have px1:=zaa (zaa x1 _ hxD)
    have py0:=zaa (zaa y0 _ hxD)
    have py1:=zaa (zaa y1 _ hxD)
    have HCW:=HC.out.at_ (HGM.out.ext.trans hxD) x y HPX.out HPY.out
    repeat' ((first
     |refine zaf rfl rfl ?_
     |refine zad rfl rfl ?_
     |refine zai rfl rfl ?_
     |refine zab rfl rfl ?_
     |(refine zae (v:=?_) rfl rfl (fun w' hE=>?_) ?_;rotate_left 1;(· ((try(have hEx:=Ext.trans (Hid.out XE) hE));go_simp;(try go_bits);with_reducible rfl)))
     |refine walks_alt ?_ ?_
     | (refine zah rfl rfl (fun K hK=>?_);go_wp2_with ((go_at_call 90;(with_reducible refine HCW.mono ?_);rintro e w2 ⟨rfl,hx2⟩;replace XE:=hid (Ext.trans (Hid.out XE) hx2)));refine hK _ _ (by first | assumption | exact Ext.alloc _ _ | exact Ext.refl _) ?_;clear hK K));try simp only [Act.put,Act.eval,evs])
    refine zag ?_
    have HXW:=hid (hxD.trans XE.out)
    clear px0 px1 py0 py1 x0 x1 y0 y1
    go_wp2
    exact⟨⟨i,q,by omega,by omega,by omega,rfl,rfl,HX.out.trans HXW.out,HBN⟩,by simp[intOf];omega⟩
   |true=>
    have HBN:=hid (HBS.out.up (by have:=HMA.out;omega) hq1 hq2 hj HXQ.out HYQ.out hcb)
    have hc:=of_decide_eq_true hcb
    clear hcb
    go_wp2
    refine zac (.read 0 (.read 1 (.read 2 (.read 3 (.read 4 (.read 5 (.read 6 (.read 7 (.read 8 (.main 9 (.read 10 .done))))))))))) (by kernel_rfl) (by kernel_rfl) ?_
    intro wD hxD
    have XE:Hid (Ext wD wD):=Ext.refl _
    have px0:=zaa (zaa x0 _ hxD)
    have px1:=zaa (zaa x1 _ hxD)
    have py0:=zaa (zaa y0 _ hxD)
    have py1:=zaa (zaa y1 _ hxD)
    have HCW:=HC.out.at_ (HGM.out.ext.trans hxD) x y HPX.out HPY.out
    repeat' ((first
     |refine zaf rfl rfl ?_
     |refine zad rfl rfl ?_
     |refine zai rfl rfl ?_
     |refine zab rfl rfl ?_
     |(refine zae (v:=?_) rfl rfl (fun w' hE=>?_) ?_;rotate_left 1;(· ((try(have hEx:=Ext.trans (Hid.out XE) hE));go_simp;(try go_bits);with_reducible rfl)))
     |refine walks_alt ?_ ?_
     | (refine zah rfl rfl (fun K hK=>?_);go_wp2_with ((go_at_call 90;(with_reducible refine HCW.mono ?_);rintro e w2 ⟨rfl,hx2⟩;replace XE:=hid (Ext.trans (Hid.out XE) hx2)));refine hK _ _ (by first | assumption | exact Ext.alloc _ _ | exact Ext.refl _) ?_;clear hK K));try simp only [Act.put,Act.eval,evs])
    refine zag ?_
    have HXW:=hid (hxD.trans XE.out)
    clear px0 px1 py0 py1 x0 x1 y0 y1
    go_wp2
    exact⟨⟨q+1,j,by omega,by omega,by omega,by go_num,rfl,HX.out.trans HXW.out,HBN⟩,by simp[intOf];omega⟩
  ·have hlt':¬(i:Int)<(j:Int):=by omega
   have HBE:Hid (BsA (ltKE K) l a b i i):=by
    have e:j=i:=by omega
    rw[e] at HBS
    exact HBS
   have HIB:Hid (i≤b):=by show _≤_;omega
   obtain⟨i1,hi1⟩:∃i1,i1=i-1:=⟨_,rfl⟩
   have zi:(i:Int)-1=(i1:Int):=by omega
   have hb1:a≤i1:=by omega
   have hb2:i1<n:=by omega
   have HII:Hid (i=i1+1):=by show _=_;omega
   clear hi1
   have HBR:Hid (w.grownBy wr (some g)):=zaQ HX.out _
   go_wp2
   go_loopw [13] (fun u wq=>∃(k:Nat) (m1:List EntC),a≤k∧k≤i1∧u=.int .i64 k∧Hid (GVE w0 wq (.slice (some ⟨g,0,none⟩) n cap) m1∧w.grownBy wq (some g))∧Hid (RotOk l m1 a (a+1) (k+1))) (fun u _=>i1-(intOf u).toNat)
   case atStart=>exact⟨a,l,by omega,by omega,rfl,⟨HGM.out,HBR.out⟩,RotOk.same l (.inr rfl) (by omega) (by omega)⟩
   case round=>
    obtain⟨k,m1,hk1,hk2,rfl,HGK,HS⟩:=hrel
    by_cases hlt2:k<i1
    ·have hlt2':(k:Int)<(i1:Int):=by omega
     have HRN:=hid (HS.out.upNext hk1 (by have:=HML.out;omega))
     obtain⟨k1,hk3⟩:∃k1,k1=k+1:=⟨_,rfl⟩
     have zk:(k:Int)+1=(k1:Int):=by omega
     have hk4:k1≤i1:=by omega
     have hk5:k<k1:=by omega
     have HM1:Hid (m1.length=n):=by show _=_;rw[HS.out.mv.len];exact HML.out
     clear HML
     have HML:=HM1
     have hml:=HML.out
     obtain⟨x,hx⟩:∃x,m1[k]?=some x:=⟨_,List.getElem?_eq_getElem (show k<m1.length by omega)⟩
     obtain⟨y,hy⟩:∃y,m1[k1]?=some y:=⟨_,List.getElem?_eq_getElem (show k1<m1.length by omega)⟩
     have z2:(k:Int)<(n:Int):=by omega
     have z3:(k1:Int)<(n:Int):=by omega
     have z4:k<n:=by omega
     have z5:k1<n:=by omega
     have HKA:Hid (k<m1.length):=by show _<_;omega
     have HKB:Hid (k1<m1.length):=by show _<_;omega
     have HXA:=hid hx
     have HYB:=hid hy
     have HSW:=hid (zcv hx hy)
     clear hx hy hml
     have HRE:Hid (RotOk l (zdi m1 k k1) a (a+1) (k1+1)):=by rw[hk3];exact HRN
     clear hk3 HRN
     go_wp2
     refine zap w0.heap.size (.read 0 (.read 1 (.read 2 (.read 3 (.read 4 (.read 5 (.read 6 (.read 7 (.read 8 (.read 10 (.read 11 (.read 12 (.alt 9 (.main 13 (.read 14 (.main 15 (.read 16 (.main 17 .done))))) (.main 13 (.main 9 (.read 14 (.main 15 (.read 16 (.main 17 .done))))))))))))))))))) (by kernel_rfl) (by kernel_rfl) ?_
     intro wD hxD
     have XB:Hid (Below w0.heap.size wD wD):=Below.refl _ _
     have HGD:=hid (HGK.out.1.later hxD)
     repeat' ((first
      |refine zaF rfl rfl ?_
      |refine zaw rfl rfl ?_
      |refine walksB_skip rfl rfl ?_
      |refine walksB_unwanted rfl rfl ?_
      |(refine zaC (v:=?_) rfl rfl (fun w' hE=>?_) ?_;rotate_left 1;(· ((try(have hEx:=Below.trans (Hid.out XB) hE));go_simp;(try go_bits);with_reducible rfl)))
      |(refine zam rfl rfl (fun K hK=>?_);(first|(refine zda _ rfl (k) rfl HGD.out x HXA.out ?_)|(refine zda _ rfl (k1) rfl HGD.out y HYB.out ?_)|(refine zcy _ _ rfl (k) rfl y rfl HGD.out HKA.out ?_;intro w7 hg7 hb7 hf7;have HG7:=hid hg7;have HF7:=hid hf7;clear hg7 hf7;replace XB:=hid (Below.trans (Hid.out XB) (hb7)))|(refine zcy _ _ rfl (k1) rfl x rfl HG7.out (by rw[List.length_set];exact HKB.out) ?_;intro w8 hg8 hb8 hf8;have HG8:=hid hg8;have HF8:=hid (HF7.out.trans hf8);clear hg8 hf8;replace XB:=hid (Below.trans (Hid.out XB) (hb8))));refine hK _ _ (by first|assumption|exact Below.refl _ _|exact Below.mono (Ext.alloc _ _) (Hid.out HSW)|exact Below.setCell (p:=⟨_,_,_⟩) (Below.refl _ _) (Nat.le_refl _) _) ?_;clear hK K)
      |refine zaL ?_ ?_
      | (refine zam rfl rfl (fun K hK=>?_);go_wp2_with (fail);refine hK _ _ (by first | assumption | exact Below.refl _ _ | exact Below.mono (Ext.alloc _ _) (Hid.out HSW) | exact Below.setCell (p:=⟨_,_,_⟩) (Below.refl _ _) (Nat.le_refl _) _) ?_;clear hK K));try simp only [Act.put,Act.eval,evs])
     all_goals
      refine zaG ?_
      rw[←HSW.out] at HG8
      have HBX:=hid ((HGK.out.2.trans (zaQ hxD _)).trans HF8.out)
      go_wp2
      exact⟨⟨k1,_,by omega,by omega,rfl,⟨HG8.out,HBX.out⟩,HRE⟩,by simp[intOf];omega⟩
    ·have hlt2':¬(k:Int)<(i1:Int):=by omega
     have HEN:Hid (SymOk (ltKE K) l m1 a m b):=by
      have e:k+1=i:=by have:=HII.out;omega
      show SymOk _ _ _ _ _ _
      rw[HMA.out]
      refine SymOk.one HBE.out (by have:=HMA.out;omega) HIB.out ?_
      rw[←e]
      exact HS.out
     go_wp2
     (try simp only[Exit.inBlock,Exit.then])
     refine bodyPost_ret (results_none rfl _ _ _) rfl ?_
     exact⟨rfl,⟨m1,HGK.out.1,HEN.out⟩,HGK.out.2⟩
theorem zq3{K:EntC→EntC→Int}{P:EntC→Prop}{w0 w:World}{g n cap a m b:Nat}{l:List EntC}(hc:CmpOkE P K w0)(h:GVE w0 w (.slice (some ⟨g,0,none⟩) n cap) l)(hp:∀x∈l,P x)(h1:a<m)(h2:m<b)(h3:b≤n)(hn:n≤4000000)(hma:¬m=a+1)(hbm:b=m+1) :
 Calls Tryz.prog 157 #[.slice (some ⟨g,0,none⟩) n cap,.int .i64 a,.int .i64 m,.int .i64 b,zfX] w (zca (fun l'=>SymOk (ltKE K) l l' a m b) w0 w g n cap):=by
 have HG0:=hid h
 have HC:=hid hc
 have HP:=hid hp
 have HML:Hid (l.length=n):=by show _=_;rw[h.n_eq]
 clear h hc hp
 have t0:((m:Int)-(a:Int)==1)=false:=by rw[beq_eq_false_iff_ne];omega
 have t1:((b:Int)-(m:Int)==1)=true:=by rw[beq_iff_eq];omega
 have hbm1:b≤m+1:=by omega
 have hmn:m<n:=by omega
 have hmn':(m:Int)<(n:Int):=by omega
 have HBM:Hid (b=m+1):=hbm
 clear hma hbm
 go_enter Tryz.func157,Tryz.ntmps157
 go_wp2
 go_loopw [14,15] (fun u v wr=>∃(i j:Nat),a≤i∧i≤j∧j≤m∧u=.int .i64 i∧v=.int .i64 j∧Hid (Ext w wr)∧Hid (BsB (ltKE K) l a m i j)) (fun u v _=>(intOf v).toNat-(intOf u).toNat)
 case atStart=>exact⟨a,m,by omega,by omega,by omega,rfl,rfl,Ext.refl _,BsB.start l⟩
 case round=>
  obtain⟨i,j,hi,hij,hj,rfl,rfl,HX,HBS⟩:=hrel
  have HGM:=hid (HG0.out.later HX.out)
  by_cases hlt:i<j
  ·have hlt':(i:Int)<(j:Int):=by omega
   obtain⟨q,hq⟩:∃q,q=(i+j) / 2:=⟨_,rfl⟩
   have hq1:i≤q:=by omega
   have hq2:q<j:=by omega
   have zq:((i:Int)+(j:Int)) / 2=(q:Int):=by omega
   clear hq
   have hml:=HML.out
   obtain⟨x,hx⟩:∃x,l[m]?=some x:=⟨_,List.getElem?_eq_getElem (show m<l.length by omega)⟩
   obtain⟨y,hy⟩:∃y,l[q]?=some y:=⟨_,List.getElem?_eq_getElem (show q<l.length by omega)⟩
   have z2:(m:Int)<(n:Int):=by omega
   have z3:(q:Int)<(n:Int):=by omega
   have z4:m<n:=by omega
   have z5:q<n:=by omega
   have x0:=HGM.out.at0 hx
   have x1:=HGM.out.at1 hx
   have y0:=HGM.out.at0 hy
   have y1:=HGM.out.at1 hy
   have HPX:=hid (HP.out x (List.mem_of_getElem? hx))
   have HPY:=hid (HP.out y (List.mem_of_getElem? hy))
   have HXQ:=hid hx
   have HYQ:=hid hy
   clear hx hy hml
   cases hcb:decide (K x y<0) with
   |false=>
    have HBN:=hid (HBS.out.up hi hq1 hq2 hj HXQ.out HYQ.out hcb)
    go_wp2
    refine zac (.read 0 (.read 1 (.read 2 (.read 3 (.read 4 (.read 5 (.read 6 (.read 7 (.read 8 (.main 9 (.read 10 (.read 11 .done)))))))))))) (by kernel_rfl) (by kernel_rfl) ?_
    intro wD hxD
    have XE:Hid (Ext wD wD):=Ext.refl _
    have px0:=zaa (zaa x0 _ hxD)
    have px1:=zaa (zaa x1 _ hxD)
    have py0:=zaa (zaa y0 _ hxD)
    have py1:=zaa (zaa y1 _ hxD)
    have HCW:=HC.out.at_ (HGM.out.ext.trans hxD) x y HPX.out HPY.out
    repeat' ((first
     |refine zaf rfl rfl ?_
     |refine zad rfl rfl ?_
     |refine zai rfl rfl ?_
     |refine zab rfl rfl ?_
     |(refine zae (v:=?_) rfl rfl (fun w' hE=>?_) ?_;rotate_left 1;(· ((try(have hEx:=Ext.trans (Hid.out XE) hE));go_simp;(try go_bits);with_reducible rfl)))
     |refine walks_alt ?_ ?_
     | (refine zah rfl rfl (fun K hK=>?_);go_wp2_with ((go_at_call 90;(with_reducible refine HCW.mono ?_);rintro e w2 ⟨rfl,hx2⟩;replace XE:=hid (Ext.trans (Hid.out XE) hx2)));refine hK _ _ (by first | assumption | exact Ext.alloc _ _ | exact Ext.refl _) ?_;clear hK K));try simp only [Act.put,Act.eval,evs])
    refine zag ?_
    have HXW:=hid (hxD.trans XE.out)
    clear px0 px1 py0 py1 x0 x1 y0 y1
    go_wp2
    exact⟨⟨q+1,j,by omega,by omega,by omega,by go_num,rfl,HX.out.trans HXW.out,HBN⟩,by simp[intOf];omega⟩
   |true=>
    have HBN:=hid (HBS.out.down hi hq1 hq2 hj HXQ.out HYQ.out hcb)
    have hc:=of_decide_eq_true hcb
    clear hcb
    go_wp2
    refine zac (.read 0 (.read 1 (.read 2 (.read 3 (.read 4 (.read 5 (.read 6 (.read 7 (.read 8 (.main 9 (.read 10 (.read 11 .done)))))))))))) (by kernel_rfl) (by kernel_rfl) ?_
    intro wD hxD
    have XE:Hid (Ext wD wD):=Ext.refl _
    have px0:=zaa (zaa x0 _ hxD)
    have px1:=zaa (zaa x1 _ hxD)
    have py0:=zaa (zaa y0 _ hxD)
    have py1:=zaa (zaa y1 _ hxD)
    have HCW:=HC.out.at_ (HGM.out.ext.trans hxD) x y HPX.out HPY.out
    repeat' ((first
     |refine zaf rfl rfl ?_
     |refine zad rfl rfl ?_
     |refine zai rfl rfl ?_
     |refine zab rfl rfl ?_
     |(refine zae (v:=?_) rfl rfl (fun w' hE=>?_) ?_;rotate_left 1;(· ((try(have hEx:=Ext.trans (Hid.out XE) hE));go_simp;(try go_bits);with_reducible rfl)))
     |refine walks_alt ?_ ?_
     | (refine zah rfl rfl (fun K hK=>?_);go_wp2_with ((go_at_call 90;(with_reducible refine HCW.mono ?_);rintro e w2 ⟨rfl,hx2⟩;replace XE:=hid (Ext.trans (Hid.out XE) hx2)));refine hK _ _ (by first | assumption | exact Ext.alloc _ _ | exact Ext.refl _) ?_;clear hK K));try simp only [Act.put,Act.eval,evs])
    refine zag ?_
    have HXW:=hid (hxD.trans XE.out)
    clear px0 px1 py0 py1 x0 x1 y0 y1
    go_wp2
    exact⟨⟨i,q,by omega,by omega,by omega,rfl,rfl,HX.out.trans HXW.out,HBN⟩,by simp[intOf];omega⟩
  ·have hlt':¬(i:Int)<(j:Int):=by omega
   have HBE:Hid (BsB (ltKE K) l a m i i):=by
    have e:j=i:=by omega
    rw[e] at HBS
    exact HBS
   have HIM:Hid (i≤m):=by show _≤_;omega
   have HBR:Hid (w.grownBy wr (some g)):=zaQ HX.out _
   go_wp2
   go_loopw [17] (fun u wq=>∃(k:Nat) (m1:List EntC),i≤k∧k≤m∧u=.int .i64 k∧Hid (GVE w0 wq (.slice (some ⟨g,0,none⟩) n cap) m1∧w.grownBy wq (some g))∧Hid (RotOk l m1 k m (m+1))) (fun u _=>(intOf u).toNat)
   case atStart=>exact⟨m,l,by omega,by omega,rfl,⟨HGM.out,HBR.out⟩,RotOk.same l (.inl rfl) (by omega) (by omega)⟩
   case round=>
    obtain⟨k,m1,hk1,hk2,rfl,HGK,HS⟩:=hrel
    by_cases hlt2:i<k
    ·have hlt2':(i:Int)<(k:Int):=by omega
     obtain⟨k1,hk3⟩:∃k1,k1=k-1:=⟨_,rfl⟩
     have HRE:=hid (HS.out.downNext (k1:=k1) (by omega) hk2 (by have:=HML.out;omega))
     have zk:(k:Int)-1=(k1:Int):=by omega
     have hk4:k1<k:=by omega
     have hk5:i≤k1:=by omega
     have HM1:Hid (m1.length=n):=by show _=_;rw[HS.out.mv.len];exact HML.out
     clear HML
     have HML:=HM1
     have hml:=HML.out
     obtain⟨x,hx⟩:∃x,m1[k]?=some x:=⟨_,List.getElem?_eq_getElem (show k<m1.length by omega)⟩
     obtain⟨y,hy⟩:∃y,m1[k1]?=some y:=⟨_,List.getElem?_eq_getElem (show k1<m1.length by omega)⟩
     have z2:(k:Int)<(n:Int):=by omega
     have z3:(k1:Int)<(n:Int):=by omega
     have z4:k<n:=by omega
     have z5:k1<n:=by omega
     have HKA:Hid (k<m1.length):=by show _<_;omega
     have HKB:Hid (k1<m1.length):=by show _<_;omega
     have HXA:=hid hx
     have HYB:=hid hy
     have HSW:=hid (zcv hx hy)
     clear hx hy hml
     clear hk3
     go_wp2
     refine zap w0.heap.size (.read 0 (.read 1 (.read 2 (.read 3 (.read 4 (.read 5 (.read 6 (.read 7 (.read 8 (.read 10 (.read 11 (.read 12 (.alt 9 (.main 13 (.read 14 (.main 15 (.read 16 (.main 17 .done))))) (.main 13 (.main 9 (.read 14 (.main 15 (.read 16 (.main 17 .done))))))))))))))))))) (by kernel_rfl) (by kernel_rfl) ?_
     intro wD hxD
     have XB:Hid (Below w0.heap.size wD wD):=Below.refl _ _
     have HGD:=hid (HGK.out.1.later hxD)
     repeat' ((first
      |refine zaF rfl rfl ?_
      |refine zaw rfl rfl ?_
      |refine walksB_skip rfl rfl ?_
      |refine walksB_unwanted rfl rfl ?_
      |(refine zaC (v:=?_) rfl rfl (fun w' hE=>?_) ?_;rotate_left 1;(· ((try(have hEx:=Below.trans (Hid.out XB) hE));go_simp;(try go_bits);with_reducible rfl)))
      |(refine zam rfl rfl (fun K hK=>?_);(first|(refine zda _ rfl (k) rfl HGD.out x HXA.out ?_)|(refine zda _ rfl (k1) rfl HGD.out y HYB.out ?_)|(refine zcy _ _ rfl (k) rfl y rfl HGD.out HKA.out ?_;intro w7 hg7 hb7 hf7;have HG7:=hid hg7;have HF7:=hid hf7;clear hg7 hf7;replace XB:=hid (Below.trans (Hid.out XB) (hb7)))|(refine zcy _ _ rfl (k1) rfl x rfl HG7.out (by rw[List.length_set];exact HKB.out) ?_;intro w8 hg8 hb8 hf8;have HG8:=hid hg8;have HF8:=hid (HF7.out.trans hf8);clear hg8 hf8;replace XB:=hid (Below.trans (Hid.out XB) (hb8))));refine hK _ _ (by first|assumption|exact Below.refl _ _|exact Below.mono (Ext.alloc _ _) (Hid.out HSW)|exact Below.setCell (p:=⟨_,_,_⟩) (Below.refl _ _) (Nat.le_refl _) _) ?_;clear hK K)
      |refine zaL ?_ ?_
      | (refine zam rfl rfl (fun K hK=>?_);go_wp2_with (fail);refine hK _ _ (by first | assumption | exact Below.refl _ _ | exact Below.mono (Ext.alloc _ _) (Hid.out HSW) | exact Below.setCell (p:=⟨_,_,_⟩) (Below.refl _ _) (Nat.le_refl _) _) ?_;clear hK K));try simp only [Act.put,Act.eval,evs])
     all_goals
      refine zaG ?_
      rw[←HSW.out] at HG8
      have HBX:=hid ((HGK.out.2.trans (zaQ hxD _)).trans HF8.out)
      go_wp2
      exact⟨⟨k1,_,by omega,by omega,rfl,⟨HG8.out,HBX.out⟩,HRE⟩,by simp[intOf];omega⟩
    ·have hlt2':¬(i:Int)<(k:Int):=by omega
     have HEN:Hid (SymOk (ltKE K) l m1 a m b):=by
      have e:k=i:=by omega
      show SymOk _ _ _ _ _ _
      rw[HBM.out]
      refine SymOk.two HBE.out hi HIM.out ?_
      rw[←e]
      exact HS.out
     go_wp2
     (try simp only[Exit.inBlock,Exit.then])
     refine bodyPost_ret (results_none rfl _ _ _) rfl ?_
     exact⟨rfl,⟨m1,HGK.out.1,HEN.out⟩,HGK.out.2⟩
def zgE(d:Nat):Prop:=∀(w0 w:World) (g n cap a m b:Nat) (l:List EntC) (K:EntC→EntC→Int) (P:EntC→Prop),b-a≤d→CmpOkE P K w0→GVE w0 w (.slice (some ⟨g,0,none⟩) n cap) l→(∀x∈l,P x)→a<m→m<b→b≤n→n≤4000000 →
 Calls Tryz.prog 157 #[.slice (some ⟨g,0,none⟩) n cap,.int .i64 a,.int .i64 m,.int .i64 b,zfX] w (zca (fun l'=>SymOk (ltKE K) l l' a m b) w0 w g n cap)
theorem znW(d:Nat)(IH:Hid (zgE d)){K:EntC→EntC→Int}{P:EntC→Prop}{w0 w:World}{g n cap a m b:Nat}{l:List EntC}(hc:CmpOkE P K w0)(h:GVE w0 w (.slice (some ⟨g,0,none⟩) n cap) l)(hp:∀x∈l,P x)(h1:a<m)(h2:m<b)(h3:b≤n)(hn:n≤4000000)(hd:b-a≤d+1)(hma:¬m=a+1)(hbm:¬b=m+1) :
 Calls Tryz.prog 157 #[.slice (some ⟨g,0,none⟩) n cap,.int .i64 a,.int .i64 m,.int .i64 b,zfX] w (zca (fun l'=>SymOk (ltKE K) l l' a m b) w0 w g n cap):=by
 have HIH:=IH.out
 unfold zgE at HIH
 clear IH
 have HG0:=hid h
 have HC:=hid hc
 have HP:=hid hp
 have HML:Hid (l.length=n):=by show _=_;rw[h.n_eq]
 clear h hc hp
 have t0:((m:Int)-(a:Int)==1)=false:=by rw[beq_eq_false_iff_ne];omega
 have t1:((b:Int)-(m:Int)==1)=false:=by rw[beq_eq_false_iff_ne];omega
 obtain⟨md,hmd⟩:∃md,md=(a+b) / 2:=⟨_,rfl⟩
 have zmd:((a:Int)+(b:Int)) / 2=(md:Int):=by omega
 have hmd1:2 * md≤a+b:=by omega
 have hmd2:a+b≤2 * md+1:=by omega
 have hma1:a+2≤m:=by omega
 have hmb1:m+2≤b:=by omega
 clear hmd hma hbm
 obtain⟨nn,hnn⟩:∃nn,nn=md+m:=⟨_,rfl⟩
 obtain⟨pp,hpp⟩:∃pp,pp=md+m-1:=⟨_,rfl⟩
 have zn:(md:Int)+(m:Int)=(nn:Int):=by omega
 have zp:(nn:Int)-1=(pp:Int):=by omega
 have hn1:nn≤md+m:=by omega
 have hn2:md+m≤nn:=by omega
 have hp1:pp+1≤nn:=by omega
 have hp2:nn≤pp+1:=by omega
 clear hnn hpp
 go_enter Tryz.func157,Tryz.ntmps157
 go_upto_if 140 with fail
 go_cut [20,21] (fun u v wx=>∃s r:Nat,u=.int .i64 s∧v=.int .i64 r∧Hid (Ext w wx)∧a≤s∧s≤r∧r≤m∧r≤md∧md+m≤s+b∧Hid (BsAt a m b pp s r))
 case first=>
  by_cases hmm:md<m
  ·have t2:decide ((md:Int)<(m:Int))=true:=by rw[decide_eq_true_eq];omega
   have t3:decide (md<m)=true:=by rw[decide_eq_true_eq];omega
   have HBZ:Hid (BsAt a m b pp (md+m-b) md):=⟨by omega,by omega,by omega,by omega,by omega,by omega,by omega⟩
   go_wp2
   go_meet
   exact⟨md+m-b,md,by go_num,rfl,Ext.refl _,by omega,by omega,by omega,by omega,by omega,HBZ⟩
  ·have t2:decide ((md:Int)<(m:Int))=false:=by rw[decide_eq_false_iff_not];omega
   have t3:decide (md<m)=false:=by rw[decide_eq_false_iff_not];omega
   have HBZ:Hid (BsAt a m b pp a m):=⟨by omega,by omega,by omega,by omega,by omega,by omega,by omega⟩
   go_wp2
   go_meet
   exact⟨a,m,rfl,rfl,Ext.refl _,by omega,by omega,by omega,by omega,by omega,HBZ⟩
 case rest=>
  obtain⟨s0,r0,rfl,rfl,HXC,hs1,hs2,hs3,hs4,hs5,HBZ⟩:=hcut
  go_wp2
  go_loopw [20,21] (fun u v wr=>∃(s r:Nat),a≤s∧s≤r∧r≤m∧r≤md∧md+m≤s+b∧u=.int .i64 s∧v=.int .i64 r∧Hid (Ext w wr)∧Hid (BsC (ltKE K) l a m b pp s0 r0 s r∧s0≤s∧r≤r0)) (fun u v _=>(intOf v).toNat-(intOf u).toNat)
  case atStart=>exact⟨s0,r0,by omega,by omega,by omega,by omega,by omega,rfl,rfl,HXC.out,BsC.start l _ _ _,Nat.le_refl _,Nat.le_refl _⟩
  case round=>
   clear hs1 hs2 hs3 hs4 hs5
   obtain⟨s,r,hs1,hs2,hs3,hs4,hs5,rfl,rfl,HX,HBS⟩:=hrel
   have HGM:=hid (HG0.out.later HX.out)
   by_cases hlt:s<r
   ·have hlt':(s:Int)<(r:Int):=by omega
    obtain⟨q,hq⟩:∃q,q=(s+r) / 2:=⟨_,rfl⟩
    have hq1:s≤q:=by omega
    have hq2:q<r:=by omega
    have zq:((s:Int)+(r:Int)) / 2=(q:Int):=by omega
    obtain⟨t,ht⟩:∃t,t=pp-q:=⟨_,rfl⟩
    have zt:(pp:Int)-(q:Int)=(t:Int):=by omega
    have ht1:t<n:=by omega
    have hq3:q<n:=by omega
    have HTT:Hid (pp-q=t):=ht.symm
    clear hq ht HIH
    have hml:=HML.out
    obtain⟨x,hx⟩:∃x,l[t]?=some x:=⟨_,List.getElem?_eq_getElem (show t<l.length by omega)⟩
    obtain⟨y,hy⟩:∃y,l[q]?=some y:=⟨_,List.getElem?_eq_getElem (show q<l.length by omega)⟩
    have z2:(t:Int)<(n:Int):=by omega
    have z3:(q:Int)<(n:Int):=by omega
    have z4:t<n:=by omega
    have z5:q<n:=by omega
    have x0:=HGM.out.at0 hx
    have x1:=HGM.out.at1 hx
    have y0:=HGM.out.at0 hy
    have y1:=HGM.out.at1 hy
    have HPX:=hid (HP.out x (List.mem_of_getElem? hx))
    have HPY:=hid (HP.out y (List.mem_of_getElem? hy))
    have HXQ:=hid hx
    have HYQ:=hid hy
    clear hx hy hml
    have HXR:Hid (l[pp-q]?=some x):=by show _=_;rw[HTT.out];exact HXQ.out
    cases hcb:decide (K x y<0) with
    |false=>
     have HBN:Hid (BsC (ltKE K) l a m b pp s0 r0 (q+1) r∧s0≤q+1∧r≤r0):=by
      obtain⟨k1,k2,k3⟩:=HBS.out
      exact⟨k1.up HBZ.out k2 hq1 hq2 k3 HYQ.out HXR.out hcb,by omega,k3⟩
     go_wp2
     refine zac (.read 0 (.read 1 (.read 2 (.read 3 (.read 4 (.read 5 (.read 6 (.read 7 (.read 8 (.read 9 (.read 10 (.main 11 (.read 12 (.read 13 .done)))))))))))))) (by kernel_rfl) (by kernel_rfl) ?_
     intro wD hxD
     have XE:Hid (Ext wD wD):=Ext.refl _
     have px0:=zaa (zaa x0 _ hxD)
     have px1:=zaa (zaa x1 _ hxD)
     have py0:=zaa (zaa y0 _ hxD)
     have py1:=zaa (zaa y1 _ hxD)
     have HCW:=HC.out.at_ (HGM.out.ext.trans hxD) x y HPX.out HPY.out
     repeat' ((first
      |refine zaf rfl rfl ?_
      |refine zad rfl rfl ?_
      |refine zai rfl rfl ?_
      |refine zab rfl rfl ?_
      |(refine zae (v:=?_) rfl rfl (fun w' hE=>?_) ?_;rotate_left 1;(· ((try(have hEx:=Ext.trans (Hid.out XE) hE));go_simp;(try go_bits);with_reducible rfl)))
      |refine walks_alt ?_ ?_
      | (refine zah rfl rfl (fun K hK=>?_);go_wp2_with ((go_at_call 90;(with_reducible refine HCW.mono ?_);rintro e w2 ⟨rfl,hx2⟩;replace XE:=hid (Ext.trans (Hid.out XE) hx2)));refine hK _ _ (by first | assumption | exact Ext.alloc _ _ | exact Ext.refl _) ?_;clear hK K));try simp only [Act.put,Act.eval,evs])
     refine zag ?_
     have HXW:=hid (hxD.trans XE.out)
     clear px0 px1 py0 py1 x0 x1 y0 y1
     go_wp2
     exact⟨⟨q+1,r,by omega,by omega,by omega,by omega,by omega,by go_num,rfl,HX.out.trans HXW.out,HBN⟩,by simp[intOf];omega⟩
    |true=>
     have HBN:Hid (BsC (ltKE K) l a m b pp s0 r0 s q∧s0≤s∧q≤r0):=by
      obtain⟨k1,k2,k3⟩:=HBS.out
      exact⟨k1.down HBZ.out k2 hq1 hq2 k3 HYQ.out HXR.out hcb,k2,by omega⟩
     have hc:=of_decide_eq_true hcb
     clear hcb
     go_wp2
     refine zac (.read 0 (.read 1 (.read 2 (.read 3 (.read 4 (.read 5 (.read 6 (.read 7 (.read 8 (.read 9 (.read 10 (.main 11 (.read 12 (.read 13 .done)))))))))))))) (by kernel_rfl) (by kernel_rfl) ?_
     intro wD hxD
     have XE:Hid (Ext wD wD):=Ext.refl _
     have px0:=zaa (zaa x0 _ hxD)
     have px1:=zaa (zaa x1 _ hxD)
     have py0:=zaa (zaa y0 _ hxD)
     have py1:=zaa (zaa y1 _ hxD)
     have HCW:=HC.out.at_ (HGM.out.ext.trans hxD) x y HPX.out HPY.out
     repeat' ((first
      |refine zaf rfl rfl ?_
      |refine zad rfl rfl ?_
      |refine zai rfl rfl ?_
      |refine zab rfl rfl ?_
      |(refine zae (v:=?_) rfl rfl (fun w' hE=>?_) ?_;rotate_left 1;(· ((try(have hEx:=Ext.trans (Hid.out XE) hE));go_simp;(try go_bits);with_reducible rfl)))
      |refine walks_alt ?_ ?_
      | (refine zah rfl rfl (fun K hK=>?_);go_wp2_with ((go_at_call 90;(with_reducible refine HCW.mono ?_);rintro e w2 ⟨rfl,hx2⟩;replace XE:=hid (Ext.trans (Hid.out XE) hx2)));refine hK _ _ (by first | assumption | exact Ext.alloc _ _ | exact Ext.refl _) ?_;clear hK K));try simp only [Act.put,Act.eval,evs])
     refine zag ?_
     have HXW:=hid (hxD.trans XE.out)
     clear px0 px1 py0 py1 x0 x1 y0 y1
     go_wp2
     exact⟨⟨s,q,by omega,by omega,by omega,by omega,by omega,rfl,rfl,HX.out.trans HXW.out,HBN⟩,by simp[intOf];omega⟩
   ·have hlt':¬(s:Int)<(r:Int):=by omega
    have HBE:Hid (BsC (ltKE K) l a m b pp s0 r0 s s∧s0≤s∧s≤r0):=by
     have e:r=s:=by omega
     rw[e] at HBS
     exact HBS
    obtain⟨en,hen⟩:∃en,en=nn-s:=⟨_,rfl⟩
    have ze:(nn:Int)-(s:Int)=(en:Int):=by omega
    have he1:en+s≤md+m:=by omega
    have he2:md+m≤en+s:=by omega
    have HBR:Hid (w.grownBy wr (some g)):=zaQ HX.out _
    clear hen
    go_upto_region 39 with fail
    go_cut [185] (fun c wx=>c=.bool (decide (s<m∧m<en))∧Hid (Ext wr wx))
    case first=>
     as_aux_lemma=>
      by_cases q1:s<m
      ·have q1':(s:Int)<(m:Int):=by omega
       by_cases q2:m<en
       ·have q2':(m:Int)<(en:Int):=by omega
        have HQ:Hid (decide (s<m∧m<en)=true):=decide_eq_true ⟨q1,q2⟩
        go_wp2
        go_meet
        exact⟨by rw[HQ.out]<;>rfl,Ext.refl _⟩
       ·have q2':decide (m<en)=false:=decide_eq_false q2
        have HQ:Hid (decide (s<m∧m<en)=false):=decide_eq_false (fun h=>q2 h.2)
        go_wp2
        go_meet
        exact⟨by rw[HQ.out]<;>rfl,Ext.refl _⟩
      ·have q1':decide (s<m)=false:=decide_eq_false q1
       have HQ:Hid (decide (s<m∧m<en)=false):=decide_eq_false (fun h=>q1 h.1)
       go_wp2
       go_meet
       exact⟨by rw[HQ.out]<;>rfl,Ext.refl _⟩
    case rest=>
     obtain⟨rfl,HXA⟩:=hcut
     have HGA:=hid (HGM.out.later HXA.out)
     have HBA:=hid (HBR.out.trans (zaQ HXA.out _))
     clear HXA
     go_upto_if 185 with fail
     go_cut [191] (fun c wx=>Hid (∃l1,GVE w0 wx (.slice (some ⟨g,0,none⟩) n cap) l1∧RotOk l l1 s m en∧w.grownBy wx (some g)))
     case first=>
      as_aux_lemma=>
       by_cases hq:s<m∧m<en
       ·have hq':decide (s<m∧m<en)=true:=decide_eq_true hq
        have q1:=hq.1
        have q2:=hq.2
        go_wp2_with(go_at_call 186;(with_reducible refine(zl2 HGA.out q1 q2 (by omega) hn).mono ?_);rintro e w3 ⟨rfl,⟨l3,hg3,hs3⟩,hb3⟩;have HG3:=hid hg3;have HS3:=hid hs3;have HB3:=hid hb3;clear hg3 hs3 hb3)
        go_meet
        exact⟨l3,HG3.out,HS3.out,HBA.out.trans HB3.out⟩
       ·have hq':decide (s<m∧m<en)=false:=decide_eq_false hq
        have HRS:Hid (RotOk l l s m en):=RotOk.same l (by omega) (by omega) (by omega)
        go_wp2
        go_meet
        exact⟨l,HGA.out,HRS.out,HBA.out⟩
     case rest=>
      clear HGA HBA
      obtain⟨l1,hg1,hs1',hb1⟩:=hcut.out
      have HGA:=hid hg1
      have HSA:=hid hs1'
      have HBA:=hid hb1
      have HPA:Hid (∀x∈l1,P x):=fun x hx=>HP.out x (hs1'.mv.perm.mem_iff.1 hx)
      clear hcut hg1 hs1' hb1
      go_upto_region 41 with fail
      go_cut [199] (fun c wx=>c=.bool (decide (a<s∧s<md))∧Hid (Ext wc wx))
      case first=>
       as_aux_lemma=>
        by_cases q1:a<s
        ·have q1':(a:Int)<(s:Int):=by omega
         by_cases q2:s<md
         ·have q2':(s:Int)<(md:Int):=by omega
          have HQ:Hid (decide (a<s∧s<md)=true):=decide_eq_true ⟨q1,q2⟩
          go_wp2
          go_meet
          exact⟨by rw[HQ.out]<;>rfl,Ext.refl _⟩
         ·have q2':decide (s<md)=false:=decide_eq_false q2
          have HQ:Hid (decide (a<s∧s<md)=false):=decide_eq_false (fun h=>q2 h.2)
          go_wp2
          go_meet
          exact⟨by rw[HQ.out]<;>rfl,Ext.refl _⟩
        ·have q1':decide (a<s)=false:=decide_eq_false q1
         have HQ:Hid (decide (a<s∧s<md)=false):=decide_eq_false (fun h=>q1 h.1)
         go_wp2
         go_meet
         exact⟨by rw[HQ.out]<;>rfl,Ext.refl _⟩
      case' rest=>
       obtain⟨rfl,HXA⟩:=hcut
       have HGB:=hid (HGA.out.later HXA.out)
       have HBB:=hid (HBA.out.trans (zaQ HXA.out _))
       clear HXA HGA HBA
       have HGA:=HGB
       have HBA:=HBB
       clear HGB HBB
       go_upto_if 199 with fail
       go_cut [205] (fun c wx=>Hid (∃l2,GVE w0 wx (.slice (some ⟨g,0,none⟩) n cap) l2∧((a<s∧s<md∧SymOk (ltKE K) l1 l2 a s md)∨(¬(a<s∧s<md)∧l2=l1))∧w.grownBy wx (some g)))
       case first=>
        as_aux_lemma=>
         by_cases hq:a<s∧s<md
         ·have hq':decide (a<s∧s<md)=true:=decide_eq_true hq
          have q1:=hq.1
          have q2:=hq.2
          go_wp2_with(go_at_call 157;(with_reducible refine(HIH _ _ _ _ _ a s md _ _ _ (by omega) HC.out HGA.out HPA.out (by omega) (by omega) (by omega) hn).mono ?_);rintro e w3 ⟨rfl,⟨l3,hg3,hs3⟩,hb3⟩;have HG3:=hid hg3;have HS3:=hid hs3;have HB3:=hid hb3;clear hg3 hs3 hb3)
          go_meet
          exact⟨l3,HG3.out,.inl ⟨hq.1,hq.2,HS3.out⟩,HBA.out.trans HB3.out⟩
         ·have hq':decide (a<s∧s<md)=false:=decide_eq_false hq
          go_wp2
          go_meet
          exact⟨l1,HGA.out,.inr ⟨hq,rfl⟩,HBA.out⟩
      case rest=>
       clear HGA HBA
       obtain⟨l2,hg1,hs1',hb1⟩:=hcut.out
       have HSA2:=hid hs1'
       have HPB:Hid (∀ x∈l2,P x):=fun x hx=>HPA.out x (by
        rcases hs1' with⟨_,_,h9⟩|⟨_,h9⟩
        ·exact h9.1.perm.mem_iff.1 hx
        ·rw [h9] at hx;exact hx)
       have HFIN:Hid (∀l3,((md<en∧en<b∧SymOk (ltKE K) l2 l3 md en b)∨(¬(md<en∧en<b)∧l3=l2))→SymOk (ltKE K) l l3 a m b):=fun l3 h3=>
        SymOk.parts HBZ.out HBE.out.1 HBE.out.2.1 HBE.out.2.2 (show md=pp+1-m by omega) (show en=pp+1-s by omega) HSA.out HSA2.out h3 (by omega) (by omega)
       clear HSA HSA2 HPA
       have HPA:=HPB
       have HGA:=hid hg1
       have HBA:=hid hb1
       clear hcut hg1 hs1' hb1 HPB
       go_upto_region 43 with fail
       go_cut [213] (fun c wx=>c=.bool (decide (md<en∧en<b))∧Hid (Ext wc wx))
       case first=>
        as_aux_lemma=>
         by_cases q1:md<en
         ·have q1':(md:Int)<(en:Int):=by omega
          by_cases q2:en<b
          ·have q2':(en:Int)<(b:Int):=by omega
           have HQ:Hid (decide (md<en∧en<b)=true):=decide_eq_true ⟨q1,q2⟩
           go_wp2
           go_meet
           exact⟨by rw[HQ.out]<;>rfl,Ext.refl _⟩
          ·have q2':decide (en<b)=false:=decide_eq_false q2
           have HQ:Hid (decide (md<en∧en<b)=false):=decide_eq_false (fun h=>q2 h.2)
           go_wp2
           go_meet
           exact⟨by rw[HQ.out]<;>rfl,Ext.refl _⟩
         ·have q1':decide (md<en)=false:=decide_eq_false q1
          have HQ:Hid (decide (md<en∧en<b)=false):=decide_eq_false (fun h=>q1 h.1)
          go_wp2
          go_meet
          exact⟨by rw[HQ.out]<;>rfl,Ext.refl _⟩
       case' rest=>
        obtain⟨rfl,HXA⟩:=hcut
        have HGB:=hid (HGA.out.later HXA.out)
        have HBB:=hid (HBA.out.trans (zaQ HXA.out _))
        clear HXA HGA HBA
        have HGA:=HGB
        have HBA:=HBB
        clear HGB HBB
        go_upto_if 213 with fail
        have HBW:=hid HBA.out
        by_cases hq:md<en∧en<b
        ·as_aux_lemma=>
          have hq':decide (md<en∧en<b)=true:=decide_eq_true hq
          have q1:=hq.1
          have q2:=hq.2
          go_wp2_with(go_at_call 157;(with_reducible refine(HIH _ _ _ _ _ md en b _ _ _ (by omega) HC.out HGA.out HPA.out (by omega) (by omega) (by omega) hn).mono ?_);rintro e w3 ⟨rfl,⟨l3,hg3,hs3⟩,hb3⟩;have HG3:=hid hg3;have HS3:=hid hs3;have HB3:=hid hb3;clear hg3 hs3 hb3)
          go_end0
          exact⟨rfl,⟨l3,HG3.out,HFIN.out l3 (.inl ⟨hq.1,hq.2,HS3.out⟩)⟩,HBA.out.trans HB3.out⟩
        ·have hq':decide (md<en∧en<b)=false:=decide_eq_false hq
         go_wp2
         go_end0
         exact⟨rfl,⟨_,HGA.out,HFIN.out _ (.inr ⟨hq,rfl⟩)⟩,HBA.out⟩
theorem zfi:∀d,zgE d
 |0=>fun w0 w g n cap a m b l K P hd hc _ _ h1 h2=>by omega
 |d+1=>fun w0 w g n cap a m b l K P hd hc h hp h1 h2 h3 hn=>by
  by_cases hma:m=a+1
  ·exact zqv hc h hp h1 h2 h3 hn hma
  ·by_cases hbm:b=m+1
   ·exact zq3 hc h hp h1 h2 h3 hn hma hbm
   ·exact znW d (hid (zfi d)) hc h hp h1 h2 h3 hn hd hma hbm
theorem zpN{K:EntC→EntC→Int}{P:EntC→Prop}{w0 w:World}{g n cap b:Nat}{l:List EntC}(hc:CmpOkE P K w0)(h:GVE w0 w (.slice (some ⟨g,0,none⟩) n cap) l)(hp:∀x∈l,P x)(hb:b≤n)(hn:n≤4000000) :
 Calls Tryz.prog 156 #[.slice (some ⟨g,0,none⟩) n cap,.int .i64 0,.int .i64 b,zfX] w (zca (fun l'=>zgv (ltKE K) l l' 0 b) w0 w g n cap):=ze2 (a:=0) hc h hp hb (by omega) hn
theorem zlj{K:EntC→EntC→Int}{P:EntC→Prop}{w0 w:World}{g n cap:Nat}{l:List EntC}(hc:CmpOkE P K w0)(h:GVE w0 w (.slice (some ⟨g,0,none⟩) n cap) l)(hp:∀x∈l,P x)(hn:n≤4000000) :
 Calls Tryz.prog 130 #[.slice (some ⟨g,0,none⟩) n cap,.int .i64 n,zfX] w (zca (fun l'=>StOk (ltKE K) l l') w0 w g n cap):=by
 have HG0:=hid h
 have HC:=hid hc
 have HP:=hid hp
 have HLN:=hid h.n_eq
 have HSM:=zfi
 unfold zgE at HSM
 clear h hc hp
 by_cases h20:n<20
 ·have t1:¬(20:Int)≤(n:Int):=by omega
  have t2:¬(20:Int)<(n:Int):=by omega
  go_enter Tryz.func130,Tryz.ntmps130
  go_wp2
  go_loopw [7,8] (fun u v wr=>u=.int .i64 0∧v=.int .i64 20∧wr=w) (fun u v _=>0)
  case atStart=>exact⟨rfl,rfl,rfl⟩
  case round=>
   obtain⟨rfl,rfl,rfl⟩:=hrel
   go_wp2_with(go_at_call 156;(with_reducible refine(zpN HC.out HG0.out HP.out (Nat.le_refl n) hn).mono ?_);rintro e w2 ⟨rfl,⟨l2,hg2,hs2⟩,hb2⟩;have HG2:=hid hg2;have HB2:=hid hb2;have HS2:=hid hs2;clear hg2 hb2 hs2)
   go_loopw [6,7,8,9] (fun u _ _ _ wq=>u=.int .i64 20∧wq=w2) (fun u v _ _ _=>0)
   case atStart=>exact⟨rfl,rfl⟩
   case round=>
    obtain⟨rfl,rfl⟩:=hrel
    go_wp2
    go_end0
    exact⟨rfl,⟨_,HG2.out,StOk.small (by rw[←HLN.out];exact HS2.out)⟩,HB2.out⟩
 ·go_enter Tryz.func130,Tryz.ntmps130
  go_wp2
  go_loopw [7,8] (fun u v wr=>∃(a:Nat) (m:List EntC),a≤n∧u=.int .i64 a∧v=.int .i64 ((a+20:Nat):Int)∧Hid (GVE w0 wr (.slice (some ⟨g,0,none⟩) n cap) m∧w.grownBy wr (some g))∧Hid (CarryF (ltKE K) l m a)) (fun u v _=>n-(intOf u).toNat)
  case atStart=>exact⟨0,l,by omega,rfl,rfl,⟨HG0,World.grownBy.refl _ _⟩,CarryF.start l⟩
  case round=>
   obtain⟨a,m,ha,rfl,rfl,HGM,HS⟩:=hrel
   have HPM:Hid (∀x∈m,P x):=fun x hx=>HP.out x (HS.out.1.perm.mem_iff.1 hx)
   by_cases hab:a+20≤n
   ·have hab':((a+20:Nat):Int)≤(n:Int):=by omega
    obtain⟨b,hb⟩:∃b,b=a+20:=⟨_,rfl⟩
    rw[←hb] at hab hab' ⊢
    have hb1:b≤a+20:=by omega
    have hb2:a+20≤b:=by omega
    have HBQ:Hid (b=a+20):=hb
    clear hb
    go_wp2_with(go_at_call 156;(with_reducible refine(ze2 (a:=a) (b:=b) HC.out HGM.out.1 HPM.out (by omega) (by omega) hn).mono ?_);rintro e w2 ⟨rfl,⟨l2,hg2,hs2⟩,hb2⟩;have HG2:=hid hg2;have HB2:=hid hb2;have HS2:=hid hs2;clear hg2 hb2 hs2)
    have HSN:Hid (CarryF (ltKE K) l l2 b):=by
     have hle:=hab
     rw[HBQ.out] at HS2 hle ⊢
     exact HS.out.next (by rw[←HLN.out];exact hle) HS2.out
    exact⟨⟨b,_,by omega,rfl,by go_num,⟨HG2.out,HGM.out.2.trans HB2.out⟩,HSN⟩,by simp[intOf];omega⟩
   ·have hab':¬((a+20:Nat):Int)≤(n:Int):=by omega
    go_wp2_with(go_at_call 156;(with_reducible refine(ze2 (a:=a) (b:=n) HC.out HGM.out.1 HPM.out (by omega) (by omega) hn).mono ?_);rintro e w2 ⟨rfl,⟨l2,hg2,hs2⟩,hb2⟩;have HG2:=hid hg2;have HB2:=hid hb2;have HS2:=hid hs2;clear hg2 hb2 hs2)
    have HSN:Hid (CarryB (ltKE K) l l2 20):=HS.out.last (by rw[←HLN.out];exact ha) (by rw[←HLN.out];omega) (by rw[←HLN.out];exact HS2.out)
    go_loopw [6,7,8,9] (fun u _ _ _ wq=>∃(bs:Nat) (m2:List EntC),20≤bs∧bs≤2 * n∧u=.int .i64 bs∧Hid (GVE w0 wq (.slice (some ⟨g,0,none⟩) n cap) m2∧w.grownBy wq (some g))∧Hid (CarryB (ltKE K) l m2 bs)) (fun u _ _ _ _=>2 * n-(intOf u).toNat)
    case atStart=>exact⟨20,_,by omega,by omega,rfl,⟨HG2.out,HGM.out.2.trans HB2.out⟩,HSN⟩
    case round=>
     clear HGM HS HSN HG2 HB2 HS2 HPM
     obtain⟨bs,m2,hbs1,hbs2,rfl,HGM,HS⟩:=hrel
     by_cases hbn:bs<n
     ·have hbn':(bs:Int)<(n:Int):=by omega
      go_wp2
      go_loopw [7,8] (fun u v wq=>∃(a2 b2:Nat) (m3:List EntC),a2≤n∧b2≤a2+2 * bs∧a2+2 * bs≤b2∧u=.int .i64 a2∧v=.int .i64 b2∧Hid (GVE w0 wq (.slice (some ⟨g,0,none⟩) n cap) m3∧w.grownBy wq (some g))∧Hid (CarryH (ltKE K) l m3 bs a2)) (fun u v _=>n-(intOf u).toNat)
      case atStart=>exact⟨0,2 * bs,m2,by omega,by omega,by omega,rfl,by go_num,HGM,HS.out.half⟩
      case round=>
       clear HGM HS
       obtain⟨a2,b2,m3,ha2,hb3,hb4,rfl,rfl,HGM,HS⟩:=hrel
       have HPM:Hid (∀x∈m3,P x):=fun x hx=>HP.out x (HS.out.1.perm.mem_iff.1 hx)
       obtain⟨mm,hmm⟩:∃mm,mm=a2+bs:=⟨_,rfl⟩
       have zm:(a2:Int)+(bs:Int)=(mm:Int):=by omega
       have hmm1:mm≤a2+bs:=by omega
       have hmm2:a2+bs≤mm:=by omega
       have HMM:Hid (mm=a2+bs):=hmm
       clear hmm
       by_cases hb2n:b2≤n
       ·have hb2n':(b2:Int)≤(n:Int):=by omega
        have HB2E:Hid (b2=a2+2 * bs):=by show _=_;omega
        go_wp2_with(go_at_call 157;(with_reducible refine(HSM _ _ _ _ _ _ a2 mm b2 _ _ _ (Nat.le_refl _) HC.out HGM.out.1 HPM.out (by omega) (by omega) (by omega) hn).mono ?_);rintro e w3 ⟨rfl,⟨l3,hg3,hs3⟩,hb3⟩;have HG3:=hid hg3;have HS3:=hid hs3;have HB3:=hid hb3;clear hg3 hs3 hb3)
        have HSN:Hid (CarryH (ltKE K) l l3 bs b2):=by
         have hle:=hb2n
         rw[HMM.out,HB2E.out] at HS3
         rw[HB2E.out] at hle ⊢
         exact HS.out.next (by rw[←HLN.out];exact hle) HS3.out
        exact⟨⟨b2,b2+2 * bs,l3,by omega,by omega,by omega,rfl,by go_num,⟨HG3.out,HGM.out.2.trans HB3.out⟩,HSN⟩,by simp[intOf];omega⟩
       ·have hb2n':¬(b2:Int)≤(n:Int):=by omega
        by_cases hmn:mm<n
        ·have hmn':(mm:Int)<(n:Int):=by omega
         go_wp2_with(go_at_call 157;(with_reducible refine(HSM _ _ _ _ _ _ a2 mm n _ _ _ (Nat.le_refl _) HC.out HGM.out.1 HPM.out (by omega) (by omega) (by omega) hn).mono ?_);rintro e w3 ⟨rfl,⟨l3,hg3,hs3⟩,hb3⟩;have HG3:=hid hg3;have HS3:=hid hs3;have HB3:=hid hb3;clear hg3 hs3 hb3)
         have HSN:Hid (CarryB (ltKE K) l l3 (2 * bs)):=by
          rw[HMM.out] at HS3
          exact HS.out.last (by rw[←HLN.out];omega) (by rw[←HLN.out];omega) (by rw[←HLN.out];exact HS3.out)
         exact⟨⟨2 * bs,l3,by omega,by omega,by go_num,⟨HG3.out,HGM.out.2.trans HB3.out⟩,HSN⟩,by simp[intOf];omega⟩
        ·have hmn':¬(mm:Int)<(n:Int):=by omega
         have HSN:Hid (CarryB (ltKE K) l m3 (2 * bs)):=HS.out.none (by rw[←HLN.out];omega)
         go_wp2
         exact⟨⟨2 * bs,m3,by omega,by omega,by go_num,HGM,HSN⟩,by simp[intOf];omega⟩
     ·have hbn':¬(bs:Int)<(n:Int):=by omega
      have HEN:Hid (StOk (ltKE K) l m2):=HS.out.done (by rw[←HLN.out];omega)
      go_wp2
      go_end0
      exact⟨rfl,⟨m2,HGM.out.1,HEN.out⟩,HGM.out.2⟩
theorem zpM{K:EntC→EntC→Int}{P:EntC→Prop}{w0 w:World}{g n cap:Nat}{l:List EntC}(hc:CmpOkE P K w0)(h:GVE w0 w (.slice (some ⟨g,0,none⟩) n cap) l)(hp:∀x∈l,P x)(hn:n≤4000000) :
 Calls Tryz.prog 89 #[.slice (some ⟨g,0,none⟩) n cap,zfX] w (zca (fun l'=>StOk (ltKE K) l l') w0 w g n cap):=by
 have HST:=zlj hc h hp hn
 unfold zca at HST ⊢
 clear h hc hp
 go_enter Tryz.func89,Tryz.ntmps89
 go_wp2_with(go_at_call 130;(with_reducible refine HST.mono ?_);rintro e w2 ⟨rfl,h1,h2⟩;have H1:=hid h1;have H2:=hid h2;clear h1 h2)
 go_end0
 exact⟨rfl,H1.out,H2.out⟩
end
end Go.Proofs.YtkjbokhnpphimaaGreatDoor
