/- Lemmas of the walk. -/
import Derived.Test.YtkjbokhnpphimaaGreatDoorV14
import Derived.Deep.DeepCutAuto
set_option maxHeartbeats 40000000
set_option linter.unusedVariables false
set_option linter.unusedSimpArgs false
namespace Go.Proofs.YtkjbokhnpphimaaGreatDoor
section
open Go.RowKit
set_option maxRecDepth 100000
abbrev avaV(x:Ava):Value:=.agg #[.string (str x.type),.string (str x.val)]
theorem zkk(w:World)(g k:Nat)(x:Ava)(h0:w.cell? ⟨g,k * 2,none⟩=some (.string (str x.type)))(h1:w.cell? ⟨g,k * 2+1,none⟩=some (.string (str x.val))) :
 (Instr.loadAt 189 (.pointer (some ⟨g,k * 2,none⟩))).run Tryz.prog w=.ok (avaV x) w:=by
 go_simp
theorem ziV(w:World)(g k:Nat)(x:Ava)(c0 c1:Value)(h0:w.cell? ⟨g,k * 2,none⟩=some c0)(h1:w.cell? ⟨g,k * 2+1,none⟩=some c1)(f0:w.frozen? ⟨g,k * 2,none⟩=false)(f1:w.frozen? ⟨g,k * 2+1,none⟩=false) :
 (Instr.storeAt 189 (.pointer (some ⟨g,k * 2,none⟩)) (avaV x)).run Tryz.prog w=.ok () ((w.setCell ⟨g,k * 2,none⟩ (.string (str x.type))).setCell ⟨g,k * 2+1,none⟩ (.string (str x.val))):=by
 go_simp
section
variable {w w0:World}{o:Oper}{a:Act}{K:Act→World→Prop}{Q:Exit→Act→World→Prop}{g n cap:Nat}{l:List Ava}
theorem zbS(x:Operand)(ho:o.op=.load 189 x)(k:Nat)(hx:a.eval x=.pointer (some ⟨g,k * 2,none⟩))(hG:GrowA 189 w0 w (.slice (some ⟨g,0,none⟩) n cap) l)(y:Ava)(hy:l[k]?=some y)
 (h:K (a.put o.dst (avaV y)) w):o.wp Tryz.prog a w K Q:=by
 have hr:(execOp a.eval o).run Tryz.prog w=.ok (.value (avaV y)) w:=by
  unfold execOp
  simp only[ho,hx,Sem.run_bind,zkk w g k y (hG.at0 hy) (hG.at1 hy),Result.andThen_ok,Sem.run_pure]
 unfold Oper.wp
 rw[hr]
 exact h
theorem zbt(x y:Operand)(ho:o.op=.store 189 x y)(k:Nat)(hx:a.eval x=.pointer (some ⟨g,k * 2,none⟩))(v:Ava)(hy:a.eval y=avaV v)(hG:GrowA 189 w0 w (.slice (some ⟨g,0,none⟩) n cap) l)(hk:k<l.length)
 (h:∀w',GrowA 189 w0 w' (.slice (some ⟨g,0,none⟩) n cap) (l.set k v)→Below w0.heap.size w w'→K (a.put o.dst undef) w'):o.wp Tryz.prog a w K Q:=by
 have hl:l[k]?=some l[k]:=List.getElem?_eq_getElem hk
 have hr:(execOp a.eval o).run Tryz.prog w=.ok .skip ((w.setCell ⟨g,k * 2,none⟩ (.string (str v.type))).setCell ⟨g,k * 2+1,none⟩ (.string (str v.val))):=by
  unfold execOp
  simp only[ho,hx,hy,Sem.run_bind,ziV w g k v _ _ (hG.at0 hl) (hG.at1 hl) (hG.thaw _) (hG.thaw _),Result.andThen_ok,Sem.run_pure]
 unfold Oper.wp
 rw[hr]
 exact h _ (hG.put hk v) (((Below.refl _ _).setCell hG.new _).setCell hG.new _)
end
def cmpA(x y:Ava):Int:=Lib.compareBytes x.type y.type
theorem zsk(x y:Ava):(cmpA x y<0)↔ltB x.type y.type=true:=by
 unfold cmpA
 rcases zow x.type y.type with⟨h1,h2⟩|⟨h1,h2⟩|⟨h1,h2⟩
 ·rw[h1,h2];simp
 ·rw[h1,h2,zbF];simp
 ·rw[h1,zcY _ _ h2];simp
theorem zea(x y:Ava)(w:World):Calls Tryz.prog 180 #[avaV x,avaV y] w fun e w'=>e=.returned (.int .i64 (cmpA x y))∧Ext w w':=by
 have HC:∀w,Calls Tryz.prog 181 #[.string (str x.type),.string (str y.type)] w fun e w'=>e=.returned (.int .i64 (cmpA x y))∧w'=w:=fun w=>(Tryz.strings_Compare (str x.type) (str y.type) w)
 go_enter Tryz.func180,Tryz.ntmps180
 go_wp2_with(go_at_call 181;(with_reducible refine(HC _).mono ?_);rintro e w1 ⟨rfl,rfl⟩)
 go_ret
 exact⟨rfl,(Ext.alloc _ _).trans (Ext.alloc _ _)⟩
def Sub(l l':List Ava):Prop:=l'.length=l.length∧∀x∈l',x∈l
theorem Sub.refl(l:List Ava):Sub l l:=⟨rfl,fun _ h=>h⟩
theorem Sub.trans{a b c:List Ava}(h:Sub a b)(k:Sub b c):Sub a c:=⟨k.1.trans h.1,fun x hx=>h.2 x (k.2 x hx)⟩
theorem Sub.set{a b:List Ava}(h:Sub a b)(i:Nat){x:Ava}(hx:x∈a):Sub a (b.set i x):=by
 refine⟨by rw[List.length_set];exact h.1,fun y hy=>?_⟩
 rcases List.mem_or_eq_of_mem_set hy with h1|h1
 ·exact h.2 y h1
 ·rw[h1];exact hx
def zj3(l:List Ava)(i j:Nat):List Ava:=match l[i]?,l[j]? with|some x,some y=>(l.set i y).set j x|_,_=>l
theorem zgB{l:List Ava}{i j:Nat}{x y:Ava}(hi:l[i]?=some x)(hj:l[j]?=some y):zj3 l i j=(l.set i y).set j x:=by unfold zj3;rw[hi,hj]
theorem zec(l:List Ava)(i j:Nat):Sub l (zj3 l i j):=by
 unfold zj3
 split
 ·rename_i x y h1 h2
  exact((Sub.refl l).set i (List.mem_of_getElem? h2)).set j (List.mem_of_getElem? h1)
 ·exact Sub.refl l
end
section
open Go.RowKit
set_option maxRecDepth 100000
abbrev cmpV:Value:=.func (.func 180) #[] #[]
def ltO(l:List Ava)(i j:Nat):Bool:=match l[i]?,l[j]? with|some x,some y=>ltB x.type y.type|_,_=>false
def zc1(a:Nat):Nat→List Ava→List Ava
 |0,l=>l
 |j+1,l=>if a<j+1∧ltO l (j+1) j=true then zc1 a j (zj3 l (j+1) j) else l
def insF(a:Nat):Nat→List Ava→List Ava
 |0,l=>l
 |k+1,l=>zc1 a (a+k+1) (insF a k l)
theorem zkj(a:Nat):∀(j:Nat) (l:List Ava),Sub l (zc1 a j l)
 |0,l=>Sub.refl l
 |j+1,l=>by
  unfold zc1
  split
  ·exact(zec l _ _).trans (zkj a j _)
  ·exact Sub.refl l
theorem zfA(a:Nat):∀(k:Nat) (l:List Ava),Sub l (insF a k l)
 |0,l=>Sub.refl l
 |k+1,l=>(zfA a k l).trans (zkj a _ _)
theorem zfT{w0 w:World}{g n cap a b:Nat}{l:List Ava}(h:GrowA 189 w0 w (.slice (some ⟨g,0,none⟩) n cap) l)(hb:b≤n)(ha:a≤4000000)(hn:n≤4000000) :
 Calls Tryz.prog 221 #[.slice (some ⟨g,0,none⟩) n cap,.int .i64 a,.int .i64 b,cmpV] w fun e w'=>
  e=.returned (.tuple #[])∧GrowA 189 w0 w' (.slice (some ⟨g,0,none⟩) n cap) (insF a (b-(a+1)) l)∧Below w0.heap.size w w':=by
 have HG0:=hid h
 have HLN:=hid h.n_eq
 clear h
 go_enter Tryz.func221,Tryz.ntmps221
 go_wp2
 go_loopw [8] (fun i wr=>∃(k:Nat),a+1+k≤max b (a+1)∧i=.int .i64 ((a+1+k:Nat):Int)∧Hid (GrowA 189 w0 wr (.slice (some ⟨g,0,none⟩) n cap) (insF a k l)∧Below w0.heap.size w wr)) (fun i _=>b-(intOf i).toNat)
 case atStart=>exact⟨0,by omega,by go_num,HG0,Below.refl _ _⟩
 case round=>
  obtain⟨k,hk,rfl,HGR⟩:=hrel
  by_cases hlt:a+1+k<b
  ·have hlt':((a+1+k:Nat):Int)<(b:Int):=by omega
   have hkn:a+1+k<n:=by omega
   clear hk
   generalize hik:a+1+k=i0 at*
   have HIK:=hid hik
   clear hik
   go_wp2
   go_loopw [9] (fun i wr'=>∃(j:Nat) (m:List Ava),j≤i0∧a≤j∧i=.int .i64 j∧Hid (GrowA 189 w0 wr' (.slice (some ⟨g,0,none⟩) n cap) m∧Below w0.heap.size w wr')∧Hid (zc1 a j m=insF a (k+1) l)∧Hid (m.length=n)) (fun i _=>(intOf i).toNat)
   case atStart=>exact⟨i0,insF a k l,by omega,by have:=HIK.out;omega,rfl,HGR,by show zc1 a i0 _=zc1 a (a+k+1) _;rw[←HIK.out];congr 1;omega,by show _=_;rw[(zfA a k l).1,HLN.out]⟩
   case round=>
    obtain⟨j,m,hj,haj,rfl,HGM,HS,HML⟩:=hrel
    by_cases hja:a<j
    ·obtain⟨q,hq⟩:∃q,j=q+1:=⟨j-1,by omega⟩
     have hml:=HML.out
     obtain⟨x,hx⟩:∃x,m[j]?=some x:=⟨_,List.getElem?_eq_getElem (show j<m.length by omega)⟩
     obtain⟨y,hy⟩:∃y,m[q]?=some y:=⟨_,List.getElem?_eq_getElem (show q<m.length by omega)⟩
     have z0:(j:Int)-1=(q:Int):=by omega
     have z2:(j:Int)<(n:Int):=by omega
     have z3:(q:Int)<(n:Int):=by omega
     have hja':(a:Int)<(j:Int):=by omega
     have hqn:q<n:=by omega
     have HKA:Hid (j<m.length):=by show _<_;omega
     have HKB:Hid (q<m.length):=by show _<_;omega
     have HXA:=hid hx
     have HYB:=hid hy
     have x0:=HGM.out.1.at0 hx
     have x1:=HGM.out.1.at1 hx
     have y0:=HGM.out.1.at0 hy
     have y1:=HGM.out.1.at1 hy
     have HLT:=hid (zsk x y)
     have HSW:=hid (zgB hx hy)
     have HSN:Hid (zc1 a j m=if a<j∧ltB x.type y.type=true then zc1 a q (zj3 m j q) else m):=by
      show _=_
      rw[hq,zc1]
      rw[hq] at hx
      unfold ltO
      rw[hx,hy]
     have hql:q<j:=by omega
     have haq:a≤q:=by omega
     clear hx hy hml hq
     go_wp2
     refine zac (.read 0 (.read 1 (.read 2 (.read 3 (.read 4 (.read 5 (.read 6 (.read 7 (.read 8 (.read 9 (.read 10 (.read 11 (.read 12 (.read 13 (.main 14 (.read 15 (.read 16 .done))))))))))))))))) (by kernel_rfl) (by kernel_rfl) ?_
     intro wD hxD
     have XE:Hid (Ext wD wD):=Ext.refl _
     have HGE:=hid (HGM.out.1.later hxD)
     have px0:=zaa (zaa x0 _ hxD)
     have px1:=zaa (zaa x1 _ hxD)
     have py0:=zaa (zaa y0 _ hxD)
     have py1:=zaa (zaa y1 _ hxD)
     cases hlb:ltB x.type y.type with
     |false=>
      have hc:decide (cmpA x y<0)=false:=by rw[decide_eq_false_iff_not,HLT.out,hlb];decide
      have HFI:Hid (insF a (k+1) l=m):=by show _=_;rw[←HS.out,HSN.out,hlb,if_neg (by simp)]
      clear hlb
      repeat' ((first
       |refine zaf rfl rfl ?_
       |refine zad rfl rfl ?_
       |refine zai rfl rfl ?_
       |refine zab rfl rfl ?_
       |(refine zae (v:=?_) rfl rfl (fun w' hE=>?_) ?_;rotate_left 1;(· ((try(have hEx:=Ext.trans (Hid.out XE) hE));go_simp;(try go_bits);with_reducible rfl)))
       |refine walks_alt ?_ ?_
       | (refine zah rfl rfl (fun K hK=>?_);go_wp2_with ((go_at_call 180;(with_reducible refine (zea x y _).mono ?_);rintro e w2 ⟨rfl,hx2⟩;replace XE:=hid (Ext.trans (Hid.out XE) hx2)));refine hK _ _ (by first | assumption | exact Ext.alloc _ _ | exact Ext.refl _) ?_;clear hK K));try simp only [Act.put,Act.eval,evs])
      refine zag ?_
      clear px0 px1 py0 py1 x0 x1 y0 y1
      go_wp2
      refine⟨⟨k+1,by have:=HIK.out;omega,by have:=HIK.out;go_num,?_⟩,by have:=HIK.out;simp[intOf];omega⟩
      rw[HFI.out]
      exact⟨HGE.out.later XE.out,Below.trans HGM.out.2 (Below.mono (hxD.trans XE.out) (zaz HGM.out.1.ext))⟩
     |true=>
      have hc:cmpA x y<0:=HLT.out.2 hlb
      have HFI:Hid (zc1 a q (zj3 m j q)=insF a (k+1) l):=by show _=_;rw[←HS.out,HSN.out,hlb,if_pos ⟨hja,rfl⟩]
      clear hlb
      repeat' ((first
       |refine zaf rfl rfl ?_
       |refine zad rfl rfl ?_
       |refine zai rfl rfl ?_
       |refine zab rfl rfl ?_
       |(refine zae (v:=?_) rfl rfl (fun w' hE=>?_) ?_;rotate_left 1;(· ((try(have hEx:=Ext.trans (Hid.out XE) hE));go_simp;(try go_bits);with_reducible rfl)))
       |refine walks_alt ?_ ?_
       | (refine zah rfl rfl (fun K hK=>?_);go_wp2_with ((go_at_call 180;(with_reducible refine (zea x y _).mono ?_);rintro e w2 ⟨rfl,hx2⟩;replace XE:=hid (Ext.trans (Hid.out XE) hx2)));refine hK _ _ (by first | assumption | exact Ext.alloc _ _ | exact Ext.refl _) ?_;clear hK K));try simp only [Act.put,Act.eval,evs])
      refine zag ?_
      clear px0 px1 py0 py1 x0 x1 y0 y1
      have HGW:=hid (HGE.out.later XE.out)
      have HBW:Hid (Below w0.heap.size w w2):=Below.trans HGM.out.2 (Below.mono (hxD.trans XE.out) (zaz HGM.out.1.ext))
      clear hxD XE
      go_wp2
      refine zap w0.heap.size (.read 0 (.read 1 (.read 2 (.read 3 (.read 4 (.read 5 (.read 6 (.read 7 (.read 8 (.read 10 (.read 11 (.read 12 (.alt 9 (.main 13 (.read 14 (.main 15 (.read 16 (.main 17 .done))))) (.main 13 (.main 9 (.read 14 (.main 15 (.read 16 (.main 17 .done))))))))))))))))))) (by kernel_rfl) (by kernel_rfl) ?_
      intro wD hxD
      have XB:Hid (Below w0.heap.size wD wD):=Below.refl _ _
      have HGD:=hid (HGW.out.later hxD)
      repeat' ((first
       |refine zaF rfl rfl ?_
       |refine zaw rfl rfl ?_
       |refine walksB_skip rfl rfl ?_
       |refine walksB_unwanted rfl rfl ?_
       |(refine zaC (v:=?_) rfl rfl (fun w' hE=>?_) ?_;rotate_left 1;(· ((try(have hEx:=Below.trans (Hid.out XB) hE));go_simp;(try go_bits);with_reducible rfl)))
       |(refine zam rfl rfl (fun K hK=>?_);(first|(refine zbS _ rfl (j) rfl HGD.out x HXA.out ?_)|(refine zbS _ rfl (q) rfl HGD.out y HYB.out ?_)|(refine zbt _ _ rfl (j) rfl y rfl HGD.out HKA.out ?_;intro w7 hg7 hb7;have HG7:=hid hg7;clear hg7;replace XB:=hid (Below.trans (Hid.out XB) (hb7)))|(refine zbt _ _ rfl (q) rfl x rfl HG7.out (by rw[List.length_set];exact HKB.out) ?_;intro w8 hg8 hb8;have HG8:=hid hg8;clear hg8;replace XB:=hid (Below.trans (Hid.out XB) (hb8))));refine hK _ _ (by first|assumption|exact Below.refl _ _|exact Below.mono (Ext.alloc _ _) (Hid.out HSW)|exact Below.setCell (p:=⟨_,_,_⟩) (Below.refl _ _) (Nat.le_refl _) _) ?_;clear hK K)
       |refine zaL ?_ ?_
       | (refine zam rfl rfl (fun K hK=>?_);go_wp2_with (fail);refine hK _ _ (by first | assumption | exact Below.refl _ _ | exact Below.mono (Ext.alloc _ _) (Hid.out HSW) | exact Below.setCell (p:=⟨_,_,_⟩) (Below.refl _ _) (Nat.le_refl _) _) ?_;clear hK K));try simp only [Act.put,Act.eval,evs])
      all_goals
       refine zaG ?_
       rw[←HSW.out] at HG8
       have HBX:=hid (Below.trans HBW.out (Below.trans (Below.mono hxD (zaz HGW.out.ext)) XB.out))
       go_wp2
       exact⟨⟨q,_,by omega,haq,rfl,⟨HG8.out,HBX.out⟩,HFI,by show _=_;rw[(zec m j q).1];exact HML.out⟩,by simp[intOf];omega⟩
    ·obtain rfl:j=a:=by omega
     have hja':decide (((j:Nat):Int)<(j:Int))=false:=by rw[decide_eq_false_iff_not];omega
     have HFI:Hid (insF j (k+1) l=m):=by
      show _=_
      rw[←HS.out]
      cases j with
      |zero=>rfl
      |succ q=>rw[zc1,if_neg (by omega)]
     clear hja
     go_wp2
     refine zac (.read 0 (.read 1 (.read 2 (.read 3 (.read 4 (.read 5 (.read 6 (.read 7 (.read 8 (.read 9 (.read 10 (.read 11 (.read 12 (.read 13 (.main 14 (.read 15 (.read 16 .done))))))))))))))))) (by kernel_rfl) (by kernel_rfl) ?_
     intro wD hxD
     have XE:Hid (Ext wD wD):=Ext.refl _
     repeat' ((first
      |refine zaf rfl rfl ?_
      |refine zad rfl rfl ?_
      |refine zai rfl rfl ?_
      |refine zab rfl rfl ?_
      |(refine zae (v:=?_) rfl rfl (fun w' hE=>?_) ?_;rotate_left 1;(· ((try(have hEx:=Ext.trans (Hid.out XE) hE));go_simp;(try go_bits);with_reducible rfl)))
      |refine walks_alt ?_ ?_
      | (refine zah rfl rfl (fun K hK=>?_);go_wp2_with (fail);refine hK _ _ (by first | assumption | exact Ext.alloc _ _ | exact Ext.refl _) ?_;clear hK K));try simp only [Act.put,Act.eval,evs])
     refine zag ?_
     have HBX:=hid (Below.trans HGM.out.2 (Below.mono (hxD.trans XE.out) (zaz HGM.out.1.ext)))
     have HGE:=hid (HGM.out.1.later (hxD.trans XE.out))
     go_wp2
     refine⟨⟨k+1,by have:=HIK.out;omega,by have:=HIK.out;go_num,?_⟩,by have:=HIK.out;simp[intOf];omega⟩
     rw[HFI.out]
     exact⟨HGE.out,HBX.out⟩
  ·have hlt':¬((a+1+k:Nat):Int)<(b:Int):=by omega
   have HFI:Hid (b-(a+1)=k):=by show _=_;omega
   go_wp2
   go_end0
   rw[HFI.out]
   exact⟨rfl,HGR.out⟩
def zfW(w0 w:World)(g n cap:Nat)(l:List Ava)(e:Ending)(w':World):Prop:=
 e=.returned (.tuple #[])∧(∃l',GrowA 189 w0 w' (.slice (some ⟨g,0,none⟩) n cap) l'∧Sub l l')∧Below w0.heap.size w w'
theorem zdA{w0 w:World}{g n cap a b c:Nat}{l:List Ava}(h:GrowA 189 w0 w (.slice (some ⟨g,0,none⟩) n cap) l)(ha:a+c≤n)(hb:b+c≤n)(hn:n≤4000000) :
 Calls Tryz.prog 267 #[.slice (some ⟨g,0,none⟩) n cap,.int .i64 a,.int .i64 b,.int .i64 c,cmpV] w (zfW w0 w g n cap l):=by
 have HG0:=hid h
 have HLN:=hid h.n_eq
 clear h
 go_enter Tryz.func267,Tryz.ntmps267
 go_wp2
 go_loopw [10] (fun i wr=>∃(j:Nat) (m:List Ava),j≤c∧i=.int .i64 j∧Hid (GrowA 189 w0 wr (.slice (some ⟨g,0,none⟩) n cap) m∧Below w0.heap.size w wr)∧Hid (Sub l m)) (fun i _=>c-(intOf i).toNat)
 case atStart=>exact⟨0,l,by omega,rfl,⟨HG0,Below.refl _ _⟩,Sub.refl l⟩
 case round=>
  obtain⟨j,m,hj,rfl,HGM,HS⟩:=hrel
  by_cases hlt:j<c
  ·have hlt':(j:Int)<(c:Int):=by omega
   have hml:m.length=n:=by rw[HS.out.1,HLN.out]
   obtain⟨p,hp⟩:∃p,p=a+j:=⟨_,rfl⟩
   obtain⟨q,hq⟩:∃q,q=b+j:=⟨_,rfl⟩
   have z0:(a:Int)+(j:Int)=(p:Int):=by omega
   have z1:(b:Int)+(j:Int)=(q:Int):=by omega
   have hpn:p<n:=by omega
   have hqn:q<n:=by omega
   have z2:(p:Int)<(n:Int):=by omega
   have z3:(q:Int)<(n:Int):=by omega
   obtain⟨x,hx⟩:∃x,m[p]?=some x:=⟨_,List.getElem?_eq_getElem (show p<m.length by omega)⟩
   obtain⟨y,hy⟩:∃y,m[q]?=some y:=⟨_,List.getElem?_eq_getElem (show q<m.length by omega)⟩
   have HKA:Hid (p<m.length):=by show _<_;omega
   have HKB:Hid (q<m.length):=by show _<_;omega
   have HXA:=hid hx
   have HYB:=hid hy
   have HSW:=hid (zgB hx hy)
   have HS2:=hid (HS.out.trans (zec m p q))
   clear hx hy hml hp hq
   go_wp2
   refine zap w0.heap.size (.read 0 (.read 1 (.read 2 (.read 3 (.read 4 (.read 5 (.read 6 (.read 7 (.read 8 (.read 9 (.read 10 (.read 11 (.read 12 (.read 14 (.read 15 (.read 16 (.read 17 (.read 18 (.alt 13 (.main 19 (.read 20 (.main 21 (.read 22 (.main 23 .done))))) (.main 19 (.main 13 (.read 20 (.main 21 (.read 22 (.main 23 .done))))))))))))))))))))))))) (by kernel_rfl) (by kernel_rfl) ?_
   intro wD hxD
   have XB:Hid (Below w0.heap.size wD wD):=Below.refl _ _
   have HGD:=hid (HGM.out.1.later hxD)
   repeat' ((first
    |refine zaF rfl rfl ?_
    |refine zaw rfl rfl ?_
    |refine walksB_skip rfl rfl ?_
    |refine walksB_unwanted rfl rfl ?_
    |(refine zaC (v:=?_) rfl rfl (fun w' hE=>?_) ?_;rotate_left 1;(· ((try(have hEx:=Below.trans (Hid.out XB) hE));go_simp;(try go_bits);with_reducible rfl)))
    |(refine zam rfl rfl (fun K hK=>?_);(first|(refine zbS _ rfl (p) rfl HGD.out x HXA.out ?_)|(refine zbS _ rfl (q) rfl HGD.out y HYB.out ?_)|(refine zbt _ _ rfl (p) rfl y rfl HGD.out HKA.out ?_;intro w7 hg7 hb7;have HG7:=hid hg7;clear hg7;replace XB:=hid (Below.trans (Hid.out XB) (hb7)))|(refine zbt _ _ rfl (q) rfl x rfl HG7.out (by rw[List.length_set];exact HKB.out) ?_;intro w8 hg8 hb8;have HG8:=hid hg8;clear hg8;replace XB:=hid (Below.trans (Hid.out XB) (hb8))));refine hK _ _ (by first|assumption|exact Below.refl _ _|exact Below.mono (Ext.alloc _ _) (Hid.out HSW)|exact Below.setCell (p:=⟨_,_,_⟩) (Below.refl _ _) (Nat.le_refl _) _) ?_;clear hK K)
    |refine zaL ?_ ?_
    | (refine zam rfl rfl (fun K hK=>?_);go_wp2_with (fail);refine hK _ _ (by first | assumption | exact Below.refl _ _ | exact Below.mono (Ext.alloc _ _) (Hid.out HSW) | exact Below.setCell (p:=⟨_,_,_⟩) (Below.refl _ _) (Nat.le_refl _) _) ?_;clear hK K));try simp only [Act.put,Act.eval,evs])
   all_goals
    refine zaG ?_
    rw[←HSW.out] at HG8
    have HBX:=hid (Below.trans HGM.out.2 (Below.trans (Below.mono hxD (zaz HGM.out.1.ext)) XB.out))
    go_wp2
    exact⟨⟨j+1,_,by omega,by go_num,⟨HG8.out,HBX.out⟩,HS2⟩,by simp[intOf];omega⟩
  ·obtain rfl:j=c:=by omega
   go_wp2
   go_end0
   exact⟨rfl,⟨m,HGM.out.1,HS.out⟩,HGM.out.2⟩
theorem zmL{w0 w:World}{g n cap a m b:Nat}{l:List Ava}(h:GrowA 189 w0 w (.slice (some ⟨g,0,none⟩) n cap) l)(h1:a<m)(h2:m<b)(h3:b≤n)(hn:n≤4000000) :
 Calls Tryz.prog 248 #[.slice (some ⟨g,0,none⟩) n cap,.int .i64 a,.int .i64 m,.int .i64 b,cmpV] w (zfW w0 w g n cap l):=by
 have HG0:=hid h
 clear h
 go_enter Tryz.func248,Tryz.ntmps248
 go_wp2
 go_loopw [10,11] (fun u v wr=>∃(i j:Nat) (k:List Ava),1≤i∧1≤j∧i≤m∧m+j≤n∧u=.int .i64 i∧v=.int .i64 j∧Hid (GrowA 189 w0 wr (.slice (some ⟨g,0,none⟩) n cap) k∧Below w0.heap.size w wr)∧Hid (Sub l k)) (fun u v _=>(intOf u).toNat+(intOf v).toNat)
 case atStart=>exact⟨m-a,b-m,l,by omega,by omega,by omega,by omega,by go_num,by go_num,⟨HG0,Below.refl _ _⟩,Sub.refl l⟩
 case round=>
  obtain⟨i,j,k,hi,hj,him,hjn,rfl,rfl,HGK,HS⟩:=hrel
  obtain⟨p,hp⟩:∃p,p=m-i:=⟨_,rfl⟩
  have z0:(m:Int)-(i:Int)=(p:Int):=by omega
  have hp1:p+i≤m:=by omega
  have hp2:m≤p+i:=by omega
  clear hp
  by_cases hij:i=j
  ·subst hij
   have t0:((i:Int) != (i:Int))=false:=by simp
   go_wp2_with(go_at_call 267;(with_reducible refine(zdA (a:=p) (b:=m) (c:=i) HGK.out.1 (by omega) (by omega) hn).mono ?_);rintro e w3 ⟨rfl,⟨l3,hg3,hs3⟩,hb3⟩;have HG3:=hid hg3;have HS3:=hid hs3;have HB3:=hid hb3;clear hg3 hs3 hb3)
   go_end0
   exact⟨rfl,⟨l3,HG3.out,HS.out.trans HS3.out⟩,Below.trans HGK.out.2 HB3.out⟩
  ·have t0:((i:Int) != (j:Int))=true:=by rw[bne_iff_ne];omega
   by_cases hgt:j<i
   ·have t1:(j:Int)<(i:Int):=by omega
    clear hij
    go_wp2_with(go_at_call 267;(with_reducible refine(zdA (a:=p) (b:=m) (c:=j) HGK.out.1 (by omega) (by omega) hn).mono ?_);rintro e w3 ⟨rfl,⟨l3,hg3,hs3⟩,hb3⟩;have HG3:=hid hg3;have HS3:=hid hs3;have HB3:=hid hb3;clear hg3 hs3 hb3)
    exact⟨⟨i-j,j,l3,by omega,by omega,by omega,by omega,by go_num,rfl,⟨HG3.out,Below.trans HGK.out.2 HB3.out⟩,HS.out.trans HS3.out⟩,by simp[intOf];omega⟩
   ·have t1:¬(j:Int)<(i:Int):=by omega
    obtain⟨q,hq⟩:∃q,q=m+j-i:=⟨_,rfl⟩
    have z1:(m:Int)+(j:Int)-(i:Int)=(q:Int):=by omega
    have hq1:q+i≤m+j:=by omega
    have hq2:m+j≤q+i:=by omega
    clear hq
    go_wp2_with(go_at_call 267;(with_reducible refine(zdA (a:=p) (b:=q) (c:=i) HGK.out.1 (by omega) (by omega) hn).mono ?_);rintro e w3 ⟨rfl,⟨l3,hg3,hs3⟩,hb3⟩;have HG3:=hid hg3;have HS3:=hid hs3;have HB3:=hid hb3;clear hg3 hs3 hb3)
    exact⟨⟨i,j-i,l3,by omega,by omega,by omega,by omega,rfl,by go_num,⟨HG3.out,Below.trans HGK.out.2 HB3.out⟩,HS.out.trans HS3.out⟩,by simp[intOf];omega⟩
theorem zrZ{w0 w:World}{g n cap a m b:Nat}{l:List Ava}(h:GrowA 189 w0 w (.slice (some ⟨g,0,none⟩) n cap) l)(h1:a<m)(h2:m<b)(h3:b≤n)(hn:n≤4000000)(hma:m=a+1) :
 Calls Tryz.prog 222 #[.slice (some ⟨g,0,none⟩) n cap,.int .i64 a,.int .i64 m,.int .i64 b,cmpV] w (zfW w0 w g n cap l):=by
 have HG0:=hid h
 have HML:Hid (l.length=n):=by show _=_;rw[h.n_eq]
 clear h
 have t0:((m:Int)-(a:Int)==1)=true:=by rw[beq_iff_eq];omega
 have hm1:m≤a+1:=by omega
 clear hma
 go_enter Tryz.func222,Tryz.ntmps222
 go_wp2
 go_loopw [10,11] (fun u v wr=>∃(i j:Nat),m≤i∧i≤j∧j≤b∧u=.int .i64 i∧v=.int .i64 j∧Hid (Ext w wr)) (fun u v _=>(intOf v).toNat-(intOf u).toNat)
 case atStart=>exact⟨m,b,by omega,by omega,by omega,rfl,rfl,Ext.refl _⟩
 case round=>
  obtain⟨i,j,hi,hij,hj,rfl,rfl,HX⟩:=hrel
  have HGM:=hid (HG0.out.later HX.out)
  by_cases hlt:i<j
  ·have hlt':(i:Int)<(j:Int):=by omega
   obtain⟨q,hq⟩:∃q,q=(i+j) / 2:=⟨_,rfl⟩
   have hq1:i≤q:=by omega
   have hq2:q<j:=by omega
   have zq:((i:Int)+(j:Int)) / 2=(q:Int):=by omega
   clear hq
   have hml:=HML.out
   obtain⟨x,hx⟩:∃x,l[q]?=some x:=⟨_,List.getElem?_eq_getElem (show q<l.length by omega)⟩
   obtain⟨y,hy⟩:∃y,l[a]?=some y:=⟨_,List.getElem?_eq_getElem (show a<l.length by omega)⟩
   have z2:(q:Int)<(n:Int):=by omega
   have z3:(a:Int)<(n:Int):=by omega
   have z4:q<n:=by omega
   have z5:a<n:=by omega
   have x0:=HGM.out.at0 hx
   have x1:=HGM.out.at1 hx
   have y0:=HGM.out.at0 hy
   have y1:=HGM.out.at1 hy
   clear hx hy hml
   cases hcb:decide (cmpA x y<0) with
   |false=>
    go_wp2
    refine zac (.read 0 (.read 1 (.read 2 (.read 3 (.read 4 (.read 5 (.read 6 (.read 7 (.read 8 (.main 9 (.read 10 .done))))))))))) (by kernel_rfl) (by kernel_rfl) ?_
    intro wD hxD
    have XE:Hid (Ext wD wD):=Ext.refl _
    have px0:=zaa (zaa x0 _ hxD)
    have px1:=zaa (zaa x1 _ hxD)
    have py0:=zaa (zaa y0 _ hxD)
    have py1:=zaa (zaa y1 _ hxD)
    repeat' ((first
     |refine zaf rfl rfl ?_
     |refine zad rfl rfl ?_
     |refine zai rfl rfl ?_
     |refine zab rfl rfl ?_
     |(refine zae (v:=?_) rfl rfl (fun w' hE=>?_) ?_;rotate_left 1;(· ((try(have hEx:=Ext.trans (Hid.out XE) hE));go_simp;(try go_bits);with_reducible rfl)))
     |refine walks_alt ?_ ?_
     | (refine zah rfl rfl (fun K hK=>?_);go_wp2_with ((go_at_call 180;(with_reducible refine (zea x y _).mono ?_);rintro e w2 ⟨rfl,hx2⟩;replace XE:=hid (Ext.trans (Hid.out XE) hx2)));refine hK _ _ (by first | assumption | exact Ext.alloc _ _ | exact Ext.refl _) ?_;clear hK K));try simp only [Act.put,Act.eval,evs])
    refine zag ?_
    have HXW:=hid (hxD.trans XE.out)
    clear px0 px1 py0 py1 x0 x1 y0 y1
    go_wp2
    exact⟨⟨i,q,by omega,by omega,by omega,rfl,rfl,HX.out.trans HXW.out⟩,by simp[intOf];omega⟩
   |true=>
    have hc:=of_decide_eq_true hcb
    clear hcb
    go_wp2
    refine zac (.read 0 (.read 1 (.read 2 (.read 3 (.read 4 (.read 5 (.read 6 (.read 7 (.read 8 (.main 9 (.read 10 .done))))))))))) (by kernel_rfl) (by kernel_rfl) ?_
    intro wD hxD
    have XE:Hid (Ext wD wD):=Ext.refl _
    have px0:=zaa (zaa x0 _ hxD)
    have px1:=zaa (zaa x1 _ hxD)
    have py0:=zaa (zaa y0 _ hxD)
    have py1:=zaa (zaa y1 _ hxD)
    repeat' ((first
     |refine zaf rfl rfl ?_
     |refine zad rfl rfl ?_
     |refine zai rfl rfl ?_
     |refine zab rfl rfl ?_
     |(refine zae (v:=?_) rfl rfl (fun w' hE=>?_) ?_;rotate_left 1;(· ((try(have hEx:=Ext.trans (Hid.out XE) hE));go_simp;(try go_bits);with_reducible rfl)))
     |refine walks_alt ?_ ?_
     | (refine zah rfl rfl (fun K hK=>?_);go_wp2_with ((go_at_call 180;(with_reducible refine (zea x y _).mono ?_);rintro e w2 ⟨rfl,hx2⟩;replace XE:=hid (Ext.trans (Hid.out XE) hx2)));refine hK _ _ (by first | assumption | exact Ext.alloc _ _ | exact Ext.refl _) ?_;clear hK K));try simp only [Act.put,Act.eval,evs])
    refine zag ?_
    have HXW:=hid (hxD.trans XE.out)
    clear px0 px1 py0 py1 x0 x1 y0 y1
    go_wp2
    exact⟨⟨q+1,j,by omega,by omega,by omega,by go_num,rfl,HX.out.trans HXW.out⟩,by simp[intOf];omega⟩
  ·have hlt':¬(i:Int)<(j:Int):=by omega
   obtain⟨i1,hi1⟩:∃i1,i1=i-1:=⟨_,rfl⟩
   have zi:(i:Int)-1=(i1:Int):=by omega
   have hb1:a≤i1:=by omega
   have hb2:i1<n:=by omega
   clear hi1
   have HBR:Hid (Below w0.heap.size w wr):=Below.mono HX.out (zaz HG0.out.ext)
   go_wp2
   go_loopw [13] (fun u wq=>∃(k:Nat) (m1:List Ava),a≤k∧k≤i1∧u=.int .i64 k∧Hid (GrowA 189 w0 wq (.slice (some ⟨g,0,none⟩) n cap) m1∧Below w0.heap.size w wq)∧Hid (Sub l m1)) (fun u _=>i1-(intOf u).toNat)
   case atStart=>exact⟨a,l,by omega,by omega,rfl,⟨HGM.out,HBR.out⟩,Sub.refl l⟩
   case round=>
    obtain⟨k,m1,hk1,hk2,rfl,HGK,HS⟩:=hrel
    by_cases hlt2:k<i1
    ·have hlt2':(k:Int)<(i1:Int):=by omega
     obtain⟨k1,hk3⟩:∃k1,k1=k+1:=⟨_,rfl⟩
     have zk:(k:Int)+1=(k1:Int):=by omega
     have hk4:k1≤i1:=by omega
     have hk5:k<k1:=by omega
     have HM1:Hid (m1.length=n):=by show _=_;rw[HS.out.1];exact HML.out
     clear HML
     have HML:=HM1
     have hml:=HML.out
     obtain⟨x,hx⟩:∃x,m1[k]?=some x:=⟨_,List.getElem?_eq_getElem (show k<m1.length by omega)⟩
     obtain⟨y,hy⟩:∃y,m1[k1]?=some y:=⟨_,List.getElem?_eq_getElem (show k1<m1.length by omega)⟩
     have z2:(k:Int)<(n:Int):=by omega
     have z3:(k1:Int)<(n:Int):=by omega
     have z4:k<n:=by omega
     have z5:k1<n:=by omega
     have HKA:Hid (k<m1.length):=by show _<_;omega
     have HKB:Hid (k1<m1.length):=by show _<_;omega
     have HXA:=hid hx
     have HYB:=hid hy
     have HSW:=hid (zgB hx hy)
     have HS2:=hid (HS.out.trans (zec m1 k k1))
     clear hx hy hml
     clear hk3
     go_wp2
     refine zap w0.heap.size (.read 0 (.read 1 (.read 2 (.read 3 (.read 4 (.read 5 (.read 6 (.read 7 (.read 8 (.read 10 (.read 11 (.read 12 (.alt 9 (.main 13 (.read 14 (.main 15 (.read 16 (.main 17 .done))))) (.main 13 (.main 9 (.read 14 (.main 15 (.read 16 (.main 17 .done))))))))))))))))))) (by kernel_rfl) (by kernel_rfl) ?_
     intro wD hxD
     have XB:Hid (Below w0.heap.size wD wD):=Below.refl _ _
     have HGD:=hid (HGK.out.1.later hxD)
     repeat' ((first
      |refine zaF rfl rfl ?_
      |refine zaw rfl rfl ?_
      |refine walksB_skip rfl rfl ?_
      |refine walksB_unwanted rfl rfl ?_
      |(refine zaC (v:=?_) rfl rfl (fun w' hE=>?_) ?_;rotate_left 1;(· ((try(have hEx:=Below.trans (Hid.out XB) hE));go_simp;(try go_bits);with_reducible rfl)))
      |(refine zam rfl rfl (fun K hK=>?_);(first|(refine zbS _ rfl (k) rfl HGD.out x HXA.out ?_)|(refine zbS _ rfl (k1) rfl HGD.out y HYB.out ?_)|(refine zbt _ _ rfl (k) rfl y rfl HGD.out HKA.out ?_;intro w7 hg7 hb7;have HG7:=hid hg7;clear hg7;replace XB:=hid (Below.trans (Hid.out XB) (hb7)))|(refine zbt _ _ rfl (k1) rfl x rfl HG7.out (by rw[List.length_set];exact HKB.out) ?_;intro w8 hg8 hb8;have HG8:=hid hg8;clear hg8;replace XB:=hid (Below.trans (Hid.out XB) (hb8))));refine hK _ _ (by first|assumption|exact Below.refl _ _|exact Below.mono (Ext.alloc _ _) (Hid.out HSW)|exact Below.setCell (p:=⟨_,_,_⟩) (Below.refl _ _) (Nat.le_refl _) _) ?_;clear hK K)
      |refine zaL ?_ ?_
      | (refine zam rfl rfl (fun K hK=>?_);go_wp2_with (fail);refine hK _ _ (by first | assumption | exact Below.refl _ _ | exact Below.mono (Ext.alloc _ _) (Hid.out HSW) | exact Below.setCell (p:=⟨_,_,_⟩) (Below.refl _ _) (Nat.le_refl _) _) ?_;clear hK K));try simp only [Act.put,Act.eval,evs])
     all_goals
      refine zaG ?_
      rw[←HSW.out] at HG8
      have HBX:=hid (Below.trans HGK.out.2 (Below.trans (Below.mono hxD (zaz HGK.out.1.ext)) XB.out))
      go_wp2
      exact⟨⟨k1,_,by omega,by omega,rfl,⟨HG8.out,HBX.out⟩,HS2⟩,by simp[intOf];omega⟩
    ·have hlt2':¬(k:Int)<(i1:Int):=by omega
     go_wp2
     (try simp only[Exit.inBlock,Exit.then])
     refine bodyPost_ret (results_none rfl _ _ _) rfl ?_
     exact⟨rfl,⟨m1,HGK.out.1,HS.out⟩,HGK.out.2⟩
theorem zsr{w0 w:World}{g n cap a m b:Nat}{l:List Ava}(h:GrowA 189 w0 w (.slice (some ⟨g,0,none⟩) n cap) l)(h1:a<m)(h2:m<b)(h3:b≤n)(hn:n≤4000000)(hma:¬m=a+1)(hbm:b=m+1) :
 Calls Tryz.prog 222 #[.slice (some ⟨g,0,none⟩) n cap,.int .i64 a,.int .i64 m,.int .i64 b,cmpV] w (zfW w0 w g n cap l):=by
 have HG0:=hid h
 have HML:Hid (l.length=n):=by show _=_;rw[h.n_eq]
 clear h
 have t0:((m:Int)-(a:Int)==1)=false:=by rw[beq_eq_false_iff_ne];omega
 have t1:((b:Int)-(m:Int)==1)=true:=by rw[beq_iff_eq];omega
 have hbm1:b≤m+1:=by omega
 have hmn:m<n:=by omega
 have hmn':(m:Int)<(n:Int):=by omega
 clear hma hbm
 go_enter Tryz.func222,Tryz.ntmps222
 go_wp2
 go_loopw [14,15] (fun u v wr=>∃(i j:Nat),a≤i∧i≤j∧j≤m∧u=.int .i64 i∧v=.int .i64 j∧Hid (Ext w wr)) (fun u v _=>(intOf v).toNat-(intOf u).toNat)
 case atStart=>exact⟨a,m,by omega,by omega,by omega,rfl,rfl,Ext.refl _⟩
 case round=>
  obtain⟨i,j,hi,hij,hj,rfl,rfl,HX⟩:=hrel
  have HGM:=hid (HG0.out.later HX.out)
  by_cases hlt:i<j
  ·have hlt':(i:Int)<(j:Int):=by omega
   obtain⟨q,hq⟩:∃q,q=(i+j) / 2:=⟨_,rfl⟩
   have hq1:i≤q:=by omega
   have hq2:q<j:=by omega
   have zq:((i:Int)+(j:Int)) / 2=(q:Int):=by omega
   clear hq
   have hml:=HML.out
   obtain⟨x,hx⟩:∃x,l[m]?=some x:=⟨_,List.getElem?_eq_getElem (show m<l.length by omega)⟩
   obtain⟨y,hy⟩:∃y,l[q]?=some y:=⟨_,List.getElem?_eq_getElem (show q<l.length by omega)⟩
   have z2:(m:Int)<(n:Int):=by omega
   have z3:(q:Int)<(n:Int):=by omega
   have z4:m<n:=by omega
   have z5:q<n:=by omega
   have x0:=HGM.out.at0 hx
   have x1:=HGM.out.at1 hx
   have y0:=HGM.out.at0 hy
   have y1:=HGM.out.at1 hy
   clear hx hy hml
   cases hcb:decide (cmpA x y<0) with
   |false=>
    go_wp2
    refine zac (.read 0 (.read 1 (.read 2 (.read 3 (.read 4 (.read 5 (.read 6 (.read 7 (.read 8 (.main 9 (.read 10 (.read 11 .done)))))))))))) (by kernel_rfl) (by kernel_rfl) ?_
    intro wD hxD
    have XE:Hid (Ext wD wD):=Ext.refl _
    have px0:=zaa (zaa x0 _ hxD)
    have px1:=zaa (zaa x1 _ hxD)
    have py0:=zaa (zaa y0 _ hxD)
    have py1:=zaa (zaa y1 _ hxD)
    repeat' ((first
     |refine zaf rfl rfl ?_
     |refine zad rfl rfl ?_
     |refine zai rfl rfl ?_
     |refine zab rfl rfl ?_
     |(refine zae (v:=?_) rfl rfl (fun w' hE=>?_) ?_;rotate_left 1;(· ((try(have hEx:=Ext.trans (Hid.out XE) hE));go_simp;(try go_bits);with_reducible rfl)))
     |refine walks_alt ?_ ?_
     | (refine zah rfl rfl (fun K hK=>?_);go_wp2_with ((go_at_call 180;(with_reducible refine (zea x y _).mono ?_);rintro e w2 ⟨rfl,hx2⟩;replace XE:=hid (Ext.trans (Hid.out XE) hx2)));refine hK _ _ (by first | assumption | exact Ext.alloc _ _ | exact Ext.refl _) ?_;clear hK K));try simp only [Act.put,Act.eval,evs])
    refine zag ?_
    have HXW:=hid (hxD.trans XE.out)
    clear px0 px1 py0 py1 x0 x1 y0 y1
    go_wp2
    exact⟨⟨q+1,j,by omega,by omega,by omega,by go_num,rfl,HX.out.trans HXW.out⟩,by simp[intOf];omega⟩
   |true=>
    have hc:=of_decide_eq_true hcb
    clear hcb
    go_wp2
    refine zac (.read 0 (.read 1 (.read 2 (.read 3 (.read 4 (.read 5 (.read 6 (.read 7 (.read 8 (.main 9 (.read 10 (.read 11 .done)))))))))))) (by kernel_rfl) (by kernel_rfl) ?_
    intro wD hxD
    have XE:Hid (Ext wD wD):=Ext.refl _
    have px0:=zaa (zaa x0 _ hxD)
    have px1:=zaa (zaa x1 _ hxD)
    have py0:=zaa (zaa y0 _ hxD)
    have py1:=zaa (zaa y1 _ hxD)
    repeat' ((first
     |refine zaf rfl rfl ?_
     |refine zad rfl rfl ?_
     |refine zai rfl rfl ?_
     |refine zab rfl rfl ?_
     |(refine zae (v:=?_) rfl rfl (fun w' hE=>?_) ?_;rotate_left 1;(· ((try(have hEx:=Ext.trans (Hid.out XE) hE));go_simp;(try go_bits);with_reducible rfl)))
     |refine walks_alt ?_ ?_
     | (refine zah rfl rfl (fun K hK=>?_);go_wp2_with ((go_at_call 180;(with_reducible refine (zea x y _).mono ?_);rintro e w2 ⟨rfl,hx2⟩;replace XE:=hid (Ext.trans (Hid.out XE) hx2)));refine hK _ _ (by first | assumption | exact Ext.alloc _ _ | exact Ext.refl _) ?_;clear hK K));try simp only [Act.put,Act.eval,evs])
    refine zag ?_
    have HXW:=hid (hxD.trans XE.out)
    clear px0 px1 py0 py1 x0 x1 y0 y1
    go_wp2
    exact⟨⟨i,q,by omega,by omega,by omega,rfl,rfl,HX.out.trans HXW.out⟩,by simp[intOf];omega⟩
  ·have hlt':¬(i:Int)<(j:Int):=by omega
   have HBR:Hid (Below w0.heap.size w wr):=Below.mono HX.out (zaz HG0.out.ext)
   go_wp2
   go_loopw [17] (fun u wq=>∃(k:Nat) (m1:List Ava),i≤k∧k≤m∧u=.int .i64 k∧Hid (GrowA 189 w0 wq (.slice (some ⟨g,0,none⟩) n cap) m1∧Below w0.heap.size w wq)∧Hid (Sub l m1)) (fun u _=>(intOf u).toNat)
   case atStart=>exact⟨m,l,by omega,by omega,rfl,⟨HGM.out,HBR.out⟩,Sub.refl l⟩
   case round=>
    obtain⟨k,m1,hk1,hk2,rfl,HGK,HS⟩:=hrel
    by_cases hlt2:i<k
    ·have hlt2':(i:Int)<(k:Int):=by omega
     obtain⟨k1,hk3⟩:∃k1,k1=k-1:=⟨_,rfl⟩
     have zk:(k:Int)-1=(k1:Int):=by omega
     have hk4:k1<k:=by omega
     have hk5:i≤k1:=by omega
     have HM1:Hid (m1.length=n):=by show _=_;rw[HS.out.1];exact HML.out
     clear HML
     have HML:=HM1
     have hml:=HML.out
     obtain⟨x,hx⟩:∃x,m1[k]?=some x:=⟨_,List.getElem?_eq_getElem (show k<m1.length by omega)⟩
     obtain⟨y,hy⟩:∃y,m1[k1]?=some y:=⟨_,List.getElem?_eq_getElem (show k1<m1.length by omega)⟩
     have z2:(k:Int)<(n:Int):=by omega
     have z3:(k1:Int)<(n:Int):=by omega
     have z4:k<n:=by omega
     have z5:k1<n:=by omega
     have HKA:Hid (k<m1.length):=by show _<_;omega
     have HKB:Hid (k1<m1.length):=by show _<_;omega
     have HXA:=hid hx
     have HYB:=hid hy
     have HSW:=hid (zgB hx hy)
     have HS2:=hid (HS.out.trans (zec m1 k k1))
     clear hx hy hml
     clear hk3
     go_wp2
     refine zap w0.heap.size (.read 0 (.read 1 (.read 2 (.read 3 (.read 4 (.read 5 (.read 6 (.read 7 (.read 8 (.read 10 (.read 11 (.read 12 (.alt 9 (.main 13 (.read 14 (.main 15 (.read 16 (.main 17 .done))))) (.main 13 (.main 9 (.read 14 (.main 15 (.read 16 (.main 17 .done))))))))))))))))))) (by kernel_rfl) (by kernel_rfl) ?_
     intro wD hxD
     have XB:Hid (Below w0.heap.size wD wD):=Below.refl _ _
     have HGD:=hid (HGK.out.1.later hxD)
     repeat' ((first
      |refine zaF rfl rfl ?_
      |refine zaw rfl rfl ?_
      |refine walksB_skip rfl rfl ?_
      |refine walksB_unwanted rfl rfl ?_
      |(refine zaC (v:=?_) rfl rfl (fun w' hE=>?_) ?_;rotate_left 1;(· ((try(have hEx:=Below.trans (Hid.out XB) hE));go_simp;(try go_bits);with_reducible rfl)))
      |(refine zam rfl rfl (fun K hK=>?_);(first|(refine zbS _ rfl (k) rfl HGD.out x HXA.out ?_)|(refine zbS _ rfl (k1) rfl HGD.out y HYB.out ?_)|(refine zbt _ _ rfl (k) rfl y rfl HGD.out HKA.out ?_;intro w7 hg7 hb7;have HG7:=hid hg7;clear hg7;replace XB:=hid (Below.trans (Hid.out XB) (hb7)))|(refine zbt _ _ rfl (k1) rfl x rfl HG7.out (by rw[List.length_set];exact HKB.out) ?_;intro w8 hg8 hb8;have HG8:=hid hg8;clear hg8;replace XB:=hid (Below.trans (Hid.out XB) (hb8))));refine hK _ _ (by first|assumption|exact Below.refl _ _|exact Below.mono (Ext.alloc _ _) (Hid.out HSW)|exact Below.setCell (p:=⟨_,_,_⟩) (Below.refl _ _) (Nat.le_refl _) _) ?_;clear hK K)
      |refine zaL ?_ ?_
      | (refine zam rfl rfl (fun K hK=>?_);go_wp2_with (fail);refine hK _ _ (by first | assumption | exact Below.refl _ _ | exact Below.mono (Ext.alloc _ _) (Hid.out HSW) | exact Below.setCell (p:=⟨_,_,_⟩) (Below.refl _ _) (Nat.le_refl _) _) ?_;clear hK K));try simp only [Act.put,Act.eval,evs])
     all_goals
      refine zaG ?_
      rw[←HSW.out] at HG8
      have HBX:=hid (Below.trans HGK.out.2 (Below.trans (Below.mono hxD (zaz HGK.out.1.ext)) XB.out))
      go_wp2
      exact⟨⟨k1,_,by omega,by omega,rfl,⟨HG8.out,HBX.out⟩,HS2⟩,by simp[intOf];omega⟩
    ·have hlt2':¬(i:Int)<(k:Int):=by omega
     go_wp2
     (try simp only[Exit.inBlock,Exit.then])
     refine bodyPost_ret (results_none rfl _ _ _) rfl ?_
     exact⟨rfl,⟨m1,HGK.out.1,HS.out⟩,HGK.out.2⟩
def zi5(d:Nat):Prop:=∀(w0 w:World) (g n cap a m b:Nat) (l:List Ava),b-a≤d→GrowA 189 w0 w (.slice (some ⟨g,0,none⟩) n cap) l→a<m→m<b→b≤n→n≤4000000 →
 Calls Tryz.prog 222 #[.slice (some ⟨g,0,none⟩) n cap,.int .i64 a,.int .i64 m,.int .i64 b,cmpV] w (zfW w0 w g n cap l)
theorem zql(d:Nat)(IH:Hid (zi5 d)){w0 w:World}{g n cap a m b:Nat}{l:List Ava}(h:GrowA 189 w0 w (.slice (some ⟨g,0,none⟩) n cap) l)(h1:a<m)(h2:m<b)(h3:b≤n)(hn:n≤4000000)(hd:b-a≤d+1)(hma:¬m=a+1)(hbm:¬b=m+1) :
 Calls Tryz.prog 222 #[.slice (some ⟨g,0,none⟩) n cap,.int .i64 a,.int .i64 m,.int .i64 b,cmpV] w (zfW w0 w g n cap l):=by
 have HIH:=IH.out
 unfold zi5 at HIH
 clear IH
 have HG0:=hid h
 have HML:Hid (l.length=n):=by show _=_;rw[h.n_eq]
 clear h
 have t0:((m:Int)-(a:Int)==1)=false:=by rw[beq_eq_false_iff_ne];omega
 have t1:((b:Int)-(m:Int)==1)=false:=by rw[beq_eq_false_iff_ne];omega
 obtain⟨md,hmd⟩:∃md,md=(a+b) / 2:=⟨_,rfl⟩
 have zmd:((a:Int)+(b:Int)) / 2=(md:Int):=by omega
 have hmd1:2 * md≤a+b:=by omega
 have hmd2:a+b≤2 * md+1:=by omega
 have hma1:a+2≤m:=by omega
 have hmb1:m+2≤b:=by omega
 clear hmd hma hbm
 obtain⟨nn,hnn⟩:∃nn,nn=md+m:=⟨_,rfl⟩
 obtain⟨pp,hpp⟩:∃pp,pp=md+m-1:=⟨_,rfl⟩
 have zn:(md:Int)+(m:Int)=(nn:Int):=by omega
 have zp:(nn:Int)-1=(pp:Int):=by omega
 have hn1:nn≤md+m:=by omega
 have hn2:md+m≤nn:=by omega
 have hp1:pp+1≤nn:=by omega
 have hp2:nn≤pp+1:=by omega
 clear hnn hpp
 go_enter Tryz.func222,Tryz.ntmps222
 go_upto_if 140 with fail
 go_cut [20,21] (fun u v wx=>∃s r:Nat,u=.int .i64 s∧v=.int .i64 r∧Hid (Ext w wx)∧a≤s∧s≤r∧r≤m∧r≤md∧md+m≤s+b)
 case first=>
  by_cases hmm:md<m
  ·have t2:decide ((md:Int)<(m:Int))=true:=by rw[decide_eq_true_eq];omega
   have t3:decide (md<m)=true:=by rw[decide_eq_true_eq];omega
   go_wp2
   go_meet
   exact⟨md+m-b,md,by go_num,rfl,Ext.refl _,by omega,by omega,by omega,by omega,by omega⟩
  ·have t2:decide ((md:Int)<(m:Int))=false:=by rw[decide_eq_false_iff_not];omega
   have t3:decide (md<m)=false:=by rw[decide_eq_false_iff_not];omega
   go_wp2
   go_meet
   exact⟨a,m,rfl,rfl,Ext.refl _,by omega,by omega,by omega,by omega,by omega⟩
 case rest=>
  obtain⟨s0,r0,rfl,rfl,HXC,hs1,hs2,hs3,hs4,hs5⟩:=hcut
  go_wp2
  go_loopw [20,21] (fun u v wr=>∃(s r:Nat),a≤s∧s≤r∧r≤m∧r≤md∧md+m≤s+b∧u=.int .i64 s∧v=.int .i64 r∧Hid (Ext w wr)) (fun u v _=>(intOf v).toNat-(intOf u).toNat)
  case atStart=>exact⟨s0,r0,by omega,by omega,by omega,by omega,by omega,rfl,rfl,HXC.out⟩
  case round=>
   clear hs1 hs2 hs3 hs4 hs5
   obtain⟨s,r,hs1,hs2,hs3,hs4,hs5,rfl,rfl,HX⟩:=hrel
   have HGM:=hid (HG0.out.later HX.out)
   by_cases hlt:s<r
   ·have hlt':(s:Int)<(r:Int):=by omega
    obtain⟨q,hq⟩:∃q,q=(s+r) / 2:=⟨_,rfl⟩
    have hq1:s≤q:=by omega
    have hq2:q<r:=by omega
    have zq:((s:Int)+(r:Int)) / 2=(q:Int):=by omega
    obtain⟨t,ht⟩:∃t,t=pp-q:=⟨_,rfl⟩
    have zt:(pp:Int)-(q:Int)=(t:Int):=by omega
    have ht1:t<n:=by omega
    have hq3:q<n:=by omega
    clear hq ht HIH
    have hml:=HML.out
    obtain⟨x,hx⟩:∃x,l[t]?=some x:=⟨_,List.getElem?_eq_getElem (show t<l.length by omega)⟩
    obtain⟨y,hy⟩:∃y,l[q]?=some y:=⟨_,List.getElem?_eq_getElem (show q<l.length by omega)⟩
    have z2:(t:Int)<(n:Int):=by omega
    have z3:(q:Int)<(n:Int):=by omega
    have z4:t<n:=by omega
    have z5:q<n:=by omega
    have x0:=HGM.out.at0 hx
    have x1:=HGM.out.at1 hx
    have y0:=HGM.out.at0 hy
    have y1:=HGM.out.at1 hy
    clear hx hy hml
    cases hcb:decide (cmpA x y<0) with
    |false=>
     go_wp2
     refine zac (.read 0 (.read 1 (.read 2 (.read 3 (.read 4 (.read 5 (.read 6 (.read 7 (.read 8 (.read 9 (.read 10 (.main 11 (.read 12 (.read 13 .done)))))))))))))) (by kernel_rfl) (by kernel_rfl) ?_
     intro wD hxD
     have XE:Hid (Ext wD wD):=Ext.refl _
     have px0:=zaa (zaa x0 _ hxD)
     have px1:=zaa (zaa x1 _ hxD)
     have py0:=zaa (zaa y0 _ hxD)
     have py1:=zaa (zaa y1 _ hxD)
     repeat' ((first
      |refine zaf rfl rfl ?_
      |refine zad rfl rfl ?_
      |refine zai rfl rfl ?_
      |refine zab rfl rfl ?_
      |(refine zae (v:=?_) rfl rfl (fun w' hE=>?_) ?_;rotate_left 1;(· ((try(have hEx:=Ext.trans (Hid.out XE) hE));go_simp;(try go_bits);with_reducible rfl)))
      |refine walks_alt ?_ ?_
      | (refine zah rfl rfl (fun K hK=>?_);go_wp2_with ((go_at_call 180;(with_reducible refine (zea x y _).mono ?_);rintro e w2 ⟨rfl,hx2⟩;replace XE:=hid (Ext.trans (Hid.out XE) hx2)));refine hK _ _ (by first | assumption | exact Ext.alloc _ _ | exact Ext.refl _) ?_;clear hK K));try simp only [Act.put,Act.eval,evs])
     refine zag ?_
     have HXW:=hid (hxD.trans XE.out)
     clear px0 px1 py0 py1 x0 x1 y0 y1
     go_wp2
     exact⟨⟨q+1,r,by omega,by omega,by omega,by omega,by omega,by go_num,rfl,HX.out.trans HXW.out⟩,by simp[intOf];omega⟩
    |true=>
     have hc:=of_decide_eq_true hcb
     clear hcb
     go_wp2
     refine zac (.read 0 (.read 1 (.read 2 (.read 3 (.read 4 (.read 5 (.read 6 (.read 7 (.read 8 (.read 9 (.read 10 (.main 11 (.read 12 (.read 13 .done)))))))))))))) (by kernel_rfl) (by kernel_rfl) ?_
     intro wD hxD
     have XE:Hid (Ext wD wD):=Ext.refl _
     have px0:=zaa (zaa x0 _ hxD)
     have px1:=zaa (zaa x1 _ hxD)
     have py0:=zaa (zaa y0 _ hxD)
     have py1:=zaa (zaa y1 _ hxD)
     repeat' ((first
      |refine zaf rfl rfl ?_
      |refine zad rfl rfl ?_
      |refine zai rfl rfl ?_
      |refine zab rfl rfl ?_
      |(refine zae (v:=?_) rfl rfl (fun w' hE=>?_) ?_;rotate_left 1;(· ((try(have hEx:=Ext.trans (Hid.out XE) hE));go_simp;(try go_bits);with_reducible rfl)))
      |refine walks_alt ?_ ?_
      | (refine zah rfl rfl (fun K hK=>?_);go_wp2_with ((go_at_call 180;(with_reducible refine (zea x y _).mono ?_);rintro e w2 ⟨rfl,hx2⟩;replace XE:=hid (Ext.trans (Hid.out XE) hx2)));refine hK _ _ (by first | assumption | exact Ext.alloc _ _ | exact Ext.refl _) ?_;clear hK K));try simp only [Act.put,Act.eval,evs])
     refine zag ?_
     have HXW:=hid (hxD.trans XE.out)
     clear px0 px1 py0 py1 x0 x1 y0 y1
     go_wp2
     exact⟨⟨s,q,by omega,by omega,by omega,by omega,by omega,rfl,rfl,HX.out.trans HXW.out⟩,by simp[intOf];omega⟩
   ·have hlt':¬(s:Int)<(r:Int):=by omega
    obtain⟨en,hen⟩:∃en,en=nn-s:=⟨_,rfl⟩
    have ze:(nn:Int)-(s:Int)=(en:Int):=by omega
    have he1:en+s≤md+m:=by omega
    have he2:md+m≤en+s:=by omega
    have HBR:Hid (Below w0.heap.size w wr):=Below.mono HX.out (zaz HG0.out.ext)
    clear hen
    go_upto_region 39 with fail
    go_cut [185] (fun c wx=>c=.bool (decide (s<m∧m<en))∧Hid (Ext wr wx))
    case first=>
     as_aux_lemma=>
      by_cases q1:s<m
      ·have q1':(s:Int)<(m:Int):=by omega
       by_cases q2:m<en
       ·have q2':(m:Int)<(en:Int):=by omega
        have HQ:Hid (decide (s<m∧m<en)=true):=decide_eq_true ⟨q1,q2⟩
        go_wp2
        go_meet
        exact⟨by rw[HQ.out]<;>rfl,Ext.refl _⟩
       ·have q2':decide (m<en)=false:=decide_eq_false q2
        have HQ:Hid (decide (s<m∧m<en)=false):=decide_eq_false (fun h=>q2 h.2)
        go_wp2
        go_meet
        exact⟨by rw[HQ.out]<;>rfl,Ext.refl _⟩
      ·have q1':decide (s<m)=false:=decide_eq_false q1
       have HQ:Hid (decide (s<m∧m<en)=false):=decide_eq_false (fun h=>q1 h.1)
       go_wp2
       go_meet
       exact⟨by rw[HQ.out]<;>rfl,Ext.refl _⟩
    case rest=>
     obtain⟨rfl,HXA⟩:=hcut
     have HGA:=hid (HGM.out.later HXA.out)
     have HBA:=hid (Below.trans HBR.out (Below.mono HXA.out (zaz HGM.out.ext)))
     clear HXA
     go_upto_if 185 with fail
     go_cut [191] (fun c wx=>Hid (∃l1,GrowA 189 w0 wx (.slice (some ⟨g,0,none⟩) n cap) l1∧Sub l l1∧Below w0.heap.size w wx))
     case first=>
      as_aux_lemma=>
       by_cases hq:s<m∧m<en
       ·have hq':decide (s<m∧m<en)=true:=decide_eq_true hq
        have q1:=hq.1
        have q2:=hq.2
        go_wp2_with(go_at_call 248;(with_reducible refine(zmL HGA.out q1 q2 (by omega) hn).mono ?_);rintro e w3 ⟨rfl,⟨l3,hg3,hs3⟩,hb3⟩;have HG3:=hid hg3;have HS3:=hid hs3;have HB3:=hid hb3;clear hg3 hs3 hb3)
        go_meet
        exact⟨l3,HG3.out,HS3.out,Below.trans HBA.out HB3.out⟩
       ·have hq':decide (s<m∧m<en)=false:=decide_eq_false hq
        go_wp2
        go_meet
        exact⟨l,HGA.out,Sub.refl l,HBA.out⟩
     case rest=>
      clear HGA HBA
      obtain⟨l1,hg1,hs1',hb1⟩:=hcut.out
      have HGA:=hid hg1
      have HSA:=hid hs1'
      have HBA:=hid hb1
      clear hcut hg1 hs1' hb1
      go_upto_region 41 with fail
      go_cut [199] (fun c wx=>c=.bool (decide (a<s∧s<md))∧Hid (Ext wc wx))
      case first=>
       as_aux_lemma=>
        by_cases q1:a<s
        ·have q1':(a:Int)<(s:Int):=by omega
         by_cases q2:s<md
         ·have q2':(s:Int)<(md:Int):=by omega
          have HQ:Hid (decide (a<s∧s<md)=true):=decide_eq_true ⟨q1,q2⟩
          go_wp2
          go_meet
          exact⟨by rw[HQ.out]<;>rfl,Ext.refl _⟩
         ·have q2':decide (s<md)=false:=decide_eq_false q2
          have HQ:Hid (decide (a<s∧s<md)=false):=decide_eq_false (fun h=>q2 h.2)
          go_wp2
          go_meet
          exact⟨by rw[HQ.out]<;>rfl,Ext.refl _⟩
        ·have q1':decide (a<s)=false:=decide_eq_false q1
         have HQ:Hid (decide (a<s∧s<md)=false):=decide_eq_false (fun h=>q1 h.1)
         go_wp2
         go_meet
         exact⟨by rw[HQ.out]<;>rfl,Ext.refl _⟩
      case' rest=>
       obtain⟨rfl,HXA⟩:=hcut
       have HGB:=hid (HGA.out.later HXA.out)
       have HBB:=hid (Below.trans HBA.out (Below.mono HXA.out (zaz HGA.out.ext)))
       clear HXA HGA HBA
       have HGA:=HGB
       have HBA:=HBB
       clear HGB HBB
       go_upto_if 199 with fail
       go_cut [205] (fun c wx=>Hid (∃l2,GrowA 189 w0 wx (.slice (some ⟨g,0,none⟩) n cap) l2∧Sub l1 l2∧Below w0.heap.size w wx))
       case first=>
        as_aux_lemma=>
         by_cases hq:a<s∧s<md
         ·have hq':decide (a<s∧s<md)=true:=decide_eq_true hq
          have q1:=hq.1
          have q2:=hq.2
          go_wp2_with(go_at_call 222;(with_reducible refine(HIH _ _ _ _ _ a s md _ (by omega) HGA.out (by omega) (by omega) (by omega) hn).mono ?_);rintro e w3 ⟨rfl,⟨l3,hg3,hs3⟩,hb3⟩;have HG3:=hid hg3;have HS3:=hid hs3;have HB3:=hid hb3;clear hg3 hs3 hb3)
          go_meet
          exact⟨l3,HG3.out,HS3.out,Below.trans HBA.out HB3.out⟩
         ·have hq':decide (a<s∧s<md)=false:=decide_eq_false hq
          go_wp2
          go_meet
          exact⟨l1,HGA.out,Sub.refl l1,HBA.out⟩
      case rest=>
       clear HGA HBA
       obtain⟨l2,hg1,hs1',hb1⟩:=hcut.out
       have HSA2:=hid (HSA.out.trans hs1')
       clear HSA
       have HGA:=hid hg1
       have HSA:=HSA2
       have HBA:=hid hb1
       clear hcut hg1 hs1' hb1
       obtain⟨l1',hl1⟩:∃l1',l1'=l2:=⟨_,rfl⟩
       rw[←hl1] at HGA HSA
       clear hl1
       go_upto_region 43 with fail
       go_cut [213] (fun c wx=>c=.bool (decide (md<en∧en<b))∧Hid (Ext wc wx))
       case first=>
        as_aux_lemma=>
         by_cases q1:md<en
         ·have q1':(md:Int)<(en:Int):=by omega
          by_cases q2:en<b
          ·have q2':(en:Int)<(b:Int):=by omega
           have HQ:Hid (decide (md<en∧en<b)=true):=decide_eq_true ⟨q1,q2⟩
           go_wp2
           go_meet
           exact⟨by rw[HQ.out]<;>rfl,Ext.refl _⟩
          ·have q2':decide (en<b)=false:=decide_eq_false q2
           have HQ:Hid (decide (md<en∧en<b)=false):=decide_eq_false (fun h=>q2 h.2)
           go_wp2
           go_meet
           exact⟨by rw[HQ.out]<;>rfl,Ext.refl _⟩
         ·have q1':decide (md<en)=false:=decide_eq_false q1
          have HQ:Hid (decide (md<en∧en<b)=false):=decide_eq_false (fun h=>q1 h.1)
          go_wp2
          go_meet
          exact⟨by rw[HQ.out]<;>rfl,Ext.refl _⟩
       case' rest=>
        obtain⟨rfl,HXA⟩:=hcut
        have HGB:=hid (HGA.out.later HXA.out)
        have HBB:=hid (Below.trans HBA.out (Below.mono HXA.out (zaz HGA.out.ext)))
        clear HXA HGA HBA
        have HGA:=HGB
        have HBA:=HBB
        clear HGB HBB
        go_upto_if 213 with fail
        have HBW:=hid HBA.out
        by_cases hq:md<en∧en<b
        ·as_aux_lemma=>
          have hq':decide (md<en∧en<b)=true:=decide_eq_true hq
          have q1:=hq.1
          have q2:=hq.2
          go_wp2_with(go_at_call 222;(with_reducible refine(HIH _ _ _ _ _ md en b _ (by omega) HGA.out (by omega) (by omega) (by omega) hn).mono ?_);rintro e w3 ⟨rfl,⟨l3,hg3,hs3⟩,hb3⟩;have HG3:=hid hg3;have HS3:=hid hs3;have HB3:=hid hb3;clear hg3 hs3 hb3)
          go_end0
          exact⟨rfl,⟨l3,HG3.out,HSA.out.trans HS3.out⟩,Below.trans HBA.out HB3.out⟩
        ·have hq':decide (md<en∧en<b)=false:=decide_eq_false hq
         go_wp2
         go_end0
         exact⟨rfl,⟨_,HGA.out,HSA.out⟩,HBA.out⟩
theorem zgh:∀d,zi5 d
 |0=>fun w0 w g n cap a m b l hd _ h1 h2=>by omega
 |d+1=>fun w0 w g n cap a m b l hd h h1 h2 h3 hn=>by
  by_cases hma:m=a+1
  ·exact zrZ h h1 h2 h3 hn hma
  ·by_cases hbm:b=m+1
   ·exact zsr h h1 h2 h3 hn hma hbm
   ·exact zql d (hid (zgh d)) h h1 h2 h3 hn hd hma hbm
def zev(w0 w:World)(g n cap:Nat)(l:List Ava)(e:Ending)(w':World):Prop:=
 e=.returned (.tuple #[])∧(∃l',GrowA 189 w0 w' (.slice (some ⟨g,0,none⟩) n cap) l'∧Sub l l'∧(n<20→l'=insF 0 (n-1) l))∧Below w0.heap.size w w'
theorem zsp{w0 w:World}{g n cap b:Nat}{l:List Ava}(h:GrowA 189 w0 w (.slice (some ⟨g,0,none⟩) n cap) l)(hb:b≤n)(hn:n≤4000000) :
 Calls Tryz.prog 221 #[.slice (some ⟨g,0,none⟩) n cap,.int .i64 0,.int .i64 b,cmpV] w fun e w'=>
  e=.returned (.tuple #[])∧GrowA 189 w0 w' (.slice (some ⟨g,0,none⟩) n cap) (insF 0 (b-1) l)∧Below w0.heap.size w w':=zfT (a:=0) h hb (by omega) hn
theorem zny{w0 w:World}{g n cap:Nat}{l:List Ava}(h:GrowA 189 w0 w (.slice (some ⟨g,0,none⟩) n cap) l)(hn:n≤4000000) :
 Calls Tryz.prog 204 #[.slice (some ⟨g,0,none⟩) n cap,.int .i64 n,cmpV] w (zev w0 w g n cap l):=by
 have HG0:=hid h
 have HSM:=zgh
 unfold zi5 at HSM
 clear h
 by_cases h20:n<20
 ·have t1:¬(20:Int)≤(n:Int):=by omega
  have t2:¬(20:Int)<(n:Int):=by omega
  have HZ:=hid (zfA 0 (n-1) l)
  go_enter Tryz.func204,Tryz.ntmps204
  go_wp2
  go_loopw [7,8] (fun u v wr=>u=.int .i64 0∧v=.int .i64 20∧wr=w) (fun u v _=>0)
  case atStart=>exact⟨rfl,rfl,rfl⟩
  case round=>
   obtain⟨rfl,rfl,rfl⟩:=hrel
   go_wp2_with(go_at_call 221;(with_reducible refine(zsp HG0.out (Nat.le_refl n) hn).mono ?_);rintro e w2 ⟨rfl,hg2,hb2⟩;have HG2:=hid hg2;have HB2:=hid hb2;clear hg2 hb2)
   go_loopw [6,7,8,9] (fun u _ _ _ wq=>u=.int .i64 20∧wq=w2) (fun u v _ _ _=>0)
   case atStart=>exact⟨rfl,rfl⟩
   case round=>
    obtain⟨rfl,rfl⟩:=hrel
    go_wp2
    go_end0
    exact⟨rfl,⟨_,HG2.out,HZ.out,fun _=>rfl⟩,HB2.out⟩
 ·have HLN:=hid HG0.out.n_eq
  go_enter Tryz.func204,Tryz.ntmps204
  go_wp2
  go_loopw [7,8] (fun u v wr=>∃(a:Nat) (m:List Ava),a≤n∧u=.int .i64 a∧v=.int .i64 ((a+20:Nat):Int)∧Hid (GrowA 189 w0 wr (.slice (some ⟨g,0,none⟩) n cap) m∧Below w0.heap.size w wr)∧Hid (Sub l m)) (fun u v _=>n-(intOf u).toNat)
  case atStart=>exact⟨0,l,by omega,rfl,rfl,⟨HG0.out,Below.refl _ _⟩,Sub.refl l⟩
  case round=>
   obtain⟨a,m,ha,rfl,rfl,HGM,HS⟩:=hrel
   by_cases hab:a+20≤n
   ·have hab':((a+20:Nat):Int)≤(n:Int):=by omega
    obtain⟨b,hb⟩:∃b,b=a+20:=⟨_,rfl⟩
    rw[←hb] at hab hab' ⊢
    have hb1:b≤a+20:=by omega
    have hb2:a+20≤b:=by omega
    clear hb
    have HIS:=hid (zfA a (b-(a+1)) m)
    go_wp2_with(go_at_call 221;(with_reducible refine(zfT (a:=a) (b:=b) HGM.out.1 (by omega) (by omega) hn).mono ?_);rintro e w2 ⟨rfl,hg2,hb2⟩;have HG2:=hid hg2;have HB2:=hid hb2;clear hg2 hb2)
    exact⟨⟨b,_,by omega,rfl,by go_num,⟨HG2.out,Below.trans HGM.out.2 HB2.out⟩,HS.out.trans HIS.out⟩,by simp[intOf];omega⟩
   ·have hab':¬((a+20:Nat):Int)≤(n:Int):=by omega
    have HIS:=hid (zfA a (n-(a+1)) m)
    go_wp2_with(go_at_call 221;(with_reducible refine(zfT (a:=a) (b:=n) HGM.out.1 (by omega) (by omega) hn).mono ?_);rintro e w2 ⟨rfl,hg2,hb2⟩;have HG2:=hid hg2;have HB2:=hid hb2;clear hg2 hb2)
    go_loopw [6,7,8,9] (fun u _ _ _ wq=>∃(bs:Nat) (m2:List Ava),20≤bs∧bs≤2 * n∧u=.int .i64 bs∧Hid (GrowA 189 w0 wq (.slice (some ⟨g,0,none⟩) n cap) m2∧Below w0.heap.size w wq)∧Hid (Sub l m2)) (fun u _ _ _ _=>2 * n-(intOf u).toNat)
    case atStart=>exact⟨20,_,by omega,by omega,rfl,⟨HG2.out,Below.trans HGM.out.2 HB2.out⟩,HS.out.trans HIS.out⟩
    case round=>
     clear HGM HS HIS HG2 HB2
     obtain⟨bs,m2,hbs1,hbs2,rfl,HGM,HS⟩:=hrel
     by_cases hbn:bs<n
     ·have hbn':(bs:Int)<(n:Int):=by omega
      go_wp2
      go_loopw [7,8] (fun u v wq=>∃(a2 b2:Nat) (m3:List Ava),a2≤n∧b2≤a2+2 * bs∧a2+2 * bs≤b2∧u=.int .i64 a2∧v=.int .i64 b2∧Hid (GrowA 189 w0 wq (.slice (some ⟨g,0,none⟩) n cap) m3∧Below w0.heap.size w wq)∧Hid (Sub l m3)) (fun u v _=>n-(intOf u).toNat)
      case atStart=>exact⟨0,2 * bs,m2,by omega,by omega,by omega,rfl,by go_num,HGM,HS⟩
      case round=>
       clear HGM HS
       obtain⟨a2,b2,m3,ha2,hb3,hb4,rfl,rfl,HGM,HS⟩:=hrel
       obtain⟨mm,hmm⟩:∃mm,mm=a2+bs:=⟨_,rfl⟩
       have zm:(a2:Int)+(bs:Int)=(mm:Int):=by omega
       have hmm1:mm≤a2+bs:=by omega
       have hmm2:a2+bs≤mm:=by omega
       clear hmm
       by_cases hb2n:b2≤n
       ·have hb2n':(b2:Int)≤(n:Int):=by omega
        go_wp2_with(go_at_call 222;(with_reducible refine(HSM _ _ _ _ _ _ a2 mm b2 _ (Nat.le_refl _) HGM.out.1 (by omega) (by omega) (by omega) hn).mono ?_);rintro e w3 ⟨rfl,⟨l3,hg3,hs3⟩,hb3⟩;have HG3:=hid hg3;have HS3:=hid hs3;have HB3:=hid hb3;clear hg3 hs3 hb3)
        exact⟨⟨b2,b2+2 * bs,l3,by omega,by omega,by omega,rfl,by go_num,⟨HG3.out,Below.trans HGM.out.2 HB3.out⟩,HS.out.trans HS3.out⟩,by simp[intOf];omega⟩
       ·have hb2n':¬(b2:Int)≤(n:Int):=by omega
        by_cases hmn:mm<n
        ·have hmn':(mm:Int)<(n:Int):=by omega
         go_wp2_with(go_at_call 222;(with_reducible refine(HSM _ _ _ _ _ _ a2 mm n _ (Nat.le_refl _) HGM.out.1 (by omega) (by omega) (by omega) hn).mono ?_);rintro e w3 ⟨rfl,⟨l3,hg3,hs3⟩,hb3⟩;have HG3:=hid hg3;have HS3:=hid hs3;have HB3:=hid hb3;clear hg3 hs3 hb3)
         exact⟨⟨2 * bs,l3,by omega,by omega,by go_num,⟨HG3.out,Below.trans HGM.out.2 HB3.out⟩,HS.out.trans HS3.out⟩,by simp[intOf];omega⟩
        ·have hmn':¬(mm:Int)<(n:Int):=by omega
         go_wp2
         exact⟨⟨2 * bs,m3,by omega,by omega,by go_num,HGM,HS⟩,by simp[intOf];omega⟩
     ·have hbn':¬(bs:Int)<(n:Int):=by omega
      go_wp2
      go_end0
      exact⟨rfl,⟨m2,HGM.out.1,HS.out,fun h=>absurd h h20⟩,HGM.out.2⟩
theorem zqw{w0 w:World}{g n cap:Nat}{l:List Ava}(h:GrowA 189 w0 w (.slice (some ⟨g,0,none⟩) n cap) l)(hn:n≤4000000) :
 Calls Tryz.prog 179 #[.slice (some ⟨g,0,none⟩) n cap,cmpV] w (zev w0 w g n cap l):=by
 have HG0:=hid h
 clear h
 have HST:=zny HG0.out hn
 unfold zev at HST
 go_enter Tryz.func179,Tryz.ntmps179
 go_wp2_with(go_at_call 204;(with_reducible refine HST.mono ?_);rintro e w2 ⟨rfl,h1,h2⟩;have H1:=hid h1;have H2:=hid h2;clear h1 h2)
 go_end0
 exact⟨rfl,H1.out,H2.out⟩
end
end Go.Proofs.YtkjbokhnpphimaaGreatDoor
