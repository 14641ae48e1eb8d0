/- Lemmas of the walk. -/
import Derived.Test.YtkjbokhnpphimaaGreatDoorV33
set_option maxHeartbeats 40000000
set_option linter.unusedVariables false
set_option linter.unusedSimpArgs false
namespace Go.Proofs.YtkjbokhnpphimaaGreatDoor
open Go.RowKit
set_option maxRecDepth 100000
theorem zh4:(Tryz.prog.info? 106).map (fun i=>(i.zero,i.size,i.bytes))=some (some (.agg #[.slice none 0 0,.bool false]),Elem.ky.k,32):=by kernel_rfl
theorem zmG:Tryz.prog.underlying 22=some (.slice (Tryz.prog.elem 22)):=by kernel_rfl
theorem zrz(w:World):(sizeOf (Tryz.prog.elem 22)).run Tryz.prog w=.ok 2 w:=by kernel_rfl
theorem zkS(A:Option Addr)(n c l:Nat)(hlk:l≤n)(L:Int)(hL:L=l) :
 ∀w,(Instr.sliceAt 22 (.slice A n c) (some (.int .i64 L)) none none).run Tryz.prog w=.ok (.slice (cutA A l c 2) (n-l) (c-l)) w:=fun w=>by
 subst hL
 have h1:(l:Int)≤(n:Int):=by omega
 have:=run_slice_l (P:=Tryz.prog) w 22 A n c zmG .i64 (l:Int) (by omega) h1
 rw[run_sliceAt_slice w 22 _ _ _ _ zmG,this,zrz]
 simp only[sliced,cutA,Result.andThen,Int.toNat_natCast]
theorem zjW(A:Option Addr)(n c k:Nat)(hlk:k≤c)(H:Int)(hH:H=k) :
 ∀w,(Instr.sliceAt 22 (.slice A n c) none (some (.int .i64 H)) none).run Tryz.prog w=.ok (.slice (cutA A 0 c 2) k c) w:=fun w=>by
 subst hH
 have h2:(k:Int)≤(c:Int):=by omega
 have:=run_slice_h (P:=Tryz.prog) w 22 A n c zmG .i64 (k:Int) (by omega) h2
 rw[run_sliceAt_slice w 22 _ _ _ _ zmG,this,zrz]
 simp only[sliced,cutA,Result.andThen,Int.toNat_natCast,Nat.sub_zero]
theorem zmc:Tryz.prog.underlying 102=some (.slice (Tryz.prog.elem 102)):=by kernel_rfl
theorem zrt(w:World):(sizeOf (Tryz.prog.elem 102)).run Tryz.prog w=.ok 2 w:=by kernel_rfl
theorem zkw(A:Option Addr)(n c l:Nat)(hlk:l≤n)(L:Int)(hL:L=l) :
 ∀w,(Instr.sliceAt 102 (.slice A n c) (some (.int .i64 L)) none none).run Tryz.prog w=.ok (.slice (cutA A l c 2) (n-l) (c-l)) w:=fun w=>by
 subst hL
 have h1:(l:Int)≤(n:Int):=by omega
 have:=run_slice_l (P:=Tryz.prog) w 102 A n c zmc .i64 (l:Int) (by omega) h1
 rw[run_sliceAt_slice w 102 _ _ _ _ zmc,this,zrt]
 simp only[sliced,cutA,Result.andThen,Int.toNat_natCast]
theorem zkK(A:Option Addr)(n c k:Nat)(hlk:k≤c)(H:Int)(hH:H=k) :
 ∀w,(Instr.sliceAt 102 (.slice A n c) none (some (.int .i64 H)) none).run Tryz.prog w=.ok (.slice (cutA A 0 c 2) k c) w:=fun w=>by
 subst hH
 have h2:(k:Int)≤(c:Int):=by omega
 have:=run_slice_h (P:=Tryz.prog) w 102 A n c zmc .i64 (k:Int) (by omega) h2
 rw[run_sliceAt_slice w 102 _ _ _ _ zmc,this,zrt]
 simp only[sliced,cutA,Result.andThen,Int.toNat_natCast,Nat.sub_zero]
theorem zmk{α:Type}{f:α→List UInt8}{e:α}:∀{out:List α},(∀o∈out,zbA (f o) (f e)=true)→insN f e out=out++[e]
 |[],_=>rfl
 |o::t,h=>by
  unfold insN
  rw[if_pos (h o (by simp)),zmk fun x hx=>h x (by simp[hx])]
  rfl
theorem zlQ{α:Type}{f:α→List UInt8}{e o:α}:∀{out:List α} {k:Nat},(∀x∈out.take k,zbA (f x) (f e)=true)→out[k]?=some o→zbA (f o) (f e)=false →
 insN f e out=if f o=f e then out else out.take k++(e::out.drop k)
 |[],k,_,h,_=>by simp at h
 |x::t,0,_,h,hl=>by
  simp at h
  subst h
  unfold insN
  rw[hl]
  simp
 |x::t,k+1,h1,h2,h3=>by
  have ih:=zlQ (out:=t) (k:=k) (fun y hy=>h1 y (by simp[hy])) (by simpa using h2) h3
  unfold insN
  rw[if_pos (h1 x (by simp)),ih]
  split
  ·rfl
  ·simp
theorem Row.open_{α:Type}{E:Elem α}{S:Nat→Prop}{w:World}{A:Option Addr}{n c:Nat}{l:List α}(h:Row E S w A n c l):∃us:List (List Value),us.length=l.length∧Cells w A us.flatten∧∀(i:Nat) u y,us[i]?=some u→l[i]?=some y→E.R S w u y:=by
 obtain⟨h1,h2,h3,vss,h4,h5,h6⟩:=h
 exact⟨vss,by rw[h4,h1],h5.cells,h6⟩
def Elem.Ones{α:Type}(E:Elem α):Prop:=∀S w v x,E.R S w v x→∀c∈v,c.oneCell'=true
theorem zgK:Elem.ent.Ones:=fun S w v x h c hc=>by
 obtain⟨A,n,k,e,-⟩:=h
 rw[e] at hc
 simp at hc
 rcases hc with rfl|rfl<;>rfl
theorem ziI:Elem.ky.Ones:=fun S w v x h c hc=>by
 obtain⟨A,n,k,e,-⟩:=h
 rw[e] at hc
 simp at hc
 rcases hc with rfl|rfl<;>rfl
theorem zoM{α:Type}{E:Elem α}(h1:E.Ones){S:Nat→Prop}{w:World}{us:List (List Value)}{l:List α}(hl:us.length=l.length)(h:∀(i:Nat) u y,us[i]?=some u→l[i]?=some y→E.R S w u y):∀c∈us.flatten,c.oneCell'=true:=by
 intro c hc
 obtain⟨u,hu,hcu⟩:=List.mem_flatten.1 hc
 obtain⟨i,hi⟩:=List.getElem?_of_mem hu
 have hlt:=(List.getElem?_eq_some_iff.1 hi).1
 exact h1 S w u _ (h i u _ hi (List.getElem?_eq_getElem (by rw[←hl];exact hlt))) c hcu
section
variable {α:Type}{E:Elem α}{w w0:World}{o:Oper}{a:Act}{Q:Exit→Act→World→Prop}{ops:Array Oper}{rest:List Oper}
theorem zcg{T ST:TypeId}{z:Value}{bytes:Nat}(hE1:E.Ones)(hu:Tryz.prog.underlying ST=some (.slice T))(hinf:(Tryz.prog.info? T).map (fun i=>(i.zero,i.size,i.bytes))=some (some z,E.k,bytes))(hzs:z.cells.size=E.k)(hby:bytes≤1000)
 (hgd:o.guard=none) (s x:Operand) (ho:o.op=.call { callee:=.builtin .append,args:=#[s,x],argTypes:=#[ST,ST] }) {L:Option Nat} (v:Value) (l:List α) (hs:a.eval s=v) (hg:GrowM E (fun _=>True) T L w0 w v l)
 {S:Nat→Prop} {A:Option Addr} {m c:Nat} (ys:List α) (hr:Row E S w0 A m c ys) (hx:a.eval x=.slice A m c) (hb:l.length+m≤8000000)
 (h:∀v' w',GrowM E (fun _=>True) T L w0 w' v' (l++ys)→Below w0.heap.size w w'→wpList Tryz.prog ops Q rest (a.put o.dst v') w'):wpList Tryz.prog ops Q (o::rest) a w:=by
 obtain⟨us,h1,h2,h3⟩:=hr.open_
 refine zjp hu hinf hzs hby hgd s x ho v l hs hg us ys h1 (fun i u y hi hy=>hg.old (S':=S) (fun _ _ _=>trivial) (h3 i u y hi hy)) (zoM hE1 h1 h3) hx hr.len (h2.below hg.ext) hb fun v' w' k1 k2 k3=>h v' w' k1 k3
end
theorem zgT{α:Type}{E:Elem α}{S:Nat→Prop}{w:World}{A:Option Addr}{n c:Nat}{l:List α}(h:Row E S w A n c l):Row E (fun _=>True) w A n c l:=h.mono fun _ _ _=>trivial
theorem GrowM.rowN{α:Type}{E:Elem α}{T:TypeId}{L:Option Nat}{w wr:World}{v:Value}{l:List α}(h:GrowM E (fun _=>True) T L w wr v l):∃A n c,v=.slice A n c∧Row E (fun _=>True) wr A n c l:=by
 obtain⟨A,c,h1,h2⟩:=h.row
 exact⟨A,_,c,h1,zgT h2⟩
def zep(w:World)(l:List Ent)(e:Ending)(w':World):Prop:=∃A n c,e=.returned (.slice A n c)∧Row Elem.ent (fun _=>True) w' A n c (sortN nmE l)∧Ext w w'
theorem znN{α:Type}{f:α→List UInt8}{l:List α}{j:Nat}{x:α}(h:l[j]?=some x):sortN f (l.take (j+1))=insN f x (sortN f (l.take j)):=by
 unfold sortN
 rw[List.take_add_one,h]
 simp
theorem zlB{S:Nat→Prop}{A:Option Addr}{n c:Nat}{l:List Ent}{w:World}(h:Row Elem.ent S w A n c l)(hG:Gl w)(hm:n≤1000000) :
 Calls Tryz.prog 16 #[.slice A n c] w (zep w l):=by
 have HG:=hid hG
 have HR:=hid (zgT h)
 have hl:=hid h.len
 unfold zep
 clear h hG
 go_enter Tryz.func16,Tryz.ntmps16
 go_wp2
 go_loopw [3,4,14] (fun u v i wr=>∃(j:Nat) (A1:Option Addr) (m1 c1:Nat) (A2:Option Addr) (c2:Nat),j≤n∧m1≤j∧i=.int .i64 j∧u=.slice A1 m1 c1∧v=.slice A2 m1 c2∧Hid (Row Elem.ent (fun _=>True) wr A1 m1 c1 (sortN nmE (l.take j))∧Row Elem.ky (fun _=>True) wr A2 m1 c2 ((sortN nmE (l.take j)).map fun e=>keyE (nmE e))∧Ext w wr)) (fun _ _ i _=>n-(intOf i).toNat)
 case atStart=>exact⟨0,none,0,0,none,0,by omega,by omega,rfl,rfl,rfl,Row.nil _ _ _,Row.nil _ _ _,Ext.refl w⟩
 case round=>
  obtain⟨j,A1,m1,c1,A2,c2,hj,hmj,rfl,rfl,rfl,HI⟩:=hrel
  by_cases hlt:j<n
  ·obtain⟨b1,o1,v1,x1,rfl,g1,_,⟨A3,n3,c3,rfl,r1⟩,q1⟩:=(HR.out.ext HI.out.2.2).at_ hlt
   have e10:=q1 0 _ rfl
   have e11:=q1 1 _ rfl
   simp only[Elem.ent,Nat.add_zero] at e10 e11
   have R1:=hid r1
   have HST:=hid (znN (f:=nmE) g1)
   have E10:=hid e10
   have E11:=hid e11
   have HP:Calls Tryz.prog 45 #[.string x1.name] wr (zbL wr (nmE x1)):=zmX x1.name wr (HG.out.ext HI.out.2.2)
   unfold zbL at HP
   have HKY:Hid (keyE (nmE x1)=⟨okL (zak (nmE x1)),zaJ (zak (nmE x1))==0⟩):=rfl
   have HPL:Hid ((okL (zak (nmE x1))).length≤12):=(zcU (nmE x1)).1
   have HBN:Hid (b1<wr.heap.size):=World.block_lt_of_cell? wr _ e10
   clear q1 r1 g1 e11
   generalize okL (zak (nmE x1))=pl at*
   generalize zaJ (zak (nmE x1))=cd at*
   go_wp2_with(go_at_call 45;(with_reducible refine HP.mono ?_);rintro e w1 ⟨A4,n4,c4,rfl,hr4,hx4⟩;have HR4:=hid hr4;have HX4:=hid hx4;clear hr4 hx4)
   clear HP
   obtain⟨out,hout⟩:∃o,o=sortN nmE (l.take j):=⟨_,rfl⟩
   rw[←hout] at HI HST
   clear hout
   have HLO:Hid (m1=out.length):=HI.out.1.len
   have HKN:Hid (n4≤1000000):=by
    show _≤_
    have h1:=HR4.out.len
    have h2:=HPL.out
    rw[List.length_map] at h1
    omega
   have HBK:=hid (Bx.make HX4.out #[.slice A4 n4 c4,.bool (cd==0)] 106)
   have HI4:Hid (Row Elem.ent (fun _=>True) w1 A1 m1 c1 out∧Row Elem.ky (fun _=>True) w1 A2 m1 c2 (out.map fun e=>keyE (nmE e))∧Ext w w1):=⟨HI.out.1.ext HX4.out,HI.out.2.1.ext HX4.out,HI.out.2.2.trans HX4.out⟩
   have E40:=hid (zaa E10.out _ HX4.out)
   have E41:=hid (zaa E11.out _ HX4.out)
   have R4:=hid (R1.out.ext HX4.out)
   clear HI R1 E10 E11
   go_loopw [9] (fun i wr=>∃(k:Nat),k≤m1∧i=.int .i64 k∧Hid (∀x∈out.take k,zbA (nmE x) (nmE x1)=true)∧Hid (Ext (w1.alloc (.cells #[.slice A4 n4 c4,.bool (cd==0)] 106)) wr)) (fun i _=>m1-(intOf i).toNat)
   case atStart=>exact⟨0,by omega,rfl,fun x hx=>by simp at hx,Ext.refl _⟩
   case round=>
    obtain⟨k,hk,rfl,HK,HXK⟩:=hrel
    have HB9:=hid (HBK.out.later HXK.out)
    have HX9:Hid (Ext w1 wr):=(Ext.alloc _ _).trans HXK.out
    by_cases hkm:k<m1
    ·have hkm':(k:Int)<(m1:Int):=by omega
     obtain⟨b2,o2,v2,y2,rfl,g2,_,⟨A5,n5,c5,rfl,r5,q5⟩,q2⟩:=(HI4.out.2.1.ext HX9.out).at_ hkm
     obtain⟨b3,o3,v3,y3,rfl,g3,_,⟨A6,n6,c6,rfl,r6⟩,q3⟩:=(HI4.out.1.ext HX9.out).at_ hkm
     have e50:=q2 0 _ rfl
     have e51:=q2 1 _ rfl
     have e60:=q3 0 _ rfl
     simp only[Elem.ky,Elem.ent,Nat.add_zero] at e50 e51 e60
     have hy:y2=keyE (nmE y3):=by
      rw[List.getElem?_map,g3] at g2
      injection g2 with g2
      exact g2.symm
     subst hy
     have hK:zic (keyE (nmE y3)) ⟨pl,cd==0⟩=zbA (nmE y3) (nmE x1):=by rw[←HKY.out];exact zoE _ _
     have HAH:∀w',Ext wr w'→Calls Tryz.prog 46 #[.agg #[.slice A5 n5 c5,.bool (keyE (nmE y3)).ok],.agg #[.slice A4 n4 c4,.bool (cd==0)]] w' fun e w''=>e=.returned (.bool (zbA (nmE y3) (nmE x1)))∧Ext w' w'':=fun w' hx=>by
      have:=znx (x:=keyE (nmE y3)) (y:=⟨pl,cd==0⟩) (r5.ext hx) (HR4.out.ext (HX9.out.trans hx)) q5 HKN.out
      rw[hK] at this
      exact this
     clear hK
     have HG3:=hid g3
     clear q2 q3 r5 q5 r6 g2 g3
     generalize (keyE (nmE y3)).ok=ok5 at*
     have x0:=HB9.out.cell (i:=0) rfl
     have x1':=HB9.out.cell (i:=1) rfl
     cases hlt9:zbA (nmE y3) (nmE x1) with
     |true=>
      have HKN2:Hid (∀x∈out.take (k+1),zbA (nmE x) (nmE x1)=true):=fun x hx=>by
       rw[List.take_add_one,HG3.out] at hx
       rcases List.mem_append.1 hx with h|h
       ·exact HK.out x h
       ·simp at h;rw[h];exact hlt9
      rw[hlt9] at HAH
      clear hlt9
      go_wp2
      refine zac (.read 0 (.read 1 (.read 2 (.read 3 (.read 4 (.read 5 (.read 6 (.read 7 (.read 8 (.read 9 (.main 10 (.read 11 .done)))))))))))) (by kernel_rfl) (by kernel_rfl) ?_
      intro wD hxD
      have XE:Hid (Ext wD wD):=Ext.refl _
      have px0:=zaa (zaa x0 _ hxD)
      have px1:=zaa (zaa x1' _ hxD)
      have pe0:=zaa (zaa e50 _ hxD)
      have pe1:=zaa (zaa e51 _ hxD)
      repeat' ((first
       |refine zaf rfl rfl ?_
       |refine zad rfl rfl ?_
       |refine zai rfl rfl ?_
       |refine zab rfl rfl ?_
       |(refine zae (v:=?_) rfl rfl (fun w' hE=>?_) ?_;rotate_left 1;(· ((try(have hEx:=Ext.trans (Hid.out XE) hE));go_simp;(try go_bits);with_reducible rfl)))
       |refine walks_alt ?_ ?_
       | (refine zah rfl rfl (fun K hK=>?_);go_wp2_with ((go_at_call 46;(with_reducible refine (HAH _ (hxD.trans XE.out)).mono ?_);rintro e w2 ⟨rfl,hx2⟩;replace XE:=hid (Ext.trans (Hid.out XE) hx2)));refine hK _ _ (by first | assumption | exact Ext.alloc _ _ | exact Ext.refl _) ?_;clear hK K));try simp only [Act.put,Act.eval,evs])
      refine zag ?_
      go_wp2
      exact⟨⟨k+1,by omega,by go_num,HKN2.out,HXK.out.trans (hxD.trans XE.out)⟩,by simp[intOf];omega⟩
     |false=>
      have HFL:=hid hlt9
      rw[hlt9] at HAH
      clear hlt9
      go_wp2
      refine zac (.read 0 (.read 1 (.read 2 (.read 3 (.read 4 (.read 5 (.read 6 (.read 7 (.read 8 (.read 9 (.main 10 (.read 11 .done)))))))))))) (by kernel_rfl) (by kernel_rfl) ?_
      intro wD hxD
      have XE:Hid (Ext wD wD):=Ext.refl _
      have px0:=zaa (zaa x0 _ hxD)
      have px1:=zaa (zaa x1' _ hxD)
      have pe0:=zaa (zaa e50 _ hxD)
      have pe1:=zaa (zaa e51 _ hxD)
      repeat' ((first
       |refine zaf rfl rfl ?_
       |refine zad rfl rfl ?_
       |refine zai rfl rfl ?_
       |refine zab rfl rfl ?_
       |(refine zae (v:=?_) rfl rfl (fun w' hE=>?_) ?_;rotate_left 1;(· ((try(have hEx:=Ext.trans (Hid.out XE) hE));go_simp;(try go_bits);with_reducible rfl)))
       |refine walks_alt ?_ ?_
       | (refine zah rfl rfl (fun K hK=>?_);go_wp2_with ((go_at_call 46;(with_reducible refine (HAH _ (hxD.trans XE.out)).mono ?_);rintro e w2 ⟨rfl,hx2⟩;replace XE:=hid (Ext.trans (Hid.out XE) hx2)));refine hK _ _ (by first | assumption | exact Ext.alloc _ _ | exact Ext.refl _) ?_;clear hK K));try simp only [Act.put,Act.eval,evs])
      refine zag ?_
      have HXV:=hid (HXK.out.trans (hxD.trans XE.out))
      have HXU:=hid (HX9.out.trans (hxD.trans XE.out))
      have HXR:=hid (hxD.trans XE.out)
      clear px0 px1 pe0 pe1 x0 x1' e50 e51 XE hxD HAH
      by_cases hnm:y3.name=x1.name
      ·have f1:=zco hnm
       have HINS:Hid (sortN nmE (l.take (j+1))=out):=by
        show _=_
        rw[HST.out,zlQ HK.out HG3.out HFL.out,if_pos (by unfold nmE;rw[hnm])]
       clear hnm
       go_wp2
       refine zac (.read 0 (.read 1 (.read 2 (.read 3 (.read 4 (.read 5 (.read 6 (.read 7 (.read 8 (.read 9 (.read 10 (.read 11 (.read 12 (.read 13 (.read 14 (.read 15 (.read 16 .done))))))))))))))))) (by kernel_rfl) (by kernel_rfl) ?_
       intro wD hxD
       have XE:Hid (Ext wD wD):=Ext.refl _
       have pe0:=zaa (zaa (zaa e60 _ HXR.out) _ hxD)
       have pe1:=zaa (zaa (zaa E40.out _ HXU.out) _ hxD)
       repeat' ((first
        |refine zaf rfl rfl ?_
        |refine zad rfl rfl ?_
        |refine zai rfl rfl ?_
        |refine zab rfl rfl ?_
        |(refine zae (v:=?_) rfl rfl (fun w' hE=>?_) ?_;rotate_left 1;(· ((try(have hEx:=Ext.trans (Hid.out XE) hE));go_simp;(try go_bits);with_reducible rfl)))
        |refine walks_alt ?_ ?_
        | (refine zah rfl rfl (fun K hK=>?_);go_wp2_with (fail);refine hK _ _ (by first | assumption | exact Ext.alloc _ _ | exact Ext.refl _) ?_;clear hK K));try simp only [Act.put,Act.eval,evs])
       refine zag ?_
       clear pe0 pe1
       go_wp2
       refine⟨⟨j+1,_,m1,c1,_,c2,by omega,by omega,by go_num,rfl,rfl,?_,?_,HI4.out.2.2.trans (HXU.out.trans (hxD.trans XE.out))⟩,by simp[intOf];omega⟩
       ·rw[HINS.out];exact HI4.out.1.ext (HXU.out.trans (hxD.trans XE.out))
       ·rw[HINS.out];exact HI4.out.2.1.ext (HXU.out.trans (hxD.trans XE.out))
      ·have f1:=zch hnm
       have HINS:Hid (sortN nmE (l.take (j+1))=out.take k++x1::out.drop k):=by
        show _=_
        rw[HST.out,zlQ HK.out HG3.out HFL.out,if_neg (fun e=>hnm (by unfold nmE at e;rw[←zaK y3.name,e,zaK]))]
       clear hnm
       go_wp2
       refine zac (.read 0 (.read 1 (.read 2 (.read 3 (.read 4 (.read 5 (.read 6 (.read 7 (.read 8 (.read 9 (.read 10 (.read 11 (.read 12 (.read 13 (.read 14 (.read 15 (.read 16 .done))))))))))))))))) (by kernel_rfl) (by kernel_rfl) ?_
       intro wD hxD
       have XE:Hid (Ext wD wD):=Ext.refl _
       have pe0:=zaa (zaa (zaa e60 _ HXR.out) _ hxD)
       have pe1:=zaa (zaa (zaa E40.out _ HXU.out) _ hxD)
       repeat' ((first
        |refine zaf rfl rfl ?_
        |refine zad rfl rfl ?_
        |refine zai rfl rfl ?_
        |refine zab rfl rfl ?_
        |(refine zae (v:=?_) rfl rfl (fun w' hE=>?_) ?_;rotate_left 1;(· ((try(have hEx:=Ext.trans (Hid.out XE) hE));go_simp;(try go_bits);with_reducible rfl)))
        |refine walks_alt ?_ ?_
        | (refine zah rfl rfl (fun K hK=>?_);go_wp2_with (fail);refine hK _ _ (by first | assumption | exact Ext.alloc _ _ | exact Ext.refl _) ?_;clear hK K));try simp only [Act.put,Act.eval,evs])
       refine zag ?_
       clear pe0 pe1 e60
       have HZ1:=hid (HXU.out.trans hxD)
       have HZ2:=hid (HXV.out.trans hxD)
       clear hxD XE
       have HRO:=hid (HI4.out.1.ext HZ1.out)
       have HRK:=hid (HI4.out.2.1.ext HZ1.out)
       have HXO:=hid (HI4.out.2.2.trans HZ1.out)
       have e40:=zaa E40.out _ HZ1.out
       have e41:=zaa E41.out _ HZ1.out
       have HBQ:=hid (HBK.out.later HZ2.out)
       have HGN:=hid (GrowM.nil (E:=Elem.ent) (S:=fun _=>True) (T:=58) (L:=none) (Ext.refl wD) (fun g hg=>by cases hg))
       have hs1:=zjW (some ⟨b3,o3,none⟩) m1 c1 k (by have:=HRO.out.cap;omega) (k:Int) rfl
       have hs2:=zkS (some ⟨b3,o3,none⟩) m1 c1 k hk (k:Int) rfl
       have hs3:=zkK (some ⟨b2,o2,none⟩) m1 c2 k (by have:=HRK.out.cap;omega) (k:Int) rfl
       have hs4:=zkw (some ⟨b2,o2,none⟩) m1 c2 k hk (k:Int) rfl
       have HQ1:Hid (Row Elem.ent (fun _=>True) wD (cutA (some ⟨b3,o3,none⟩) 0 c1 2) k c1 (out.take k)):=HRO.out.head hk
       have HQ2:Hid (Row Elem.ent (fun _=>True) wD (cutA (some ⟨b3,o3,none⟩) k c1 2) (m1-k) (c1-k) (out.drop k)):=HRO.out.tail hk
       have HQ3:Hid (Row Elem.ky (fun _=>True) wD (cutA (some ⟨b2,o2,none⟩) 0 c2 2) k c2 ((out.map fun e=>keyE (nmE e)).take k)):=HRK.out.head hk
       have HQ4:Hid (Row Elem.ky (fun _=>True) wD (cutA (some ⟨b2,o2,none⟩) k c2 2) (m1-k) (c2-k) ((out.map fun e=>keyE (nmE e)).drop k)):=HRK.out.tail hk
       have HRX:=hid (R4.out.ext HZ1.out)
       have HRY:=hid (HR4.out.ext HZ1.out)
       generalize cutA (some ⟨b3,o3,none⟩) 0 c1 2=X1 at*
       generalize cutA (some ⟨b3,o3,none⟩) k c1 2=X2 at*
       generalize cutA (some ⟨b2,o2,none⟩) 0 c2 2=X3 at*
       generalize cutA (some ⟨b2,o2,none⟩) k c2 2=X4 at*
       have HMK:Hid (m1≤1000000):=by show _≤_;omega
       clear HI4 HRO HRK
       go_wp2_with (at_builtin;first
        |(refine zcg zgK Tryz.underlying22 zdP rfl (by decide) rfl _ _ rfl _ _ rfl HGN.out (out.take k) HQ1.out rfl (by have:=HMK.out;simp only[List.length_nil];omega) ?_;intro v5 w5 hg5 hb5;obtain⟨A5,n5,c5,rfl,-⟩:=hg5.rowN;have HG5:=hid hg5;have k40:=zaa e40 _ hg5.ext;have k41:=zaa e41 _ hg5.ext;have HE5:=hid (hg5.old (S':=fun _=>True) (u:=[.string x1.name,.slice A3 n3 c3]) (x:=x1) (fun _ _ _=>trivial) ⟨A3,n3,c3,rfl,HRX.out⟩);have HL5:Hid (([]++out.take k:List Ent).length≤1000000):=(by show _≤_;rw[List.nil_append,List.length_take];have:=HMK.out;omega);clear hg5 hb5)
        |(refine zcT Tryz.underlying22 zdP rfl (by decide) rfl _ _ rfl _ _ rfl HG5.out (u:=[.string x1.name,.slice A3 n3 c3]) x1 HE5.out (by intro c hc;simp at hc;rcases hc with rfl|rfl<;>rfl) rfl rfl (by have:=HL5.out;omega) ?_;intro v6 w6 hg6 hq6 hb6;obtain⟨A6,n6,c6,rfl,-⟩:=hg6.rowN;have HG6:=hid hg6;clear hg6 hq6 hb6)
        |(refine zcg zgK Tryz.underlying22 zdP rfl (by decide) rfl _ _ rfl _ _ rfl HG6.out (out.drop k) HQ2.out rfl (by have:=HMK.out;have:=HL5.out;simp only[List.length_append,List.length_cons,List.length_nil] at*;omega) ?_;intro v7 w7 hg7 hb7;have hx7:=hg7.ext;obtain⟨A7,n7,c7,rfl,hr7⟩:=hg7.rowN;have HR7:=hid hr7;have HX7:=hid hx7;have HB7:=hid (HBQ.out.later hx7);have k0:=HB7.out.cell (i:=0) rfl;have k1:=HB7.out.cell (i:=1) rfl;have HGK:=hid (GrowM.nil (E:=Elem.ky) (S:=fun _=>True) (T:=106) (L:=none) (Ext.refl w7) (fun g hg=>by cases hg));clear hg7 hb7 hr7 hx7 k40 k41)
        |(refine zcg ziI Tryz.underlying102 zh4 rfl (by decide) rfl _ _ rfl _ _ rfl HGK.out _ (HQ3.out.ext HX7.out) rfl (by have:=HMK.out;simp only[List.length_nil];omega) ?_;intro v8 w8 hg8 hb8;obtain⟨A8,n8,c8,rfl,-⟩:=hg8.rowN;have HG8:=hid hg8;have k80:=zaa k0 _ hg8.ext;have k81:=zaa k1 _ hg8.ext;have HE8:=hid (hg8.old (S':=fun _=>True) (u:=[.slice A4 n4 c4,.bool (cd==0)]) (x:=⟨pl,cd==0⟩) (fun _ _ _=>trivial) ⟨A4,n4,c4,rfl,zgT (HRY.out.ext HX7.out),HKN.out⟩);clear hg8 hb8)
        |(refine zcT Tryz.underlying102 zh4 rfl (by decide) rfl _ _ rfl _ _ rfl HG8.out (u:=[.slice A4 n4 c4,.bool (cd==0)]) ⟨pl,cd==0⟩ HE8.out (by intro c hc;simp at hc;rcases hc with rfl|rfl<;>rfl) rfl rfl (by simp only[List.nil_append,List.length_take,List.length_map];have:=HMK.out;omega) ?_;intro v9 w9 hg9 hq9 hb9;obtain⟨A9,n9,c9,rfl,-⟩:=hg9.rowN;have HG9:=hid hg9;clear hg9 hq9 hb9)
        | (refine zcg ziI Tryz.underlying102 zh4 rfl (by decide) rfl _ _ rfl _ _ rfl HG9.out _ (HQ4.out.ext HX7.out) rfl (by have:=HMK.out;simp only [List.nil_append,List.length_append,List.length_take,List.length_map,List.length_cons,List.length_nil];omega) ?_;intro va wa hga hba;have HXA:=hid hga.ext;obtain ⟨AA,nA,cA,rfl,hra⟩:=hga.rowN;have HRA:=hid hra;clear hga hba hra))
       have HLA:Hid (out.take k++x1::out.drop k=sortN nmE (l.take (j+1))):=HINS.out.symm
       have h7:n7=m1+1:=by have:=HR7.out.len;have h2:=HLO.out;simp only[List.nil_append,List.length_append,List.length_take,List.length_drop,List.length_cons,List.length_nil] at this;omega
       have ha:nA=m1+1:=by have:=HRA.out.len;have h2:=HLO.out;simp only[List.nil_append,List.length_append,List.length_take,List.length_drop,List.length_cons,List.length_nil,List.length_map] at this;omega
       subst h7
       subst ha
       refine⟨⟨j+1,A7,m1+1,c7,AA,cA,by omega,by omega,by go_num,rfl,rfl,?_,?_,HXO.out.trans (HX7.out.trans HXA.out)⟩,by simp[intOf];omega⟩
       ·have:=HR7.out.ext HXA.out
        rw[←HLA.out]
        simpa using this
       ·have:=HRA.out
        rw[←HLA.out]
        simp only[List.map_append,List.map_cons,List.map_take,List.map_drop,HKY.out]
        simpa using this
    ·have hkm':¬(k:Int)<(m1:Int):=by omega
     have hkl:k=out.length:=by have:=HLO.out;omega
     have HINS:Hid (sortN nmE (l.take (j+1))=out.take k++x1::out.drop k):=by
      show _=_
      have hk2:=HK.out
      rw[List.take_of_length_le (Nat.le_of_eq hkl.symm)] at hk2
      rw[HST.out,zmk hk2,List.take_of_length_le (Nat.le_of_eq hkl.symm),List.drop_eq_nil_of_le (Nat.le_of_eq hkl.symm)]
     clear hkl
     go_wp2
     refine zac (.read 0 (.read 1 (.read 2 (.read 3 (.read 4 (.read 5 (.read 6 (.read 7 (.read 8 (.read 9 (.main 10 (.read 11 .done)))))))))))) (by kernel_rfl) (by kernel_rfl) ?_
     intro wD hxD
     have XE:Hid (Ext wD wD):=Ext.refl _
     repeat' ((first
      |refine zaf rfl rfl ?_
      |refine zad rfl rfl ?_
      |refine zai rfl rfl ?_
      |refine zab rfl rfl ?_
      |(refine zae (v:=?_) rfl rfl (fun w' hE=>?_) ?_;rotate_left 1;(· ((try(have hEx:=Ext.trans (Hid.out XE) hE));go_simp;(try go_bits);with_reducible rfl)))
      |refine walks_alt ?_ ?_
      | (refine zah rfl rfl (fun K hK=>?_);go_wp2_with (fail);refine hK _ _ (by first | assumption | exact Ext.alloc _ _ | exact Ext.refl _) ?_;clear hK K));try simp only [Act.put,Act.eval,evs])
     refine zag ?_
     have HXV:=hid (HXK.out.trans hxD)
     have HXU:=hid (HX9.out.trans hxD)
     clear XE hxD
     go_wp2
     refine zac (.read 0 (.read 1 (.read 2 (.read 3 (.read 4 (.read 5 (.read 6 (.read 7 (.read 8 (.read 9 (.read 10 (.read 11 (.read 12 (.read 13 (.read 14 (.read 15 (.read 16 .done))))))))))))))))) (by kernel_rfl) (by kernel_rfl) ?_
     intro wD hxD
     have XE:Hid (Ext wD wD):=Ext.refl _
     repeat' ((first
      |refine zaf rfl rfl ?_
      |refine zad rfl rfl ?_
      |refine zai rfl rfl ?_
      |refine zab rfl rfl ?_
      |(refine zae (v:=?_) rfl rfl (fun w' hE=>?_) ?_;rotate_left 1;(· ((try(have hEx:=Ext.trans (Hid.out XE) hE));go_simp;(try go_bits);with_reducible rfl)))
      |refine walks_alt ?_ ?_
      | (refine zah rfl rfl (fun K hK=>?_);go_wp2_with (fail);refine hK _ _ (by first | assumption | exact Ext.alloc _ _ | exact Ext.refl _) ?_;clear hK K));try simp only [Act.put,Act.eval,evs])
     refine zag ?_
     have HZ1:=hid (HXU.out.trans hxD)
     have HZ2:=hid (HXV.out.trans hxD)
     clear hxD XE
     have HRO:=hid (HI4.out.1.ext HZ1.out)
     have HRK:=hid (HI4.out.2.1.ext HZ1.out)
     have HXO:=hid (HI4.out.2.2.trans HZ1.out)
     have e40:=zaa E40.out _ HZ1.out
     have e41:=zaa E41.out _ HZ1.out
     have HBQ:=hid (HBK.out.later HZ2.out)
     have HGN:=hid (GrowM.nil (E:=Elem.ent) (S:=fun _=>True) (T:=58) (L:=none) (Ext.refl wD) (fun g hg=>by cases hg))
     have hs1:=zjW A1 m1 c1 k (by have:=HRO.out.cap;omega) (k:Int) rfl
     have hs2:=zkS A1 m1 c1 k hk (k:Int) rfl
     have hs3:=zkK A2 m1 c2 k (by have:=HRK.out.cap;omega) (k:Int) rfl
     have hs4:=zkw A2 m1 c2 k hk (k:Int) rfl
     have HQ1:Hid (Row Elem.ent (fun _=>True) wD (cutA A1 0 c1 2) k c1 (out.take k)):=HRO.out.head hk
     have HQ2:Hid (Row Elem.ent (fun _=>True) wD (cutA A1 k c1 2) (m1-k) (c1-k) (out.drop k)):=HRO.out.tail hk
     have HQ3:Hid (Row Elem.ky (fun _=>True) wD (cutA A2 0 c2 2) k c2 ((out.map fun e=>keyE (nmE e)).take k)):=HRK.out.head hk
     have HQ4:Hid (Row Elem.ky (fun _=>True) wD (cutA A2 k c2 2) (m1-k) (c2-k) ((out.map fun e=>keyE (nmE e)).drop k)):=HRK.out.tail hk
     have HRX:=hid (R4.out.ext HZ1.out)
     have HRY:=hid (HR4.out.ext HZ1.out)
     generalize cutA A1 0 c1 2=X1 at*
     generalize cutA A1 k c1 2=X2 at*
     generalize cutA A2 0 c2 2=X3 at*
     generalize cutA A2 k c2 2=X4 at*
     have HMK:Hid (m1≤1000000):=by show _≤_;omega
     clear HI4 HRO HRK
     go_wp2_with (at_builtin;first
      |(refine zcg zgK Tryz.underlying22 zdP rfl (by decide) rfl _ _ rfl _ _ rfl HGN.out (out.take k) HQ1.out rfl (by have:=HMK.out;simp only[List.length_nil];omega) ?_;intro v5 w5 hg5 hb5;obtain⟨A5,n5,c5,rfl,-⟩:=hg5.rowN;have HG5:=hid hg5;have k40:=zaa e40 _ hg5.ext;have k41:=zaa e41 _ hg5.ext;have HE5:=hid (hg5.old (S':=fun _=>True) (u:=[.string x1.name,.slice A3 n3 c3]) (x:=x1) (fun _ _ _=>trivial) ⟨A3,n3,c3,rfl,HRX.out⟩);have HL5:Hid (([]++out.take k:List Ent).length≤1000000):=(by show _≤_;rw[List.nil_append,List.length_take];have:=HMK.out;omega);clear hg5 hb5)
      |(refine zcT Tryz.underlying22 zdP rfl (by decide) rfl _ _ rfl _ _ rfl HG5.out (u:=[.string x1.name,.slice A3 n3 c3]) x1 HE5.out (by intro c hc;simp at hc;rcases hc with rfl|rfl<;>rfl) rfl rfl (by have:=HL5.out;omega) ?_;intro v6 w6 hg6 hq6 hb6;obtain⟨A6,n6,c6,rfl,-⟩:=hg6.rowN;have HG6:=hid hg6;clear hg6 hq6 hb6)
      |(refine zcg zgK Tryz.underlying22 zdP rfl (by decide) rfl _ _ rfl _ _ rfl HG6.out (out.drop k) HQ2.out rfl (by have:=HMK.out;have:=HL5.out;simp only[List.length_append,List.length_cons,List.length_nil] at*;omega) ?_;intro v7 w7 hg7 hb7;have hx7:=hg7.ext;obtain⟨A7,n7,c7,rfl,hr7⟩:=hg7.rowN;have HR7:=hid hr7;have HX7:=hid hx7;have HB7:=hid (HBQ.out.later hx7);have k0:=HB7.out.cell (i:=0) rfl;have k1:=HB7.out.cell (i:=1) rfl;have HGK:=hid (GrowM.nil (E:=Elem.ky) (S:=fun _=>True) (T:=106) (L:=none) (Ext.refl w7) (fun g hg=>by cases hg));clear hg7 hb7 hr7 hx7 k40 k41)
      |(refine zcg ziI Tryz.underlying102 zh4 rfl (by decide) rfl _ _ rfl _ _ rfl HGK.out _ (HQ3.out.ext HX7.out) rfl (by have:=HMK.out;simp only[List.length_nil];omega) ?_;intro v8 w8 hg8 hb8;obtain⟨A8,n8,c8,rfl,-⟩:=hg8.rowN;have HG8:=hid hg8;have k80:=zaa k0 _ hg8.ext;have k81:=zaa k1 _ hg8.ext;have HE8:=hid (hg8.old (S':=fun _=>True) (u:=[.slice A4 n4 c4,.bool (cd==0)]) (x:=⟨pl,cd==0⟩) (fun _ _ _=>trivial) ⟨A4,n4,c4,rfl,zgT (HRY.out.ext HX7.out),HKN.out⟩);clear hg8 hb8)
      |(refine zcT Tryz.underlying102 zh4 rfl (by decide) rfl _ _ rfl _ _ rfl HG8.out (u:=[.slice A4 n4 c4,.bool (cd==0)]) ⟨pl,cd==0⟩ HE8.out (by intro c hc;simp at hc;rcases hc with rfl|rfl<;>rfl) rfl rfl (by simp only[List.nil_append,List.length_take,List.length_map];have:=HMK.out;omega) ?_;intro v9 w9 hg9 hq9 hb9;obtain⟨A9,n9,c9,rfl,-⟩:=hg9.rowN;have HG9:=hid hg9;clear hg9 hq9 hb9)
      | (refine zcg ziI Tryz.underlying102 zh4 rfl (by decide) rfl _ _ rfl _ _ rfl HG9.out _ (HQ4.out.ext HX7.out) rfl (by have:=HMK.out;simp only [List.nil_append,List.length_append,List.length_take,List.length_map,List.length_cons,List.length_nil];omega) ?_;intro va wa hga hba;have HXA:=hid hga.ext;obtain ⟨AA,nA,cA,rfl,hra⟩:=hga.rowN;have HRA:=hid hra;clear hga hba hra))
     have HLA:Hid (out.take k++x1::out.drop k=sortN nmE (l.take (j+1))):=HINS.out.symm
     have h7:n7=m1+1:=by have:=HR7.out.len;have h2:=HLO.out;simp only[List.nil_append,List.length_append,List.length_take,List.length_drop,List.length_cons,List.length_nil] at this;omega
     have ha:nA=m1+1:=by have:=HRA.out.len;have h2:=HLO.out;simp only[List.nil_append,List.length_append,List.length_take,List.length_drop,List.length_cons,List.length_nil,List.length_map] at this;omega
     subst h7
     subst ha
     refine⟨⟨j+1,A7,m1+1,c7,AA,cA,by omega,by omega,by go_num,rfl,rfl,?_,?_,HXO.out.trans (HX7.out.trans HXA.out)⟩,by simp[intOf];omega⟩
     ·have:=HR7.out.ext HXA.out
      rw[←HLA.out]
      simpa using this
     ·have:=HRA.out
      rw[←HLA.out]
      simp only[List.map_append,List.map_cons,List.map_take,List.map_drop,HKY.out]
      simpa using this
  ·obtain rfl:j=n:=by omega
   have HTK:Hid (l.take j=l):=by show _=_;rw[List.take_of_length_le (Nat.le_of_eq hl.out.symm)]
   go_wp2
   go_ret
   rw[HTK.out] at HI
   exact⟨A1,m1,c1,rfl,HI.out.1,HI.out.2.2⟩
end Go.Proofs.YtkjbokhnpphimaaGreatDoor
