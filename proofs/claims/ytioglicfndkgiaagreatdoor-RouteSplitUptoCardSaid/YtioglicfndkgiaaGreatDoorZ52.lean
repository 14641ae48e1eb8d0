/- Lemmas of the walk. -/
import Derived.Test.YtioglicfndkgiaaGreatDoorZ45
import Derived.Test.YtioglicfndkgiaaGreatDoorZ29
import Derived.Test.YtioglicfndkgiaaGreatDoorZ51
set_option maxHeartbeats 40000000
set_option linter.unusedVariables false
set_option linter.unusedSimpArgs false
namespace Go.Proofs.YtioglicfndkgiaaGreatDoor
open Go.RowKit
set_option maxRecDepth 100000
theorem zp8 {cs cs':List CutR} {nm:List UInt8} (hp:cs'.Perm cs) (hs:∀ c∈cs,zbD (nmQ c)=true) (ha:Apart nmQ cs) {p:List Int} {code:Int} (h:zmT cs' nm p code) :
 (∃ (k:Nat) (d:CutR),zaJ cs nm=k∧cs[k]?=some d∧code=0∧p.getLast?=some d.server)∨(zaJ cs nm = -1∧code=32∧p.getLast?=some 0):=by
 rcases zbJ cs' nm with ⟨h1,h2⟩ | ⟨k,c,h1,g1,u1,m1⟩
 ·have h5:zaJ cs nm = -1:=by
   rcases zbJ cs nm with ⟨h3,-⟩ | ⟨k,c,h3,g3,u3,-⟩
   ·exact h3
   ·have:=h2 c (hp.mem_iff.2 (List.mem_of_getElem? g3))
    rw [u3] at this
    cases this
  obtain ⟨h6,h7⟩:=h.2 (by omega)
  exact .inr ⟨h5,h6,h7⟩
 ·obtain ⟨k',e1,e2⟩:=zn5 hp hs ha h1 g1
  obtain ⟨c0,d,hd,hl⟩:=h.1 (by omega)
  rw [h1,Int.toNat_natCast,g1] at hd
  injection hd with hd
  subst hd
  exact .inl ⟨k',c,e1,e2,c0,hl⟩
theorem zoT {l:List Ent} {cs:List CutR} {sv:Int} {N:Nat} (hok:OkOf l) (hr:RightOk l cs sv) (hNs:N=sv.toNat) (nm:List UInt8) {s:Int} (h0:0≤s) (h1:s<N) :
 zcX (rtS (sortN nmE l) (sortN nmQ cs) N) s nm=([],34)∨∃ q code,zcX (rtS (sortN nmE l) (sortN nmQ cs) N) s nm=(s::q,code) ∧
  ((∃ (k:Nat) (d:CutR),zaJ cs nm=k∧cs[k]?=some d∧code=0∧(s::q).getLast?=some d.server)∨(zaJ cs nm = -1∧code=32∧(s::q).getLast?=some 0)):=by
 have hN:=zd1 hok
 have hperm:=zci hN hr
 have hsv:=hr.srv
 rcases znJ (L:=sortN nmE l) (Q:=sortN nmQ cs) (N:=N) (nm:=nm) (fun c hc=>hr.self hN c (hperm.mem_iff.1 hc)) (hr.apart.perm hperm) (fun c hc=>by
  have h1:=hr.cut c (hperm.mem_iff.1 hc)
  exact ⟨h1.1,by have:=h1.2.1;omega⟩) (by omega) h0 h1 with ⟨-,h⟩ | ⟨-,q,code,h,he⟩
 ·exact .inl h
 ·exact .inr ⟨q,code,h,zp8 hperm (hr.self hN) hr.apart he⟩
theorem zpv {l:List Ent} {cs:List CutR} {N:Nat} {M:Nat} (h:cs.length≤M):∀ x∈zaZ l cs N,x.length≤M:=fun x hx=>by
 unfold zaZ at hx
 obtain ⟨s,-,rfl⟩:=List.mem_map.1 hx
 unfold srvF
 rw [List.length_map]
 refine Nat.le_trans (List.length_filter_le _ _) ?_
 rw [List.length_range]
 exact h
theorem zh7 {S S2:Nat→Prop} {A:Option Addr} {n c:Nat} {l:List Ent} {B:Option Addr} {m d:Nat} {cs:List CutR} {w:World} (h:Row Elem.ent S w A n c l) (hc:Row Elem.cut S2 w B m d cs) (sv:Int) (name:ByteArray) (hG:Gu w) (hf:∀ e∈l,EntFits e) (hs1:-9223372036854775808≤sv) (hs2:sv≤9223372036854775807) (hcl:cs.length≤2000000) :
 Calls Tryz.prog 5 #[.slice A n c,.slice B m d,.int .i64 sv,.string name] w fun e w'=>e=.returned (.bool true)∧Ext w w':=by
 have HG:=hid hG
 have HC:=hid hc
 have HMC:Hid (m=cs.length):=hc.len
 have HAW:∀ w',Ext w w'→Calls Tryz.prog 15 #[] w' fun e w''=>e=.returned (.bool true)∧Ext w' w'':=fun w' hx=>zlB w' (hG.gl.ext hx)
 have HFW:∀ w',Ext w w'→Calls Tryz.prog 7 #[.slice A n c,.slice B m d] w' (BoolSays w'):=fun w' hx=>zj0 (h.ext hx) (hc.ext hx)
 unfold BoolSays at HFW
 have HCU:∀ w',Ext w w'→Calls Tryz.prog 9 #[.slice B m d] w' fun e w''=>∃ A' n' c',e=.returned (.slice A' n' c')∧Row Elem.cut (fun b=>w'.heap.size≤b) w'' A' n' c' cs∧Ext w' w'':=fun w' hx=>ziq (hc.ext hx) hcl
 have HSP:∀ A' n' c' w',Ext w w'→Row Elem.cut (fun b=>w.heap.size≤b) w' A' n' c' cs→Calls Tryz.prog 11 #[.slice A n c,.slice A' n' c',.int .i64 sv] w' (zdB w' l cs sv):=fun A' n' c' w' hx hr=>ziR (h.ext hx) hr sv (HG.out.ext hx) hf hs1 hs2
 by_cases h3:3000<name.size
 ·have h3':(3000:Int)<(name.size:Int):=by omega
  clear HSP HCU h hc hG hf hcl h3
  go_enter Tryz.func5,Tryz.ntmps5
  go_wp2_with (first
   | (go_at_call 15;first
    | ((with_reducible refine (HAW _ (Ext.refl _)).mono ?_);rintro e w1 ⟨rfl,hx1⟩;have HX1:=hid hx1;clear hx1)
    | ((with_reducible refine (HAW _ HX2.out).mono ?_);rintro e w3 ⟨rfl,hx3⟩;have HX3:=hid (HX2.out.trans hx3);clear hx3))
   | (go_at_call 7;(with_reducible refine (HFW _ HX1.out).mono ?_);rintro e w2 ⟨sm,rfl,hx2⟩;have HX2:=hid (HX1.out.trans hx2);clear hx2;cases sm)
   | fail)
  all_goals go_ret
  all_goals exact ⟨rfl,HX3.out⟩
 have h3':¬ (3000:Int)<(name.size:Int):=by omega
 clear h3
 by_cases hk:OkOf l∧RightOk l cs sv
 ·have hsp:∀ A' n' c' w',Ext w w'→Row Elem.cut (fun b=>w.heap.size≤b) w' A' n' c' cs→Calls Tryz.prog 11 #[.slice A n c,.slice A' n' c',.int .i64 sv] w' fun e w''=>∃ A B m d,e=.returned (.tuple #[.agg #[.slice A sv.toNat sv.toNat,.slice B m d],.int .i64 0])∧CfgAt (fun _=>True) w'' A sv.toNat sv.toNat B m d (zaZ (sortN nmE l) (sortN nmQ cs) sv.toNat) (topS (sortN nmQ cs))∧Ext w' w'':=fun A' n' c' w' hx hr=>(HSP A' n' c' w' hx hr).mono fun e w'' h=>by
   rcases h with ⟨-,-,A,B,m,d,h1,h2,h4,h3⟩ | ⟨h1,-⟩
   ·exact ⟨A,B,m,d,h1,⟨h2,h4⟩,h3⟩
   ·exact absurd hk h1
  obtain ⟨N,rfl⟩:∃ N:Nat,sv=(N:Int):=⟨sv.toNat,by have:=hk.2.srv;omega⟩
  have hNn:N=((N:Nat):Int).toNat:=by simp
  have HNN:Hid (N≤8):=by show _≤_;have:=hk.2.srv;omega
  have HEN:Hid (∀ j:Nat,j<N→_):=fun j hj=>zoT hk.1 hk.2 hNn (bys name) (s:=(j:Int)) (by omega) (by omega)
  have hlen:∀ x∈zaZ (sortN nmE l) (sortN nmQ cs) N,x.length≤4000000:=zpv (by have:=(zci (zd1 hk.1) hk.2).length_eq;have:=hk.2.few;omega)
  have hlN:(zaZ (sortN nmE l) (sortN nmQ cs) N).length≤2000000:=by
   unfold zaZ
   rw [List.length_map,List.length_range]
   have:=HNN.out
   omega
  rw [← hNn] at hsp
  have HPA:∀ (j:Int) A1 B1 m1 d1 w',Ext w w'→CfgAt (fun _=>True) w' A1 N N B1 m1 d1 (zaZ (sortN nmE l) (sortN nmQ cs) N) (topS (sortN nmQ cs))→Calls Tryz.prog 16 #[.agg #[.slice A1 N N,.slice B1 m1 d1],.int .i64 j,.string name] w' (zce w' (zcX (rtS (sortN nmE l) (sortN nmQ cs) N) j (bys name))):=fun j A1 B1 m1 d1 w' hx hr=>zmR hr (hG.gl.ext hx) j name hlen hlN
  unfold zce at HPA
  obtain ⟨M,hM⟩:∃ M,M=max (zaJ cs (bys name)) 0:=⟨_,rfl⟩
  obtain ⟨bb,hbb⟩:∃ b,b=decide (0≤zaJ cs (bys name)):=⟨_,rfl⟩
  have HC2:∀ w',Ext w w'→Calls Tryz.prog 10 #[.slice B m d,.string name] w' fun e w''=>e=.returned (.tuple #[.int .i64 M,.bool bb])∧Ext w' w'':=fun w' hx=>(zjs (hc.ext hx) name (hG.gl.ext hx)).mono fun e w'' h=>by rw [hM,hbb];exact h
  generalize zcX (rtS (sortN nmE l) (sortN nmQ cs) N)=pf at *
  generalize zaZ (sortN nmE l) (sortN nmQ cs) N=sp at *
  generalize topS (sortN nmQ cs)=tp at *
  have HM:=hid hM
  have HBB:=hid hbb
  clear HSP h hc hG hf hcl hk hNn hlen hlN hM hbb
  go_enter Tryz.func5,Tryz.ntmps5
  go_wp2_with (first
   | (go_at_call 15;first
    | ((with_reducible refine (HAW _ (Ext.refl _)).mono ?_);rintro e w1 ⟨rfl,hx1⟩;have HX1:=hid hx1;clear hx1)
    | ((with_reducible refine (HAW _ HX2.out).mono ?_);rintro e w3 ⟨rfl,hx3⟩;have HX3:=hid (HX2.out.trans hx3);clear hx3))
   | (go_at_call 7;(with_reducible refine (HFW _ HX1.out).mono ?_);rintro e w2 ⟨sm,rfl,hx2⟩;have HX2:=hid (HX1.out.trans hx2);clear hx2;cases sm)
   | (go_at_call 9;(with_reducible refine (HCU _ HX2.out).mono ?_);rintro e w4 ⟨A4,n4,c4,rfl,hr4,hx4⟩;have HR4:=hid (hr4.mono (T:=fun b=>w.heap.size≤b) fun b _ hb=>Nat.le_trans (zaD HX2.out) hb);have HX4:=hid (HX2.out.trans hx4);clear hr4 hx4)
   | (go_at_call 11;(with_reducible refine (hsp _ _ _ _ HX4.out HR4.out).mono ?_);rintro e w8 ⟨A8,B8,m8,d8,rfl,hr8,hx8⟩;have HBX:=hid (Bx.make (Ext.refl w8) #[.slice A8 N N,.slice B8 m8 d8] 33);have HX8:=hid (HX4.out.trans (hx8.trans HBX.out.ext));have HR8:=hid (hr8.ext HBX.out.ext);have p0:=HBX.out.cell (i:=0) rfl;have p1:=HBX.out.cell (i:=1) rfl;clear hr8 hx8)
   | (go_at_call 10;(with_reducible refine (HC2 _ HX8.out).mono ?_);rintro e w7 ⟨rfl,hx7⟩;have p2:=zaa p0 _ hx7;have p3:=zaa p1 _ hx7;have HX7:=hid (HX8.out.trans hx7);have HR7:=hid (HR8.out.ext hx7);clear p0 p1 hx7))
  ·go_ret
   exact ⟨rfl,HX3.out⟩
  have hn8:N≤8:=HNN.out
  clear HAW HFW HCU hsp HC2
  go_loopw [47] (fun i wr=>∃ j:Nat,j≤N∧i=.int .i64 j∧Hid (Ext w7 wr)) (fun i _=>N-(intOf i).toNat)
  case atStart=>exact ⟨0,by omega,rfl,Ext.refl _⟩
  case round=>
   obtain ⟨j,hj,rfl,hx⟩:=hrel
   have r0:=zaa p2 _ hx.out
   have r1:=zaa p3 _ hx.out
   by_cases hlt:j<N
   ·have hlt':(j:Int)<(N:Int):=by omega
    have HPJ:∀ w',Ext wr w'→Calls Tryz.prog 16 #[.agg #[.slice A8 N N,.slice B8 m8 d8],.int .i64 (j:Int),.string name] w' fun e w''=>∃ A n c,e=.returned (.tuple #[.slice A n c,.int .i64 (pf (j:Int) (bys name)).2])∧Row Elem.i64 (fun b=>w'.heap.size≤b) w'' A n c (pf (j:Int) (bys name)).1∧Ext w' w'':=fun w' hx'=>HPA (j:Int) A8 B8 m8 d8 w' (HX7.out.trans (hx.out.trans hx')) (HR7.out.ext (hx.out.trans hx'))
    have HEJ:=hid (HEN.out j hlt)
    clear HPA HEN p2 p3
    rcases HEJ.out with hp | ⟨q,code,hp,⟨k,dd,hd1,hd2,rfl,hd3⟩ | ⟨hd1,rfl,hd3⟩⟩
    ·rw [hp] at HPJ
     simp only at HPJ
     clear hp HEJ
     go_wp2_with (first
      | (go_at_call 16;(with_reducible refine (HPJ _ (Ext.refl _)).mono ?_);rintro e w9 ⟨A9,n9,c9,rfl,hr9,hx9⟩;obtain rfl:n9=0:=hr9.len;have HX9:=hid (hx.out.trans hx9);clear hr9 hx9))
     go_ret
     exact ⟨rfl,HX7.out.trans HX9.out⟩
    ·rw [hp] at HPJ
     simp only at HPJ
     rw [hd1,decide_eq_true (show (0:Int)≤(k:Int) by omega)] at HBB
     rw [hd1,show max (k:Int) 0=(k:Int) by omega] at HM
     obtain rfl:bb=true:=HBB.out
     obtain rfl:M=(k:Int):=HM.out
     have hkm:k<m:=by rw [HMC.out];exact (List.getElem?_eq_some_iff.1 hd2).1
     have hkm':(k:Int)<(m:Int):=by omega
     obtain ⟨b5,o5,v5,x5,rfl,g5,-,r5,q5⟩:=(HC.out.ext (HX7.out.trans hx.out)).at_ hkm
     rw [hd2] at g5
     injection g5 with g5
     subst g5
     obtain ⟨nm5,sv5⟩:=dd
     cases r5
     have e51:=q5 1 _ rfl
     simp only [Elem.cut,CutR.cells,Nat.add_zero] at e51
     simp only at hd3
     obtain ⟨p,hpq⟩:∃ p,p=(j:Int)::q:=⟨_,rfl⟩
     rw [← hpq] at HPJ hd3
     have HP0:Hid (p[0]?=some (j:Int)):=by show _=_;rw [hpq];rfl
     have HPL:Hid (0<p.length):=by show 0<_;rw [hpq,List.length_cons];omega
     have HPE:=hid hd3
     have f1:∀ x:Int,(x != x)=false:=fun x=>by simp
     have g1:=f1 sv5
     have g2:=f1 (j:Int)
     clear q5 hp HEJ hd1 hd2 hd3 hpq f1 HM HBB
     go_wp2_with (first
      | (go_at_call 16;(with_reducible refine (HPJ _ (Ext.refl _)).mono ?_);rintro e w9 ⟨A9,n9,c9,rfl,hr9,hx9⟩;have hn9:n9=p.length:=hr9.len;have hz9:n9≤9223372036854775807:=(by have:=hr9.cap;have:=hr9.most;simp only [maxLen] at this;omega);have HR9:=hid hr9;have HX9:=hid (hx.out.trans hx9);have c51:=zaa e51 _ hx9;have HN9:=hid hn9;clear hr9 hx9 hn9))
     obtain ⟨b6,o6,y6,rfl,g6,t6⟩:=HR9.out.int_cell (i:=0) (by have:=HN9.out;have:=HPL.out;omega)
     obtain rfl:y6=(j:Int):=by rw [HP0.out] at g6;injection g6 with g6;exact g6.symm
     obtain ⟨b7,o7,y7,hA,g7,t7⟩:=HR9.out.int_cell (i:=n9-1) (by have:=HN9.out;have:=HPL.out;omega)
     obtain ⟨rfl,rfl⟩:b7=b6∧o7=o6:=by injection hA with hA;injection hA with h1 h2;exact ⟨h1.symm,h2.symm⟩
     obtain rfl:y7=sv5:=by
      have h1:=HPE.out
      rw [List.getLast?_eq_getElem?,← HN9.out,g7] at h1
      injection h1
     rw [Nat.add_zero] at t6
     obtain ⟨n',hn'⟩:∃ n',n'=n9-1:=⟨_,rfl⟩
     rw [← hn'] at t7
     have hn1:n9=n'+1:=by have:=HN9.out;have:=HPL.out;omega
     have z1:(n9:Int)-1=(n':Int):=by omega
     have z2:(n':Int)<(n9:Int):=by omega
     have z3:(0:Int)<(n9:Int):=by omega
     have z4:n'≤9223372036854775807:=by omega
     clear hn' hn1
     have T6:=hid t6
     clear hA g6 g7
     refine zad (.read 0 (.read 1 (.read 2 (.read 3 (.read 4 (.read 5 (.read 6 (.read 7 (.read 8 (.read 9 (.read 10 (.read 11 (.read 12 (.read 13 (.read 14 (.read 15 (.read 16 (.read 17 (.read 18 (.read 19 .done)))))))))))))))))))) (by kernel_rfl) (by kernel_rfl) ?_
     intro wD hxD
     have XE:Hid (Ext wD wD):=Ext.refl _
     have u7:=zaa (zaa t7 _ hxD)
     have u51:=zaa (zaa c51 _ hxD)
     repeat' (first
      | ((first | refine zah rfl rfl ?_ | refine zae rfl rfl ?_ | refine zak rfl rfl ?_);simp only [Act.put,Act.eval,evs])
      | (refine zab rfl rfl ?_;simp only [Act.put,evp])
      | (refine zag (v:=?_) rfl rfl (fun w' hE=>?_) ?_;rotate_left 1;(· ((try (have hEx:=Ext.trans (Hid.out XE) hE));go_simp;(try go_bits);with_reducible rfl));simp only [Act.put,evp])
      | (refine walks_alt ?_ ?_)
      | (refine zai rfl rfl (fun K hK=>?_);go_wp2_with (fail);refine hK _ _ (by first | assumption | exact Ext.alloc _ _ | exact Ext.refl _) ?_;clear hK K;try simp only [Act.put,evp]))
     refine zaj ?_
     have v6:=zaa T6.out _ (hxD.trans XE.out)
     go_wp2
     exact ⟨⟨j+1,by omega,by go_num,HX9.out.trans (hxD.trans XE.out)⟩,by simp [intOf];omega⟩
    ·rw [hp] at HPJ
     simp only at HPJ
     rw [hd1,decide_eq_false (show ¬ (0:Int)≤-1 by omega)] at HBB
     obtain rfl:bb=false:=HBB.out
     obtain ⟨p,hpq⟩:∃ p,p=(j:Int)::q:=⟨_,rfl⟩
     rw [← hpq] at HPJ hd3
     have HP0:Hid (p[0]?=some (j:Int)):=by show _=_;rw [hpq];rfl
     have HPL:Hid (0<p.length):=by show 0<_;rw [hpq,List.length_cons];omega
     have HPE:=hid hd3
     have f1:∀ x:Int,(x != x)=false:=fun x=>by simp
     have g2:=f1 (j:Int)
     clear hp HEJ hd1 hd3 hpq f1 HM HBB
     go_wp2_with (first
      | (go_at_call 16;(with_reducible refine (HPJ _ (Ext.refl _)).mono ?_);rintro e w9 ⟨A9,n9,c9,rfl,hr9,hx9⟩;have hn9:n9=p.length:=hr9.len;have hz9:n9≤9223372036854775807:=(by have:=hr9.cap;have:=hr9.most;simp only [maxLen] at this;omega);have HR9:=hid hr9;have HX9:=hid (hx.out.trans hx9);have HN9:=hid hn9;clear hr9 hx9 hn9))
     obtain ⟨b6,o6,y6,rfl,g6,t6⟩:=HR9.out.int_cell (i:=0) (by have:=HN9.out;have:=HPL.out;omega)
     obtain rfl:y6=(j:Int):=by rw [HP0.out] at g6;injection g6 with g6;exact g6.symm
     obtain ⟨b7,o7,y7,hA,g7,t7⟩:=HR9.out.int_cell (i:=n9-1) (by have:=HN9.out;have:=HPL.out;omega)
     obtain ⟨rfl,rfl⟩:b7=b6∧o7=o6:=by injection hA with hA;injection hA with h1 h2;exact ⟨h1.symm,h2.symm⟩
     obtain rfl:y7=0:=by
      have h1:=HPE.out
      rw [List.getLast?_eq_getElem?,← HN9.out,g7] at h1
      injection h1
     rw [Nat.add_zero] at t6
     obtain ⟨n',hn'⟩:∃ n',n'=n9-1:=⟨_,rfl⟩
     rw [← hn'] at t7
     have hn1:n9=n'+1:=by have:=HN9.out;have:=HPL.out;omega
     have z1:(n9:Int)-1=(n':Int):=by omega
     have z2:(n':Int)<(n9:Int):=by omega
     have z3:(0:Int)<(n9:Int):=by omega
     have z4:n'≤9223372036854775807:=by omega
     clear hn' hn1
     have T6:=hid t6
     have T7:=hid t7
     clear hA g6 g7 t6 t7
     refine zad (.read 0 (.read 1 (.read 2 (.read 3 (.read 4 (.read 5 (.read 6 (.read 7 (.read 8 (.read 9 (.read 10 (.read 11 (.read 12 (.read 13 (.read 14 (.read 15 (.read 16 (.read 17 (.read 18 (.read 19 .done)))))))))))))))))))) (by kernel_rfl) (by kernel_rfl) ?_
     intro wD hxD
     have XE:Hid (Ext wD wD):=Ext.refl _
     repeat' (first
      | ((first | refine zah rfl rfl ?_ | refine zae rfl rfl ?_ | refine zak rfl rfl ?_);simp only [Act.put,Act.eval,evs])
      | (refine zab rfl rfl ?_;simp only [Act.put,evp])
      | (refine zag (v:=?_) rfl rfl (fun w' hE=>?_) ?_;rotate_left 1;(· ((try (have hEx:=Ext.trans (Hid.out XE) hE));go_simp;(try go_bits);with_reducible rfl));simp only [Act.put,evp])
      | (refine walks_alt ?_ ?_)
      | (refine zai rfl rfl (fun K hK=>?_);go_wp2_with (fail);refine hK _ _ (by first | assumption | exact Ext.alloc _ _ | exact Ext.refl _) ?_;clear hK K;try simp only [Act.put,evp]))
     refine zaj ?_
     have v6:=zaa T6.out _ (hxD.trans XE.out)
     have v7:=zaa T7.out _ (hxD.trans XE.out)
     go_wp2
     exact ⟨⟨j+1,by omega,by go_num,HX9.out.trans (hxD.trans XE.out)⟩,by simp [intOf];omega⟩
   ·obtain rfl:j=N:=by omega
    have hlt':¬ (j:Int)<(j:Int):=by omega
    go_wp2
    go_ret
    exact ⟨rfl,HX7.out.trans hx.out⟩
 ·have hsp:∀ A' n' c' w',Ext w w'→Row Elem.cut (fun b=>w.heap.size≤b) w' A' n' c' cs→Calls Tryz.prog 11 #[.slice A n c,.slice A' n' c',.int .i64 sv] w' fun e w''=>∃ k:Int,k≠0∧e=.returned (.tuple #[.agg #[nilS,nilS],.int .i64 k])∧Ext w' w'':=fun A' n' c' w' hx hr=>(HSP A' n' c' w' hx hr).mono fun e w'' h=>by
   rcases h with ⟨h1,h2,-⟩ | ⟨-,k,h1,h2,h3⟩
   ·exact absurd ⟨h1,h2⟩ hk
   ·exact ⟨k,by rcases h1 with h | h <;> omega,h2,h3⟩
  clear HSP h hc hG hf hcl hk
  go_enter Tryz.func5,Tryz.ntmps5
  go_wp2_with (first
   | (go_at_call 15;first
    | ((with_reducible refine (HAW _ (Ext.refl _)).mono ?_);rintro e w1 ⟨rfl,hx1⟩;have HX1:=hid hx1;clear hx1)
    | ((with_reducible refine (HAW _ HX2.out).mono ?_);rintro e w3 ⟨rfl,hx3⟩;have HX3:=hid (HX2.out.trans hx3);clear hx3))
   | (go_at_call 7;(with_reducible refine (HFW _ HX1.out).mono ?_);rintro e w2 ⟨sm,rfl,hx2⟩;have HX2:=hid (HX1.out.trans hx2);clear hx2;cases sm)
   | (go_at_call 9;(with_reducible refine (HCU _ HX2.out).mono ?_);rintro e w4 ⟨A4,n4,c4,rfl,hr4,hx4⟩;have HR4:=hid (hr4.mono (T:=fun b=>w.heap.size≤b) fun b _ hb=>Nat.le_trans (zaD HX2.out) hb);have HX4:=hid (HX2.out.trans hx4);clear hr4 hx4)
   | (go_at_call 11;(with_reducible refine (hsp _ _ _ _ HX4.out HR4.out).mono ?_);rintro e w8 ⟨k,hk0,rfl,hx8⟩;have HX8:=hid (HX4.out.trans (hx8.trans (Ext.alloc w8 (.cells #[nilS,nilS] 33))));have hk1:(k != 0)=true:=(by rw [bne_iff_ne];exact hk0);clear hk0 hx8))
  all_goals go_ret
  all_goals first | exact ⟨rfl,HX8.out⟩ | exact ⟨rfl,HX3.out⟩
end Go.Proofs.YtioglicfndkgiaaGreatDoor
