/- Lemmas of the walk. -/
import Derived.Test.YtioglicfndkgiaaGreatDoorV47
import Derived.Test.YtioglicfndkgiaaGreatDoorV45
set_option maxHeartbeats 40000000
set_option linter.unusedVariables false
set_option linter.unusedSimpArgs false
namespace Go.Proofs.YtioglicfndkgiaaGreatDoor
open Go.RowKit
set_option maxRecDepth 100000
def entN (x : List Cxt) : Nat:=(x.map fun y=>y.ents.length).sum
theorem zoS {x : List Cxt} {k : Nat} {y : Cxt} (h : x[k]? = some y) : entN (x.take (k + 1)) = entN (x.take k) + y.ents.length:=by
 have:=zfj (f:=x.map fun y=>y.ents.length) (j:=k) (x:=y.ents.length) (by rw [List.getElem?_map,h];rfl)
 rw [← List.map_take,← List.map_take] at this
 exact this
theorem zrh (x : List Cxt) (k : Nat) : entN (x.take k) ≤ entN x:=by
 have:=zhn (x.map fun y=>y.ents.length) k
 rw [← List.map_take] at this
 exact this
theorem zn2 {l : List Ent} {cs : List CutR} {sv : Int} {N : Nat} (hok : OkOf l) (hr : RightOk l cs sv) {s : Nat} {x : List Cxt} (hx : (zb4 (sortN nmE l) (sortN nmQ cs) N)[s]? = some x) {y : Cxt} (hy : y ∈ x) {e : Ent} (he : e ∈ y.ents) : ∃ (k : Nat) (c : CutR),zbS cs (nmE e) = k ∧ cs[k]? = some c ∧ c.name = y.name ∧ c.server = (s : Int):=by
 have hN:=zfk hok
 have hperm:=zcs hN hr
 unfold zb4 at hx
 rw [List.getElem?_map] at hx
 obtain ⟨s',hs',rfl⟩:=Option.map_eq_some_iff.1 hx
 obtain ⟨hlt,hse⟩:=List.getElem?_eq_some_iff.1 hs'
 rw [List.getElem_range] at hse
 subst hse
 unfold srvF at hy
 obtain ⟨i,hi,rfl⟩:=List.mem_map.1 hy
 obtain ⟨hi1,hi2⟩:=List.mem_filter.1 hi
 have hil:=List.mem_range.1 hi1
 rw [List.getElem?_eq_getElem hil] at hi2
 simp only [Option.map_some,Option.getD_some,decide_eq_true_eq] at hi2
 have hg : (sortN nmQ cs)[i]? = some (sortN nmQ cs)[i]:=List.getElem?_eq_getElem hil
 generalize (sortN nmQ cs)[i] = c at *
 have hd : zbS (sortN nmQ cs) (nmE e) = (i : Int):=by
  have:=(List.mem_filter.1 (show e ∈ (sortN nmE l).filter fun e=>decide (zbS (sortN nmQ cs) (nmE e) = (i : Int)) from he)).2
  simpa using this
 obtain ⟨k,h1,h2⟩:=zn0 hperm (hr.self hN) hr.apart hd hg
 refine ⟨k,c,h1,h2,?_,hi2⟩
 show c.name = nmAt (sortN nmQ cs) i
 unfold nmAt
 rw [hg]
 rfl
theorem zl3 {l : List Ent} {cs : List CutR} {sv : Int} {N : Nat} (hok : OkOf l) (hr : RightOk l cs sv) (hNs : N = sv.toNat) : ((zb4 (sortN nmE l) (sortN nmQ cs) N).map entN).sum = l.length:=by
 have hN:=zfk hok
 have hperm:=zcs hN hr
 have hpe:=(zcb (f:=nmE) hN.self hN.apart).1
 have hsb : ∀ c ∈ sortN nmQ cs,0 ≤ c.server ∧ c.server < (N : Int):=fun c hc=>by
  have h1:=hr.cut c (hperm.mem_iff.1 hc)
  have h2:=hr.srv
  exact ⟨h1.1,by have:=h1.2.1;omega⟩
 have:=zoY (l:=sortN nmE l) (cs:=sortN nmQ cs) (n:=N) hsb (fun e he=>by
  obtain ⟨c,hc,hu⟩:=zqx hok hr e (hpe.mem_iff.1 he)
  obtain ⟨k,dd,h1,-,-⟩:=zkv (hperm.mem_iff.2 hc) hu
  rw [h1];omega)
 rw [hpe.length_eq] at this
 exact this
theorem zgh {S S2 : Nat → Prop} {A : Option Addr} {n c : Nat} {l : List Ent} {B : Option Addr} {m d : Nat} {cs : List CutR} {w : World} (h : Row Elem.ent S w A n c l) (hc : Row Elem.cut S2 w B m d cs) (sv : Int) (name : ByteArray) (hG : Gu w) (hf : ∀ e ∈ l,EntFits e) (hs1 : -9223372036854775808 ≤ sv) (hs2 : sv ≤ 9223372036854775807) (hcl : cs.length ≤ 2000000) :
 Calls Tryz.prog 3 #[.slice A n c,.slice B m d,.int .i64 sv,.string name] w fun e w'=>e = .returned (.bool true) ∧ Ext w w':=by
 have HG:=hid hG
 have HC:=hid hc
 have HMC : Hid (m = cs.length):=hc.len
 have HML : Hid (n = l.length):=h.len
 have hn0 : n ≤ 9223372036854775807:=by have:=h.cap;have:=h.most;simp only [maxLen] at this;omega
 have HAW : ∀ w',Ext w w' → Calls Tryz.prog 6 #[] w' fun e w''=>e = .returned (.bool true) ∧ Ext w' w'':=fun w' hx=>zk4 w' (hG.ext hx)
 have HFW : ∀ w',Ext w w' → Calls Tryz.prog 7 #[.slice A n c,.slice B m d] w' (BoolSays w'):=fun w' hx=>zoO (h.ext hx) (hc.ext hx)
 unfold BoolSays at HFW
 have HCU : ∀ w',Ext w w' → Calls Tryz.prog 9 #[.slice B m d] w' fun e w''=>∃ A' n' c',e = .returned (.slice A' n' c') ∧ Row Elem.cut (fun b=>w'.heap.size ≤ b) w'' A' n' c' cs ∧ Ext w' w'':=fun w' hx=>zmH (hc.ext hx) hcl
 have HCE : ∀ (S : Nat → Prop) A' n' c' w' nm,Ext w w' → Row Elem.cut S w' A' n' c' cs → Calls Tryz.prog 8 #[.slice A' n' c',.string nm] w' (zdr cs nm w'):=fun S A' n' c' w' nm hx hr=>zj8 hr nm (hG.gl.ext hx)
 obtain ⟨M,hM⟩ : ∃ M,M = max (zbS cs (bys name)) 0:=⟨_,rfl⟩
 obtain ⟨bb,hbb⟩ : ∃ b,b = decide (0 ≤ zbS cs (bys name)):=⟨_,rfl⟩
 have HC1 : ∀ (S : Nat → Prop) A' n' c' w',Ext w w' → Row Elem.cut S w' A' n' c' cs → Calls Tryz.prog 8 #[.slice A' n' c',.string name] w' fun e w''=>e = .returned (.tuple #[.int .i64 M,.bool bb]) ∧ Ext w' w'':=fun S A' n' c' w' hx hr=>(HCE S A' n' c' w' name hx hr).mono fun e w'' h=>by rw [hM,hbb];exact h
 have HC2 : ∀ w',Ext w w' → Calls Tryz.prog 10 #[.slice B m d,.string name] w' fun e w''=>e = .returned (.tuple #[.int .i64 M,.bool bb]) ∧ Ext w' w'':=fun w' hx=>(zim (hc.ext hx) name (hG.gl.ext hx)).mono fun e w'' h=>by rw [hM,hbb];exact h
 have fM : (M != M) = false:=by simp
 have fb : (bb != bb) = false:=by simp
 clear hM hbb
 have HSP : ∀ A' n' c' w',Ext w w' → Row Elem.cut (fun b=>w.heap.size ≤ b) w' A' n' c' cs → Calls Tryz.prog 11 #[.slice A n c,.slice A' n' c',.int .i64 sv] w' (zeg w' l cs sv):=fun A' n' c' w' hx hr=>zh8 (h.ext hx) hr sv (HG.out.ext hx) hf hs1 hs2
 by_cases h3 : 3000 < name.size
 ·have h3' : (3000 : Int) < (name.size : Int):=by omega
  clear HSP HC1 HC2 HCE HCU fM fb h hc hG hf hcl h3
  go_enter Tryz.func3,Tryz.ntmps3
  go_wp2_with (first
   | (go_at_call 6;first
    | ((with_reducible refine (HAW _ (Ext.refl _)).mono ?_);rintro e w1 ⟨rfl,hx1⟩;have HX1:=hid hx1;clear hx1)
    | ((with_reducible refine (HAW _ HX2.out).mono ?_);rintro e w3 ⟨rfl,hx3⟩;have HX3:=hid (HX2.out.trans hx3);clear hx3))
   | (go_at_call 7;(with_reducible refine (HFW _ HX1.out).mono ?_);rintro e w2 ⟨sm,rfl,hx2⟩;have HX2:=hid (HX1.out.trans hx2);clear hx2;cases sm))
  all_goals go_ret
  all_goals exact ⟨rfl,HX3.out⟩
 have h3' : ¬ (3000 : Int) < (name.size : Int):=by omega
 clear h3
 by_cases hk : OkOf l ∧ RightOk l cs sv
 ·have hsp : ∀ A' n' c' w',Ext w w' → Row Elem.cut (fun b=>w.heap.size ≤ b) w' A' n' c' cs → Calls Tryz.prog 11 #[.slice A n c,.slice A' n' c',.int .i64 sv] w' fun e w''=>∃ A B m d,e = .returned (.tuple #[.agg #[.slice A sv.toNat sv.toNat,.slice B m d],.int .i64 0]) ∧ Row Elem.srw (fun _=>True) w'' A sv.toNat sv.toNat (zb4 (sortN nmE l) (sortN nmQ cs) sv.toNat) ∧ Ext w' w'':=fun A' n' c' w' hx hr=>(HSP A' n' c' w' hx hr).mono fun e w'' h=>by
   rcases h with ⟨-,-,A,B,m,d,h1,h2,-,h3⟩ | ⟨h1,-⟩
   ·exact ⟨A,B,m,d,h1,h2,h3⟩
   ·exact absurd hk h1
  obtain ⟨N,hNn⟩ : ∃ N,N = sv.toNat:=⟨_,rfl⟩
  have HNN : Hid (N ≤ 8):=by show _ ≤ _;have:=hk.2.srv;omega
  rw [← hNn] at hsp
  have HTOT : Hid (((zb4 (sortN nmE l) (sortN nmQ cs) N).map entN).sum = n):=by show _ = _;rw [HML.out];exact zl3 hk.1 hk.2 hNn
  have HUN : Hid (∀ (s : Nat) x,(zb4 (sortN nmE l) (sortN nmQ cs) N)[s]? = some x → ∀ y ∈ x,∀ e ∈ y.ents,∃ (k : Nat) (c : CutR),zbS cs (nmE e) = k ∧ cs[k]? = some c ∧ c.name = y.name ∧ c.server = (s : Int)):=fun s x hx y hy e he=>zn2 hk.1 hk.2 hx hy he
  generalize zb4 (sortN nmE l) (sortN nmQ cs) N = sp at *
  clear HSP h hc hG hf hcl hk hNn
  go_enter Tryz.func3,Tryz.ntmps3
  go_wp2_with (first
   | (go_at_call 6;first
    | ((with_reducible refine (HAW _ (Ext.refl _)).mono ?_);rintro e w1 ⟨rfl,hx1⟩;have HX1:=hid hx1;clear hx1)
    | ((with_reducible refine (HAW _ HX2.out).mono ?_);rintro e w3 ⟨rfl,hx3⟩;have HX3:=hid (HX2.out.trans hx3);clear hx3))
   | (go_at_call 7;(with_reducible refine (HFW _ HX1.out).mono ?_);rintro e w2 ⟨sm,rfl,hx2⟩;have HX2:=hid (HX1.out.trans hx2);clear hx2;cases sm)
   | (go_at_call 9;first
    | ((with_reducible refine (HCU _ HX2.out).mono ?_);rintro e w4 ⟨A4,n4,c4,rfl,hr4,hx4⟩;have HR4:=hid hr4;have HX4:=hid (HX2.out.trans hx4);clear hr4 hx4)
    | ((with_reducible refine (HCU _ HX6.out).mono ?_);rintro e w7 ⟨A7,n7,c7,rfl,hr7,hx7⟩;have HR7:=hid (hr7.mono (T:=fun b=>w.heap.size ≤ b) fun b _ hb=>Nat.le_trans (zaG HX6.out) hb);have HX7:=hid (HX6.out.trans hx7);clear hr7 hx7))
   | (go_at_call 8;(with_reducible refine (HC1 _ _ _ _ _ HX4.out HR4.out).mono ?_);rintro e w5 ⟨rfl,hx5⟩;have HX5:=hid (HX4.out.trans hx5);clear hx5)
   | (go_at_call 10;(with_reducible refine (HC2 _ HX5.out).mono ?_);rintro e w6 ⟨rfl,hx6⟩;have HX6:=hid (HX5.out.trans hx6);clear hx6)
   | (go_at_call 11;(with_reducible refine (hsp _ _ _ _ HX7.out HR7.out).mono ?_);rintro e w8 ⟨A8,B8,m8,d8,rfl,hr8,hx8⟩;have HBX:=hid (Bx.make (Ext.refl w8) #[.slice A8 N N,.slice B8 m8 d8] 33);have HX8:=hid (HX7.out.trans (hx8.trans HBX.out.ext));have HR8:=hid (hr8.ext HBX.out.ext);have p0:=HBX.out.cell (i:=0) rfl;clear hr8 hx8))
  ·go_ret
   exact ⟨rfl,HX3.out⟩
  have hn8 : N ≤ 8:=HNN.out
  clear HAW HFW hsp
  go_loopw [15,70] (fun v i wr=>∃ j : Nat,j ≤ N ∧ i = .int .i64 j ∧ v = .int .i64 ((((sp.take j).map entN).sum : Nat) : Int) ∧ Hid (Ext (w8.alloc (.cells #[.slice A8 N N,.slice B8 m8 d8] 33)) wr)) (fun _ i _=>N - (intOf i).toNat)
  case atStart=>exact ⟨0,by omega,rfl,rfl,Ext.refl _⟩
  case round=>
   obtain ⟨j,hj,rfl,rfl,hx⟩:=hrel
   by_cases hlt : j < N
   ·obtain ⟨b1,o1,v1,x1,rfl,g1,-,⟨A1,n1,c1,rfl,r1⟩,q1⟩:=(HR8.out.ext hx.out).at_ hlt
    have e1:=q1 0 _ rfl
    simp only [Elem.srw,Elem.slc,Nat.add_zero,Nat.mul_one] at e1
    have hlt' : (j : Int) < (N : Int):=by omega
    have HR1:=hid r1
    have HN1:=hid r1.len
    have HMX:=hid (HUN.out j x1 g1)
    have hT1 : ((sp.take (j + 1)).map entN).sum = ((sp.take j).map entN).sum + entN x1:=by
     have:=zfj (f:=sp.map entN) (j:=j) (x:=entN x1) (by rw [List.getElem?_map,g1];rfl)
     rwa [← List.map_take,← List.map_take] at this
    have hT2 : ((sp.take (j + 1)).map entN).sum ≤ (sp.map entN).sum:=by
     have:=zhn (sp.map entN) (j + 1)
     rwa [← List.map_take] at this
    obtain ⟨T0,hT0⟩ : ∃ T,T = ((sp.take j).map entN).sum:=⟨_,rfl⟩
    have HTJ : Hid (((sp.take (j + 1)).map entN).sum = T0 + entN x1):=by show _ = _;omega
    have HB1 : Hid (T0 + entN x1 ≤ n):=by show _ ≤ _;have h1:=HTOT.out;omega
    rw [← hT0]
    have hn1 : n1 ≤ 9223372036854775807:=by have:=r1.cap;have:=r1.most;simp only [maxLen] at this;omega
    have q0':=zaa p0 _ hx.out
    clear q1 g1 r1 hT1 hT2 hT0
    obtain ⟨wo,hwo⟩ : ∃ x,x = wr:=⟨_,rfl⟩
    subst hwo
    go_wp2
    go_loopw [15,80] (fun v i wr=>∃ k : Nat,k ≤ n1 ∧ i = .int .i64 k ∧ v = .int .i64 ((T0 + entN (x1.take k) : Nat) : Int) ∧ Hid (Ext wo wr)) (fun _ i _=>n1 - (intOf i).toNat)
    case atStart=>exact ⟨0,by omega,rfl,by simp [entN],Ext.refl _⟩
    case round=>
     obtain ⟨k,hk,rfl,rfl,hy⟩:=hrel
     have q0:=zaa q0' _ hy.out
     have e2:=zaa e1 _ hy.out
     by_cases hlt2 : k < n1
     ·obtain ⟨b2,o2,v2,x2,rfl,g2,-,⟨A2,n2,c2,B3,m3,d3,rfl,r2,s2⟩,q2⟩:=(HR1.out.ext hy.out).at_ hlt2
      have e20:=q2 0 _ rfl
      have e21:=q2 1 _ rfl
      have e22:=q2 2 _ rfl
      simp only [Elem.cxt,Nat.add_zero] at e20 e21 e22
      have hlt2' : (k : Int) < (n1 : Int):=by omega
      have HS2:=hid r2
      have HM3:=hid r2.len
      have hm3 : n2 ≤ 9223372036854775807:=by have:=r2.cap;have:=r2.most;simp only [maxLen] at this;omega
      have HUX : Hid (∀ e ∈ x2.ents,∃ (k : Nat) (c : CutR),zbS cs (nmE e) = k ∧ cs[k]? = some c ∧ c.name = x2.name ∧ c.server = (j : Int)):=HMX.out x2 (List.mem_of_getElem? g2)
      have hK1 : entN (x1.take (k + 1)) = entN (x1.take k) + n2:=by rw [zoS g2,HM3.out]
      have hK2 : entN (x1.take (k + 1)) ≤ entN x1:=zrh x1 (k + 1)
      obtain ⟨U0,hU0⟩ : ∃ U,U = T0 + entN (x1.take k):=⟨_,rfl⟩
      have HUJ : Hid (T0 + entN (x1.take (k + 1)) = U0 + n2):=by show _ = _;omega
      have hU30 : U0 + n2 ≤ n:=by have:=HB1.out;omega
      rw [← hU0]
      have HBC:=hid (Bx.make (Ext.refl wr) #[.string x2.name,.slice A2 n2 c2,.slice B3 m3 d3] 41)
      have c0:=HBC.out.cell (i:=0) rfl
      have c1':=HBC.out.cell (i:=1) rfl
      have zU : (U0 : Int) + (n2 : Int) = ((U0 + n2 : Nat) : Int):=by omega
      obtain ⟨V0,hV0⟩ : ∃ V,V = U0 + n2:=⟨_,rfl⟩
      rw [← hV0] at zU
      have HV0:=hid hV0
      have hV30 : V0 ≤ 9223372036854775807:=by omega
      clear q2 g2 r2 s2 hK1 hK2 hU0 hV0
      obtain ⟨wp,hwp⟩ : ∃ x,x = wr:=⟨_,rfl⟩
      subst hwp
      go_wp2
      go_loopw [100] (fun i wr=>∃ t : Nat,t ≤ n2 ∧ i = .int .i64 t ∧ Hid (Ext (wp.alloc (.cells #[.string x2.name,.slice A2 n2 c2,.slice B3 m3 d3] 41)) wr)) (fun i _=>n2 - (intOf i).toNat)
      case atStart=>exact ⟨0,by omega,rfl,Ext.refl _⟩
      case round=>
       obtain ⟨t,ht,rfl,hz⟩:=hrel
       by_cases hlt3 : t < n2
       ·obtain ⟨b4,o4,v4,x4,rfl,g4,-,⟨A9,n9,c9,rfl,-⟩,q4⟩:=(HS2.out.ext (HBC.out.ext.trans hz.out)).at_ hlt3
        obtain ⟨kk,cc,hd1,hd2,hd3,hd4⟩:=HUX.out x4 (List.mem_of_getElem? g4)
        have e40:=q4 0 _ rfl
        simp only [Elem.ent,Nat.add_zero] at e40
        have hlt3' : (t : Int) < (n2 : Int):=by omega
        have HXW:=hid (HX8.out.trans (hx.out.trans (hy.out.trans (HBC.out.ext.trans hz.out))))
        have hkm : kk < m:=by rw [HMC.out];exact (List.getElem?_eq_some_iff.1 hd2).1
        have hkm' : (kk : Int) < (m : Int):=by omega
        obtain ⟨b5,o5,v5,x5,rfl,g5,-,r5,q5⟩:=(HC.out.ext HXW.out).at_ hkm
        rw [hd2] at g5
        injection g5 with g5
        subst g5
        obtain ⟨nm5,sv5⟩:=cc
        cases r5
        have e50:=q5 0 _ rfl
        have e51:=q5 1 _ rfl
        simp only [Elem.cut,CutR.cells,Nat.add_zero] at e50 e51
        simp only at hd3 hd4
        subst hd3 hd4
        have f1 : (x2.name.toList == x2.name.toList) = true:=beq_self_eq_true _
        have f2 : ((j : Int) != (j : Int)) = false:=by simp
        have HCX : ∀ (S : Nat → Prop) A' n' c' w',Ext wr w' → Row Elem.cut S w' A' n' c' cs → Calls Tryz.prog 8 #[.slice A' n' c',.string x4.name] w' fun e w''=>e = .returned (.tuple #[.int .i64 kk,.bool true]) ∧ Ext w' w'':=fun S A' n' c' w' hx' hr=>(HCE S A' n' c' w' x4.name (HXW.out.trans hx') hr).mono fun e w'' h=>by
         obtain ⟨h1,h2⟩:=h
         have e3 : zbS cs (bys x4.name) = (kk : Int):=hd1
         rw [e3,decide_eq_true (show (0 : Int) ≤ (kk : Int) by omega),show max (kk : Int) 0 = (kk : Int) by omega] at h1
         exact ⟨h1,h2⟩
        have HCV : ∀ w',Ext wr w' → Calls Tryz.prog 9 #[.slice (some ⟨b5,o5,none⟩) m d] w' fun e w''=>∃ A' n' c',e = .returned (.slice A' n' c') ∧ Row Elem.cut (fun b=>w'.heap.size ≤ b) w'' A' n' c' cs ∧ Ext w' w'':=fun w' hx'=>HCU w' (HXW.out.trans hx')
        clear q4 g4 q5 hd1 hd2 HCE HCU HC1 HC2
        go_wp2
        refine zac (.read 0 (.read 2 (.read 3 (.read 4 (.read 5 (.read 6 (.read 7 (.main 1 (.main 8 (.read 9 (.read 10 (.read 11 (.read 12 (.read 13 .done)))))))))))))) (by kernel_rfl) (by kernel_rfl) ?_
        intro wD hxD
        have XE : Hid (Ext wD wD):=Ext.refl _
        have pc1:=zaa (zaa c1' _ (hz.out.trans hxD))
        have pe0:=zaa (zaa e40 _ hxD)
        repeat' (first
         | ((first | refine zak rfl rfl ?_ | refine zad rfl rfl ?_ | refine zaj rfl rfl ?_);simp only [Act.put,Act.eval,evs])
         | (refine zab rfl rfl ?_;simp only [Act.put,evp])
         | (refine zag (v:=?_) rfl rfl (fun w' hE=>?_) ?_;rotate_left 1;(· ((try (have hEx:=Ext.trans (Hid.out XE) hE));go_simp;(try go_bits);with_reducible rfl));simp only [Act.put,evp])
         | (refine walks_alt ?_ ?_)
         | (refine zai rfl rfl (fun K hK=>?_);go_wp2_with ((first | (go_at_call 9;(with_reducible refine (HCV _ (hxD.trans XE.out)).mono ?_);rintro e w2 ⟨Aa,na,ca,rfl,hra,hx2⟩;have HRA:=hid hra;clear hra;have XE':=hid (Ext.trans (Hid.out XE) hx2);clear XE;have XE:=XE';clear XE') | (go_at_call 8;(with_reducible refine (HCX _ _ _ _ _ (hxD.trans XE.out) HRA.out).mono ?_);rintro e w2 ⟨rfl,hx2⟩;have XE':=hid (Ext.trans (Hid.out XE) hx2);clear XE;have XE:=XE';clear XE')));refine hK _ _ (by first | assumption | exact Ext.alloc _ _ | exact Ext.refl _) ?_;clear hK K;try simp only [Act.put,evp]))
        refine zah ?_
        have HXV:=hid (hxD.trans XE.out)
        clear pc1 pe0 XE hxD
        go_wp2
        refine zac (.read 0 (.read 1 (.read 2 (.read 3 (.read 4 (.read 5 (.read 6 (.read 7 (.read 8 (.read 9 (.read 10 (.read 11 (.read 12 (.read 13 (.read 14 (.read 15 (.read 16 .done))))))))))))))))) (by kernel_rfl) (by kernel_rfl) ?_
        intro wD hxD
        have XE : Hid (Ext wD wD):=Ext.refl _
        have pc0:=zaa (zaa c0 _ (hz.out.trans (HXV.out.trans hxD)))
        have pe0:=zaa (zaa e50 _ (HXV.out.trans hxD))
        have pe1:=zaa (zaa e51 _ (HXV.out.trans hxD))
        repeat' (first
         | ((first | refine zak rfl rfl ?_ | refine zad rfl rfl ?_ | refine zaj rfl rfl ?_);simp only [Act.put,Act.eval,evs])
         | (refine zab rfl rfl ?_;simp only [Act.put,evp])
         | (refine zag (v:=?_) rfl rfl (fun w' hE=>?_) ?_;rotate_left 1;(· ((try (have hEx:=Ext.trans (Hid.out XE) hE));go_simp;(try go_bits);with_reducible rfl));simp only [Act.put,evp])
         | (refine walks_alt ?_ ?_)
         | (refine zai rfl rfl (fun K hK=>?_);go_wp2_with (fail);refine hK _ _ (by first | assumption | exact Ext.alloc _ _ | exact Ext.refl _) ?_;clear hK K;try simp only [Act.put,evp]))
        refine zah ?_
        go_wp2
        exact ⟨⟨t + 1,by omega,by go_num,hz.out.trans (HXV.out.trans (hxD.trans XE.out))⟩,by simp [intOf];omega⟩
       ·obtain rfl : t = n2:=by omega
        have hlt3' : ¬ (t : Int) < (t : Int):=by omega
        go_wp2
        exact ⟨⟨k + 1,by omega,by go_num,by rw [HUJ.out,HV0.out],hy.out.trans (HBC.out.ext.trans hz.out)⟩,by simp [intOf];omega⟩
     ·obtain rfl : k = n1:=by omega
      have hlt2' : ¬ (k : Int) < (k : Int):=by omega
      have HKK : Hid (T0 + entN (x1.take k) = ((sp.take (j + 1)).map entN).sum):=by show _ = _;rw [List.take_of_length_le (Nat.le_of_eq HN1.out.symm),HTJ.out]
      rw [HKK.out]
      go_wp2
      exact ⟨⟨j + 1,by omega,by go_num,rfl,hx.out.trans hy.out⟩,by simp [intOf];omega⟩
   ·obtain rfl : j = N:=by omega
    have hlt' : ¬ (j : Int) < (j : Int):=by omega
    have hlen:=HR8.out.len
    have HEQ : Hid (((sp.take j).map entN).sum = n):=by
     show _ = _
     rw [List.take_of_length_le (Nat.le_of_eq hlen.symm)];exact HTOT.out
    rw [HEQ.out]
    have hb : ((n : Int) == (n : Int)) = true:=by simp
    go_wp2
    go_ret
    exact ⟨rfl,HX8.out.trans hx.out⟩
 ·have hsp : ∀ A' n' c' w',Ext w w' → Row Elem.cut (fun b=>w.heap.size ≤ b) w' A' n' c' cs → Calls Tryz.prog 11 #[.slice A n c,.slice A' n' c',.int .i64 sv] w' fun e w''=>∃ k : Int,k ≠ 0 ∧ e = .returned (.tuple #[.agg #[nilS,nilS],.int .i64 k]) ∧ Ext w' w'':=fun A' n' c' w' hx hr=>(HSP A' n' c' w' hx hr).mono fun e w'' h=>by
   rcases h with ⟨h1,h2,-⟩ | ⟨-,k,h1,h2,h3⟩
   ·exact absurd ⟨h1,h2⟩ hk
   ·exact ⟨k,by rcases h1 with h | h <;> omega,h2,h3⟩
  clear HSP h hc hG hf hcl hk HCE
  go_enter Tryz.func3,Tryz.ntmps3
  go_wp2_with (first
   | (go_at_call 6;first
    | ((with_reducible refine (HAW _ (Ext.refl _)).mono ?_);rintro e w1 ⟨rfl,hx1⟩;have HX1:=hid hx1;clear hx1)
    | ((with_reducible refine (HAW _ HX2.out).mono ?_);rintro e w3 ⟨rfl,hx3⟩;have HX3:=hid (HX2.out.trans hx3);clear hx3))
   | (go_at_call 7;(with_reducible refine (HFW _ HX1.out).mono ?_);rintro e w2 ⟨sm,rfl,hx2⟩;have HX2:=hid (HX1.out.trans hx2);clear hx2;cases sm)
   | (go_at_call 9;first
    | ((with_reducible refine (HCU _ HX2.out).mono ?_);rintro e w4 ⟨A4,n4,c4,rfl,hr4,hx4⟩;have HR4:=hid hr4;have HX4:=hid (HX2.out.trans hx4);clear hr4 hx4)
    | ((with_reducible refine (HCU _ HX6.out).mono ?_);rintro e w7 ⟨A7,n7,c7,rfl,hr7,hx7⟩;have HR7:=hid (hr7.mono (T:=fun b=>w.heap.size ≤ b) fun b _ hb=>Nat.le_trans (zaG HX6.out) hb);have HX7:=hid (HX6.out.trans hx7);clear hr7 hx7))
   | (go_at_call 8;(with_reducible refine (HC1 _ _ _ _ _ HX4.out HR4.out).mono ?_);rintro e w5 ⟨rfl,hx5⟩;have HX5:=hid (HX4.out.trans hx5);clear hx5)
   | (go_at_call 10;(with_reducible refine (HC2 _ HX5.out).mono ?_);rintro e w6 ⟨rfl,hx6⟩;have HX6:=hid (HX5.out.trans hx6);clear hx6)
   | (go_at_call 11;(with_reducible refine (hsp _ _ _ _ HX7.out HR7.out).mono ?_);rintro e w8 ⟨k,hk0,rfl,hx8⟩;have HX8:=hid (HX7.out.trans (hx8.trans (Ext.alloc w8 (.cells #[nilS,nilS] 33))));have hk1 : (k != 0) = true:=(by rw [bne_iff_ne];exact hk0);clear hk0 hx8))
  all_goals go_ret
  all_goals first | exact ⟨rfl,HX8.out⟩ | exact ⟨rfl,HX3.out⟩
end Go.Proofs.YtioglicfndkgiaaGreatDoor
