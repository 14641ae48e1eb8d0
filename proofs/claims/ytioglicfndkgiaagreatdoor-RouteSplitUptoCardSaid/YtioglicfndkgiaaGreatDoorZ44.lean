/- Lemmas of the walk. -/
import Derived.Test.YtioglicfndkgiaaGreatDoorZ38
import Derived.Test.YtioglicfndkgiaaGreatDoorZ29
import Derived.Test.YtioglicfndkgiaaGreatDoorZ15
import Derived.Test.YtioglicfndkgiaaGreatDoorZ16
import Derived.Test.YtioglicfndkgiaaGreatDoorZ33
set_option maxHeartbeats 40000000
set_option linter.unusedVariables false
set_option linter.unusedSimpArgs false
namespace Go.Proofs.YtioglicfndkgiaaGreatDoor
open Go.RowKit Go.ChangeShapes Go.WideShapes Go.Deep
set_option maxRecDepth 100000
def zoA (c:CutR):Prop:=c.name.size≤1048576∧-9223372036854775808≤c.server∧c.server≤9223372036854775807
section
variable {H:Type} {enc:TypeId × Value→H} {W:World}
theorem cut_open {M:Nat} (hM0:M≤1048576) {fuel:Nat} {cs:List Value} {x:DataW H × List MemPlace} (h:DataW.trod enc Tryz.prog W 0 (fun _=>true) true fuel 46 cs=some x) (hM:Rows.uptoBulk x.1≤M):∃ a:CutR,Elem.cut.R (fun _=>True) W cs a∧zoA a:=by
 obtain ⟨hl,hf⟩:=ziX Tryz.underlying46 h hM
 obtain ⟨m0,y0,h0,b0⟩:=hf 0 _ rfl
 obtain ⟨s,e0,q0⟩:=zeQ Tryz.underlying9 h0 (Nat.le_of_lt b0)
 obtain ⟨m1,y1,h1,b1⟩:=hf 1 _ rfl
 obtain ⟨k,e1,k1,k2⟩:=zqI Tryz.underlying3 h1
 have hcs:cs.drop 0=[.string s,.int .i64 k]:=by rw [drop_one (i:=0) (j:=1) e0 (by kernel_rfl) rfl,drop_one (i:=1) (j:=2) e1 (by kernel_rfl) rfl,zjw (n:=2) hl (by kernel_rfl)]
 rw [List.drop_zero] at hcs
 exact ⟨⟨s,k⟩,hcs,Nat.le_trans (Nat.le_of_lt q0) hM0,k1,k2⟩
end
end Go.Proofs.YtioglicfndkgiaaGreatDoor
namespace Go.Proofs.YtioglicfndkgiaaGreatDoor
open Go.RowKit
set_option maxRecDepth 100000
structure CfgAt (S:Nat→Prop) (w:World) (A:Option Addr) (n c:Nat) (B:Option Addr) (m d:Nat) (s:List (List Cxt)) (t:List CutR):Prop where
 srv:Row Elem.srw S w A n c s
 top:Row Elem.cut S w B m d t
theorem CfgAt.ext {S:Nat→Prop} {w w':World} {A:Option Addr} {n c:Nat} {B:Option Addr} {m d:Nat} {s:List (List Cxt)} {t:List CutR} (h:CfgAt S w A n c B m d s t) (hx:Ext w w'):CfgAt S w' A n c B m d s t:=⟨h.srv.ext hx,h.top.ext hx⟩
def zbw (l:List Cxt):List CutR:=l.map fun x=>⟨x.name,0⟩
theorem zmL {s:List (List Cxt)} {t:List CutR} {k:Nat} {l:List Cxt} (h:s[k]?=some l):zcH (rtOf s t) (k:Int)=l.map fun x=>(x.name,x.subs):=by
 unfold zcH rtOf
 simp only [Int.toNat_natCast,List.getElem?_map,h]
 rfl
theorem zgr {s:List (List Cxt)} {t:List CutR} {k:Nat} {l:List Cxt} (h:s[k]?=some l):zb5 (zcH (rtOf s t) (k:Int))=zbw l:=by
 rw [zmL h]
 unfold zb5 zbw
 rw [List.map_map]
 rfl
theorem zlS {s:List (List Cxt)} {t:List CutR} {k q:Nat} {l:List Cxt} {x:Cxt} (h:s[k]?=some l) (hx:l[q]?=some x):(((zcH (rtOf s t) (k:Int))[q]?).map (·.2)).getD []=x.subs:=by
 rw [zmL h,List.getElem?_map,hx]
 rfl
theorem zjz {c:RtC} {s:Int} {nm:List UInt8} (h:zap (zac nm)≠0∨s<0∨(c.servers.length:Int)≤s):zca c s nm=(-1,-1):=by unfold zca;rw [if_pos h]
theorem zkc {c:RtC} {s:Int} {nm:List UInt8} (h:zaJ (zb5 (zcH c s)) nm<0):zca c s nm=(-1,-1):=by
 unfold zca
 split
 ·rfl
 ·rfl
theorem zkh {c:RtC} {s:Int} {nm:List UInt8} (h:¬ (zap (zac nm)≠0∨s<0∨(c.servers.length:Int)≤s)) (h2:¬ zaJ (zb5 (zcH c s)) nm<0) :
 zca c s nm=(zaJ (zb5 (zcH c s)) nm,zaJ (((zcH c s)[(zaJ (zb5 (zcH c s)) nm).toNat]?.map (·.2)).getD []) nm):=by unfold zca;rw [if_neg h,if_neg h2]
def zcJ (w:World) (r:Int × Int) (e:Ending) (w':World):Prop:=e=.returned (.tuple #[.int .i64 r.1,.int .i64 r.2])∧Ext w w'
theorem ze1 {S:Nat→Prop} {w:World} {A:Option Addr} {n c:Nat} {B:Option Addr} {m d:Nat} {s:List (List Cxt)} {t:List CutR} (h:CfgAt S w A n c B m d s t) (hG:Gl w) (server:Int) (name:ByteArray) (hs:∀ l∈s,l.length≤4000000) :
 Calls Tryz.prog 56 #[.agg #[.slice A n c,.slice B m d],.int .i64 server,.string name] w (zcJ w (zca (rtOf s t) server (bys name))):=by
 have HG:=hid hG
 have HR:=hid h.srv
 have HLN:=hid h.srv.len
 have HSL:=hid hs
 have hn:n≤9223372036854775807:=by have:=h.srv.cap;have:=h.srv.most;simp only [maxLen] at this;omega
 have HN:∀ w,Gl w→Calls Tryz.prog 25 #[.string name] w (zaM w (bys name)):=fun w hG=>zbx name w hG
 have HDP:∀ (T:Nat→Prop) A1 n1 c1 (l:List CutR) w1,Gl w1→Row Elem.cut T w1 A1 n1 c1 l→Calls Tryz.prog 18 #[.slice A1 n1 c1,.string name] w1 fun e w'=>e=.returned (.int .i64 (zaJ l (bys name)))∧Ext w1 w':=fun T A1 n1 c1 l w1 hG hr=>zcS hr name hG
 have HB0:=hid (Bx.make (Ext.refl w) #[.slice A n c,.slice B m d] 33)
 have HCL:Hid ((rtOf s t).servers.length=n):=by show _=_;rw [h.srv.len];simp [rtOf]
 unfold zaM at HN
 clear hG h hs
 by_cases hc:zap (zac (bys name))=0
 case neg=>
  have HF:=hid (zjz (c:=rtOf s t) (s:=server) (nm:=bys name) (.inl hc))
  have e0:(zap (zac (bys name)) != 0)=true:=by rw [bne_iff_ne];exact hc
  unfold zcJ
  rw [HF.out]
  clear hc
  generalize zap (zac (bys name))=cd at *
  go_enter Tryz.func56,Tryz.ntmps56
  go_wp2_with
   (go_at_call 25;(with_reducible refine (HN _ (HG.out.ext (Ext.alloc _ _))).mono ?_);rintro e w1 ⟨rfl,hx1⟩;have HB1:=hid (HB0.out.later hx1);have a0:=HB1.out.cell (i:=0) rfl;have a1:=HB1.out.cell (i:=1) rfl;clear hx1)
  go_ret2
  exact ⟨rfl,HB1.out.ext⟩
 have HCD:=hid hc
 have e0:(zap (zac (bys name)) != 0)=false:=by rw [hc];rfl
 by_cases hneg:server<0
 ·have HF:=hid (zjz (c:=rtOf s t) (s:=server) (nm:=bys name) (.inr (.inl hneg)))
  unfold zcJ
  rw [HF.out]
  clear hc HCD
  generalize zap (zac (bys name))=cd at *
  go_enter Tryz.func56,Tryz.ntmps56
  go_wp2_with
   (go_at_call 25;(with_reducible refine (HN _ (HG.out.ext (Ext.alloc _ _))).mono ?_);rintro e w1 ⟨rfl,hx1⟩;have HB1:=hid (HB0.out.later hx1);have a0:=HB1.out.cell (i:=0) rfl;have a1:=HB1.out.cell (i:=1) rfl;clear hx1)
  go_ret2
  exact ⟨rfl,HB1.out.ext⟩
 obtain ⟨k,rfl⟩:∃ k:Nat,server=(k:Int):=⟨server.toNat,by omega⟩
 by_cases hge:n≤k
 ·have hge':(n:Int)≤(k:Int):=by omega
  have HF:=hid (zjz (c:=rtOf s t) (s:=(k:Int)) (nm:=bys name) (.inr (.inr (by rw [HCL.out];exact hge'))))
  unfold zcJ
  rw [HF.out]
  clear hc HCD hge
  generalize zap (zac (bys name))=cd at *
  go_enter Tryz.func56,Tryz.ntmps56
  go_wp2_with
   (go_at_call 25;(with_reducible refine (HN _ (HG.out.ext (Ext.alloc _ _))).mono ?_);rintro e w1 ⟨rfl,hx1⟩;have HB1:=hid (HB0.out.later hx1);have a0:=HB1.out.cell (i:=0) rfl;have a1:=HB1.out.cell (i:=1) rfl;clear hx1)
  go_ret2
  exact ⟨rfl,HB1.out.ext⟩
 have hlt:k<n:=by omega
 have hge':¬ (n:Int)≤(k:Int):=by omega
 have hk0:decide ((k:Int)<0)=false:=decide_eq_false (by omega)
 have hk1:decide (n≤k)=false:=decide_eq_false (by omega)
 obtain ⟨b1,o1,v1,x1,rfl,g1,-,⟨A1,n1,c1,rfl,r1⟩,q1⟩:=HR.out.at_ hlt
 have e1:=q1 0 _ rfl
 simp only [Elem.srw,Elem.slc,Nat.add_zero,Nat.mul_one] at e1
 have E1:=hid e1
 have R1:=hid r1
 have Hg1:=hid g1
 have hn1:n1≤9223372036854775807:=by have:=r1.cap;have:=r1.most;simp only [maxLen] at this;omega
 have HL1:Hid (n1≤4000000):=by show _≤_;rw [r1.len];exact HSL.out x1 (List.mem_of_getElem? g1)
 have HFS:Hid (¬ zaJ (zbw x1) (bys name)<0→zca (rtOf s t) (k:Int) (bys name)=(zaJ (zbw x1) (bys name),zaJ (((zcH (rtOf s t) (k:Int))[(zaJ (zbw x1) (bys name)).toNat]?.map (·.2)).getD []) (bys name))):=fun h=>by
  rw [zkh (by rw [HCL.out];rintro (h | h | h);exact h HCD.out;omega;omega) (by rw [zgr g1];exact h),zgr g1]
 have HFN:Hid (zaJ (zbw x1) (bys name)<0→zca (rtOf s t) (k:Int) (bys name)=(-1,-1)):=fun h=>zkc (by rw [zgr g1];exact h)
 have HDR:=hid (zc3 (zbw x1) (bys name))
 have HLC:Hid ((zbw x1).length=n1):=by show _=_;rw [r1.len];simp [zbw]
 clear hc HCD hge g1 r1 q1 e1 hneg
 unfold zcJ
 generalize zap (zac (bys name))=cd at *
 go_enter Tryz.func56,Tryz.ntmps56
 have E2:=hid (fun w' hx=>zaa E1.out w' hx)
 go_wp2_with
  (go_at_call 25;(with_reducible refine (HN _ (HG.out.ext (Ext.alloc _ _))).mono ?_);rintro e w1 ⟨rfl,hx1⟩;have HB1:=hid (HB0.out.later hx1);have a0:=HB1.out.cell (i:=0) rfl;have a1:=HB1.out.cell (i:=1) rfl;have a2:=E2.out _ HB1.out.ext;clear hx1)
 clear a0 a1 a2
 go_loopw [10,38] (fun v i wr=>∃ j:Nat,j≤n1∧i=.int .i64 j∧Hid (GrowR Elem.cut 58 none w1 wr v (zbw (x1.take j)))) (fun _ i _=>n1-(intOf i).toNat)
 case atStart=>exact ⟨0,by omega,rfl,GrowR.nil (Ext.refl _) (fun g hg=>by cases hg)⟩
 case round=>
  obtain ⟨j,hj,rfl,HGR⟩:=hrel
  have HXR:=hid (HB1.out.ext.trans HGR.out.ext)
  by_cases hlt2:j<n1
  ·obtain ⟨b2,o2,v2,x2,rfl,g2,-,⟨A2,n2,c2,B2,m2,d2,rfl,r2,s2⟩,q2⟩:=(R1.out.ext HXR.out).at_ hlt2
   have e20:=q2 0 _ rfl
   have e21:=q2 1 _ rfl
   have e22:=q2 2 _ rfl
   simp only [Elem.cxt,Nat.add_zero] at e20 e21 e22
   have Hg2:=hid g2
   clear q2 g2 r2 s2
   have HTK:Hid (zbw (x1.take (j+1))=zbw (x1.take j)++[⟨x2.name,0⟩]):=by show _=_;rw [List.take_add_one,Hg2.out];simp [zbw]
   have HLT:Hid ((zbw (x1.take j)).length≤4000000):=by show _≤_;unfold zbw;rw [List.length_map,List.length_take];have:=HL1.out;omega
   generalize x2.name=nm2 at *
   go_wp2_with (at_builtin;refine zhh Tryz.underlying28 zhH rfl (by decide) rfl _ _ rfl _ _ rfl (HGR.out.later (Ext.alloc _ _)) (u:=[.string nm2,.int .i64 0]) ⟨nm2,0⟩ rfl (by intro c hc;simp at hc;rcases hc with rfl | rfl <;> rfl) rfl (by simp) HLT.out ?_;intro v' w3 hg3 _ _;have HG3:=hid hg3;clear hg3)
   exact ⟨⟨j+1,by omega,by go_num,by rw [HTK.out];exact HG3⟩,by simp [intOf];omega⟩
  ·obtain rfl:j=n1:=by omega
   have hgr:=HGR.out
   rw [List.take_of_length_le (Nat.le_of_eq R1.out.len.symm)] at hgr
   obtain ⟨A3,c3,rfl,hr3⟩:=hgr.row
   have HR3:=hid hr3
   have HGX:=hid hgr.ext
   clear hgr hr3 HGR
   have HDQ:Calls Tryz.prog 18 #[.slice A3 (zbw x1).length c3,.string name] wr fun e w'=>e=.returned (.int .i64 (zaJ (zbw x1) (bys name)))∧Ext wr w':=HDP _ _ _ _ _ _ (HG.out.ext HXR.out) HR3.out
   by_cases hd:zaJ (zbw x1) (bys name)<0
   ·have HF:=hid (HFN.out hd)
    generalize zaJ (zbw x1) (bys name)=dp at *
    go_wp2_with (go_at_call 18;(with_reducible refine HDQ.mono ?_);rintro e w4 ⟨rfl,hx4⟩;have HX4:=hid (HXR.out.trans hx4);clear hx4)
    go_ret2
    exact ⟨by rw [HF.out];(try rfl),HX4.out⟩
   ·have hfs:=HFS.out (by omega)
    have hdr:=HDR.out
    rw [HLC.out] at hdr
    obtain ⟨q,hq⟩:∃ q:Nat,zaJ (zbw x1) (bys name)=(q:Int):=⟨(zaJ (zbw x1) (bys name)).toNat,by omega⟩
    have hqn:q<j:=by omega
    rw [hq] at HDQ hfs
    simp only [Int.toNat_natCast] at hfs
    obtain ⟨b5,o5,v5,x5,hA5,g5,-,⟨A5,n5,c5,B5,m5,d5,rfl,r5,s5⟩,q5⟩:=R1.out.at_ hqn
    subst hA5
    have HSB:=hid (zlS (t:=t) Hg1.out g5)
    have E5:=hid (q5 2 _ rfl)
    have S5:=hid s5
    rw [HSB.out] at hfs
    have HF:=hid hfs
    have HD5:∀ w',Ext w w'→Calls Tryz.prog 18 #[.slice B5 m5 d5,.string name] w' fun e w''=>e=.returned (.int .i64 (zaJ x5.subs (bys name)))∧Ext w' w'':=fun w' hx=>HDP _ _ _ _ _ _ (HG.out.ext hx) (S5.out.ext hx)
    have tq:¬ ((q:Int)<0):=by omega
    clear hd hq hdr hfs HDP g5 r5 s5 q5 HFS HFN HDR
    generalize zaJ x5.subs (bys name)=d9 at *
    go_wp2_with (go_at_call 18;first
     | ((with_reducible refine HDQ.mono ?_);rintro e w4 ⟨rfl,hx4⟩;have HX4:=hid (HXR.out.trans hx4);have z0:=zaa (HB1.out.cell (i:=0) rfl) _ (HGX.out.trans hx4);have z1:=E2.out _ HX4.out;have z2:=zaa E5.out _ HX4.out;simp only [Elem.cxt] at z2;clear hx4)
     | ((with_reducible refine (HD5 _ HX4.out).mono ?_);rintro e w5 ⟨rfl,hx5⟩;have HX5:=hid (HX4.out.trans hx5);clear hx5))
    go_ret2
    exact ⟨by rw [HF.out];(try rfl),HX5.out⟩
def zgX (w:World) (r:Int × Bool) (e:Ending) (w':World):Prop:=e=.returned (.tuple #[.int .i64 r.1,.bool r.2])∧Ext w w'
theorem zqO {S:Nat→Prop} {w:World} {A:Option Addr} {n c:Nat} {B:Option Addr} {m d:Nat} {s:List (List Cxt)} {t:List CutR} (h:CfgAt S w A n c B m d s t) (hG:Gl w) (server:Int) (name:ByteArray) (hs:∀ l∈s,l.length≤4000000) :
 Calls Tryz.prog 29 #[.agg #[.slice A n c,.slice B m d],.int .i64 server,.string name] w (zgX w (zd5 (rtOf s t) server (bys name))):=by
 have HFI:∀ w',Ext w w'→Calls Tryz.prog 56 #[.agg #[.slice A n c,.slice B m d],.int .i64 server,.string name] w' (zcJ w' (zca (rtOf s t) server (bys name))):=fun w' hx=>ze1 (h.ext hx) (hG.ext hx) server name hs
 have HD:Hid (zd5 (rtOf s t) server (bys name)=if (zca (rtOf s t) server (bys name)).1<0∨0≤(zca (rtOf s t) server (bys name)).2 then (0,false) else ((zca (rtOf s t) server (bys name)).1,true)):=rfl
 unfold zcJ at HFI
 unfold zgX
 clear h hG hs
 generalize zd5 (rtOf s t) server (bys name)=R at *
 generalize zca (rtOf s t) server (bys name)=q at *
 obtain ⟨q1,q2⟩:=q
 simp only at HFI HD
 by_cases h1:q1<0
 ·rw [if_pos (.inl h1)] at HD
  go_enter Tryz.func29,Tryz.ntmps29
  go_wp2_with (go_at_call 56;(with_reducible refine (HFI _ (Ext.alloc _ _)).mono ?_);rintro e w1 ⟨rfl,hx1⟩;have HX1:=hid ((Ext.alloc _ _).trans hx1);clear hx1)
  go_ret2
  exact ⟨by rw [HD.out];(try rfl),HX1.out⟩
 ·by_cases h2:0≤q2
  ·rw [if_pos (.inr h2)] at HD
   go_enter Tryz.func29,Tryz.ntmps29
   go_wp2_with (go_at_call 56;(with_reducible refine (HFI _ (Ext.alloc _ _)).mono ?_);rintro e w1 ⟨rfl,hx1⟩;have HX1:=hid ((Ext.alloc _ _).trans hx1);clear hx1)
   go_ret2
   exact ⟨by rw [HD.out];(try rfl),HX1.out⟩
  ·rw [if_neg (by rintro (h | h);exact h1 h;exact h2 h)] at HD
   go_enter Tryz.func29,Tryz.ntmps29
   go_wp2_with (go_at_call 56;(with_reducible refine (HFI _ (Ext.alloc _ _)).mono ?_);rintro e w1 ⟨rfl,hx1⟩;have HX1:=hid ((Ext.alloc _ _).trans hx1);clear hx1)
   go_ret2
   exact ⟨by rw [HD.out];(try rfl),HX1.out⟩
theorem ziq {S:Nat→Prop} {A:Option Addr} {n c:Nat} {l:List CutR} {w:World} (h:Row Elem.cut S w A n c l) (hm:l.length≤2000000) :
 Calls Tryz.prog 9 #[.slice A n c] w fun e w'=>∃ A' n' c',e=.returned (.slice A' n' c')∧Row Elem.cut (fun b=>w.heap.size≤b) w' A' n' c' l∧Ext w w':=by
 have HR:=hid h
 have HLN:=hid h.len
 have HM:=hid hm
 have hn:n≤9223372036854775807:=by have:=h.cap;have:=h.most;simp only [maxLen] at this;omega
 clear h hm
 go_enter Tryz.func9,Tryz.ntmps9
 go_wp2
 go_loopw [3,7] (fun v i wr=>∃ j:Nat,j≤n∧i=.int .i64 j∧Hid (GrowR Elem.cut 58 none w wr v (l.take j))) (fun _ i _=>n-(intOf i).toNat)
 case atStart=>exact ⟨0,by omega,rfl,GrowR.nil (Ext.refl _) (fun g hg=>by cases hg)⟩
 case round=>
  obtain ⟨j,hj,rfl,HGR⟩:=hrel
  by_cases hlt:j<n
  ·obtain ⟨b1,o1,v1,x1,rfl,g1,-,r1,q1⟩:=(HR.out.ext HGR.out.ext).at_ hlt
   obtain ⟨nm1,sv1⟩:=x1
   cases r1
   have e10:=q1 0 _ rfl
   have e11:=q1 1 _ rfl
   simp only [Elem.cut,Nat.add_zero] at e10 e11
   have Hg:=hid g1
   clear q1 g1
   have HLT:Hid ((l.take j).length≤4000000):=by show _≤_;rw [List.length_take];have:=HLN.out;have:=HM.out;omega
   go_wp2_with (at_builtin;refine zhh Tryz.underlying28 zhH rfl (by decide) rfl _ _ rfl _ _ rfl HGR.out (u:=[.string nm1,.int .i64 sv1]) ⟨nm1,sv1⟩ rfl (by intro c hc;simp at hc;rcases hc with rfl | rfl <;> rfl) rfl rfl HLT.out ?_;intro v' w3 hg3 _ _;have HG3:=hid hg3;clear hg3)
   exact ⟨⟨j+1,by omega,by go_num,by (have e:l.take (j+1)=l.take j++[⟨nm1,sv1⟩]:=by (rw [List.take_add_one,Hg.out];rfl));rw [e];exact HG3⟩,by simp [intOf];omega⟩
  ·obtain rfl:j=n:=by omega
   have hgr:=HGR.out
   rw [List.take_of_length_le (Nat.le_of_eq HLN.out.symm)] at hgr
   obtain ⟨A2,c2,rfl,hr2⟩:=hgr.row
   have HR2:=hid hr2
   have HX:=hid hgr.ext
   clear hgr hr2 HGR
   go_wp2
   go_ret
   exact ⟨A2,_,c2,rfl,HR2.out,HX.out⟩
end Go.Proofs.YtioglicfndkgiaaGreatDoor
namespace Go.Proofs.YtioglicfndkgiaaGreatDoor
theorem zpc {l:List Ent} (h:∀ e∈l,zno e):∀ e∈l,EntFits e:=fun e he=>by
 obtain ⟨h1,h2,h3⟩:=h e he
 refine ⟨by omega,by omega,by omega,fun a ha=>?_,fun a ha=>?_⟩
 ·obtain ⟨q1,q2,q3⟩:=h3 a ha
  omega
 ·obtain ⟨q1,q2,q3⟩:=h3 a ha
  omega
end Go.Proofs.YtioglicfndkgiaaGreatDoor
