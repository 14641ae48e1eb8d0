/- Lemmas of the walk. -/
import Derived.Test.YtkjbokhnpphimaaGreatDoorV46
import Derived.Test.YtkjbokhnpphimaaGreatDoorV47
set_option maxHeartbeats 40000000
set_option linter.unusedVariables false
set_option linter.unusedSimpArgs false
namespace Go.Proofs.YtkjbokhnpphimaaGreatDoor
open Go.RowKit
set_option maxRecDepth 100000
theorem zm5{l:List Ent}{cs:List CutR}{sv:Int}{s:List (List Cxt)}(h:BackOk l cs sv s)(hsv:sv≤8){t:List CutR}(hsub:∀x∈s,∀y∈x,y.subs.length≤30):s.length≤2000000∧∀x∈s,x.length≤2000000∧∀y∈x,y.subs.length≤2000000:=by
 refine⟨by rw[h.len];omega,fun x hx=>⟨?_,fun y hy=>by have:=hsub x hx y hy;omega⟩⟩
 obtain⟨j,hj⟩:=List.getElem?_of_mem hx
 have:=zmb hj (Nat.le_refl x.length)
 have:=h.few
 omega
theorem zol{l:List Ent}{cs:List CutR}{sv:Int}{s:List (List Cxt)}(h:BackOk l cs sv s)(hp:∀e∈zbj s,e∈l)(hf:∀e∈l,EntFits e):∀x∈s,∀y∈x,y.ents.length≤2000000∧∀e∈y.ents,EntFits e:=fun x hx y hy=>by
 refine⟨?_,fun e he=>hf e (hp e (zpZ hx hy he))⟩
 obtain⟨j,hj⟩:=List.getElem?_of_mem hx
 obtain⟨k,hk⟩:=List.getElem?_of_mem hy
 have h1:=zmz hj (k+1)
 rw[zkr hk,List.length_append] at h1
 have h2:=h.most
 omega
theorem zky{S S2:Nat→Prop}{A:Option Addr}{n c:Nat}{l:List Ent}{B:Option Addr}{m d:Nat}{cs:List CutR}{w:World}(h:Row Elem.ent S w A n c l)(hc:Row Elem.cut S2 w B m d cs)(sv:Int)(hG:Gu w)(hf:∀e∈l,EntFits e)(hs1:-9223372036854775808≤sv)(hs2:sv≤9223372036854775807)(hcl:cs.length≤2000000) :
 Calls Tryz.prog 4 #[.slice A n c,.slice B m d,.int .i64 sv] w fun e w'=>e=.returned (.bool true)∧Ext w w':=by
 have HG:=hid hG
 have HML:=hid hc.len
 have HAW:∀w',Ext w w'→Calls Tryz.prog 6 #[] w' fun e w''=>e=.returned (.bool true)∧Ext w' w'':=fun w' hx=>zlq w' (hG.ext hx)
 have HFW:∀w',Ext w w'→Calls Tryz.prog 7 #[.slice A n c,.slice B m d] w' (BoolSays w'):=fun w' hx=>zoR (h.ext hx) (hc.ext hx)
 unfold BoolSays at HFW
 have HCU:∀w',Ext w w'→Calls Tryz.prog 9 #[.slice B m d] w' fun e w''=>∃A' n' c',e=.returned (.slice A' n' c')∧Row Elem.cut (fun b=>w'.heap.size≤b) w'' A' n' c' cs∧Ext w' w'':=fun w' hx=>znG (hc.ext hx) hcl
 have HSP:∀A' n' c' w',Ext w w'→Row Elem.cut (fun b=>w.heap.size≤b) w' A' n' c' cs→Calls Tryz.prog 8 #[.slice A n c,.slice A' n' c',.int .i64 sv] w' (zdq w' l cs sv):=fun A' n' c' w' hx hr=>zeC (h.ext hx) hr sv (HG.out.ext hx) hf hs1 hs2
 by_cases hk:OkOf l∧RightOk l cs sv
 ·obtain⟨N,hNn⟩:∃N,N=sv.toNat:=⟨_,rfl⟩
  have hN:=zcH hk.1
  have hb:=zfP hk.1 hk.2 hNn
  have hjo:=zoh hk.1 hk.2 hNn
  have hfo:=zkI hk.1 hk.2 hNn
  have hpm:=(zif hk.1 hk.2 hNn).1
  have hsz:=zm5 (t:=[]) hb hk.2.srv.2 (fun x hx y hy=>(hfo.ctx x hx y hy).2.1.few)
  have hfi:=zol hb (fun e he=>hpm.mem_iff.1 he) hf
  have hft:∀e∈sortN nmE l,EntFits e:=fun e he=>hf e (zoz he)
  have hln:l.length≤400:=hk.1.1
  have hnl:=h.len
  have htl:(topS (sortN nmQ cs)).length≤30:=hfo.top.few
  have hsp:∀A' n' c' w',Ext w w'→Row Elem.cut (fun b=>w.heap.size≤b) w' A' n' c' cs→Calls Tryz.prog 8 #[.slice A n c,.slice A' n' c',.int .i64 sv] w' fun e w''=>∃A B m d,e=.returned (.tuple #[.agg #[.slice A N N,.slice B m d],.int .i64 0])∧CfgAt (fun _=>True) w'' A N N B m d (zaS (sortN nmE l) (sortN nmQ cs) N) (topS (sortN nmQ cs))∧Ext w' w'':=fun A' n' c' w' hx hr=>(HSP A' n' c' w' hx hr).mono fun e w'' h=>by
   rcases h with⟨-,-,A,B,m,d,h1,h2,h3,h4⟩|⟨h1,-⟩
   ·rw[hNn]
    exact⟨A,B,m,d,h1,⟨h2,h3⟩,h4⟩
   ·exact absurd hk h1
  have hs2':∀A1 n1 c1 A' n' c' w',Ext w w'→Row Elem.ent (fun _=>True) w' A1 n1 c1 (sortN nmE l)→Row Elem.cut (fun _=>True) w' A' n' c' (sortN nmQ cs)→Calls Tryz.prog 8 #[.slice A1 n1 c1,.slice A' n' c',.int .i64 sv] w' fun e w''=>∃A B m d,e=.returned (.tuple #[.agg #[.slice A N N,.slice B m d],.int .i64 0])∧CfgAt (fun _=>True) w'' A N N B m d (zaS (sortN nmE l) (sortN nmQ cs) N) (topS (sortN nmQ cs))∧Ext w' w'':=fun A1 n1 c1 A' n' c' w' hx hr hq=>(zeC hr hq sv (HG.out.ext hx) hft hs1 hs2).mono fun e w'' h=>by
   rcases h with⟨-,-,A,B,m,d,h1,h2,h3,h4⟩|⟨h1,-⟩
   ·rw[hb.ents2,hb.cuts2] at h2
    rw[hb.cuts2] at h3
    rw[hNn]
    exact⟨A,B,m,d,h1,⟨h2,h3⟩,h4⟩
   ·exact absurd ⟨hb.ok2,hb.right2⟩ h1
  have HJN:∀A' B' m' d' w',Ext w w'→CfgAt (fun _=>True) w' A' N N B' m' d' (zaS (sortN nmE l) (sortN nmQ cs) N) (topS (sortN nmQ cs))→Calls Tryz.prog 14 #[.agg #[.slice A' N N,.slice B' m' d']] w' fun e w''=>∃A n c B d,e=.returned (.tuple #[.slice A n c,.slice B cs.length d,.int .i64 0])∧Row Elem.ent (fun _=>True) w'' A n c (sortN nmE l)∧Row Elem.cut (fun _=>True) w'' B cs.length d (sortN nmQ cs)∧Ext w' w'':=fun A' B' m' d' w' hx hr=>(zoB hr (HG.out.ext hx) hfi).mono fun e w'' h=>by
   rcases h with⟨-,A,n,c,B,m,d,h1,h2,h3,h4⟩|⟨h1,-⟩
   ·rw[hb.ents] at h2
    rw[hb.cuts] at h3
    obtain rfl:m=cs.length:=by rw[h3.len,hb.count]
    exact⟨A,n,c,B,d,h1,h2,h3,h4⟩
   ·exact absurd hjo h1
  have HSO:∀w',Ext w w'→Calls Tryz.prog 16 #[.slice A n c] w' (zep w' l):=fun w' hx=>zlB (h.ext hx) (HG.out.gl.ext hx) (by omega)
  unfold zep at HSO
  have HOU:∀A' B' m' d' w',CfgAt (fun _=>True) w' A' N N B' m' d' (zaS (sortN nmE l) (sortN nmQ cs) N) (topS (sortN nmQ cs))→Calls Tryz.prog 12 #[.agg #[.slice A' N N,.slice B' m' d']] w' (zgy w' (zaS (sortN nmE l) (sortN nmQ cs) N) (topS (sortN nmQ cs))):=fun A' B' m' d' w' hr=>znC hr hsz (by omega)
  unfold zgy at HOU
  have fm:((cs.length:Int)==(m:Int))=true:=by rw[beq_iff_eq,hc.len]
  generalize zaS (sortN nmE l) (sortN nmQ cs) N=sp at*
  generalize topS (sortN nmQ cs)=tp at*
  have HSA:∀A1 n1 c1 A2 n2 c2 w',Row Elem.ent (fun _=>True) w' A1 n1 c1 (sortN nmE l)→Row Elem.ent (fun _=>True) w' A2 n2 c2 (sortN nmE l)→Calls Tryz.prog 15 #[.slice A1 n1 c1,.slice A2 n2 c2] w' fun e w''=>e=.returned (.bool true)∧Ext w' w'':=fun A1 n1 c1 A2 n2 c2 w' h1 h2=>by
   have:=zgq h1 h2
   rwa[decide_eq_true rfl] at this
  have HSM:∀A1 n1 c1 B1 m1 d1 A2 n2 c2 B2 m2 d2 w',CfgAt (fun _=>True) w' A1 n1 c1 B1 m1 d1 sp tp→CfgAt (fun _=>True) w' A2 n2 c2 B2 m2 d2 sp tp→Calls Tryz.prog 11 #[.agg #[.slice A1 n1 c1,.slice B1 m1 d1],.agg #[.slice A2 n2 c2,.slice B2 m2 d2]] w' fun e w''=>e=.returned (.bool true)∧Ext w' w'':=fun A1 n1 c1 B1 m1 d1 A2 n2 c2 B2 m2 d2 w' h1 h2=>by
   have:=zlx h1 h2
   rwa[decide_eq_true ⟨rfl,rfl⟩] at this
  generalize sortN nmE l=L at*
  generalize sortN nmQ cs=Q at*
  obtain⟨M,hM⟩:∃M,M=cs.length:=⟨_,rfl⟩
  rw[←hM] at fm HJN
  have HM:Hid (M≤2000000):=by show _≤_;omega
  clear HSP h hc hG hf hcl hk hN hb hjo hfo hpm hsz hfi hft hln hnl htl hNn hM HML
  go_enter Tryz.func4,Tryz.ntmps4
  go_wp2_with (first
   | (go_at_call 6;first
    |((with_reducible refine(HAW _ (Ext.refl _)).mono ?_);rintro e w1 ⟨rfl,hx1⟩;have HX1:=hid hx1;clear hx1)
    | ((with_reducible refine (HAW _ HX2.out).mono ?_);rintro e w3 ⟨rfl,hx3⟩;have HX3:=hid (HX2.out.trans hx3);clear hx3))
   |(go_at_call 7;(with_reducible refine(HFW _ HX1.out).mono ?_);rintro e w2 ⟨sm,rfl,hx2⟩;have HX2:=hid (HX1.out.trans hx2);clear hx2;cases sm)
   |(go_at_call 9;(with_reducible refine(HCU _ HX2.out).mono ?_);rintro e w4 ⟨A4,n4,c4,rfl,hr4,hx4⟩;have HR4:=hid (hr4.mono (T:=fun b=>w.heap.size≤b) fun b _ hb=>Nat.le_trans (zaz HX2.out) hb);have HX4:=hid (HX2.out.trans hx4);clear hr4 hx4)
   | (go_at_call 8;first
    |((with_reducible refine(hsp _ _ _ _ HX4.out HR4.out).mono ?_);rintro e w5 ⟨A5,B5,m5,d5,rfl,hr5,hx5⟩;have HB5:=hid (Bx.make (Ext.refl w5) #[.slice A5 N N,.slice B5 m5 d5] 29);have HX5:=hid (HX4.out.trans (hx5.trans HB5.out.ext));have HR5:=hid (hr5.ext HB5.out.ext);have p0:=HB5.out.cell (i:=0) rfl;have p1:=HB5.out.cell (i:=1) rfl;clear hr5 hx5)
    | ((with_reducible refine (hs2' _ _ _ _ _ _ _ HX6.out HR6.out HQ6.out).mono ?_);rintro e w7 ⟨A7,B7,m7,d7,rfl,hr7,hx7⟩;have HB7:=hid (Bx.make (Ext.refl w7) #[.slice A7 N N,.slice B7 m7 d7] 29);have HY7:=hid (hx7.trans HB7.out.ext);have HX7:=hid (HX6.out.trans HY7.out);have HR7:=hid (hr7.ext HB7.out.ext);clear hr7 hx7))
   | (go_at_call 14;(with_reducible refine (HJN _ _ _ _ _ HX5.out HR5.out).mono ?_);rintro e w6 ⟨A6,n6,c6,B6,d6,rfl,hr6,hq6,hx6⟩;have HR6:=hid hr6;have HQ6:=hid hq6;have HY6:=hid hx6;have HX6:=hid (HX5.out.trans hx6);clear p0 p1 hr6 hq6 hx6))
  ·go_ret
   exact⟨rfl,HX3.out⟩
  have HL7:=hid (HR6.out.ext HY7.out)
  have HC5:=hid (HR5.out.ext (HY6.out.trans HY7.out))
  have HB5':=hid (HB5.out.later (HY6.out.trans HY7.out))
  clear HAW HFW HCU hsp hs2' HJN HR5 HB5 HR6 HQ6 HR4
  refine zac (.read 0 (.read 1 (.read 2 (.read 3 (.read 4 (.read 5 (.read 6 (.read 7 (.read 8 (.main 9 (.main 10 (.read 11 (.read 12 (.read 13 (.read 14 (.read 15 (.read 16 (.read 17 (.read 18 (.read 19 (.read 20 (.read 22 (.main 21 (.main 23 (.main 24 (.read 25 (.read 26 .done))))))))))))))))))))))))))) (by kernel_rfl) (by kernel_rfl) ?_
  intro wD hxD
  have XE:Hid (Ext wD wD):=Ext.refl _
  repeat' ((first
   |refine zaf rfl rfl ?_
   |refine zad rfl rfl ?_
   |refine zai rfl rfl ?_
   |refine zab rfl rfl ?_
   |(refine zae (v:=.agg #[.slice A7 N N,.slice B7 m7 d7]) rfl rfl (fun w' hE=>zcz 29 (.tmp 12) rfl _ rfl _ _ _ ((HB7.out.later (hxD.trans (XE.out.trans hE))).blk) Tryz.underlying29 rfl (by kernel_rfl)) ?_)
   |(refine zae (v:=.agg #[.slice A5 N N,.slice B5 m5 d5]) rfl rfl (fun w' hE=>zcz 29 (.tmp 7) rfl _ rfl _ _ _ ((HB5'.out.later (hxD.trans (XE.out.trans hE))).blk) Tryz.underlying29 rfl (by kernel_rfl)) ?_)
   |(refine zae (v:=?_) rfl rfl (fun w' hE=>?_) ?_;rotate_left 1;(· ((try(have hEx:=Ext.trans (Hid.out XE) hE));go_simp;(try go_bits);with_reducible rfl)))
   |refine walks_alt ?_ ?_
   | (refine zah rfl rfl (fun K hK=>?_);go_wp2_with ((first | (go_at_call 16;(with_reducible refine (HSO _ (HX7.out.trans (hxD.trans XE.out))).mono ?_);rintro e w8 ⟨A8,n8,c8,rfl,hr8,hx8⟩;have HR8:=hid hr8;clear hr8;replace XE:=hid (Ext.trans (Hid.out XE) hx8)) | (go_at_call 15;(with_reducible refine (HSA _ _ _ _ _ _ _ (HL7.out.ext (hxD.trans XE.out)) HR8.out).mono ?_);rintro e w9 ⟨rfl,hx9⟩;replace XE:=hid (Ext.trans (Hid.out XE) hx9)) | (go_at_call 12;first | ((with_reducible refine (HOU _ _ _ _ _ (HR7.out.ext (hxD.trans XE.out))).mono ?_);rintro e wa ⟨Aa,na,ca,Ba,ma,da,rfl,hra,hxa⟩;have HRA:=hid hra;clear hra;replace XE:=hid (Ext.trans (Hid.out XE) hxa)) | ((with_reducible refine (HOU _ _ _ _ _ (HC5.out.ext (hxD.trans XE.out))).mono ?_);rintro e wb ⟨Ab,nb,cb,Bb,mb,db,rfl,hrb,hxb⟩;have HRB:=hid hrb;have HRA':=hid (HRA.out.ext hxb);clear hrb;replace XE:=hid (Ext.trans (Hid.out XE) hxb))) | (go_at_call 11;(with_reducible refine (HSM _ _ _ _ _ _ _ _ _ _ _ _ _ HRA'.out HRB.out).mono ?_);rintro e wc ⟨rfl,hxc⟩;replace XE:=hid (Ext.trans (Hid.out XE) hxc))));refine hK _ _ (by first | assumption | exact Ext.alloc _ _ | exact Ext.refl _) ?_;clear hK K));try simp only [Act.put,Act.eval,evs])
  refine zag ?_
  go_wp2
  go_ret
  exact⟨rfl,HX7.out.trans (hxD.trans XE.out)⟩
 ·have hsp:∀A' n' c' w',Ext w w'→Row Elem.cut (fun b=>w.heap.size≤b) w' A' n' c' cs→Calls Tryz.prog 8 #[.slice A n c,.slice A' n' c',.int .i64 sv] w' fun e w''=>∃k:Int,k≠0∧e=.returned (.tuple #[.agg #[nilS,nilS],.int .i64 k])∧Ext w' w'':=fun A' n' c' w' hx hr=>(HSP A' n' c' w' hx hr).mono fun e w'' h=>by
   rcases h with⟨h1,h2,-⟩|⟨-,k,h1,h2,h3⟩
   ·exact absurd ⟨h1,h2⟩ hk
   ·exact⟨k,by rcases h1 with h|h<;>omega,h2,h3⟩
  clear HSP h hc hG hf hcl hk
  go_enter Tryz.func4,Tryz.ntmps4
  go_wp2_with (first
   | (go_at_call 6;first
    |((with_reducible refine(HAW _ (Ext.refl _)).mono ?_);rintro e w1 ⟨rfl,hx1⟩;have HX1:=hid hx1;clear hx1)
    | ((with_reducible refine (HAW _ HX2.out).mono ?_);rintro e w3 ⟨rfl,hx3⟩;have HX3:=hid (HX2.out.trans hx3);clear hx3))
   |(go_at_call 7;(with_reducible refine(HFW _ HX1.out).mono ?_);rintro e w2 ⟨sm,rfl,hx2⟩;have HX2:=hid (HX1.out.trans hx2);clear hx2;cases sm)
   |(go_at_call 9;(with_reducible refine(HCU _ HX2.out).mono ?_);rintro e w4 ⟨A4,n4,c4,rfl,hr4,hx4⟩;have HR4:=hid (hr4.mono (T:=fun b=>w.heap.size≤b) fun b _ hb=>Nat.le_trans (zaz HX2.out) hb);have HX4:=hid (HX2.out.trans hx4);clear hr4 hx4)
   | (go_at_call 8;(with_reducible refine (hsp _ _ _ _ HX4.out HR4.out).mono ?_);rintro e w5 ⟨k,hk0,rfl,hx5⟩;have HB5:=hid (Bx.make (Ext.refl w5) #[nilS,nilS] 29);have p0:=HB5.out.cell (i:=0) rfl;have HX5:=hid (HX4.out.trans (hx5.trans (Ext.alloc w5 (.cells #[nilS,nilS] 29))));have hk1:(k != 0)=true:=(by rw [bne_iff_ne];exact hk0);clear hk0 hx5))
  all_goals go_ret
  all_goals first|exact⟨rfl,HX5.out⟩|exact⟨rfl,HX3.out⟩
end Go.Proofs.YtkjbokhnpphimaaGreatDoor
