/- Lemmas of the walk. -/
import Derived.Test.YtkjbokhnpphimaaGreatDoorV14
import Derived.Test.YtkjbokhnpphimaaGreatDoorV16
set_option maxHeartbeats 40000000
set_option linter.unusedVariables false
set_option linter.unusedSimpArgs false
namespace Go.Proofs.YtkjbokhnpphimaaGreatDoor
open Go.RowKit
set_option maxRecDepth 100000
def zcC(v:List UInt8):Nat→Nat
 |0=>0
 |i+1=>if 1≤i∧(v[i]?=some 43∨v[i]?=some 45) then i else zcC v i
theorem zmB(v:List UInt8):∀i,0<i→zcC v i<i
 |0,h=>by omega
 |1,_=>by simp[zcC]
 |i+2,_=>by
  have:=zmB v (i+1) (by omega)
  unfold zcC
  split<;>omega
def atR(v:List UInt8):Nat:=if v.getLast?=some 105 then zcC v v.length else v.length
def secR(b:List UInt8):Option Int:=if b=[]∨b=[43] then some 1 else if b=[45] then some (-1) else numR b
def zdV(a b:Option Int)(v:List UInt8):Option (Int×Int):=
 match a,b with
 |some a,some b=>if zaE a b=true∧zaR a b=v then some (a,b) else none
 |_,_=>none
def zaW(v:List UInt8):Option (Int×Int):=
 zdV (if 0<atR v then numR (v.take (atR v)) else some 0) (if atR v<v.length then secR ((v.take (v.length-1)).drop (atR v)) else some 0) v
def zkU(w:World)(v:List UInt8)(e:Ending)(w':World):Prop:=
 e=.returned (.tuple #[.agg #[.int .i64 ((zaW v).getD (0,0)).1,.int .i64 ((zaW v).getD (0,0)).2],.int .i64 (if(zaW v).isSome then 0 else 2)])∧Ext w w'
theorem ziH{s1:ByteArray}(h:s1.size≤4000000)(hn:numR (bys s1)=none):∀w,Calls Tryz.prog 188 #[.string s1] w fun e w'=>e=.returned (.tuple #[.int .i64 0,.bool false])∧Ext w w':=fun w=>by
 have:=zie s1 w h
 unfold zk3 at this
 rw[hn] at this
 exact this
theorem zi2{s1:ByteArray}{a:Int}(h:s1.size≤4000000)(hn:numR (bys s1)=some a):∀w,Calls Tryz.prog 188 #[.string s1] w fun e w'=>e=.returned (.tuple #[.int .i64 a,.bool true])∧Ext w w':=fun w=>by
 have:=zie s1 w h
 unfold zk3 at this
 rw[hn] at this
 exact this
theorem zbC{s:ByteArray}{a b:Int}(h:zaW (bys s)=zdV (some a) (some b) (bys s)) :
 (zaE a b=false∧Hid (zaW (bys s)=none))∨(zaE a b=true∧(zaR a b==s.toList)=true∧Hid (zaW (bys s)=some (a,b)))∨(zaE a b=true∧(zaR a b==s.toList)=false∧Hid (zaW (bys s)=none)):=by
 cases hwi:zaE a b with
 |false=>exact .inl ⟨rfl,by show _=_;rw[h];unfold zdV;simp[hwi]⟩
 |true=>
  by_cases htx:zaR a b=bys s
  ·exact .inr (.inl ⟨rfl,by rw[ByteArray.toList_eq,beq_iff_eq];exact htx,by show _=_;rw[h];unfold zdV;simp[hwi,htx]⟩)
  ·exact .inr (.inr ⟨rfl,by rw[ByteArray.toList_eq,beq_eq_false_iff_ne];exact htx,by show _=_;rw[h];unfold zdV;simp[hwi,htx]⟩)
theorem znl(s:ByteArray)(w:World)(hG:Gl w)(hs:s.size≤4000000):Calls Tryz.prog 161 #[.string s] w (zkU w (bys s)):=by
 have Hs:=hid hs
 have HG:=hid hG
 by_cases h0:s.size=0
 ·have HPL:Hid (zaW (bys s)=zdV (some 0) (some 0) (bys s)):=by rw[zb3 h0];rfl
  have HAB:Hid ((-1000000000≤(0:Int)∧(0:Int)≤1000000000)∧(-1000000000≤(0:Int)∧(0:Int)≤1000000000)):=⟨by omega,by omega⟩
  have t0:¬0<(s.size:Int):=by omega
  clear h0 hs hG
  obtain⟨hwi,HF⟩|⟨hwi,te,HF⟩|⟨hwi,te,HF⟩:=zbC HPL.out
  all_goals try exact absurd hwi (by decide)
  all_goals
   have HWI:=hid hwi
   clear hwi
   go_enter Tryz.func161,Tryz.ntmps161
   go_wp2_with (first
    |(go_at_call 188;(with_reducible refine(HC1 _).mono ?_);rintro e w1 ⟨rfl,hx1⟩;obtain⟨hr,hp⟩:=zau hx1;have HR:=hid (hr.aside (Nat.le_succ _) (by omega) 0 (.int .i64 0) (k:=w.heap.size+1));have HP:=hid (hp.set0 (.int .i64 0));obtain⟨c0,c1,f0,f1,r0,r1,g0,g1⟩:=hp.eight hr;clear hx1 hr hp)
    |(go_at_call 188;(with_reducible refine(HC2 _).mono ?_);rintro e w2 ⟨rfl,hx2⟩;(try clear c0 c1 f0 f1 r0 r1 g0 g1);have hr:=HR.out.later hx2;have hp:=HP.out.later hx2;clear HR HP;have HR:=hid (hr.aside (Nat.le_succ _) (by omega) 1 (.int .i64 0) (k:=w.heap.size+1));have HP:=hid (hp.set1 (.int .i64 0));obtain⟨c0,c1,f0,f1,r0,r1,g0,g1⟩:=hp.eight hr;clear hx2 hr hp)
    |(go_at_call 189;(with_reducible refine(zbB 0 0 _).mono ?_);rintro e w3 ⟨he,hx3⟩;rw[HWI.out] at he;subst he;(try clear c0 c1 f0 f1 r0 r1 g0 g1);have hr:Bx w w3 w.heap.size 220 #[.int .i64 0,.int .i64 0]:=(by first|exact HR.out.later hx3|exact(HR.out.aside (k:=w.heap.size+1) (Nat.le_succ _) (by omega) 1 _).later hx3|exact(zau hx3).1);have hp:Bx w w3 (w.heap.size+1) 220 #[.int .i64 0,.int .i64 0]:=(by first|exact HP.out.later hx3|exact(HP.out.set1 _).later hx3|exact(zau hx3).2);(try clear HR HP);have HR:=hid hr;have HP:=hid hp;obtain⟨c0,c1,f0,f1,r0,r1,g0,g1⟩:=hp.eight hr;clear hx3 hr hp)
    |(go_at_call 190;(with_reducible refine(zbd 0 0 _ (HG.out.ext HP.out.ext) HAB.out.1 HAB.out.2).mono ?_);rintro e w4 ⟨rfl,hx4⟩;(try clear c0 c1 f0 f1 r0 r1 g0 g1);have hr:=HR.out.later hx4;have hp:=HP.out.later hx4;clear HR HP;have HR:=hid hr;have HP:=hid hp;obtain⟨c0,c1,f0,f1,r0,r1,g0,g1⟩:=hp.eight hr;clear hx4 hr hp)
    )
   (try simp only[Exit.inBlock,Exit.then])
   refine zaq _ rfl rfl ((HR.out.set0 _).set1 _) Tryz.underlying220 rfl (by kernel_rfl) rfl ?_
   exact⟨by rw[HF.out];rfl,(HP.out.ext.setCell (Nat.le_refl _) _).setCell (Nat.le_refl _) _⟩
 ·have t0:0<(s.size:Int):=by omega
  obtain⟨y,hy⟩:∃y,(bys s)[s.size-1]?=some y:=⟨_,List.getElem?_eq_getElem (by rw[zaj];omega)⟩
  have hsz:s.size-1<s.size:=by omega
  have gy:=zaV hy hsz
  have HL:Hid ((bys s).getLast?=some y):=by show _=_;rw[List.getLast?_eq_getElem?,zaj,hy]
  have z1:((s.size:Int)-1).toNat=s.size-1:=by omega
  have z2:0≤(s.size:Int)-1:=by omega
  clear hy
  by_cases h105:y=105
  ·have ty:((y.toNat:Int)==105)=true:=za0 (k:=105) (by decide) h105
   have HA:Hid (atR (bys s)=zcC (bys s) s.size):=by show _=_;unfold atR;rw[HL.out,if_pos (by rw[h105]),zaj]
   clear h105 hG
   go_enter Tryz.func161,Tryz.ntmps161
   go_wp2
   go_loop [4,5] (fun v i=>∃j:Nat,1≤j∧j≤s.size∧i=.int .i64 j∧v=.int .i64 (zcC (bys s) j:Int)) (fun _ i=>s.size-(intOf i).toNat)
   case atStart=>exact⟨1,by omega,by omega,rfl,rfl⟩
   case round=>
    obtain⟨j,hj1,hj,rfl,rfl⟩:=hrel
    by_cases hlt:j<s.size
    ·obtain⟨x,hx⟩:=zcm hlt
     have gx:=zaV hx hlt
     by_cases hc:x=43∨x=45
     ·have HH:Hid (zcC (bys s) (j+1)=j):=by
       show _=_
       unfold zcC
       rw[if_pos ⟨hj1,by rw[hx];exact hc.imp (fun h=>by rw[h]) (fun h=>by rw[h])⟩]
      have tc:((x.toNat:Int)==43)=true∨(((x.toNat:Int)==43)=false∧((x.toNat:Int)==45)=true):=by
       rcases hc with rfl|rfl
       ·exact .inl rfl
       ·exact .inr ⟨rfl,rfl⟩
      clear hx hc
      rcases tc with q1|⟨q1,q2⟩
      all_goals
       go_wp2
       exact⟨⟨j+1,by omega,by omega,by go_num,by rw[HH.out]⟩,by simp[intOf];omega⟩
     ·have HH:Hid (zcC (bys s) (j+1)=zcC (bys s) j):=by
       show _=_
       conv=>lhs;unfold zcC
       rw[if_neg]
       rintro⟨-,h⟩
       rw[hx] at h
       exact hc (h.imp (fun h=>by injection h) (fun h=>by injection h))
      have q1:((x.toNat:Int)==43)=false:=zav (k:=43) (fun e=>hc (.inl e))
      have q2:((x.toNat:Int)==45)=false:=zav (k:=45) (fun e=>hc (.inr e))
      clear hx hc
      go_wp2
      exact⟨⟨j+1,by omega,by omega,by go_num,by rw[HH.out]⟩,by simp[intOf];omega⟩
    ·obtain rfl:j=s.size:=by omega
     have hkl:=zmB (bys s) s.size (by omega)
     have HPQ:Hid (zaW (bys s)=zdV (if 0<zcC (bys s) s.size then numR ((bys s).take (zcC (bys s) s.size)) else some 0) (secR (((bys s).take (s.size-1)).drop (zcC (bys s) s.size))) (bys s)):=by
      show _=_
      unfold zaW
      rw[HA.out,if_pos (show zcC (bys s) s.size<(bys s).length by rw[zaj];exact hkl),zaj]
     clear HA
     generalize zcC (bys s) s.size=k at*
     obtain⟨m,hm⟩:∃m,m=((bys s).take (s.size-1)).drop k:=⟨_,rfl⟩
     have hs2:s.extract k (s.size-1)=str m:=by
      rw[hm,←zaK (s.extract k (s.size-1)),zdZ,List.drop_take]
     have HZ2:Hid ((str m).size≤4000000):=by
      show _≤_
      rw[hm,zaI,List.length_drop,List.length_take,zaj]
      have:=Hs.out
      omega
     rw[←hm] at HPQ
     clear hm
     have z3:(k:Int)<(s.size:Int):=by omega
     have z4:(k:Int)≤(s.size:Int)-1:=by omega
     have z5:(s.size:Int)-1≤(s.size:Int):=by omega
     have z6:(k:Int)≤(s.size:Int):=by omega
     have HS:Hid (∀b,secR m=some b→-1000000000≤b∧b≤1000000000):=by
      intro b hb
      unfold secR at hb
      split at hb
      ·injection hb;omega
      ·split at hb
       ·injection hb;omega
       ·have:=zfM hb;omega
     have HM:Hid (secR m=if m=[]∨m=[43] then some 1 else if m=[45] then some (-1) else numR m):=rfl
     have HN2:=ziH HZ2.out
     have HO2:=fun b=>zi2 (a:=b) HZ2.out
     rw[zao] at HN2
     simp only[zao] at HO2
     have HN2:=hid HN2
     have HO2:=hid HO2
     by_cases hk0:0<k
     ·have tk:0<(k:Int):=by omega
      obtain⟨m1,hm1⟩:∃m1,m1=(bys s).take k:=⟨_,rfl⟩
      have hs1:s.extract 0 k=str m1:=by rw[hm1,←zaK (s.extract 0 k),zdZ];rfl
      have HZ1:Hid ((str m1).size≤4000000):=by
       show _≤_
       rw[hm1,zaI,List.length_take,zaj]
       have:=Hs.out
       omega
      rw[if_pos hk0,←hm1] at HPQ
      clear hm1 hk0
      cases hn:numR m1 with
      |none=>
       have HF:Hid (zaW (bys s)=none):=by show _=_;rw[HPQ.out,hn];rfl
       have HC1:=ziH HZ1.out (by rw[zao,hn])
       clear hn
       go_wp2_with (first
        |(go_at_call 188;(with_reducible refine(HC1 _).mono ?_);rintro e w1 ⟨rfl,hx1⟩;obtain⟨hr,hp⟩:=zau hx1;have HR:=hid (hr.aside (Nat.le_succ _) (by omega) 0 (.int .i64 0) (k:=w.heap.size+1));have HP:=hid (hp.set0 (.int .i64 0));obtain⟨c0,c1,f0,f1,r0,r1,g0,g1⟩:=hp.eight hr;clear hx1 hr hp)
        |(go_at_call 188;(with_reducible refine(HC2 _).mono ?_);rintro e w2 ⟨rfl,hx2⟩;(try clear c0 c1 f0 f1 r0 r1 g0 g1);have hr:=HR.out.later hx2;have hp:=HP.out.later hx2;clear HR HP;have HR:=hid (hr.aside (Nat.le_succ _) (by omega) 1 (.int .i64 0) (k:=w.heap.size+1));have HP:=hid (hp.set1 (.int .i64 0));obtain⟨c0,c1,f0,f1,r0,r1,g0,g1⟩:=hp.eight hr;clear hx2 hr hp)
        )
       (try simp only[Exit.inBlock,Exit.then])
       refine zaq _ rfl rfl ((HR.out.set0 (.int .i64 0)).set1 (.int .i64 0)) Tryz.underlying220 rfl (by kernel_rfl) rfl ?_
       exact⟨by rw[HF.out];rfl,(HP.out.ext.setCell (Nat.le_refl _) _).setCell (Nat.le_refl _) _⟩
      |some a=>
       have hsm:=zfM hn
       have HC1:=zi2 HZ1.out (by rw[zao,hn])
       have HAa:Hid (-1000000000≤a∧a≤1000000000):=⟨by omega,by omega⟩
       rw[hn] at HPQ
       clear hn hsm
       by_cases hb0:m=[]
       ·have b0:(m == [])=true:=by rw[hb0];rfl
        have HPL:Hid (zaW (bys s)=zdV (some (a)) (some (1)) (bys s)):=by show _=_;rw[HPQ.out,HM.out];rw[if_pos (.inl hb0)]
        have HAB:Hid ((-1000000000≤(a:Int)∧(a:Int)≤1000000000)∧(-1000000000≤(1:Int)∧(1:Int)≤1000000000)):=⟨HAa.out,by omega⟩
        obtain⟨hwi,HF⟩|⟨hwi,te,HF⟩|⟨hwi,te,HF⟩:=zbC HPL.out
        all_goals try exact absurd hwi (by decide)
        all_goals
         have HWI:=hid hwi
         clear hwi
         clear hb0
         go_wp2_with (first
          |(go_at_call 188;(with_reducible refine(HC1 _).mono ?_);rintro e w1 ⟨rfl,hx1⟩;obtain⟨hr,hp⟩:=zau hx1;have HR:=hid (hr.aside (Nat.le_succ _) (by omega) 0 (.int .i64 a) (k:=w.heap.size+1));have HP:=hid (hp.set0 (.int .i64 a));obtain⟨c0,c1,f0,f1,r0,r1,g0,g1⟩:=hp.eight hr;clear hx1 hr hp)
          |(go_at_call 188;(with_reducible refine(HC2 _).mono ?_);rintro e w2 ⟨rfl,hx2⟩;(try clear c0 c1 f0 f1 r0 r1 g0 g1);have hr:=HR.out.later hx2;have hp:=HP.out.later hx2;clear HR HP;have HR:=hid (hr.aside (Nat.le_succ _) (by omega) 1 (.int .i64 (1)) (k:=w.heap.size+1));have HP:=hid (hp.set1 (.int .i64 (1)));obtain⟨c0,c1,f0,f1,r0,r1,g0,g1⟩:=hp.eight hr;clear hx2 hr hp)
          |(go_at_call 189;(with_reducible refine(zbB a (1) _).mono ?_);rintro e w3 ⟨he,hx3⟩;rw[HWI.out] at he;subst he;(try clear c0 c1 f0 f1 r0 r1 g0 g1);have hr:Bx w w3 w.heap.size 220 #[.int .i64 0,.int .i64 0]:=(by first|exact HR.out.later hx3|exact(HR.out.aside (k:=w.heap.size+1) (Nat.le_succ _) (by omega) 1 _).later hx3|exact(zau hx3).1);have hp:Bx w w3 (w.heap.size+1) 220 #[.int .i64 a,.int .i64 (1)]:=(by first|exact HP.out.later hx3|exact(HP.out.set1 _).later hx3|exact(zau hx3).2);(try clear HR HP);have HR:=hid hr;have HP:=hid hp;obtain⟨c0,c1,f0,f1,r0,r1,g0,g1⟩:=hp.eight hr;clear hx3 hr hp)
          |(go_at_call 190;(with_reducible refine(zbd a (1) _ (HG.out.ext HP.out.ext) HAB.out.1 HAB.out.2).mono ?_);rintro e w4 ⟨rfl,hx4⟩;(try clear c0 c1 f0 f1 r0 r1 g0 g1);have hr:=HR.out.later hx4;have hp:=HP.out.later hx4;clear HR HP;have HR:=hid hr;have HP:=hid hp;obtain⟨c0,c1,f0,f1,r0,r1,g0,g1⟩:=hp.eight hr;clear hx4 hr hp)
          )
         (try simp only[Exit.inBlock,Exit.then])
         refine zaq _ rfl rfl ((HR.out.set0 _).set1 _) Tryz.underlying220 rfl (by kernel_rfl) rfl ?_
         exact⟨by rw[HF.out];rfl,(HP.out.ext.setCell (Nat.le_refl _) _).setCell (Nat.le_refl _) _⟩
       ·have b0:(m == [])=false:=by rw[beq_eq_false_iff_ne];exact hb0
        by_cases hb1:m=[43]
        ·have b1:(m == [43])=true:=by rw[hb1];rfl
         have HPL:Hid (zaW (bys s)=zdV (some (a)) (some (1)) (bys s)):=by show _=_;rw[HPQ.out,HM.out];rw[if_pos (.inr hb1)]
         have HAB:Hid ((-1000000000≤(a:Int)∧(a:Int)≤1000000000)∧(-1000000000≤(1:Int)∧(1:Int)≤1000000000)):=⟨HAa.out,by omega⟩
         obtain⟨hwi,HF⟩|⟨hwi,te,HF⟩|⟨hwi,te,HF⟩:=zbC HPL.out
         all_goals try exact absurd hwi (by decide)
         all_goals
          have HWI:=hid hwi
          clear hwi
          clear hb0 hb1
          go_wp2_with (first
           |(go_at_call 188;(with_reducible refine(HC1 _).mono ?_);rintro e w1 ⟨rfl,hx1⟩;obtain⟨hr,hp⟩:=zau hx1;have HR:=hid (hr.aside (Nat.le_succ _) (by omega) 0 (.int .i64 a) (k:=w.heap.size+1));have HP:=hid (hp.set0 (.int .i64 a));obtain⟨c0,c1,f0,f1,r0,r1,g0,g1⟩:=hp.eight hr;clear hx1 hr hp)
           |(go_at_call 188;(with_reducible refine(HC2 _).mono ?_);rintro e w2 ⟨rfl,hx2⟩;(try clear c0 c1 f0 f1 r0 r1 g0 g1);have hr:=HR.out.later hx2;have hp:=HP.out.later hx2;clear HR HP;have HR:=hid (hr.aside (Nat.le_succ _) (by omega) 1 (.int .i64 (1)) (k:=w.heap.size+1));have HP:=hid (hp.set1 (.int .i64 (1)));obtain⟨c0,c1,f0,f1,r0,r1,g0,g1⟩:=hp.eight hr;clear hx2 hr hp)
           |(go_at_call 189;(with_reducible refine(zbB a (1) _).mono ?_);rintro e w3 ⟨he,hx3⟩;rw[HWI.out] at he;subst he;(try clear c0 c1 f0 f1 r0 r1 g0 g1);have hr:Bx w w3 w.heap.size 220 #[.int .i64 0,.int .i64 0]:=(by first|exact HR.out.later hx3|exact(HR.out.aside (k:=w.heap.size+1) (Nat.le_succ _) (by omega) 1 _).later hx3|exact(zau hx3).1);have hp:Bx w w3 (w.heap.size+1) 220 #[.int .i64 a,.int .i64 (1)]:=(by first|exact HP.out.later hx3|exact(HP.out.set1 _).later hx3|exact(zau hx3).2);(try clear HR HP);have HR:=hid hr;have HP:=hid hp;obtain⟨c0,c1,f0,f1,r0,r1,g0,g1⟩:=hp.eight hr;clear hx3 hr hp)
           |(go_at_call 190;(with_reducible refine(zbd a (1) _ (HG.out.ext HP.out.ext) HAB.out.1 HAB.out.2).mono ?_);rintro e w4 ⟨rfl,hx4⟩;(try clear c0 c1 f0 f1 r0 r1 g0 g1);have hr:=HR.out.later hx4;have hp:=HP.out.later hx4;clear HR HP;have HR:=hid hr;have HP:=hid hp;obtain⟨c0,c1,f0,f1,r0,r1,g0,g1⟩:=hp.eight hr;clear hx4 hr hp)
           )
          (try simp only[Exit.inBlock,Exit.then])
          refine zaq _ rfl rfl ((HR.out.set0 _).set1 _) Tryz.underlying220 rfl (by kernel_rfl) rfl ?_
          exact⟨by rw[HF.out];rfl,(HP.out.ext.setCell (Nat.le_refl _) _).setCell (Nat.le_refl _) _⟩
        ·have b1:(m == [43])=false:=by rw[beq_eq_false_iff_ne];exact hb1
         rw[if_neg (fun h=>h.elim hb0 hb1)] at HM
         by_cases hb2:m=[45]
         ·have b2:(m == [45])=true:=by rw[hb2];rfl
          have HPL:Hid (zaW (bys s)=zdV (some (a)) (some (-1)) (bys s)):=by show _=_;rw[HPQ.out,HM.out];rw[if_pos hb2]
          have HAB:Hid ((-1000000000≤(a:Int)∧(a:Int)≤1000000000)∧(-1000000000≤(-1:Int)∧(-1:Int)≤1000000000)):=⟨HAa.out,by omega⟩
          obtain⟨hwi,HF⟩|⟨hwi,te,HF⟩|⟨hwi,te,HF⟩:=zbC HPL.out
          all_goals try exact absurd hwi (by decide)
          all_goals
           have HWI:=hid hwi
           clear hwi
           clear hb0 hb1 hb2
           go_wp2_with (first
            |(go_at_call 188;(with_reducible refine(HC1 _).mono ?_);rintro e w1 ⟨rfl,hx1⟩;obtain⟨hr,hp⟩:=zau hx1;have HR:=hid (hr.aside (Nat.le_succ _) (by omega) 0 (.int .i64 a) (k:=w.heap.size+1));have HP:=hid (hp.set0 (.int .i64 a));obtain⟨c0,c1,f0,f1,r0,r1,g0,g1⟩:=hp.eight hr;clear hx1 hr hp)
            |(go_at_call 188;(with_reducible refine(HC2 _).mono ?_);rintro e w2 ⟨rfl,hx2⟩;(try clear c0 c1 f0 f1 r0 r1 g0 g1);have hr:=HR.out.later hx2;have hp:=HP.out.later hx2;clear HR HP;have HR:=hid (hr.aside (Nat.le_succ _) (by omega) 1 (.int .i64 (-1)) (k:=w.heap.size+1));have HP:=hid (hp.set1 (.int .i64 (-1)));obtain⟨c0,c1,f0,f1,r0,r1,g0,g1⟩:=hp.eight hr;clear hx2 hr hp)
            |(go_at_call 189;(with_reducible refine(zbB a (-1) _).mono ?_);rintro e w3 ⟨he,hx3⟩;rw[HWI.out] at he;subst he;(try clear c0 c1 f0 f1 r0 r1 g0 g1);have hr:Bx w w3 w.heap.size 220 #[.int .i64 0,.int .i64 0]:=(by first|exact HR.out.later hx3|exact(HR.out.aside (k:=w.heap.size+1) (Nat.le_succ _) (by omega) 1 _).later hx3|exact(zau hx3).1);have hp:Bx w w3 (w.heap.size+1) 220 #[.int .i64 a,.int .i64 (-1)]:=(by first|exact HP.out.later hx3|exact(HP.out.set1 _).later hx3|exact(zau hx3).2);(try clear HR HP);have HR:=hid hr;have HP:=hid hp;obtain⟨c0,c1,f0,f1,r0,r1,g0,g1⟩:=hp.eight hr;clear hx3 hr hp)
            |(go_at_call 190;(with_reducible refine(zbd a (-1) _ (HG.out.ext HP.out.ext) HAB.out.1 HAB.out.2).mono ?_);rintro e w4 ⟨rfl,hx4⟩;(try clear c0 c1 f0 f1 r0 r1 g0 g1);have hr:=HR.out.later hx4;have hp:=HP.out.later hx4;clear HR HP;have HR:=hid hr;have HP:=hid hp;obtain⟨c0,c1,f0,f1,r0,r1,g0,g1⟩:=hp.eight hr;clear hx4 hr hp)
            )
           (try simp only[Exit.inBlock,Exit.then])
           refine zaq _ rfl rfl ((HR.out.set0 _).set1 _) Tryz.underlying220 rfl (by kernel_rfl) rfl ?_
           exact⟨by rw[HF.out];rfl,(HP.out.ext.setCell (Nat.le_refl _) _).setCell (Nat.le_refl _) _⟩
         ·have b2:(m == [45])=false:=by rw[beq_eq_false_iff_ne];exact hb2
          rw[if_neg hb2] at HM
          clear hb0 hb1 hb2
          cases hn2:numR m with
          |none=>
           have HF:Hid (zaW (bys s)=none):=by show _=_;rw[HPQ.out,HM.out,hn2];rfl
           have HC2:=HN2.out hn2
           clear hn2
           skip
           go_wp2_with (first
            |(go_at_call 188;(with_reducible refine(HC1 _).mono ?_);rintro e w1 ⟨rfl,hx1⟩;obtain⟨hr,hp⟩:=zau hx1;have HR:=hid (hr.aside (Nat.le_succ _) (by omega) 0 (.int .i64 a) (k:=w.heap.size+1));have HP:=hid (hp.set0 (.int .i64 a));obtain⟨c0,c1,f0,f1,r0,r1,g0,g1⟩:=hp.eight hr;clear hx1 hr hp)
            |(go_at_call 188;(with_reducible refine(HC2 _).mono ?_);rintro e w2 ⟨rfl,hx2⟩;(try clear c0 c1 f0 f1 r0 r1 g0 g1);have hr:=HR.out.later hx2;have hp:=HP.out.later hx2;clear HR HP;have HR:=hid (hr.aside (Nat.le_succ _) (by omega) 1 (.int .i64 0) (k:=w.heap.size+1));have HP:=hid (hp.set1 (.int .i64 0));obtain⟨c0,c1,f0,f1,r0,r1,g0,g1⟩:=hp.eight hr;clear hx2 hr hp)
            )
           (try simp only[Exit.inBlock,Exit.then])
           refine zaq _ rfl rfl ((HR.out.set0 (.int .i64 0)).set1 (.int .i64 0)) Tryz.underlying220 rfl (by kernel_rfl) rfl ?_
           exact⟨by rw[HF.out];rfl,(HP.out.ext.setCell (Nat.le_refl _) _).setCell (Nat.le_refl _) _⟩
          |some b=>
           have HPL:Hid (zaW (bys s)=zdV (some (a)) (some b) (bys s)):=by show _=_;rw[HPQ.out,HM.out,hn2]
           have HAB:Hid ((-1000000000≤(a:Int)∧(a:Int)≤1000000000)∧(-1000000000≤b∧b≤1000000000)):=⟨HAa.out,HS.out b (by rw[HM.out,hn2])⟩
           have HC2:=HO2.out b hn2
           clear hn2
           skip
           obtain⟨hwi,HF⟩|⟨hwi,te,HF⟩|⟨hwi,te,HF⟩:=zbC HPL.out
           all_goals try exact absurd hwi (by decide)
           all_goals
            have HWI:=hid hwi
            clear hwi
            skip
            go_wp2_with (first
             |(go_at_call 188;(with_reducible refine(HC1 _).mono ?_);rintro e w1 ⟨rfl,hx1⟩;obtain⟨hr,hp⟩:=zau hx1;have HR:=hid (hr.aside (Nat.le_succ _) (by omega) 0 (.int .i64 a) (k:=w.heap.size+1));have HP:=hid (hp.set0 (.int .i64 a));obtain⟨c0,c1,f0,f1,r0,r1,g0,g1⟩:=hp.eight hr;clear hx1 hr hp)
             |(go_at_call 188;(with_reducible refine(HC2 _).mono ?_);rintro e w2 ⟨rfl,hx2⟩;(try clear c0 c1 f0 f1 r0 r1 g0 g1);have hr:=HR.out.later hx2;have hp:=HP.out.later hx2;clear HR HP;have HR:=hid (hr.aside (Nat.le_succ _) (by omega) 1 (.int .i64 b) (k:=w.heap.size+1));have HP:=hid (hp.set1 (.int .i64 b));obtain⟨c0,c1,f0,f1,r0,r1,g0,g1⟩:=hp.eight hr;clear hx2 hr hp)
             |(go_at_call 189;(with_reducible refine(zbB a b _).mono ?_);rintro e w3 ⟨he,hx3⟩;rw[HWI.out] at he;subst he;(try clear c0 c1 f0 f1 r0 r1 g0 g1);have hr:Bx w w3 w.heap.size 220 #[.int .i64 0,.int .i64 0]:=(by first|exact HR.out.later hx3|exact(HR.out.aside (k:=w.heap.size+1) (Nat.le_succ _) (by omega) 1 _).later hx3|exact(zau hx3).1);have hp:Bx w w3 (w.heap.size+1) 220 #[.int .i64 a,.int .i64 b]:=(by first|exact HP.out.later hx3|exact(HP.out.set1 _).later hx3|exact(zau hx3).2);(try clear HR HP);have HR:=hid hr;have HP:=hid hp;obtain⟨c0,c1,f0,f1,r0,r1,g0,g1⟩:=hp.eight hr;clear hx3 hr hp)
             |(go_at_call 190;(with_reducible refine(zbd a b _ (HG.out.ext HP.out.ext) HAB.out.1 HAB.out.2).mono ?_);rintro e w4 ⟨rfl,hx4⟩;(try clear c0 c1 f0 f1 r0 r1 g0 g1);have hr:=HR.out.later hx4;have hp:=HP.out.later hx4;clear HR HP;have HR:=hid hr;have HP:=hid hp;obtain⟨c0,c1,f0,f1,r0,r1,g0,g1⟩:=hp.eight hr;clear hx4 hr hp)
             )
            (try simp only[Exit.inBlock,Exit.then])
            refine zaq _ rfl rfl ((HR.out.set0 _).set1 _) Tryz.underlying220 rfl (by kernel_rfl) rfl ?_
            exact⟨by rw[HF.out];rfl,(HP.out.ext.setCell (Nat.le_refl _) _).setCell (Nat.le_refl _) _⟩
     ·have tk:¬0<(k:Int):=by omega
      obtain rfl:k=0:=by omega
      rw[if_neg (by omega)] at HPQ
      have HAa:Hid (-1000000000≤(0:Int)∧(0:Int)≤1000000000):=⟨by omega,by omega⟩
      by_cases hb0:m=[]
      ·have b0:(m == [])=true:=by rw[hb0];rfl
       have HPL:Hid (zaW (bys s)=zdV (some (0)) (some (1)) (bys s)):=by show _=_;rw[HPQ.out,HM.out];rw[if_pos (.inl hb0)]
       have HAB:Hid ((-1000000000≤(0:Int)∧(0:Int)≤1000000000)∧(-1000000000≤(1:Int)∧(1:Int)≤1000000000)):=⟨HAa.out,by omega⟩
       obtain⟨hwi,HF⟩|⟨hwi,te,HF⟩|⟨hwi,te,HF⟩:=zbC HPL.out
       all_goals try exact absurd hwi (by decide)
       all_goals
        have HWI:=hid hwi
        clear hwi
        clear hb0
        go_wp2_with (first
         |(go_at_call 188;(with_reducible refine(HC1 _).mono ?_);rintro e w1 ⟨rfl,hx1⟩;obtain⟨hr,hp⟩:=zau hx1;have HR:=hid (hr.aside (Nat.le_succ _) (by omega) 0 (.int .i64 0) (k:=w.heap.size+1));have HP:=hid (hp.set0 (.int .i64 0));obtain⟨c0,c1,f0,f1,r0,r1,g0,g1⟩:=hp.eight hr;clear hx1 hr hp)
         |(go_at_call 188;(with_reducible refine(HC2 _).mono ?_);rintro e w2 ⟨rfl,hx2⟩;(try clear c0 c1 f0 f1 r0 r1 g0 g1);have hr:=HR.out.later hx2;have hp:=HP.out.later hx2;clear HR HP;have HR:=hid (hr.aside (Nat.le_succ _) (by omega) 1 (.int .i64 (1)) (k:=w.heap.size+1));have HP:=hid (hp.set1 (.int .i64 (1)));obtain⟨c0,c1,f0,f1,r0,r1,g0,g1⟩:=hp.eight hr;clear hx2 hr hp)
         |(go_at_call 189;(with_reducible refine(zbB 0 (1) _).mono ?_);rintro e w3 ⟨he,hx3⟩;rw[HWI.out] at he;subst he;(try clear c0 c1 f0 f1 r0 r1 g0 g1);have hr:Bx w w3 w.heap.size 220 #[.int .i64 0,.int .i64 0]:=(by first|exact HR.out.later hx3|exact(HR.out.aside (k:=w.heap.size+1) (Nat.le_succ _) (by omega) 1 _).later hx3|exact(zau hx3).1);have hp:Bx w w3 (w.heap.size+1) 220 #[.int .i64 0,.int .i64 (1)]:=(by first|exact HP.out.later hx3|exact(HP.out.set1 _).later hx3|exact(zau hx3).2);(try clear HR HP);have HR:=hid hr;have HP:=hid hp;obtain⟨c0,c1,f0,f1,r0,r1,g0,g1⟩:=hp.eight hr;clear hx3 hr hp)
         |(go_at_call 190;(with_reducible refine(zbd 0 (1) _ (HG.out.ext HP.out.ext) HAB.out.1 HAB.out.2).mono ?_);rintro e w4 ⟨rfl,hx4⟩;(try clear c0 c1 f0 f1 r0 r1 g0 g1);have hr:=HR.out.later hx4;have hp:=HP.out.later hx4;clear HR HP;have HR:=hid hr;have HP:=hid hp;obtain⟨c0,c1,f0,f1,r0,r1,g0,g1⟩:=hp.eight hr;clear hx4 hr hp)
         )
        (try simp only[Exit.inBlock,Exit.then])
        refine zaq _ rfl rfl ((HR.out.set0 _).set1 _) Tryz.underlying220 rfl (by kernel_rfl) rfl ?_
        exact⟨by rw[HF.out];rfl,(HP.out.ext.setCell (Nat.le_refl _) _).setCell (Nat.le_refl _) _⟩
      ·have b0:(m == [])=false:=by rw[beq_eq_false_iff_ne];exact hb0
       by_cases hb1:m=[43]
       ·have b1:(m == [43])=true:=by rw[hb1];rfl
        have HPL:Hid (zaW (bys s)=zdV (some (0)) (some (1)) (bys s)):=by show _=_;rw[HPQ.out,HM.out];rw[if_pos (.inr hb1)]
        have HAB:Hid ((-1000000000≤(0:Int)∧(0:Int)≤1000000000)∧(-1000000000≤(1:Int)∧(1:Int)≤1000000000)):=⟨HAa.out,by omega⟩
        obtain⟨hwi,HF⟩|⟨hwi,te,HF⟩|⟨hwi,te,HF⟩:=zbC HPL.out
        all_goals try exact absurd hwi (by decide)
        all_goals
         have HWI:=hid hwi
         clear hwi
         clear hb0 hb1
         go_wp2_with (first
          |(go_at_call 188;(with_reducible refine(HC1 _).mono ?_);rintro e w1 ⟨rfl,hx1⟩;obtain⟨hr,hp⟩:=zau hx1;have HR:=hid (hr.aside (Nat.le_succ _) (by omega) 0 (.int .i64 0) (k:=w.heap.size+1));have HP:=hid (hp.set0 (.int .i64 0));obtain⟨c0,c1,f0,f1,r0,r1,g0,g1⟩:=hp.eight hr;clear hx1 hr hp)
          |(go_at_call 188;(with_reducible refine(HC2 _).mono ?_);rintro e w2 ⟨rfl,hx2⟩;(try clear c0 c1 f0 f1 r0 r1 g0 g1);have hr:=HR.out.later hx2;have hp:=HP.out.later hx2;clear HR HP;have HR:=hid (hr.aside (Nat.le_succ _) (by omega) 1 (.int .i64 (1)) (k:=w.heap.size+1));have HP:=hid (hp.set1 (.int .i64 (1)));obtain⟨c0,c1,f0,f1,r0,r1,g0,g1⟩:=hp.eight hr;clear hx2 hr hp)
          |(go_at_call 189;(with_reducible refine(zbB 0 (1) _).mono ?_);rintro e w3 ⟨he,hx3⟩;rw[HWI.out] at he;subst he;(try clear c0 c1 f0 f1 r0 r1 g0 g1);have hr:Bx w w3 w.heap.size 220 #[.int .i64 0,.int .i64 0]:=(by first|exact HR.out.later hx3|exact(HR.out.aside (k:=w.heap.size+1) (Nat.le_succ _) (by omega) 1 _).later hx3|exact(zau hx3).1);have hp:Bx w w3 (w.heap.size+1) 220 #[.int .i64 0,.int .i64 (1)]:=(by first|exact HP.out.later hx3|exact(HP.out.set1 _).later hx3|exact(zau hx3).2);(try clear HR HP);have HR:=hid hr;have HP:=hid hp;obtain⟨c0,c1,f0,f1,r0,r1,g0,g1⟩:=hp.eight hr;clear hx3 hr hp)
          |(go_at_call 190;(with_reducible refine(zbd 0 (1) _ (HG.out.ext HP.out.ext) HAB.out.1 HAB.out.2).mono ?_);rintro e w4 ⟨rfl,hx4⟩;(try clear c0 c1 f0 f1 r0 r1 g0 g1);have hr:=HR.out.later hx4;have hp:=HP.out.later hx4;clear HR HP;have HR:=hid hr;have HP:=hid hp;obtain⟨c0,c1,f0,f1,r0,r1,g0,g1⟩:=hp.eight hr;clear hx4 hr hp)
          )
         (try simp only[Exit.inBlock,Exit.then])
         refine zaq _ rfl rfl ((HR.out.set0 _).set1 _) Tryz.underlying220 rfl (by kernel_rfl) rfl ?_
         exact⟨by rw[HF.out];rfl,(HP.out.ext.setCell (Nat.le_refl _) _).setCell (Nat.le_refl _) _⟩
       ·have b1:(m == [43])=false:=by rw[beq_eq_false_iff_ne];exact hb1
        rw[if_neg (fun h=>h.elim hb0 hb1)] at HM
        by_cases hb2:m=[45]
        ·have b2:(m == [45])=true:=by rw[hb2];rfl
         have HPL:Hid (zaW (bys s)=zdV (some (0)) (some (-1)) (bys s)):=by show _=_;rw[HPQ.out,HM.out];rw[if_pos hb2]
         have HAB:Hid ((-1000000000≤(0:Int)∧(0:Int)≤1000000000)∧(-1000000000≤(-1:Int)∧(-1:Int)≤1000000000)):=⟨HAa.out,by omega⟩
         obtain⟨hwi,HF⟩|⟨hwi,te,HF⟩|⟨hwi,te,HF⟩:=zbC HPL.out
         all_goals try exact absurd hwi (by decide)
         all_goals
          have HWI:=hid hwi
          clear hwi
          clear hb0 hb1 hb2
          go_wp2_with (first
           |(go_at_call 188;(with_reducible refine(HC1 _).mono ?_);rintro e w1 ⟨rfl,hx1⟩;obtain⟨hr,hp⟩:=zau hx1;have HR:=hid (hr.aside (Nat.le_succ _) (by omega) 0 (.int .i64 0) (k:=w.heap.size+1));have HP:=hid (hp.set0 (.int .i64 0));obtain⟨c0,c1,f0,f1,r0,r1,g0,g1⟩:=hp.eight hr;clear hx1 hr hp)
           |(go_at_call 188;(with_reducible refine(HC2 _).mono ?_);rintro e w2 ⟨rfl,hx2⟩;(try clear c0 c1 f0 f1 r0 r1 g0 g1);have hr:=HR.out.later hx2;have hp:=HP.out.later hx2;clear HR HP;have HR:=hid (hr.aside (Nat.le_succ _) (by omega) 1 (.int .i64 (-1)) (k:=w.heap.size+1));have HP:=hid (hp.set1 (.int .i64 (-1)));obtain⟨c0,c1,f0,f1,r0,r1,g0,g1⟩:=hp.eight hr;clear hx2 hr hp)
           |(go_at_call 189;(with_reducible refine(zbB 0 (-1) _).mono ?_);rintro e w3 ⟨he,hx3⟩;rw[HWI.out] at he;subst he;(try clear c0 c1 f0 f1 r0 r1 g0 g1);have hr:Bx w w3 w.heap.size 220 #[.int .i64 0,.int .i64 0]:=(by first|exact HR.out.later hx3|exact(HR.out.aside (k:=w.heap.size+1) (Nat.le_succ _) (by omega) 1 _).later hx3|exact(zau hx3).1);have hp:Bx w w3 (w.heap.size+1) 220 #[.int .i64 0,.int .i64 (-1)]:=(by first|exact HP.out.later hx3|exact(HP.out.set1 _).later hx3|exact(zau hx3).2);(try clear HR HP);have HR:=hid hr;have HP:=hid hp;obtain⟨c0,c1,f0,f1,r0,r1,g0,g1⟩:=hp.eight hr;clear hx3 hr hp)
           |(go_at_call 190;(with_reducible refine(zbd 0 (-1) _ (HG.out.ext HP.out.ext) HAB.out.1 HAB.out.2).mono ?_);rintro e w4 ⟨rfl,hx4⟩;(try clear c0 c1 f0 f1 r0 r1 g0 g1);have hr:=HR.out.later hx4;have hp:=HP.out.later hx4;clear HR HP;have HR:=hid hr;have HP:=hid hp;obtain⟨c0,c1,f0,f1,r0,r1,g0,g1⟩:=hp.eight hr;clear hx4 hr hp)
           )
          (try simp only[Exit.inBlock,Exit.then])
          refine zaq _ rfl rfl ((HR.out.set0 _).set1 _) Tryz.underlying220 rfl (by kernel_rfl) rfl ?_
          exact⟨by rw[HF.out];rfl,(HP.out.ext.setCell (Nat.le_refl _) _).setCell (Nat.le_refl _) _⟩
        ·have b2:(m == [45])=false:=by rw[beq_eq_false_iff_ne];exact hb2
         rw[if_neg hb2] at HM
         clear hb0 hb1 hb2
         cases hn2:numR m with
         |none=>
          have HF:Hid (zaW (bys s)=none):=by show _=_;rw[HPQ.out,HM.out,hn2];rfl
          have HC2:=HN2.out hn2
          clear hn2
          (obtain⟨hr,hp⟩:=zau (w:=w) (T:=220) (U:=220) (xs:=#[.int .i64 0,.int .i64 0]) (ys:=#[.int .i64 0,.int .i64 0]) (Ext.refl _);have HR:=hid hr;have HP:=hid hp;clear hr hp)
          go_wp2_with (first
           |(go_at_call 188;(with_reducible refine(HC1 _).mono ?_);rintro e w1 ⟨rfl,hx1⟩;obtain⟨hr,hp⟩:=zau hx1;have HR:=hid (hr.aside (Nat.le_succ _) (by omega) 0 (.int .i64 0) (k:=w.heap.size+1));have HP:=hid (hp.set0 (.int .i64 0));obtain⟨c0,c1,f0,f1,r0,r1,g0,g1⟩:=hp.eight hr;clear hx1 hr hp)
           |(go_at_call 188;(with_reducible refine(HC2 _).mono ?_);rintro e w2 ⟨rfl,hx2⟩;(try clear c0 c1 f0 f1 r0 r1 g0 g1);have hr:=HR.out.later hx2;have hp:=HP.out.later hx2;clear HR HP;have HR:=hid (hr.aside (Nat.le_succ _) (by omega) 1 (.int .i64 0) (k:=w.heap.size+1));have HP:=hid (hp.set1 (.int .i64 0));obtain⟨c0,c1,f0,f1,r0,r1,g0,g1⟩:=hp.eight hr;clear hx2 hr hp)
           )
          (try simp only[Exit.inBlock,Exit.then])
          refine zaq _ rfl rfl ((HR.out.set0 (.int .i64 0)).set1 (.int .i64 0)) Tryz.underlying220 rfl (by kernel_rfl) rfl ?_
          exact⟨by rw[HF.out];rfl,(HP.out.ext.setCell (Nat.le_refl _) _).setCell (Nat.le_refl _) _⟩
         |some b=>
          have HPL:Hid (zaW (bys s)=zdV (some (0)) (some b) (bys s)):=by show _=_;rw[HPQ.out,HM.out,hn2]
          have HAB:Hid ((-1000000000≤(0:Int)∧(0:Int)≤1000000000)∧(-1000000000≤b∧b≤1000000000)):=⟨HAa.out,HS.out b (by rw[HM.out,hn2])⟩
          have HC2:=HO2.out b hn2
          clear hn2
          (obtain⟨hr,hp⟩:=zau (w:=w) (T:=220) (U:=220) (xs:=#[.int .i64 0,.int .i64 0]) (ys:=#[.int .i64 0,.int .i64 0]) (Ext.refl _);have HR:=hid hr;have HP:=hid hp;clear hr hp)
          obtain⟨hwi,HF⟩|⟨hwi,te,HF⟩|⟨hwi,te,HF⟩:=zbC HPL.out
          all_goals try exact absurd hwi (by decide)
          all_goals
           have HWI:=hid hwi
           clear hwi
           skip
           go_wp2_with (first
            |(go_at_call 188;(with_reducible refine(HC1 _).mono ?_);rintro e w1 ⟨rfl,hx1⟩;obtain⟨hr,hp⟩:=zau hx1;have HR:=hid (hr.aside (Nat.le_succ _) (by omega) 0 (.int .i64 0) (k:=w.heap.size+1));have HP:=hid (hp.set0 (.int .i64 0));obtain⟨c0,c1,f0,f1,r0,r1,g0,g1⟩:=hp.eight hr;clear hx1 hr hp)
            |(go_at_call 188;(with_reducible refine(HC2 _).mono ?_);rintro e w2 ⟨rfl,hx2⟩;(try clear c0 c1 f0 f1 r0 r1 g0 g1);have hr:=HR.out.later hx2;have hp:=HP.out.later hx2;clear HR HP;have HR:=hid (hr.aside (Nat.le_succ _) (by omega) 1 (.int .i64 b) (k:=w.heap.size+1));have HP:=hid (hp.set1 (.int .i64 b));obtain⟨c0,c1,f0,f1,r0,r1,g0,g1⟩:=hp.eight hr;clear hx2 hr hp)
            |(go_at_call 189;(with_reducible refine(zbB 0 b _).mono ?_);rintro e w3 ⟨he,hx3⟩;rw[HWI.out] at he;subst he;(try clear c0 c1 f0 f1 r0 r1 g0 g1);have hr:Bx w w3 w.heap.size 220 #[.int .i64 0,.int .i64 0]:=(by first|exact HR.out.later hx3|exact(HR.out.aside (k:=w.heap.size+1) (Nat.le_succ _) (by omega) 1 _).later hx3|exact(zau hx3).1);have hp:Bx w w3 (w.heap.size+1) 220 #[.int .i64 0,.int .i64 b]:=(by first|exact HP.out.later hx3|exact(HP.out.set1 _).later hx3|exact(zau hx3).2);(try clear HR HP);have HR:=hid hr;have HP:=hid hp;obtain⟨c0,c1,f0,f1,r0,r1,g0,g1⟩:=hp.eight hr;clear hx3 hr hp)
            |(go_at_call 190;(with_reducible refine(zbd 0 b _ (HG.out.ext HP.out.ext) HAB.out.1 HAB.out.2).mono ?_);rintro e w4 ⟨rfl,hx4⟩;(try clear c0 c1 f0 f1 r0 r1 g0 g1);have hr:=HR.out.later hx4;have hp:=HP.out.later hx4;clear HR HP;have HR:=hid hr;have HP:=hid hp;obtain⟨c0,c1,f0,f1,r0,r1,g0,g1⟩:=hp.eight hr;clear hx4 hr hp)
            )
           (try simp only[Exit.inBlock,Exit.then])
           refine zaq _ rfl rfl ((HR.out.set0 _).set1 _) Tryz.underlying220 rfl (by kernel_rfl) rfl ?_
           exact⟨by rw[HF.out];rfl,(HP.out.ext.setCell (Nat.le_refl _) _).setCell (Nat.le_refl _) _⟩
  ·have ty:((y.toNat:Int)==105)=false:=zav (k:=105) h105
   have HA:Hid (atR (bys s)=s.size):=by show _=_;unfold atR;rw[HL.out,if_neg (fun e=>h105 (by injection e)),zaj]
   have HP0:Hid (zaW (bys s)=zdV (numR (bys s)) (some 0) (bys s)):=by
    show _=_
    unfold zaW
    rw[HA.out,if_pos (by omega),if_neg (by rw[zaj];omega),List.take_of_length_le (Nat.le_of_eq (zaj s))]
   obtain⟨s1,hs1⟩:∃s1,s.extract 0 s.size=s1:=⟨_,rfl⟩
   have HE1:Hid (bys s1=bys s):=by show _=_;rw[←hs1,zeq];rfl
   have HZ1:Hid (s1.size≤4000000):=by show _≤_;rw[←zaj,HE1.out,zaj];exact hs
   clear h105
   cases hn:numR (bys s) with
   |none=>
    have HF:Hid (zaW (bys s)=none):=by show _=_;rw[HP0.out,hn];rfl
    have HC1:=ziH HZ1.out (by rw[HE1.out,hn])
    clear hn
    go_enter Tryz.func161,Tryz.ntmps161
    go_wp2_with (first
     |(go_at_call 188;(with_reducible refine(HC1 _).mono ?_);rintro e w1 ⟨rfl,hx1⟩;obtain⟨hr,hp⟩:=zau hx1;have HR:=hid (hr.aside (Nat.le_succ _) (by omega) 0 (.int .i64 0) (k:=w.heap.size+1));have HP:=hid (hp.set0 (.int .i64 0));obtain⟨c0,c1,f0,f1,r0,r1,g0,g1⟩:=hp.eight hr;clear hx1 hr hp)
     |(go_at_call 188;(with_reducible refine(HC2 _).mono ?_);rintro e w2 ⟨rfl,hx2⟩;(try clear c0 c1 f0 f1 r0 r1 g0 g1);have hr:=HR.out.later hx2;have hp:=HP.out.later hx2;clear HR HP;have HR:=hid (hr.aside (Nat.le_succ _) (by omega) 1 (.int .i64 0) (k:=w.heap.size+1));have HP:=hid (hp.set1 (.int .i64 0));obtain⟨c0,c1,f0,f1,r0,r1,g0,g1⟩:=hp.eight hr;clear hx2 hr hp)
     )
    (try simp only[Exit.inBlock,Exit.then])
    refine zaq _ rfl rfl ((HR.out.set0 (.int .i64 0)).set1 (.int .i64 0)) Tryz.underlying220 rfl (by kernel_rfl) rfl ?_
    exact⟨by rw[HF.out];rfl,(HP.out.ext.setCell (Nat.le_refl _) _).setCell (Nat.le_refl _) _⟩
   |some a=>
    have HPL:Hid (zaW (bys s)=zdV (some a) (some 0) (bys s)):=by show _=_;rw[HP0.out,hn]
    have hsm:=zfM hn
    have HAB:Hid ((-1000000000≤a∧a≤1000000000)∧(-1000000000≤(0:Int)∧(0:Int)≤1000000000)):=⟨by omega,by omega⟩
    have HC1:=zi2 HZ1.out (by rw[HE1.out,hn])
    clear hn hsm
    obtain⟨hwi,HF⟩|⟨hwi,te,HF⟩|⟨hwi,te,HF⟩:=zbC HPL.out
    all_goals try exact absurd hwi (by decide)
    all_goals
     have HWI:=hid hwi
     clear hwi
     go_enter Tryz.func161,Tryz.ntmps161
     go_wp2_with (first
      |(go_at_call 188;(with_reducible refine(HC1 _).mono ?_);rintro e w1 ⟨rfl,hx1⟩;obtain⟨hr,hp⟩:=zau hx1;have HR:=hid (hr.aside (Nat.le_succ _) (by omega) 0 (.int .i64 a) (k:=w.heap.size+1));have HP:=hid (hp.set0 (.int .i64 a));obtain⟨c0,c1,f0,f1,r0,r1,g0,g1⟩:=hp.eight hr;clear hx1 hr hp)
      |(go_at_call 188;(with_reducible refine(HC2 _).mono ?_);rintro e w2 ⟨rfl,hx2⟩;(try clear c0 c1 f0 f1 r0 r1 g0 g1);have hr:=HR.out.later hx2;have hp:=HP.out.later hx2;clear HR HP;have HR:=hid (hr.aside (Nat.le_succ _) (by omega) 1 (.int .i64 0) (k:=w.heap.size+1));have HP:=hid (hp.set1 (.int .i64 0));obtain⟨c0,c1,f0,f1,r0,r1,g0,g1⟩:=hp.eight hr;clear hx2 hr hp)
      |(go_at_call 189;(with_reducible refine(zbB a 0 _).mono ?_);rintro e w3 ⟨he,hx3⟩;rw[HWI.out] at he;subst he;(try clear c0 c1 f0 f1 r0 r1 g0 g1);have hr:Bx w w3 w.heap.size 220 #[.int .i64 0,.int .i64 0]:=(by first|exact HR.out.later hx3|exact(HR.out.aside (k:=w.heap.size+1) (Nat.le_succ _) (by omega) 1 _).later hx3|exact(zau hx3).1);have hp:Bx w w3 (w.heap.size+1) 220 #[.int .i64 a,.int .i64 0]:=(by first|exact HP.out.later hx3|exact(HP.out.set1 _).later hx3|exact(zau hx3).2);(try clear HR HP);have HR:=hid hr;have HP:=hid hp;obtain⟨c0,c1,f0,f1,r0,r1,g0,g1⟩:=hp.eight hr;clear hx3 hr hp)
      |(go_at_call 190;(with_reducible refine(zbd a 0 _ (HG.out.ext HP.out.ext) HAB.out.1 HAB.out.2).mono ?_);rintro e w4 ⟨rfl,hx4⟩;(try clear c0 c1 f0 f1 r0 r1 g0 g1);have hr:=HR.out.later hx4;have hp:=HP.out.later hx4;clear HR HP;have HR:=hid hr;have HP:=hid hp;obtain⟨c0,c1,f0,f1,r0,r1,g0,g1⟩:=hp.eight hr;clear hx4 hr hp)
      )
     (try simp only[Exit.inBlock,Exit.then])
     refine zaq _ rfl rfl ((HR.out.set0 _).set1 _) Tryz.underlying220 rfl (by kernel_rfl) rfl ?_
     exact⟨by rw[HF.out];rfl,(HP.out.ext.setCell (Nat.le_refl _) _).setCell (Nat.le_refl _) _⟩
def zb2(n v:List UInt8):List UInt8×Int:=
 if(zat n).2=4 then(if v=[]∨200<v.length then([],2) else if(zaW v).isSome then(v,0) else([],2)) else zb0 n v
def zb7(w:World)(n v:List UInt8)(e:Ending)(w':World):Prop:=e=.returned (.tuple #[.string (str (zb2 n v).1),.int .i64 (zb2 n v).2])∧Ext w w'
def zr1(k:Nat)(v:List UInt8):List UInt8×Int:=
 if k=0 then([],5) else if k=5 then([],1) else if v=[]∨200<v.length then([],2)
 else if k=1 then(if zdW v=[] then([],2) else(zdW v,0)) else if k=3 then(if intB v then(v,0) else([],2)) else if k=4 then(if(zaW v).isSome then(v,0) else([],2)) else(v,0)
theorem zsi(n v:List UInt8):zb2 n v=zr1 (zat n).2 v:=by
 unfold zb2 zb0 zr1
 generalize (zat n).2=k
 by_cases h4:k=4
 ·subst h4;simp
 ·rw[if_neg h4]
  by_cases h0:k=0
  ·simp[h0]
  ·rw[if_neg h0,if_neg h0]
   by_cases h5:k=5
   ·simp[h5]
   ·rw[if_neg h5,if_neg h5]
    by_cases hv:v=[]∨200<v.length
    ·rw[if_pos hv,if_pos hv]
    ·rw[if_neg hv,if_neg hv]
     by_cases h1:k=1
     ·subst h1
      have h:=zmQ v
      simp only[zdk,zhm] at h ⊢
      by_cases ht:zaD (zaU (zas v))=[]∨(0:UInt8)∈zaD (zaU (zas v))
      ·rw[if_pos ht] at h
       have h2:¬(zaD (zaU (zas v))≠[]∧(0:UInt8) ∉ zaD (zaU (zas v))):=by
        rintro⟨h3,h4⟩
        rcases ht with ht|ht
        ·exact h3 ht
        ·exact h4 ht
       have h3:zdW v=[]:=by
        by_cases h4:zdW v=[]
        ·exact h4
        ·rw[if_neg h4] at h;cases h
       simp[h2,h3]
      ·rw[if_neg ht] at h
       have h2:zaD (zaU (zas v))≠[]∧(0:UInt8) ∉ zaD (zaU (zas v)):=⟨fun e=>ht (.inl e),fun e=>ht (.inr e)⟩
       by_cases h3:zdW v=[]
       ·rw[if_pos h3] at h;cases h
       ·rw[if_neg h3] at h
        injection h with h
        simp[h2,←h]
     ·by_cases h3:k=3
      ·subst h3
       simp[zdk]
      ·have i1:¬(k:Int)=1:=by omega
       have i3:¬(k:Int)=3:=by omega
       simp[zdk,i1,i3];simp[h1,h3,h4]
theorem zg1(n s:ByteArray)(w:World)(hG:Gl w)(hn:n.size≤4000000) :
 Calls Tryz.prog 135 #[.string n,.string s] w (zb7 w (bys n) (bys s)):=by
 have HG:=hid hG
 have HT:∀w,Calls Tryz.prog 137 #[.string n] w (zaX w (bys n)):=fun w=>zg0 n w (by simp only[maxLen];omega)
 have HN:=hid (zsi (bys n) (bys s))
 unfold zaX at HT
 obtain⟨p,hp⟩:∃p,p=zat (bys n):=⟨_,rfl⟩
 rw[←hp] at HN HT
 clear hp hG
 obtain⟨t,k⟩:=p
 simp only at HN HT
 have HK:Hid (zr1 k (bys s)=if k=0 then ([],5) else if k=5 then ([],1) else if bys s=[]∨200<(bys s).length then ([],2)
  else if k=1 then (if zdW (bys s)=[] then ([],2) else (zdW (bys s),0)) else if k=3 then (if intB (bys s) then (bys s,0) else ([],2)) else if k=4 then (if (zaW (bys s)).isSome then (bys s,0) else ([],2)) else (bys s,0)):=rfl
 by_cases k0:k=0
 ·have HE:Hid (zb2 (bys n) (bys s)=([],5)):=by show _=_;rw[HN.out,HK.out,if_pos k0]
  have t0:((k:Int)==0)=true:=by rw[k0];rfl
  clear k0 HN HK
  go_enter Tryz.func135,Tryz.ntmps135
  go_wp2_with (first
   |(go_at_call 137;(with_reducible refine(HT _).mono ?_);rintro e w1 ⟨rfl,hx1⟩;have HX1:=hid hx1;clear hx1)
   |(go_at_call 159;(with_reducible refine(zbR s _ Hs.out).mono ?_);rintro e w2 ⟨rfl,hx2⟩;have HX1':=hid (HX1.out.trans hx2);clear HX1 hx2;have HX1:=HX1';clear HX1')
   |(go_at_call 160;(with_reducible refine(HI _ Hs.out).mono ?_);rintro e w2 ⟨rfl,hx2⟩;have HX1':=hid (HX1.out.trans hx2);clear HX1 hx2;have HX1:=HX1';clear HX1')
   | (go_at_call 161;(with_reducible refine (HPS _ (HG.out.ext HX1.out) Hs.out).mono ?_);rintro e w2 ⟨rfl,hx2⟩;have HX1':=hid (HX1.out.trans hx2);clear HX1 hx2;have HX1:=HX1';clear HX1'))
  go_ret2
  exact⟨by rw[HE.out];first|rfl|(rw[zaK];rfl),by first|exact HX1.out|exact HX1.out.trans (Ext.alloc _ _)⟩
 ·have t0:((k:Int)==0)=false:=by rw[beq_eq_false_iff_ne];omega
  by_cases k5:k=5
  ·have HE:Hid (zb2 (bys n) (bys s)=([],1)):=by show _=_;rw[HN.out,HK.out,if_neg k0,if_pos k5]
   have t5:((k:Int)==5)=true:=by rw[k5];rfl
   clear k0 k5 HN HK
   go_enter Tryz.func135,Tryz.ntmps135
   go_wp2_with (first
    |(go_at_call 137;(with_reducible refine(HT _).mono ?_);rintro e w1 ⟨rfl,hx1⟩;have HX1:=hid hx1;clear hx1)
    |(go_at_call 159;(with_reducible refine(zbR s _ Hs.out).mono ?_);rintro e w2 ⟨rfl,hx2⟩;have HX1':=hid (HX1.out.trans hx2);clear HX1 hx2;have HX1:=HX1';clear HX1')
    |(go_at_call 160;(with_reducible refine(HI _ Hs.out).mono ?_);rintro e w2 ⟨rfl,hx2⟩;have HX1':=hid (HX1.out.trans hx2);clear HX1 hx2;have HX1:=HX1';clear HX1')
    | (go_at_call 161;(with_reducible refine (HPS _ (HG.out.ext HX1.out) Hs.out).mono ?_);rintro e w2 ⟨rfl,hx2⟩;have HX1':=hid (HX1.out.trans hx2);clear HX1 hx2;have HX1:=HX1';clear HX1'))
   go_ret2
   exact⟨by rw[HE.out];first|rfl|(rw[zaK];rfl),by first|exact HX1.out|exact HX1.out.trans (Ext.alloc _ _)⟩
  ·have t5:((k:Int)==5)=false:=by rw[beq_eq_false_iff_ne];omega
   by_cases hz:s.size=0
   ·have HE:Hid (zb2 (bys n) (bys s)=([],2)):=by show _=_;rw[HN.out,HK.out,if_neg k0,if_neg k5,if_pos (.inl (by rw[zb3 hz];rfl))]
    have e1:(s.size:Int)<1:=by omega
    clear k0 k5 HN HK hz
    go_enter Tryz.func135,Tryz.ntmps135
    go_wp2_with (first
     |(go_at_call 137;(with_reducible refine(HT _).mono ?_);rintro e w1 ⟨rfl,hx1⟩;have HX1:=hid hx1;clear hx1)
     |(go_at_call 159;(with_reducible refine(zbR s _ Hs.out).mono ?_);rintro e w2 ⟨rfl,hx2⟩;have HX1':=hid (HX1.out.trans hx2);clear HX1 hx2;have HX1:=HX1';clear HX1')
     |(go_at_call 160;(with_reducible refine(HI _ Hs.out).mono ?_);rintro e w2 ⟨rfl,hx2⟩;have HX1':=hid (HX1.out.trans hx2);clear HX1 hx2;have HX1:=HX1';clear HX1')
     | (go_at_call 161;(with_reducible refine (HPS _ (HG.out.ext HX1.out) Hs.out).mono ?_);rintro e w2 ⟨rfl,hx2⟩;have HX1':=hid (HX1.out.trans hx2);clear HX1 hx2;have HX1:=HX1';clear HX1'))
    go_ret2
    exact⟨by rw[HE.out];first|rfl|(rw[zaK];rfl),by first|exact HX1.out|exact HX1.out.trans (Ext.alloc _ _)⟩
   ·have e1:decide ((s.size:Int)<1)=false:=by rw[decide_eq_false_iff_not];omega
    by_cases hl:200<s.size
    ·have HE:Hid (zb2 (bys n) (bys s)=([],2)):=by show _=_;rw[HN.out,HK.out,if_neg k0,if_neg k5,if_pos (.inr (by rw[zaj];exact hl))]
     have e2:200<(s.size:Int):=by omega
     clear k0 k5 HN HK hz hl
     go_enter Tryz.func135,Tryz.ntmps135
     go_wp2_with (first
      |(go_at_call 137;(with_reducible refine(HT _).mono ?_);rintro e w1 ⟨rfl,hx1⟩;have HX1:=hid hx1;clear hx1)
      |(go_at_call 159;(with_reducible refine(zbR s _ Hs.out).mono ?_);rintro e w2 ⟨rfl,hx2⟩;have HX1':=hid (HX1.out.trans hx2);clear HX1 hx2;have HX1:=HX1';clear HX1')
      |(go_at_call 160;(with_reducible refine(HI _ Hs.out).mono ?_);rintro e w2 ⟨rfl,hx2⟩;have HX1':=hid (HX1.out.trans hx2);clear HX1 hx2;have HX1:=HX1';clear HX1')
      | (go_at_call 161;(with_reducible refine (HPS _ (HG.out.ext HX1.out) Hs.out).mono ?_);rintro e w2 ⟨rfl,hx2⟩;have HX1':=hid (HX1.out.trans hx2);clear HX1 hx2;have HX1:=HX1';clear HX1'))
     go_ret2
     exact⟨by rw[HE.out];first|rfl|(rw[zaK];rfl),by first|exact HX1.out|exact HX1.out.trans (Ext.alloc _ _)⟩
    ·have e2:decide (200<(s.size:Int))=false:=by rw[decide_eq_false_iff_not];omega
     have Hs:Hid (s.size≤4000000):=by show _≤_;omega
     have hbs:¬(bys s=[]∨200<(bys s).length):=by
      rw[zaj]
      rintro(h|h)
      ·exact hz (by rw[←zaj,h];rfl)
      ·exact hl h
     rw[if_neg k0,if_neg k5,if_neg hbs] at HK
     clear hbs hz hl k0 k5
     by_cases k1:k=1
     ·have t1:((k:Int)==1)=true:=by rw[k1];rfl
      rw[if_pos k1] at HK
      by_cases hr:zdW (bys s)=[]
      have r0:(zdW (bys s) == [])=true:=by rw[hr];rfl
      have HE:Hid (zb2 (bys n) (bys s)=([],2)):=by show _=_;rw[HN.out,HK.out,if_pos hr]
      rotate_left
      have r0:(zdW (bys s) == [])=false:=by rw[beq_eq_false_iff_ne];exact hr
      have HE:Hid (zb2 (bys n) (bys s)=(zdW (bys s),0)):=by show _=_;rw[HN.out,HK.out,if_neg hr]
      rotate_left
      all_goals
       clear k1 hr HN HK
       go_enter Tryz.func135,Tryz.ntmps135
       go_wp2_with (first
        |(go_at_call 137;(with_reducible refine(HT _).mono ?_);rintro e w1 ⟨rfl,hx1⟩;have HX1:=hid hx1;clear hx1)
        |(go_at_call 159;(with_reducible refine(zbR s _ Hs.out).mono ?_);rintro e w2 ⟨rfl,hx2⟩;have HX1':=hid (HX1.out.trans hx2);clear HX1 hx2;have HX1:=HX1';clear HX1')
        |(go_at_call 160;(with_reducible refine(HI _ Hs.out).mono ?_);rintro e w2 ⟨rfl,hx2⟩;have HX1':=hid (HX1.out.trans hx2);clear HX1 hx2;have HX1:=HX1';clear HX1')
        | (go_at_call 161;(with_reducible refine (HPS _ (HG.out.ext HX1.out) Hs.out).mono ?_);rintro e w2 ⟨rfl,hx2⟩;have HX1':=hid (HX1.out.trans hx2);clear HX1 hx2;have HX1:=HX1';clear HX1'))
       go_ret2
       exact⟨by rw[HE.out];first|rfl|(rw[zaK];rfl),by first|exact HX1.out|exact HX1.out.trans (Ext.alloc _ _)⟩
     ·have t1:((k:Int)==1)=false:=by rw[beq_eq_false_iff_ne];omega
      rw[if_neg k1] at HK
      by_cases k3:k=3
      ·have t3:((k:Int)==3)=true:=by rw[k3];rfl
       rw[if_pos k3] at HK
       have HI:=zkb s
       unfold zoF at HI
       cases hi:intB (bys s) with
       |true=>
        have HE:Hid (zb2 (bys n) (bys s)=(bys s,0)):=by show _=_;rw[HN.out,HK.out,hi];rfl
        rw[hi] at HI
        clear k1 k3 hi HN HK
        go_enter Tryz.func135,Tryz.ntmps135
        go_wp2_with (first
         |(go_at_call 137;(with_reducible refine(HT _).mono ?_);rintro e w1 ⟨rfl,hx1⟩;have HX1:=hid hx1;clear hx1)
         |(go_at_call 159;(with_reducible refine(zbR s _ Hs.out).mono ?_);rintro e w2 ⟨rfl,hx2⟩;have HX1':=hid (HX1.out.trans hx2);clear HX1 hx2;have HX1:=HX1';clear HX1')
         |(go_at_call 160;(with_reducible refine(HI _ Hs.out).mono ?_);rintro e w2 ⟨rfl,hx2⟩;have HX1':=hid (HX1.out.trans hx2);clear HX1 hx2;have HX1:=HX1';clear HX1')
         | (go_at_call 161;(with_reducible refine (HPS _ (HG.out.ext HX1.out) Hs.out).mono ?_);rintro e w2 ⟨rfl,hx2⟩;have HX1':=hid (HX1.out.trans hx2);clear HX1 hx2;have HX1:=HX1';clear HX1'))
        go_ret2
        exact⟨by rw[HE.out];first|rfl|(rw[zaK];rfl),by first|exact HX1.out|exact HX1.out.trans (Ext.alloc _ _)⟩
       |false=>
        have HE:Hid (zb2 (bys n) (bys s)=([],2)):=by show _=_;rw[HN.out,HK.out,hi];rfl
        rw[hi] at HI
        clear k1 k3 hi HN HK
        go_enter Tryz.func135,Tryz.ntmps135
        go_wp2_with (first
         |(go_at_call 137;(with_reducible refine(HT _).mono ?_);rintro e w1 ⟨rfl,hx1⟩;have HX1:=hid hx1;clear hx1)
         |(go_at_call 159;(with_reducible refine(zbR s _ Hs.out).mono ?_);rintro e w2 ⟨rfl,hx2⟩;have HX1':=hid (HX1.out.trans hx2);clear HX1 hx2;have HX1:=HX1';clear HX1')
         |(go_at_call 160;(with_reducible refine(HI _ Hs.out).mono ?_);rintro e w2 ⟨rfl,hx2⟩;have HX1':=hid (HX1.out.trans hx2);clear HX1 hx2;have HX1:=HX1';clear HX1')
         | (go_at_call 161;(with_reducible refine (HPS _ (HG.out.ext HX1.out) Hs.out).mono ?_);rintro e w2 ⟨rfl,hx2⟩;have HX1':=hid (HX1.out.trans hx2);clear HX1 hx2;have HX1:=HX1';clear HX1'))
        go_ret2
        exact⟨by rw[HE.out];first|rfl|(rw[zaK];rfl),by first|exact HX1.out|exact HX1.out.trans (Ext.alloc _ _)⟩
      ·have t3:((k:Int)==3)=false:=by rw[beq_eq_false_iff_ne];omega
       rw[if_neg k3] at HK
       by_cases k4:k=4
       ·have t4:((k:Int)==4)=true:=by rw[k4];rfl
        rw[if_pos k4] at HK
        have HPS:=znl s
        unfold zkU at HPS
        generalize zaW (bys s)=q at*
        cases q with
        |none=>
         have HE:Hid (zb2 (bys n) (bys s)=([],2)):=by show _=_;rw[HN.out,HK.out];rfl
         clear k1 k3 k4 HN HK
         go_enter Tryz.func135,Tryz.ntmps135
         go_wp2_with (first
          |(go_at_call 137;(with_reducible refine(HT _).mono ?_);rintro e w1 ⟨rfl,hx1⟩;have HX1:=hid hx1;clear hx1)
          |(go_at_call 159;(with_reducible refine(zbR s _ Hs.out).mono ?_);rintro e w2 ⟨rfl,hx2⟩;have HX1':=hid (HX1.out.trans hx2);clear HX1 hx2;have HX1:=HX1';clear HX1')
          |(go_at_call 160;(with_reducible refine(HI _ Hs.out).mono ?_);rintro e w2 ⟨rfl,hx2⟩;have HX1':=hid (HX1.out.trans hx2);clear HX1 hx2;have HX1:=HX1';clear HX1')
          | (go_at_call 161;(with_reducible refine (HPS _ (HG.out.ext HX1.out) Hs.out).mono ?_);rintro e w2 ⟨rfl,hx2⟩;have HX1':=hid (HX1.out.trans hx2);clear HX1 hx2;have HX1:=HX1';clear HX1'))
         go_ret2
         exact⟨by rw[HE.out];first|rfl|(rw[zaK];rfl),by first|exact HX1.out|exact HX1.out.trans (Ext.alloc _ _)⟩
        |some q=>
         have HE:Hid (zb2 (bys n) (bys s)=(bys s,0)):=by show _=_;rw[HN.out,HK.out];rfl
         clear k1 k3 k4 HN HK
         go_enter Tryz.func135,Tryz.ntmps135
         go_wp2_with (first
          |(go_at_call 137;(with_reducible refine(HT _).mono ?_);rintro e w1 ⟨rfl,hx1⟩;have HX1:=hid hx1;clear hx1)
          |(go_at_call 159;(with_reducible refine(zbR s _ Hs.out).mono ?_);rintro e w2 ⟨rfl,hx2⟩;have HX1':=hid (HX1.out.trans hx2);clear HX1 hx2;have HX1:=HX1';clear HX1')
          |(go_at_call 160;(with_reducible refine(HI _ Hs.out).mono ?_);rintro e w2 ⟨rfl,hx2⟩;have HX1':=hid (HX1.out.trans hx2);clear HX1 hx2;have HX1:=HX1';clear HX1')
          | (go_at_call 161;(with_reducible refine (HPS _ (HG.out.ext HX1.out) Hs.out).mono ?_);rintro e w2 ⟨rfl,hx2⟩;have HX1':=hid (HX1.out.trans hx2);clear HX1 hx2;have HX1:=HX1';clear HX1'))
         go_ret2
         exact⟨by rw[HE.out];first|rfl|(rw[zaK];rfl),by first|exact HX1.out|exact HX1.out.trans (Ext.alloc _ _)⟩
       ·have t4:((k:Int)==4)=false:=by rw[beq_eq_false_iff_ne];omega
        have HE:Hid (zb2 (bys n) (bys s)=(bys s,0)):=by show _=_;rw[HN.out,HK.out,if_neg k4]
        clear k1 k3 k4 HN HK
        go_enter Tryz.func135,Tryz.ntmps135
        go_wp2_with (first
         |(go_at_call 137;(with_reducible refine(HT _).mono ?_);rintro e w1 ⟨rfl,hx1⟩;have HX1:=hid hx1;clear hx1)
         |(go_at_call 159;(with_reducible refine(zbR s _ Hs.out).mono ?_);rintro e w2 ⟨rfl,hx2⟩;have HX1':=hid (HX1.out.trans hx2);clear HX1 hx2;have HX1:=HX1';clear HX1')
         |(go_at_call 160;(with_reducible refine(HI _ Hs.out).mono ?_);rintro e w2 ⟨rfl,hx2⟩;have HX1':=hid (HX1.out.trans hx2);clear HX1 hx2;have HX1:=HX1';clear HX1')
         | (go_at_call 161;(with_reducible refine (HPS _ (HG.out.ext HX1.out) Hs.out).mono ?_);rintro e w2 ⟨rfl,hx2⟩;have HX1':=hid (HX1.out.trans hx2);clear HX1 hx2;have HX1:=HX1';clear HX1'))
        go_ret2
        exact⟨by rw[HE.out];first|rfl|(rw[zaK];rfl),by first|exact HX1.out|exact HX1.out.trans (Ext.alloc _ _)⟩
theorem zne{n v:List UInt8}(h:(zat n).2=1∨(zat n).2=3):(zb2 n v).2=if(zcs (zat n).2 v).isSome then 0 else 2:=by
 unfold zb2
 rw[if_neg (by omega)]
 exact ziz h
def zhW(l:List Ava)(j:Nat):List UInt8:=if j=0 then[] else(l[j-1]?.map (·.type)).getD []
theorem zmW{l:List Ava}{j:Nat}{x:Ava}(h:l[j]?=some x):zhW l (j+1)=x.type:=by unfold zhW;rw[if_neg (by omega),Nat.add_sub_cancel,h];rfl
theorem zrr{a b:List UInt8}(h:ltB a b=true):Op.bytesLess a b=true:=by rw[zf1];exact h
theorem zpP{a b:List UInt8}(h:ltB a b=false):Op.bytesLess a b=false:=by rw[zf1];exact h
theorem zeN{S:Nat→Prop}{A:Option Addr}{n c:Nat}{l:List Ava}{w:World}(hG:Gl w)(h:Row Elem.ava S w A n c l)(hb:∀a∈l,a.type.length≤4000000) :
 Calls Tryz.prog 134 #[.slice A n c] w fun e w'=>e=.returned (.bool (zan l))∧Ext w w':=by
 have HG:=hid hG
 have HR:=hid h
 have HB:=hid hb
 have hl:=h.len
 have HF:=hid (zh2 l)
 clear hG h hb
 by_cases h0:n=0
 ·have HE:Hid (zan l=false):=by show _=_;rw[HF.out,←hl,h0];rfl
  have t0:(n:Int)<1:=by omega
  clear hl HF
  go_enter Tryz.func134,Tryz.ntmps134
  go_wp2
  go_ret
  exact⟨by rw[HE.out];rfl,Ext.refl _⟩
 ·have t0:decide ((n:Int)<1)=false:=by rw[decide_eq_false_iff_not];omega
  by_cases h3:3<n
  ·have HE:Hid (zan l=false):=by show _=_;rw[HF.out,←hl,decide_eq_false (show ¬n≤3 by omega)];simp
   have t3:3<(n:Int):=by omega
   clear h0 hl h3 HF
   go_enter Tryz.func134,Tryz.ntmps134
   go_wp2
   go_ret
   exact⟨by rw[HE.out];rfl,Ext.refl _⟩
  ·have t3:decide (3<(n:Int))=false:=by rw[decide_eq_false_iff_not];omega
   have HE:Hid (zan l=za5 [] l):=by show _=_;rw[HF.out,←hl,decide_eq_true (show 1≤n by omega),decide_eq_true (show n≤3 by omega)];rfl
   have hn:n≤3:=by omega
   clear h3 HF hl
   go_enter Tryz.func134,Tryz.ntmps134
   go_wp2
   go_loopw [18] (fun i wr=>∃(j:Nat),j≤n∧i=.int .i64 j∧Hid (za5 (zhW l j) (l.drop j)=za5 [] l)∧Hid (Ext w wr)) (fun i _=>n-(intOf i).toNat)
   case atStart=>exact⟨0,by omega,rfl,rfl,Ext.refl _⟩
   case round=>
    obtain⟨j,hj,rfl,HO,HX⟩:=hrel
    by_cases hlt:j<n
    ·have hlt':(j:Int)<(n:Int):=by omega
     obtain⟨b,o,x,rfl,hx,e1,e2⟩:=zgj (HR.out.ext HX.out) hlt
     have hd:Hid (l.drop j=x::l.drop (j+1)):=by
      show _=_
      obtain⟨h1,h2⟩:=List.getElem?_eq_some_iff.1 hx
      rw[List.drop_eq_getElem_cons h1,h2]
     have hxs:=hid (HB.out x (List.mem_of_getElem? hx))
     have HL1:=hid (zmW hx)
     have HT:∀w,Calls Tryz.prog 137 #[.string (str x.type)] w (zaX w x.type):=fun w=>by
      have:=zg0 (str x.type) w (by have:=hxs.out;rw[zaI];simp only[maxLen];omega)
      rwa[zao] at this
     have HNA:∀w,Gl w→Calls Tryz.prog 135 #[.string (str x.type),.string (str x.val)] w (zb7 w x.type x.val):=fun w hG=>by
      have:=zg1 (str x.type) (str x.val) w hG (by have:=hxs.out;rw[zaI];exact this)
      rwa[zao,zao] at this
     have HAV:Hid (zbV x=(decide ((zat x.type).1=x.type)&&(decide ((zat x.type).2=1) || decide ((zat x.type).2=3))&&(zcs (zat x.type).2 x.val).isSome)):=rfl
     have HNE:Hid ((zat x.type).2=1∨(zat x.type).2=3→(zb2 x.type x.val).2=if(zcs (zat x.type).2 x.val).isSome then 0 else 2):=zne
     have HST:Hid (za5 (zhW l j) (x::l.drop (j+1))=(zbV x&&ltB (zhW l j) x.type&&za5 x.type (l.drop (j+1)))):=rfl
     rw[←hd.out,HO.out] at HST
     unfold zaX at HT
     unfold zb7 at HNA
     obtain⟨p,hp⟩:∃p,p=zat x.type:=⟨_,rfl⟩
     rw[←hp] at HT HAV HNE
     clear hp
     obtain⟨t,k⟩:=p
     generalize zb2 x.type x.val=q at*
     obtain⟨nv,ne⟩:=q
     simp only at HT HAV HNE HNA
     by_cases hj0:j=0
     ·have tj:decide (0<j)=false:=by rw[decide_eq_false_iff_not];omega
      have HLT:Hid (zhW l j=[]):=by show _=_;rw[hj0];rfl
      clear hj0 hx
      by_cases ht:t=x.type
      ·subst ht
       have te:(x.type==x.type)=true:=beq_self_eq_true _
       by_cases hk:k=1∨k=3
       ·have hne:=HNE.out hk
        have hk2:((k:Int) != 1)=false∨(((k:Int) != 1)=true∧((k:Int) != 3)=false):=by
         rcases hk with h|h
         ·left;rw[h];rfl
         ·right;rw[h];exact⟨rfl,rfl⟩
        cases hnb:(zcs k x.val).isSome with
        |false=>
         have e3:(ne != 0)=true:=by rw[hne,hnb];rfl
         have HF:Hid (za5 [] l=false):=by show _=_;rw[HST.out,HAV.out,hnb,Bool.and_false,Bool.false_and,Bool.false_and]
         clear hnb hne HNE HAV HST hk
         rcases hk2 with k1|⟨k1,k2⟩
         all_goals
          go_wp2_with (first
           | (go_at_call 137;(with_reducible refine (HT _).mono ?_);rintro e w1 ⟨rfl,hx1⟩;have HX1:=hid (HX.out.trans hx1);have HXR:=hid hx1;clear hx1))
          refine zac (.read 0 (.read 1 (.read 2 (.read 3 (.read 4 (.read 5 (.read 6 (.read 7 (.read 8 (.read 9 (.main 10 (.read 11 (.read 12 (.read 13 (.read 14 (.read 15 .done)))))))))))))))) (by kernel_rfl) (by kernel_rfl) ?_
          intro wD hxD
          have XE:Hid (Ext wD wD):=Ext.refl _
          have HXD:=hid (HX1.out.trans hxD)
          have p1:=zaa (zaa e1 _ (HXR.out.trans hxD))
          have p2:=zaa (zaa e2 _ (HXR.out.trans hxD))
          skip
          repeat' ((first
           |refine zaf rfl rfl ?_
           |refine zad rfl rfl ?_
           |refine zai rfl rfl ?_
           |refine zab rfl rfl ?_
           |(refine zae (v:=?_) rfl rfl (fun w' hE=>?_) ?_;rotate_left 1;(· ((try(have hEx:=Ext.trans (Hid.out XE) hE));go_simp;(try go_bits);with_reducible rfl)))
           |refine walks_alt ?_ ?_
           | (refine zah rfl rfl (fun K hK=>?_);go_wp2_with ((go_at_call 135;(with_reducible refine (HNA _ (HG.out.ext (HXD.out.trans XE.out))).mono ?_);rintro e w2 ⟨rfl,hx2⟩;replace XE:=hid (Ext.trans (Hid.out XE) hx2)));refine hK _ _ (by first | assumption | exact Ext.alloc _ _ | exact Ext.refl _) ?_;clear hK K));try simp only [Act.put,Act.eval,evs])
          refine zag ?_
          have q1:=p1 _ XE.out
          clear p1 p2
          skip
          go_wp2
          go_ret
          exact⟨by rw[HE.out,HF.out];rfl,HXD.out.trans XE.out⟩
        |true=>
         have e3:(ne != 0)=false:=by rw[hne,hnb];rfl
         have HAV1:Hid (zbV x=true):=by show _=_;rw[HAV.out,hnb,decide_eq_true rfl];rcases hk with h|h<;>simp[h]
         clear hnb hne HNE HAV hk
         have HF:Hid (za5 (zhW l (j+1)) (l.drop (j+1))=za5 [] l):=by show _=_;rw[HST.out,HAV1.out,HL1.out,HLT.out,zry (zsS HAV1.out)];rfl
         clear HST
         rcases hk2 with k1|⟨k1,k2⟩
         all_goals
          go_wp2_with (first
           | (go_at_call 137;(with_reducible refine (HT _).mono ?_);rintro e w1 ⟨rfl,hx1⟩;have HX1:=hid (HX.out.trans hx1);have HXR:=hid hx1;clear hx1))
          refine zac (.read 0 (.read 1 (.read 2 (.read 3 (.read 4 (.read 5 (.read 6 (.read 7 (.read 8 (.read 9 (.main 10 (.read 11 (.read 12 (.read 13 (.read 14 (.read 15 .done)))))))))))))))) (by kernel_rfl) (by kernel_rfl) ?_
          intro wD hxD
          have XE:Hid (Ext wD wD):=Ext.refl _
          have HXD:=hid (HX1.out.trans hxD)
          have p1:=zaa (zaa e1 _ (HXR.out.trans hxD))
          have p2:=zaa (zaa e2 _ (HXR.out.trans hxD))
          skip
          repeat' ((first
           |refine zaf rfl rfl ?_
           |refine zad rfl rfl ?_
           |refine zai rfl rfl ?_
           |refine zab rfl rfl ?_
           |(refine zae (v:=?_) rfl rfl (fun w' hE=>?_) ?_;rotate_left 1;(· ((try(have hEx:=Ext.trans (Hid.out XE) hE));go_simp;(try go_bits);with_reducible rfl)))
           |refine walks_alt ?_ ?_
           | (refine zah rfl rfl (fun K hK=>?_);go_wp2_with ((go_at_call 135;(with_reducible refine (HNA _ (HG.out.ext (HXD.out.trans XE.out))).mono ?_);rintro e w2 ⟨rfl,hx2⟩;replace XE:=hid (Ext.trans (Hid.out XE) hx2)));refine hK _ _ (by first | assumption | exact Ext.alloc _ _ | exact Ext.refl _) ?_;clear hK K));try simp only [Act.put,Act.eval,evs])
          refine zag ?_
          have q1:=p1 _ XE.out
          clear p1 p2
          skip
          go_wp2
          exact⟨⟨j+1,by omega,by go_num,HF,HXD.out.trans XE.out⟩,by simp[intOf];omega⟩
       ·have hk1:((k:Int) != 1)=true:=by rw[bne_iff_ne];omega
        have hk2:((k:Int) != 3)=true:=by rw[bne_iff_ne];omega
        have HF:Hid (za5 [] l=false):=by
         show _=_
         rw[HST.out,HAV.out,decide_eq_false (show ¬k=1 by omega),decide_eq_false (show ¬k=3 by omega)]
         simp
        clear hk HNE HAV HST
        go_wp2_with (first
         | (go_at_call 137;(with_reducible refine (HT _).mono ?_);rintro e w1 ⟨rfl,hx1⟩;have HX1:=hid (HX.out.trans hx1);have HXR:=hid hx1;clear hx1))
        refine zac (.read 0 (.read 1 (.read 2 (.read 3 (.read 4 (.read 5 (.read 6 (.read 7 (.read 8 (.read 9 (.main 10 (.read 11 (.read 12 (.read 13 (.read 14 (.read 15 .done)))))))))))))))) (by kernel_rfl) (by kernel_rfl) ?_
        intro wD hxD
        have XE:Hid (Ext wD wD):=Ext.refl _
        have HXD:=hid (HX1.out.trans hxD)
        have p1:=zaa (zaa e1 _ (HXR.out.trans hxD))
        have p2:=zaa (zaa e2 _ (HXR.out.trans hxD))
        skip
        repeat' ((first
         |refine zaf rfl rfl ?_
         |refine zad rfl rfl ?_
         |refine zai rfl rfl ?_
         |refine zab rfl rfl ?_
         |(refine zae (v:=?_) rfl rfl (fun w' hE=>?_) ?_;rotate_left 1;(· ((try(have hEx:=Ext.trans (Hid.out XE) hE));go_simp;(try go_bits);with_reducible rfl)))
         |refine walks_alt ?_ ?_
         | (refine zah rfl rfl (fun K hK=>?_);go_wp2_with ((go_at_call 135;(with_reducible refine (HNA _ (HG.out.ext (HXD.out.trans XE.out))).mono ?_);rintro e w2 ⟨rfl,hx2⟩;replace XE:=hid (Ext.trans (Hid.out XE) hx2)));refine hK _ _ (by first | assumption | exact Ext.alloc _ _ | exact Ext.refl _) ?_;clear hK K));try simp only [Act.put,Act.eval,evs])
        refine zag ?_
        have q1:=p1 _ XE.out
        clear p1 p2
        skip
        go_wp2
        go_ret
        exact⟨by rw[HE.out,HF.out];rfl,HXD.out.trans XE.out⟩
      ·have te:(t==x.type)=false:=by rw[beq_eq_false_iff_ne];exact ht
       have HF:Hid (za5 [] l=false):=by show _=_;rw[HST.out,HAV.out,decide_eq_false ht];simp
       clear ht HNE HAV HST
       go_wp2_with (first
        | (go_at_call 137;(with_reducible refine (HT _).mono ?_);rintro e w1 ⟨rfl,hx1⟩;have HX1:=hid (HX.out.trans hx1);have HXR:=hid hx1;clear hx1))
       refine zac (.read 0 (.read 1 (.read 2 (.read 3 (.read 4 (.read 5 (.read 6 (.read 7 (.read 8 (.read 9 (.main 10 (.read 11 (.read 12 (.read 13 (.read 14 (.read 15 .done)))))))))))))))) (by kernel_rfl) (by kernel_rfl) ?_
       intro wD hxD
       have XE:Hid (Ext wD wD):=Ext.refl _
       have HXD:=hid (HX1.out.trans hxD)
       have p1:=zaa (zaa e1 _ (HXR.out.trans hxD))
       have p2:=zaa (zaa e2 _ (HXR.out.trans hxD))
       skip
       repeat' ((first
        |refine zaf rfl rfl ?_
        |refine zad rfl rfl ?_
        |refine zai rfl rfl ?_
        |refine zab rfl rfl ?_
        |(refine zae (v:=?_) rfl rfl (fun w' hE=>?_) ?_;rotate_left 1;(· ((try(have hEx:=Ext.trans (Hid.out XE) hE));go_simp;(try go_bits);with_reducible rfl)))
        |refine walks_alt ?_ ?_
        | (refine zah rfl rfl (fun K hK=>?_);go_wp2_with ((go_at_call 135;(with_reducible refine (HNA _ (HG.out.ext (HXD.out.trans XE.out))).mono ?_);rintro e w2 ⟨rfl,hx2⟩;replace XE:=hid (Ext.trans (Hid.out XE) hx2)));refine hK _ _ (by first | assumption | exact Ext.alloc _ _ | exact Ext.refl _) ?_;clear hK K));try simp only [Act.put,Act.eval,evs])
       refine zag ?_
       have q1:=p1 _ XE.out
       clear p1 p2
       skip
       go_wp2
       go_ret
       exact⟨by rw[HE.out,HF.out];rfl,HXD.out.trans XE.out⟩
     ·have tj:0<(j:Int):=by omega
      obtain⟨b',o',y,hA,hy,e0,-⟩:=zgj (HR.out.ext HX.out) (show j-1<n by omega)
      injection hA with hA
      injection hA with hA1 hA2
      subst hA1 hA2
      have z1:((j:Int)-1).toNat=j-1:=by omega
      have z2:0≤(j:Int)-1:=by omega
      have z3:(j:Int)-1<(n:Int):=by omega
      have HLT:Hid (zhW l j=y.type):=by show _=_;unfold zhW;rw[if_neg hj0,hy];rfl
      clear hj0 hx hy
      by_cases ht:t=x.type
      ·subst ht
       have te:(x.type==x.type)=true:=beq_self_eq_true _
       by_cases hk:k=1∨k=3
       ·have hne:=HNE.out hk
        have hk2:((k:Int) != 1)=false∨(((k:Int) != 1)=true∧((k:Int) != 3)=false):=by
         rcases hk with h|h
         ·left;rw[h];rfl
         ·right;rw[h];exact⟨rfl,rfl⟩
        cases hnb:(zcs k x.val).isSome with
        |false=>
         have e3:(ne != 0)=true:=by rw[hne,hnb];rfl
         have HF:Hid (za5 [] l=false):=by show _=_;rw[HST.out,HAV.out,hnb,Bool.and_false,Bool.false_and,Bool.false_and]
         clear hnb hne HNE HAV HST hk
         rcases hk2 with k1|⟨k1,k2⟩
         all_goals
          go_wp2_with (first
           | (go_at_call 137;(with_reducible refine (HT _).mono ?_);rintro e w1 ⟨rfl,hx1⟩;have HX1:=hid (HX.out.trans hx1);have HXR:=hid hx1;clear hx1))
          refine zac (.read 0 (.read 1 (.read 2 (.read 3 (.read 4 (.read 5 (.read 6 (.read 7 (.read 8 (.read 9 (.main 10 (.read 11 (.read 12 (.read 13 (.read 14 (.read 15 .done)))))))))))))))) (by kernel_rfl) (by kernel_rfl) ?_
          intro wD hxD
          have XE:Hid (Ext wD wD):=Ext.refl _
          have HXD:=hid (HX1.out.trans hxD)
          have p1:=zaa (zaa e1 _ (HXR.out.trans hxD))
          have p2:=zaa (zaa e2 _ (HXR.out.trans hxD))
          skip
          repeat' ((first
           |refine zaf rfl rfl ?_
           |refine zad rfl rfl ?_
           |refine zai rfl rfl ?_
           |refine zab rfl rfl ?_
           |(refine zae (v:=?_) rfl rfl (fun w' hE=>?_) ?_;rotate_left 1;(· ((try(have hEx:=Ext.trans (Hid.out XE) hE));go_simp;(try go_bits);with_reducible rfl)))
           |refine walks_alt ?_ ?_
           | (refine zah rfl rfl (fun K hK=>?_);go_wp2_with ((go_at_call 135;(with_reducible refine (HNA _ (HG.out.ext (HXD.out.trans XE.out))).mono ?_);rintro e w2 ⟨rfl,hx2⟩;replace XE:=hid (Ext.trans (Hid.out XE) hx2)));refine hK _ _ (by first | assumption | exact Ext.alloc _ _ | exact Ext.refl _) ?_;clear hK K));try simp only [Act.put,Act.eval,evs])
          refine zag ?_
          have q1:=p1 _ XE.out
          clear p1 p2
          have q0:=(zaa (zaa e0 _ (HXR.out.trans hxD))) _ XE.out
          go_wp2
          go_ret
          exact⟨by rw[HE.out,HF.out];rfl,HXD.out.trans XE.out⟩
        |true=>
         have e3:(ne != 0)=false:=by rw[hne,hnb];rfl
         have HAV1:Hid (zbV x=true):=by show _=_;rw[HAV.out,hnb,decide_eq_true rfl];rcases hk with h|h<;>simp[h]
         clear hnb hne HNE HAV hk
         cases hlt2:ltB y.type x.type with
         |false=>
          have q9:=zpP hlt2
          have HF:Hid (za5 [] l=false):=by show _=_;rw[HST.out,HLT.out,hlt2,Bool.and_false,Bool.false_and]
          clear hlt2 HST
          rcases hk2 with k1|⟨k1,k2⟩
          all_goals
           go_wp2_with (first
            | (go_at_call 137;(with_reducible refine (HT _).mono ?_);rintro e w1 ⟨rfl,hx1⟩;have HX1:=hid (HX.out.trans hx1);have HXR:=hid hx1;clear hx1))
           refine zac (.read 0 (.read 1 (.read 2 (.read 3 (.read 4 (.read 5 (.read 6 (.read 7 (.read 8 (.read 9 (.main 10 (.read 11 (.read 12 (.read 13 (.read 14 (.read 15 .done)))))))))))))))) (by kernel_rfl) (by kernel_rfl) ?_
           intro wD hxD
           have XE:Hid (Ext wD wD):=Ext.refl _
           have HXD:=hid (HX1.out.trans hxD)
           have p1:=zaa (zaa e1 _ (HXR.out.trans hxD))
           have p2:=zaa (zaa e2 _ (HXR.out.trans hxD))
           skip
           repeat' ((first
            |refine zaf rfl rfl ?_
            |refine zad rfl rfl ?_
            |refine zai rfl rfl ?_
            |refine zab rfl rfl ?_
            |(refine zae (v:=?_) rfl rfl (fun w' hE=>?_) ?_;rotate_left 1;(· ((try(have hEx:=Ext.trans (Hid.out XE) hE));go_simp;(try go_bits);with_reducible rfl)))
            |refine walks_alt ?_ ?_
            | (refine zah rfl rfl (fun K hK=>?_);go_wp2_with ((go_at_call 135;(with_reducible refine (HNA _ (HG.out.ext (HXD.out.trans XE.out))).mono ?_);rintro e w2 ⟨rfl,hx2⟩;replace XE:=hid (Ext.trans (Hid.out XE) hx2)));refine hK _ _ (by first | assumption | exact Ext.alloc _ _ | exact Ext.refl _) ?_;clear hK K));try simp only [Act.put,Act.eval,evs])
           refine zag ?_
           have q1:=p1 _ XE.out
           clear p1 p2
           have q0:=(zaa (zaa e0 _ (HXR.out.trans hxD))) _ XE.out
           go_wp2
           go_ret
           exact⟨by rw[HE.out,HF.out];rfl,HXD.out.trans XE.out⟩
         |true=>
          have q9:=zrr hlt2
          have HF:Hid (za5 (zhW l (j+1)) (l.drop (j+1))=za5 [] l):=by show _=_;rw[HST.out,HAV1.out,HL1.out,HLT.out,hlt2];rfl
          clear hlt2 HST
          rcases hk2 with k1|⟨k1,k2⟩
          all_goals
           go_wp2_with (first
            | (go_at_call 137;(with_reducible refine (HT _).mono ?_);rintro e w1 ⟨rfl,hx1⟩;have HX1:=hid (HX.out.trans hx1);have HXR:=hid hx1;clear hx1))
           refine zac (.read 0 (.read 1 (.read 2 (.read 3 (.read 4 (.read 5 (.read 6 (.read 7 (.read 8 (.read 9 (.main 10 (.read 11 (.read 12 (.read 13 (.read 14 (.read 15 .done)))))))))))))))) (by kernel_rfl) (by kernel_rfl) ?_
           intro wD hxD
           have XE:Hid (Ext wD wD):=Ext.refl _
           have HXD:=hid (HX1.out.trans hxD)
           have p1:=zaa (zaa e1 _ (HXR.out.trans hxD))
           have p2:=zaa (zaa e2 _ (HXR.out.trans hxD))
           skip
           repeat' ((first
            |refine zaf rfl rfl ?_
            |refine zad rfl rfl ?_
            |refine zai rfl rfl ?_
            |refine zab rfl rfl ?_
            |(refine zae (v:=?_) rfl rfl (fun w' hE=>?_) ?_;rotate_left 1;(· ((try(have hEx:=Ext.trans (Hid.out XE) hE));go_simp;(try go_bits);with_reducible rfl)))
            |refine walks_alt ?_ ?_
            | (refine zah rfl rfl (fun K hK=>?_);go_wp2_with ((go_at_call 135;(with_reducible refine (HNA _ (HG.out.ext (HXD.out.trans XE.out))).mono ?_);rintro e w2 ⟨rfl,hx2⟩;replace XE:=hid (Ext.trans (Hid.out XE) hx2)));refine hK _ _ (by first | assumption | exact Ext.alloc _ _ | exact Ext.refl _) ?_;clear hK K));try simp only [Act.put,Act.eval,evs])
           refine zag ?_
           have q1:=p1 _ XE.out
           clear p1 p2
           have q0:=(zaa (zaa e0 _ (HXR.out.trans hxD))) _ XE.out
           go_wp2
           exact⟨⟨j+1,by omega,by go_num,HF,HXD.out.trans XE.out⟩,by simp[intOf];omega⟩
       ·have hk1:((k:Int) != 1)=true:=by rw[bne_iff_ne];omega
        have hk2:((k:Int) != 3)=true:=by rw[bne_iff_ne];omega
        have HF:Hid (za5 [] l=false):=by
         show _=_
         rw[HST.out,HAV.out,decide_eq_false (show ¬k=1 by omega),decide_eq_false (show ¬k=3 by omega)]
         simp
        clear hk HNE HAV HST
        go_wp2_with (first
         | (go_at_call 137;(with_reducible refine (HT _).mono ?_);rintro e w1 ⟨rfl,hx1⟩;have HX1:=hid (HX.out.trans hx1);have HXR:=hid hx1;clear hx1))
        refine zac (.read 0 (.read 1 (.read 2 (.read 3 (.read 4 (.read 5 (.read 6 (.read 7 (.read 8 (.read 9 (.main 10 (.read 11 (.read 12 (.read 13 (.read 14 (.read 15 .done)))))))))))))))) (by kernel_rfl) (by kernel_rfl) ?_
        intro wD hxD
        have XE:Hid (Ext wD wD):=Ext.refl _
        have HXD:=hid (HX1.out.trans hxD)
        have p1:=zaa (zaa e1 _ (HXR.out.trans hxD))
        have p2:=zaa (zaa e2 _ (HXR.out.trans hxD))
        skip
        repeat' ((first
         |refine zaf rfl rfl ?_
         |refine zad rfl rfl ?_
         |refine zai rfl rfl ?_
         |refine zab rfl rfl ?_
         |(refine zae (v:=?_) rfl rfl (fun w' hE=>?_) ?_;rotate_left 1;(· ((try(have hEx:=Ext.trans (Hid.out XE) hE));go_simp;(try go_bits);with_reducible rfl)))
         |refine walks_alt ?_ ?_
         | (refine zah rfl rfl (fun K hK=>?_);go_wp2_with ((go_at_call 135;(with_reducible refine (HNA _ (HG.out.ext (HXD.out.trans XE.out))).mono ?_);rintro e w2 ⟨rfl,hx2⟩;replace XE:=hid (Ext.trans (Hid.out XE) hx2)));refine hK _ _ (by first | assumption | exact Ext.alloc _ _ | exact Ext.refl _) ?_;clear hK K));try simp only [Act.put,Act.eval,evs])
        refine zag ?_
        have q1:=p1 _ XE.out
        clear p1 p2
        have q0:=(zaa (zaa e0 _ (HXR.out.trans hxD))) _ XE.out
        go_wp2
        go_ret
        exact⟨by rw[HE.out,HF.out];rfl,HXD.out.trans XE.out⟩
      ·have te:(t==x.type)=false:=by rw[beq_eq_false_iff_ne];exact ht
       have HF:Hid (za5 [] l=false):=by show _=_;rw[HST.out,HAV.out,decide_eq_false ht];simp
       clear ht HNE HAV HST
       go_wp2_with (first
        | (go_at_call 137;(with_reducible refine (HT _).mono ?_);rintro e w1 ⟨rfl,hx1⟩;have HX1:=hid (HX.out.trans hx1);have HXR:=hid hx1;clear hx1))
       refine zac (.read 0 (.read 1 (.read 2 (.read 3 (.read 4 (.read 5 (.read 6 (.read 7 (.read 8 (.read 9 (.main 10 (.read 11 (.read 12 (.read 13 (.read 14 (.read 15 .done)))))))))))))))) (by kernel_rfl) (by kernel_rfl) ?_
       intro wD hxD
       have XE:Hid (Ext wD wD):=Ext.refl _
       have HXD:=hid (HX1.out.trans hxD)
       have p1:=zaa (zaa e1 _ (HXR.out.trans hxD))
       have p2:=zaa (zaa e2 _ (HXR.out.trans hxD))
       skip
       repeat' ((first
        |refine zaf rfl rfl ?_
        |refine zad rfl rfl ?_
        |refine zai rfl rfl ?_
        |refine zab rfl rfl ?_
        |(refine zae (v:=?_) rfl rfl (fun w' hE=>?_) ?_;rotate_left 1;(· ((try(have hEx:=Ext.trans (Hid.out XE) hE));go_simp;(try go_bits);with_reducible rfl)))
        |refine walks_alt ?_ ?_
        | (refine zah rfl rfl (fun K hK=>?_);go_wp2_with ((go_at_call 135;(with_reducible refine (HNA _ (HG.out.ext (HXD.out.trans XE.out))).mono ?_);rintro e w2 ⟨rfl,hx2⟩;replace XE:=hid (Ext.trans (Hid.out XE) hx2)));refine hK _ _ (by first | assumption | exact Ext.alloc _ _ | exact Ext.refl _) ?_;clear hK K));try simp only [Act.put,Act.eval,evs])
       refine zag ?_
       have q1:=p1 _ XE.out
       clear p1 p2
       have q0:=(zaa (zaa e0 _ (HXR.out.trans hxD))) _ XE.out
       go_wp2
       go_ret
       exact⟨by rw[HE.out,HF.out];rfl,HXD.out.trans XE.out⟩
    ·obtain rfl:j=n:=by omega
     have HF:Hid (za5 [] l=true):=by show _=_;rw[←HO.out,List.drop_of_length_le (Nat.le_of_eq HR.out.len.symm)];rfl
     go_wp2
     go_ret
     exact⟨by rw[HE.out,HF.out];rfl,HX.out⟩
end Go.Proofs.YtkjbokhnpphimaaGreatDoor
