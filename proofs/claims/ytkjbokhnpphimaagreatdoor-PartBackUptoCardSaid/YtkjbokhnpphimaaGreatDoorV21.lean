/- Lemmas of the walk. -/
import Derived.Test.YtkjbokhnpphimaaGreatDoorV16
set_option maxHeartbeats 40000000
set_option linter.unusedVariables false
set_option linter.unusedSimpArgs false
namespace Go.Proofs.YtkjbokhnpphimaaGreatDoor
open Go.RowKit
set_option maxRecDepth 100000
theorem zpa(s:ByteArray)(w:World)(hs:s.size≤4000000):Calls Tryz.prog 178 #[.string s] w (zfS w (za2 (bys s))):=by
 have Hs:=hid hs
 by_cases hz:s.size=0
 ·have e1:=zdf hz
  have HV:Hid (za2 (bys s)=readF [] (bys s)):=by rw[zb3 hz];rfl
  clear hz
  go_enter Tryz.func178,Tryz.ntmps178
  go_wp2
  go_loopw [5] (fun i wr=>∃(j:Nat) (acc:List UInt8),j≤s.size∧i=.int .i64 j∧acc.length≤j∧Hid (IsB w.heap.size w.heap.size acc wr)∧Hid (readF acc ((bys s).drop j)=readF [] (bys s))∧Hid (Below w.heap.size w wr)) (fun i _=>s.size-(intOf i).toNat)
  case atStart=>exact⟨0,[],by omega,rfl,by simp,zk8 w,by simp[Hid],Ext.alloc _ _⟩
  case round=>
   obtain⟨j,acc,hj,rfl,hacc,HI,HR,HX⟩:=hrel
   by_cases hlt:j<s.size
   ·obtain⟨x,hx⟩:=zcm hlt
    have gx:=zaV hx hlt
    have hd:=hid (zcO hx)
    clear hx
    by_cases h92:x=92
    ·have t92:((x.toNat:Int) != 92)=false:=by rw[h92];rfl
     by_cases hl1:j+1<s.size
     ·have hl1':(j:Int)+1<(s.size:Int):=by omega
      obtain⟨y,hy⟩:=zcm hl1
      have gy:=zaV hy hl1
      have hd1:=zcO hy
      clear hy
      cases hsp:zhV y with
      |true=>
       have HM:=hid ((zfp y).1 hsp)
       have HH:Hid (readF (acc++[y]) ((bys s).drop (j+1+1))=readF [] (bys s)):=by show _=_;rw[←HR.out,hd.out,hd1,h92,zfL hsp]
       clear h92 hsp hd1
       go_wp2_with (first
        |(go_at_call 182;(with_reducible refine(zbY _ _ y (zbr _) _ HM.out).mono ?_);rintro e w4 ⟨⟨i,rfl⟩,rfl⟩;have hi0:0≤(i:Int):=by omega)
        | (go_at_call 149;(with_reducible refine (zbX y HI.out (by omega)).mono ?_);rintro e w5 ⟨rfl,hi5,hx5⟩;have HI5:=hid hi5;have HX5:=hid hx5;clear hi5 hx5))
       exact⟨⟨j+2,acc++[y],by omega,by go_num,by simp;omega,HI5,HH,Below.trans HX.out HX5.out⟩,by simp[intOf];omega⟩
      |false=>
       have HM:Hid (y ∉ ([44,43,34,92,60,62,59,35,61,32]:List UInt8)):=fun h=>by have:=(zfp y).2 h;rw[hsp] at this;cases this
       by_cases hl2:j+2<s.size
       ·have hl2':(j:Int)+2<(s.size:Int):=by omega
        obtain⟨z,hz⟩:=zcm hl2
        have gz:=zaV hz hl2
        have hd2:=zcO hz
        clear hz
        have hH:=zgQ (acc:=acc) (t:=(bys s).drop (j+2+1)) (d:=y) (e:=z) hsp
        by_cases hy0:hexZ y<0
        ·have HF:Hid (readF [] (bys s)=none):=by show _=_;rw[←HR.out,hd.out,hd1,hd2,h92,hH,zem hy0]
         clear h92 hsp hd1 hd2 hH
         go_wp2_with (first
          |(go_at_call 182;(with_reducible refine(zaP _ _ y (zbr _) _ HM.out).mono ?_);rintro e w4 ⟨rfl,rfl⟩)
          | (go_at_call 203;(with_reducible refine (zbn y _).mono ?_);rintro e w5 ⟨rfl,hx5⟩;have HX5:=hid hx5;clear hx5))
         go_ret2
         exact⟨by rw[HV.out,HF.out];rfl,Below.trans HX.out (Below.mono HX5.out HI.out.le)⟩
        ·obtain⟨a,ha1,ha2,ha3⟩:=zeB hy0
         by_cases hz0:hexZ z<0
         ·have HF:Hid (readF [] (bys s)=none):=by show _=_;rw[←HR.out,hd.out,hd1,hd2,h92,hH,ha1,zem hz0]
          clear h92 hsp hd1 hd2 hH ha1 ha2 ha3
          go_wp2_with (first
           |(go_at_call 182;(with_reducible refine(zaP _ _ y (zbr _) _ HM.out).mono ?_);rintro e w4 ⟨rfl,rfl⟩)
           |(go_at_call 203;(with_reducible refine(zbn y _).mono ?_);rintro e w5 ⟨rfl,hx5⟩;have HX5:=hid hx5;clear hx5)
           | (go_at_call 203;(with_reducible refine (zbn z _).mono ?_);rintro e w6 ⟨rfl,hx6⟩;have HX6:=hid hx6;clear hx6))
          go_ret2
          exact⟨by rw[HV.out,HF.out];rfl,Below.trans HX.out (Below.mono (HX5.out.trans HX6.out) HI.out.le)⟩
         ·obtain⟨b,hb1,hb2,hb3⟩:=zeB hz0
          have HH:Hid (readF (acc++[UInt8.ofNat (16 * a+b)]) ((bys s).drop (j+2+1))=readF [] (bys s)):=by show _=_;rw[←HR.out,hd.out,hd1,hd2,h92,hH,ha1,hb1]
          have HA:=hid ha2
          have HB:=hid hb2
          obtain⟨q,hq⟩:∃q,q=UInt8.ofNat (16 * a+b):=⟨_,rfl⟩
          rw[←hq] at HH
          have hov:bits BinOp.or IntKind.i64 ((a:Int) * 16) (b:Int) % 256=(q.toNat:Int):=by
           have h1:=zro a ha3 b hb3
           rw[Int.natCast_mul,Int.mul_comm] at h1
           have h2:(((16:Nat):Int))=16:=rfl
           rw[h2] at h1
           rw[h1,hq,UInt8.toNat_ofNat']
           omega
          clear hq
          have ta:¬(a:Int)<0:=by omega
          have tb:¬(b:Int)<0:=by omega
          clear h92 hsp hd1 hd2 hH ha1 hb1 hy0 hz0 ha2 hb2
          go_wp2_with (first
           |(go_at_call 182;(with_reducible refine(zaP _ _ y (zbr _) _ HM.out).mono ?_);rintro e w4 ⟨rfl,rfl⟩)
           |(go_at_call 203;(with_reducible refine(zbn y _).mono ?_);rintro e w5 ⟨he5,hx5⟩;rw[HA.out] at he5;subst he5;have HX5:=hid hx5;clear hx5)
           | (go_at_call 203;(with_reducible refine (zbn z _).mono ?_);rintro e w6 ⟨he6,hx6⟩;rw [HB.out] at he6;subst he6;have HX6:=hid hx6;clear hx6))
          have HI6:=hid (HI.out.ext (HX5.out.trans HX6.out))
          have HX0:=hid (Below.trans HX.out (Below.mono (HX5.out.trans HX6.out) HI.out.le))
          refine zap w.heap.size (.read 0 (.read 1 (.read 2 (.read 3 (.read 6 (.read 7 (.read 8 (.read 9 (.main 4 (.read 5 (.main 10 (.read 11 (.read 12 (.main 13 .done)))))))))))))) (by kernel_rfl) (by kernel_rfl) ?_
          intro wD hxD
          have XB:Hid (Below w.heap.size wD wD):=Below.refl _ _
          have HID:=hid (HI6.out.ext hxD)
          have HXD:=hid (Below.trans HX0.out (Below.mono hxD HI6.out.le))
          have hle:=hid HID.out.le
          have p1:0≤(j:Int)+1:=by omega
          have p2:0≤(j:Int)+2:=by omega
          repeat' ((first
           |refine zaF rfl rfl ?_
           |refine zaw rfl rfl ?_
           |refine walksB_skip rfl rfl ?_
           |refine walksB_unwanted rfl rfl ?_
           |(refine zaC (v:=?_) rfl rfl (fun w' hE=>?_) ?_;rotate_left 1;(· ((try(have hEx:=Below.trans (Hid.out XB) hE));go_simp;(try go_bits);with_reducible rfl)))
           |refine zaL ?_ ?_
           | (refine zam rfl rfl (fun K hK=>?_);go_wp2_with (first | (go_at_call 203;(with_reducible refine (zbn y _).mono ?_);rintro e w7 ⟨he7,hx7⟩;rw [HA.out] at he7;subst he7;have hx7':=Below.mono hx7 (Nat.le_trans hle.out (Below.size XB.out));have HID':=hid (HID.out.ext hx7);clear HID hx7;have HID:=HID';clear HID';replace XB:=hid (Below.trans (Hid.out XB) (hx7'))) | (go_at_call 203;(with_reducible refine (zbn z _).mono ?_);rintro e w8 ⟨he8,hx8⟩;rw [HB.out] at he8;subst he8;have hx8':=Below.mono hx8 (Nat.le_trans hle.out (Below.size XB.out));have HID':=hid (HID.out.ext hx8);clear HID hx8;have HID:=HID';clear HID';replace XB:=hid (Below.trans (Hid.out XB) (hx8'))) | (go_at_call 149;(with_reducible refine (zbX q HID.out (by omega)).mono ?_);rintro e w9 ⟨rfl,hi9,hx9⟩;have HI9:=hid hi9;clear hi9;replace XB:=hid (Below.trans (Hid.out XB) (hx9))));refine hK _ _ (by first | assumption | exact Below.refl _ _ | exact Below.mono (Ext.alloc _ _) (Hid.out HSW) | exact Below.setCell (p:=⟨_,_,_⟩) (Below.refl _ _) (Nat.le_refl _) _) ?_;clear hK K));try simp only [Act.put,Act.eval,evs])
          refine zaG ?_
          go_wp2
          exact⟨⟨j+3,acc++[q],by omega,by go_num,by simp;omega,HI9,HH,Below.trans HXD.out XB.out⟩,by simp[intOf];omega⟩
       ·have hl2':¬(j:Int)+2<(s.size:Int):=by omega
        have HF:Hid (readF [] (bys s)=none):=by show _=_;rw[←HR.out,hd.out,hd1,h92,show(bys s).drop (j+1+1)=[] from zbP (by omega),zfV hsp]
        clear h92 hsp hd1
        go_wp2_with (first
         | (go_at_call 182;(with_reducible refine (zaP _ _ y (zbr _) _ HM.out).mono ?_);rintro e w4 ⟨rfl,rfl⟩))
        go_ret2
        exact⟨by rw[HV.out,HF.out];rfl,HX.out⟩
     ·have hl1':¬(j:Int)+1<(s.size:Int):=by omega
      have hl2':¬(j:Int)+2<(s.size:Int):=by omega
      have HF:Hid (readF [] (bys s)=none):=by show _=_;rw[←HR.out,hd.out,h92,show(bys s).drop (j+1)=[] from zbP (by omega),zg2]
      clear h92
      go_wp2
      go_ret2
      exact⟨by rw[HV.out,HF.out];rfl,HX.out⟩
    ·have t92:((x.toNat:Int) != 92)=true:=by
      have h:((x.toNat:Int)==92)=false:=zav (k:=92) h92
      rw[bne,h];rfl
     have hP:=zeV (acc:=acc) (t:=(bys s).drop (j+1)) h92
     by_cases h0:x=0
     ·have t0:((x.toNat:Int)==0)=true:=za0 (k:=0) (by decide) h0
      have HF:Hid (readF [] (bys s)=none):=by show _=_;rw[←HR.out,hd.out,hP,if_pos (by rw[h0];rfl)]
      clear h92 h0 hP
      go_wp2
      go_ret2
      exact⟨by rw[HV.out,HF.out];rfl,HX.out⟩
     ·have t0:((x.toNat:Int)==0)=false:=zav (k:=0) h0
      cases hsp:zbq x with
      |true=>
       have HM:=hid ((zex x).1 hsp)
       have HF:Hid (readF [] (bys s)=none):=by show _=_;rw[←HR.out,hd.out,hP,if_pos (by rw[hsp];simp)]
       clear h92 h0 hP hsp
       go_wp2_with (first
        | (go_at_call 182;(with_reducible refine (zbY _ _ x (zbr _) _ HM.out).mono ?_);rintro e w4 ⟨⟨i,rfl⟩,rfl⟩;have hi0:0≤(i:Int):=by omega))
       go_ret2
       exact⟨by rw[HV.out,HF.out];rfl,HX.out⟩
      |false=>
       have HM:Hid (x ∉ ([44,43,34,92,60,62,59]:List UInt8)):=fun h=>by have:=(zex x).2 h;rw[hsp] at this;cases this
       have hemp:((bys s).drop (j+1)).isEmpty=decide (j+1=s.size):=by
        rw[Bool.eq_iff_iff,List.isEmpty_iff,decide_eq_true_eq,List.drop_eq_nil_iff,zaj]
        omega
       by_cases h32:x=32∧j+1=s.size
       ·have t32:((x.toNat:Int)==32)=true:=za0 (k:=32) (by decide) h32.1
        have te:((j:Int)==(s.size:Int)-1)=true:=by rw[beq_iff_eq];omega
        have HF:Hid (readF [] (bys s)=none):=by show _=_;rw[←HR.out,hd.out,hP,if_pos (by rw[hemp,h32.1,decide_eq_true h32.2];rfl)]
        clear h92 h0 hP hsp hemp h32
        go_wp2_with (first
         | (go_at_call 182;(with_reducible refine (zaP _ _ x (zbr _) _ HM.out).mono ?_);rintro e w4 ⟨rfl,rfl⟩))
        go_ret2
        exact⟨by rw[HV.out,HF.out];rfl,HX.out⟩
       ·have HH:Hid (readF (acc++[x]) ((bys s).drop (j+1))=readF [] (bys s)):=by
         show _=_
         rw[←HR.out,hd.out,hP,if_neg]
         rw[hemp,hsp]
         simp[h0]
         exact fun e=>fun e2=>h32 ⟨e,e2⟩
        have t32:((x.toNat:Int)==32)=false∨(((x.toNat:Int)==32)=true∧((j:Int)==(s.size:Int)-1)=false):=by
         by_cases h3:x=32
         ·right
          refine⟨za0 (k:=32) (by decide) h3,?_⟩
          rw[beq_eq_false_iff_ne]
          intro e
          exact h32 ⟨h3,by omega⟩
         ·exact .inl (zav (k:=32) h3)
        clear h92 h0 hP hsp hemp h32
        rcases t32 with t32|⟨t32,te⟩
        all_goals
         go_wp2_with (first
          |(go_at_call 182;(with_reducible refine(zaP _ _ x (zbr _) _ HM.out).mono ?_);rintro e w4 ⟨rfl,rfl⟩)
          | (go_at_call 149;(with_reducible refine (zbX x HI.out (by omega)).mono ?_);rintro e w5 ⟨rfl,hi5,hx5⟩;have HI5:=hid hi5;have HX5:=hid hx5;clear hi5 hx5))
         exact⟨⟨j+1,acc++[x],by omega,by go_num,by simp;omega,HI5,HH,Below.trans HX.out HX5.out⟩,by simp[intOf];omega⟩
   ·obtain rfl:j=s.size:=by omega
    have HF:Hid (readF [] (bys s)=some acc):=by show _=_;rw[←HR.out,zbP (Nat.le_refl _)];rfl
    go_wp2_with(go_at_call 116;(with_reducible refine(zfZ HI.out).mono ?_);rintro e w4 ⟨rfl,hx4⟩;have HX4:=hid hx4;clear hx4)
    go_ret2
    exact⟨by rw[HV.out,HF.out];rfl,Below.trans HX.out HX4.out⟩
 ·have e1:=zfj hz
  have hsz:0<s.size:=by omega
  obtain⟨y,hy⟩:=zcm hsz
  have gy:=zaV hy hsz
  have hhd:(bys s).head?=some y:=by rw[List.head?_eq_getElem?,hy]
  clear hy
  by_cases h32:y=32
  ·have t32:((y.toNat:Int)==32)=true:=za0 (k:=32) (by decide) h32
   have HV:Hid (za2 (bys s)=none):=by show _=_;unfold za2;rw[hhd,h32,if_pos (.inl rfl)]
   clear hhd hz h32
   go_enter Tryz.func178,Tryz.ntmps178
   go_wp2
   go_ret2
   exact⟨by rw[HV.out];rfl,Ext.alloc _ _⟩
  ·have t32:((y.toNat:Int)==32)=false:=zav (k:=32) h32
   by_cases h35:y=35
   ·have t35:((y.toNat:Int)==35)=true:=za0 (k:=35) (by decide) h35
    have HV:Hid (za2 (bys s)=none):=by show _=_;unfold za2;rw[hhd,h35,if_pos (.inr rfl)]
    clear hhd hz h32 h35
    go_enter Tryz.func178,Tryz.ntmps178
    go_wp2
    go_ret2
    exact⟨by rw[HV.out];rfl,Ext.alloc _ _⟩
   ·have t35:((y.toNat:Int)==35)=false:=zav (k:=35) h35
    have HV:Hid (za2 (bys s)=readF [] (bys s)):=by
     show _=_
     unfold za2
     rw[hhd,if_neg]
     rintro(h|h)
     ·injection h with h;exact h32 h
     ·injection h with h;exact h35 h
    clear hhd hz h32 h35
    go_enter Tryz.func178,Tryz.ntmps178
    go_wp2
    go_wp2
    go_loopw [5] (fun i wr=>∃(j:Nat) (acc:List UInt8),j≤s.size∧i=.int .i64 j∧acc.length≤j∧Hid (IsB w.heap.size w.heap.size acc wr)∧Hid (readF acc ((bys s).drop j)=readF [] (bys s))∧Hid (Below w.heap.size w wr)) (fun i _=>s.size-(intOf i).toNat)
    case atStart=>exact⟨0,[],by omega,rfl,by simp,zk8 w,by simp[Hid],Ext.alloc _ _⟩
    case round=>
     obtain⟨j,acc,hj,rfl,hacc,HI,HR,HX⟩:=hrel
     by_cases hlt:j<s.size
     ·obtain⟨x,hx⟩:=zcm hlt
      have gx:=zaV hx hlt
      have hd:=hid (zcO hx)
      clear hx
      by_cases h92:x=92
      ·have t92:((x.toNat:Int) != 92)=false:=by rw[h92];rfl
       by_cases hl1:j+1<s.size
       ·have hl1':(j:Int)+1<(s.size:Int):=by omega
        obtain⟨y,hy⟩:=zcm hl1
        have gy:=zaV hy hl1
        have hd1:=zcO hy
        clear hy
        cases hsp:zhV y with
        |true=>
         have HM:=hid ((zfp y).1 hsp)
         have HH:Hid (readF (acc++[y]) ((bys s).drop (j+1+1))=readF [] (bys s)):=by show _=_;rw[←HR.out,hd.out,hd1,h92,zfL hsp]
         clear h92 hsp hd1
         go_wp2_with (first
          |(go_at_call 182;(with_reducible refine(zbY _ _ y (zbr _) _ HM.out).mono ?_);rintro e w4 ⟨⟨i,rfl⟩,rfl⟩;have hi0:0≤(i:Int):=by omega)
          | (go_at_call 149;(with_reducible refine (zbX y HI.out (by omega)).mono ?_);rintro e w5 ⟨rfl,hi5,hx5⟩;have HI5:=hid hi5;have HX5:=hid hx5;clear hi5 hx5))
         exact⟨⟨j+2,acc++[y],by omega,by go_num,by simp;omega,HI5,HH,Below.trans HX.out HX5.out⟩,by simp[intOf];omega⟩
        |false=>
         have HM:Hid (y ∉ ([44,43,34,92,60,62,59,35,61,32]:List UInt8)):=fun h=>by have:=(zfp y).2 h;rw[hsp] at this;cases this
         by_cases hl2:j+2<s.size
         ·have hl2':(j:Int)+2<(s.size:Int):=by omega
          obtain⟨z,hz⟩:=zcm hl2
          have gz:=zaV hz hl2
          have hd2:=zcO hz
          clear hz
          have hH:=zgQ (acc:=acc) (t:=(bys s).drop (j+2+1)) (d:=y) (e:=z) hsp
          by_cases hy0:hexZ y<0
          ·have HF:Hid (readF [] (bys s)=none):=by show _=_;rw[←HR.out,hd.out,hd1,hd2,h92,hH,zem hy0]
           clear h92 hsp hd1 hd2 hH
           go_wp2_with (first
            |(go_at_call 182;(with_reducible refine(zaP _ _ y (zbr _) _ HM.out).mono ?_);rintro e w4 ⟨rfl,rfl⟩)
            | (go_at_call 203;(with_reducible refine (zbn y _).mono ?_);rintro e w5 ⟨rfl,hx5⟩;have HX5:=hid hx5;clear hx5))
           go_ret2
           exact⟨by rw[HV.out,HF.out];rfl,Below.trans HX.out (Below.mono HX5.out HI.out.le)⟩
          ·obtain⟨a,ha1,ha2,ha3⟩:=zeB hy0
           by_cases hz0:hexZ z<0
           ·have HF:Hid (readF [] (bys s)=none):=by show _=_;rw[←HR.out,hd.out,hd1,hd2,h92,hH,ha1,zem hz0]
            clear h92 hsp hd1 hd2 hH ha1 ha2 ha3
            go_wp2_with (first
             |(go_at_call 182;(with_reducible refine(zaP _ _ y (zbr _) _ HM.out).mono ?_);rintro e w4 ⟨rfl,rfl⟩)
             |(go_at_call 203;(with_reducible refine(zbn y _).mono ?_);rintro e w5 ⟨rfl,hx5⟩;have HX5:=hid hx5;clear hx5)
             | (go_at_call 203;(with_reducible refine (zbn z _).mono ?_);rintro e w6 ⟨rfl,hx6⟩;have HX6:=hid hx6;clear hx6))
            go_ret2
            exact⟨by rw[HV.out,HF.out];rfl,Below.trans HX.out (Below.mono (HX5.out.trans HX6.out) HI.out.le)⟩
           ·obtain⟨b,hb1,hb2,hb3⟩:=zeB hz0
            have HH:Hid (readF (acc++[UInt8.ofNat (16 * a+b)]) ((bys s).drop (j+2+1))=readF [] (bys s)):=by show _=_;rw[←HR.out,hd.out,hd1,hd2,h92,hH,ha1,hb1]
            have HA:=hid ha2
            have HB:=hid hb2
            obtain⟨q,hq⟩:∃q,q=UInt8.ofNat (16 * a+b):=⟨_,rfl⟩
            rw[←hq] at HH
            have hov:bits BinOp.or IntKind.i64 ((a:Int) * 16) (b:Int) % 256=(q.toNat:Int):=by
             have h1:=zro a ha3 b hb3
             rw[Int.natCast_mul,Int.mul_comm] at h1
             have h2:(((16:Nat):Int))=16:=rfl
             rw[h2] at h1
             rw[h1,hq,UInt8.toNat_ofNat']
             omega
            clear hq
            have ta:¬(a:Int)<0:=by omega
            have tb:¬(b:Int)<0:=by omega
            clear h92 hsp hd1 hd2 hH ha1 hb1 hy0 hz0 ha2 hb2
            go_wp2_with (first
             |(go_at_call 182;(with_reducible refine(zaP _ _ y (zbr _) _ HM.out).mono ?_);rintro e w4 ⟨rfl,rfl⟩)
             |(go_at_call 203;(with_reducible refine(zbn y _).mono ?_);rintro e w5 ⟨he5,hx5⟩;rw[HA.out] at he5;subst he5;have HX5:=hid hx5;clear hx5)
             | (go_at_call 203;(with_reducible refine (zbn z _).mono ?_);rintro e w6 ⟨he6,hx6⟩;rw [HB.out] at he6;subst he6;have HX6:=hid hx6;clear hx6))
            have HI6:=hid (HI.out.ext (HX5.out.trans HX6.out))
            have HX0:=hid (Below.trans HX.out (Below.mono (HX5.out.trans HX6.out) HI.out.le))
            refine zap w.heap.size (.read 0 (.read 1 (.read 2 (.read 3 (.read 6 (.read 7 (.read 8 (.read 9 (.main 4 (.read 5 (.main 10 (.read 11 (.read 12 (.main 13 .done)))))))))))))) (by kernel_rfl) (by kernel_rfl) ?_
            intro wD hxD
            have XB:Hid (Below w.heap.size wD wD):=Below.refl _ _
            have HID:=hid (HI6.out.ext hxD)
            have HXD:=hid (Below.trans HX0.out (Below.mono hxD HI6.out.le))
            have hle:=hid HID.out.le
            have p1:0≤(j:Int)+1:=by omega
            have p2:0≤(j:Int)+2:=by omega
            repeat' ((first
             |refine zaF rfl rfl ?_
             |refine zaw rfl rfl ?_
             |refine walksB_skip rfl rfl ?_
             |refine walksB_unwanted rfl rfl ?_
             |(refine zaC (v:=?_) rfl rfl (fun w' hE=>?_) ?_;rotate_left 1;(· ((try(have hEx:=Below.trans (Hid.out XB) hE));go_simp;(try go_bits);with_reducible rfl)))
             |refine zaL ?_ ?_
             | (refine zam rfl rfl (fun K hK=>?_);go_wp2_with (first | (go_at_call 203;(with_reducible refine (zbn y _).mono ?_);rintro e w7 ⟨he7,hx7⟩;rw [HA.out] at he7;subst he7;have hx7':=Below.mono hx7 (Nat.le_trans hle.out (Below.size XB.out));have HID':=hid (HID.out.ext hx7);clear HID hx7;have HID:=HID';clear HID';replace XB:=hid (Below.trans (Hid.out XB) (hx7'))) | (go_at_call 203;(with_reducible refine (zbn z _).mono ?_);rintro e w8 ⟨he8,hx8⟩;rw [HB.out] at he8;subst he8;have hx8':=Below.mono hx8 (Nat.le_trans hle.out (Below.size XB.out));have HID':=hid (HID.out.ext hx8);clear HID hx8;have HID:=HID';clear HID';replace XB:=hid (Below.trans (Hid.out XB) (hx8'))) | (go_at_call 149;(with_reducible refine (zbX q HID.out (by omega)).mono ?_);rintro e w9 ⟨rfl,hi9,hx9⟩;have HI9:=hid hi9;clear hi9;replace XB:=hid (Below.trans (Hid.out XB) (hx9))));refine hK _ _ (by first | assumption | exact Below.refl _ _ | exact Below.mono (Ext.alloc _ _) (Hid.out HSW) | exact Below.setCell (p:=⟨_,_,_⟩) (Below.refl _ _) (Nat.le_refl _) _) ?_;clear hK K));try simp only [Act.put,Act.eval,evs])
            refine zaG ?_
            go_wp2
            exact⟨⟨j+3,acc++[q],by omega,by go_num,by simp;omega,HI9,HH,Below.trans HXD.out XB.out⟩,by simp[intOf];omega⟩
         ·have hl2':¬(j:Int)+2<(s.size:Int):=by omega
          have HF:Hid (readF [] (bys s)=none):=by show _=_;rw[←HR.out,hd.out,hd1,h92,show(bys s).drop (j+1+1)=[] from zbP (by omega),zfV hsp]
          clear h92 hsp hd1
          go_wp2_with (first
           | (go_at_call 182;(with_reducible refine (zaP _ _ y (zbr _) _ HM.out).mono ?_);rintro e w4 ⟨rfl,rfl⟩))
          go_ret2
          exact⟨by rw[HV.out,HF.out];rfl,HX.out⟩
       ·have hl1':¬(j:Int)+1<(s.size:Int):=by omega
        have hl2':¬(j:Int)+2<(s.size:Int):=by omega
        have HF:Hid (readF [] (bys s)=none):=by show _=_;rw[←HR.out,hd.out,h92,show(bys s).drop (j+1)=[] from zbP (by omega),zg2]
        clear h92
        go_wp2
        go_ret2
        exact⟨by rw[HV.out,HF.out];rfl,HX.out⟩
      ·have t92:((x.toNat:Int) != 92)=true:=by
        have h:((x.toNat:Int)==92)=false:=zav (k:=92) h92
        rw[bne,h];rfl
       have hP:=zeV (acc:=acc) (t:=(bys s).drop (j+1)) h92
       by_cases h0:x=0
       ·have t0:((x.toNat:Int)==0)=true:=za0 (k:=0) (by decide) h0
        have HF:Hid (readF [] (bys s)=none):=by show _=_;rw[←HR.out,hd.out,hP,if_pos (by rw[h0];rfl)]
        clear h92 h0 hP
        go_wp2
        go_ret2
        exact⟨by rw[HV.out,HF.out];rfl,HX.out⟩
       ·have t0:((x.toNat:Int)==0)=false:=zav (k:=0) h0
        cases hsp:zbq x with
        |true=>
         have HM:=hid ((zex x).1 hsp)
         have HF:Hid (readF [] (bys s)=none):=by show _=_;rw[←HR.out,hd.out,hP,if_pos (by rw[hsp];simp)]
         clear h92 h0 hP hsp
         go_wp2_with (first
          | (go_at_call 182;(with_reducible refine (zbY _ _ x (zbr _) _ HM.out).mono ?_);rintro e w4 ⟨⟨i,rfl⟩,rfl⟩;have hi0:0≤(i:Int):=by omega))
         go_ret2
         exact⟨by rw[HV.out,HF.out];rfl,HX.out⟩
        |false=>
         have HM:Hid (x ∉ ([44,43,34,92,60,62,59]:List UInt8)):=fun h=>by have:=(zex x).2 h;rw[hsp] at this;cases this
         have hemp:((bys s).drop (j+1)).isEmpty=decide (j+1=s.size):=by
          rw[Bool.eq_iff_iff,List.isEmpty_iff,decide_eq_true_eq,List.drop_eq_nil_iff,zaj]
          omega
         by_cases h32:x=32∧j+1=s.size
         ·have t32:((x.toNat:Int)==32)=true:=za0 (k:=32) (by decide) h32.1
          have te:((j:Int)==(s.size:Int)-1)=true:=by rw[beq_iff_eq];omega
          have HF:Hid (readF [] (bys s)=none):=by show _=_;rw[←HR.out,hd.out,hP,if_pos (by rw[hemp,h32.1,decide_eq_true h32.2];rfl)]
          clear h92 h0 hP hsp hemp h32
          go_wp2_with (first
           | (go_at_call 182;(with_reducible refine (zaP _ _ x (zbr _) _ HM.out).mono ?_);rintro e w4 ⟨rfl,rfl⟩))
          go_ret2
          exact⟨by rw[HV.out,HF.out];rfl,HX.out⟩
         ·have HH:Hid (readF (acc++[x]) ((bys s).drop (j+1))=readF [] (bys s)):=by
           show _=_
           rw[←HR.out,hd.out,hP,if_neg]
           rw[hemp,hsp]
           simp[h0]
           exact fun e=>fun e2=>h32 ⟨e,e2⟩
          have t32:((x.toNat:Int)==32)=false∨(((x.toNat:Int)==32)=true∧((j:Int)==(s.size:Int)-1)=false):=by
           by_cases h3:x=32
           ·right
            refine⟨za0 (k:=32) (by decide) h3,?_⟩
            rw[beq_eq_false_iff_ne]
            intro e
            exact h32 ⟨h3,by omega⟩
           ·exact .inl (zav (k:=32) h3)
          clear h92 h0 hP hsp hemp h32
          rcases t32 with t32|⟨t32,te⟩
          all_goals
           go_wp2_with (first
            |(go_at_call 182;(with_reducible refine(zaP _ _ x (zbr _) _ HM.out).mono ?_);rintro e w4 ⟨rfl,rfl⟩)
            | (go_at_call 149;(with_reducible refine (zbX x HI.out (by omega)).mono ?_);rintro e w5 ⟨rfl,hi5,hx5⟩;have HI5:=hid hi5;have HX5:=hid hx5;clear hi5 hx5))
           exact⟨⟨j+1,acc++[x],by omega,by go_num,by simp;omega,HI5,HH,Below.trans HX.out HX5.out⟩,by simp[intOf];omega⟩
     ·obtain rfl:j=s.size:=by omega
      have HF:Hid (readF [] (bys s)=some acc):=by show _=_;rw[←HR.out,zbP (Nat.le_refl _)];rfl
      go_wp2_with(go_at_call 116;(with_reducible refine(zfZ HI.out).mono ?_);rintro e w4 ⟨rfl,hx4⟩;have HX4:=hid hx4;clear hx4)
      go_ret2
      exact⟨by rw[HV.out,HF.out];rfl,Below.trans HX.out HX4.out⟩
theorem zkH{s:ByteArray}{x:UInt8}(h:(bys s)[0]?=some x):(bys s).head?=some x:=by rw[List.head?_eq_getElem?,h]
theorem zk9{w:World}{o:Oper}{a:Act}{K:Act→World→Prop}{Q:Exit→Act→World→Prop}(x:Operand)(ho:o.op=.buildSlice 174 1 #[(0,x)])(q:UInt8)(hx:a.eval x=.int .u8 (q.toNat:Int))
 (h:∀A w',Ext w w'→Sl w' A 1 1 [q]→K (a.put o.dst (.slice A 1 1)) w'):o.wp Tryz.prog a w K Q:=
 zsh x ho (q.toNat:Int) hx ⟨by omega,by have:=q.toNat_lt;omega⟩ fun A w' h1 h2=>h A w' h1 (by rw[Int.toNat_natCast,UInt8.ofNat_toNat] at h2;exact h2)
theorem zq6(s:ByteArray)(w:World)(hs:s.size≤4000000):Calls Tryz.prog 187 #[.string s] w (zfS w (za2 (bys s))):=by
 have Hs:=hid hs
 go_enter Tryz.func187,Tryz.ntmps187
 go_wp2
 go_loopw [4,5] (fun v i wr=>∃(j:Nat) (acc:List UInt8),j≤s.size∧i=.int .i64 j∧acc.length≤j∧Hid (GrowB w wr v acc)∧Hid ((j=0∧acc=[])∨(0<j∧readF acc ((bys s).drop j)=za2 (bys s)))) (fun _ i _=>s.size-(intOf i).toNat)
 case atStart=>exact⟨0,[],by omega,rfl,by simp,GrowB.nil (Ext.refl _),.inl ⟨rfl,rfl⟩⟩
 case round=>
  obtain⟨j,acc,hj,rfl,hacc,HG,HR0⟩:=hrel
  by_cases hlt:j<s.size
  ·obtain⟨x,hx⟩:=zcm hlt
   have gx:=zaV hx hlt
   have hd:=hid (zcO hx)
   have t0j:((j:Int)==0)=decide (j=0):=by rw[Bool.eq_iff_iff,beq_iff_eq,decide_eq_true_eq];omega
   by_cases hbad:j=0∧(x=32∨x=35)
   ·have HV:Hid (za2 (bys s)=none):=by
     show _=_
     unfold za2
     rw[zkH (by rw[←hbad.1];exact hx),if_pos]
     rcases hbad.2 with h|h
     ·exact .inl (by rw[h])
     ·exact .inr (by rw[h])
    obtain⟨h0,hc⟩:=hbad
    have tj:((j:Int)==0)=true:=by rw[h0];rfl
    have HSP:Hid (zbq x=false):=by rcases hc with rfl|rfl<;>rfl
    have t92:((x.toNat:Int) != 92)=true:=by rcases hc with rfl|rfl<;>rfl
    have t0:((x.toNat:Int)==0)=false:=by rcases hc with rfl|rfl<;>rfl
    have tc:((x.toNat:Int)==32)=true∨(((x.toNat:Int)==32)=false∧((x.toNat:Int)==35)=true):=by rcases hc with rfl|rfl;exact .inl rfl;exact .inr ⟨rfl,rfl⟩
    clear hx t0j h0 hc
    rcases tc with tc|⟨tc,td⟩
    all_goals
     go_wp2_with (first
      | (go_at_call 162;(with_reducible refine (za1 x _).mono ?_);rintro e w4 ⟨he4,rfl⟩;rw [HSP.out] at he4;subst he4))
     go_ret2
     exact⟨by rw[HV.out];rfl,HG.out.ext⟩
   ·have HR:Hid (readF acc ((bys s).drop j)=za2 (bys s)):=by
     rcases HR0.out with⟨h0,ha⟩|⟨_,h⟩
     ·show _=_
      subst ha
      rw[h0,List.drop_zero]
      unfold za2
      rw[zkH (by rw[←h0];exact hx),if_neg]
      rintro(h|h)
      ·injection h with h;exact hbad ⟨h0,.inl h⟩
      ·injection h with h;exact hbad ⟨h0,.inr h⟩
     ·exact h
    clear HR0 hx
    by_cases h92:x=92
    ·have t92:((x.toNat:Int) != 92)=false:=by rw[h92];rfl
     clear hbad t0j
     by_cases hl1:j+1<s.size
     ·have hl1':(j:Int)+1<(s.size:Int):=by omega
      have p1:0≤(j:Int)+1:=by omega
      obtain⟨y,hy⟩:=zcm hl1
      have gy:=zaV hy hl1
      have hd1:=zcO hy
      clear hy
      have hs2:zhV y=(zbq y || y==35 || y==61 || y==32):=rfl
      cases hsp:zhV y with
      |true=>
       have HH:Hid (readF (acc++[y]) ((bys s).drop (j+1+1))=za2 (bys s)):=by show _=_;rw[←HR.out,hd.out,hd1,h92,zfL hsp]
       have hq:zbq y=true∨(zbq y=false∧((y.toNat:Int)==35)=true)∨(zbq y=false∧((y.toNat:Int)==35)=false∧((y.toNat:Int)==61)=true)∨(zbq y=false∧((y.toNat:Int)==35)=false∧((y.toNat:Int)==61)=false∧((y.toNat:Int)==32)=true):=by
        rw[hs2] at hsp
        cases hb:zbq y with
        |true=>exact .inl rfl
        |false=>
         rw[hb] at hsp
         by_cases h35:y=35
         ·exact .inr (.inl ⟨rfl,za0 (k:=35) (by decide) h35⟩)
         ·by_cases h61:y=61
          ·exact .inr (.inr (.inl ⟨rfl,zav (k:=35) h35,za0 (k:=61) (by decide) h61⟩))
          ·refine .inr (.inr (.inr ⟨rfl,zav (k:=35) h35,zav (k:=61) h61,za0 (k:=32) (by decide) ?_⟩))
           simpa[h35,h61] using hsp
       clear h92 hsp hd1 hs2
       rcases hq with hq|⟨hq,q1⟩|⟨hq,q1,q2⟩|⟨hq,q1,q2,q3⟩
       all_goals
        have HSY:=hid hq
        clear hq
        go_wp2_with (first
         |(go_at_call 162;(with_reducible refine(za1 y _).mono ?_);rintro e w4 ⟨he4,rfl⟩;rw[HSY.out] at he4;subst he4)
         | (at_builtin;refine zbu rfl _ _ rfl _ _ rfl (HG.out.later (Ext.alloc _ _)) _ 1 1 [y] rfl (zdF _ y) (by omega) ?_;intro v' w5 hg5;have HG5:=hid hg5;clear hg5))
        exact⟨⟨j+2,acc++[y],by omega,by go_num,by simp;omega,HG5,.inr ⟨by omega,HH⟩⟩,by simp[intOf];omega⟩
      |false=>
       have hq:zbq y=false∧((y.toNat:Int)==35)=false∧((y.toNat:Int)==61)=false∧((y.toNat:Int)==32)=false:=by
        rw[hs2] at hsp
        simp only[Bool.or_eq_false_iff,beq_eq_false_iff_ne] at hsp
        exact⟨hsp.1.1.1,zav (k:=35) hsp.1.1.2,zav (k:=61) hsp.1.2,zav (k:=32) hsp.2⟩
       obtain⟨hq,q1,q2,q3⟩:=hq
       have HSY:=hid hq
       clear hq hs2
       by_cases hl2:j+2<s.size
       ·have hl2':(j:Int)+2<(s.size:Int):=by omega
        have p2:0≤(j:Int)+2:=by omega
        obtain⟨z,hz⟩:=zcm hl2
        have gz:=zaV hz hl2
        have hd2:=zcO hz
        clear hz
        have hH:=zgQ (acc:=acc) (t:=(bys s).drop (j+2+1)) (d:=y) (e:=z) hsp
        by_cases hy0:hexZ y<0
        ·have HF:Hid (za2 (bys s)=none):=by show _=_;rw[←HR.out,hd.out,hd1,hd2,h92,hH,zem hy0]
         obtain⟨u,hu⟩:∃u,hexZ y=u:=⟨_,rfl⟩
         rw[hu] at hy0
         have HA:=hid hu
         clear h92 hsp hd1 hd2 hH hu
         go_wp2_with (first
          |(go_at_call 162;(with_reducible refine(za1 y _).mono ?_);rintro e w4 ⟨he4,rfl⟩;rw[HSY.out] at he4;subst he4)
          | (go_at_call 208;(with_reducible refine (zdE y _).mono ?_);rintro e w5 ⟨he5,rfl⟩;rw [HA.out] at he5;subst he5))
         go_ret2
         exact⟨by rw[HF.out];rfl,HG.out.ext⟩
        ·obtain⟨a,ha1,ha2,ha3⟩:=zeB hy0
         have HA:=hid ha2
         have ta:¬(a:Int)<0:=by omega
         by_cases hz0:hexZ z<0
         ·have HF:Hid (za2 (bys s)=none):=by show _=_;rw[←HR.out,hd.out,hd1,hd2,h92,hH,ha1,zem hz0]
          obtain⟨u,hu⟩:∃u,hexZ z=u:=⟨_,rfl⟩
          rw[hu] at hz0
          have HB:=hid hu
          clear h92 hsp hd1 hd2 hH ha1 ha2 ha3 hy0 hu
          go_wp2_with (first
           |(go_at_call 162;(with_reducible refine(za1 y _).mono ?_);rintro e w4 ⟨he4,rfl⟩;rw[HSY.out] at he4;subst he4)
           |(go_at_call 208;(with_reducible refine(zdE y _).mono ?_);rintro e w5 ⟨he5,rfl⟩;rw[HA.out] at he5;subst he5)
           | (go_at_call 208;(with_reducible refine (zdE z _).mono ?_);rintro e w5 ⟨he5,rfl⟩;rw [HB.out] at he5;subst he5))
          go_ret2
          exact⟨by rw[HF.out];rfl,HG.out.ext⟩
         ·obtain⟨b,hb1,hb2,hb3⟩:=zeB hz0
          have HB:=hid hb2
          have tb:¬(b:Int)<0:=by omega
          obtain⟨q,hq⟩:∃q,q=UInt8.ofNat (16 * a+b):=⟨_,rfl⟩
          have HH:Hid (readF (acc++[q]) ((bys s).drop (j+2+1))=za2 (bys s)):=by show _=_;rw[←HR.out,hd.out,hd1,hd2,h92,hH,ha1,hb1,hq]
          have hov:16 * (a:Int)+(b:Int)=(q.toNat:Int):=by
           rw[hq,UInt8.toNat_ofNat']
           omega
          clear hq
          clear h92 hsp hd1 hd2 hH ha1 hb1 hy0 hz0 ha2 hb2
          go_wp2_with (first
           |(go_at_call 162;(with_reducible refine(za1 y _).mono ?_);rintro e w4 ⟨he4,rfl⟩;rw[HSY.out] at he4;subst he4)
           |(go_at_call 208;(with_reducible refine(zdE y _).mono ?_);rintro e w5 ⟨he5,rfl⟩;rw[HA.out] at he5;subst he5)
           | (go_at_call 208;(with_reducible refine (zdE z _).mono ?_);rintro e w5 ⟨he5,rfl⟩;rw [HB.out] at he5;subst he5))
          refine zap w.heap.size (.read 0 (.read 1 (.read 2 (.read 3 (.read 4 (.read 7 (.read 8 (.read 9 (.read 10 (.main 5 (.read 6 (.main 11 (.read 12 (.read 13 (.main 14 (.main 15 (.read 16 .done))))))))))))))))) (by kernel_rfl) (by kernel_rfl) ?_
          intro wD hxD
          have XB:Hid (Below w.heap.size wD wD):=Below.refl _ _
          have HGD:=hid (HG.out.later hxD)
          repeat' ((first
           |refine zaF rfl rfl ?_
           |refine zaw rfl rfl ?_
           |refine walksB_skip rfl rfl ?_
           |refine walksB_unwanted rfl rfl ?_
           |(refine zaC (v:=?_) rfl rfl (fun w' hE=>?_) ?_;rotate_left 1;(· ((try(have hEx:=Below.trans (Hid.out XB) hE));go_simp;(try go_bits);with_reducible rfl)))
           |(refine zam rfl rfl (fun K hK=>?_);(first|(refine zk9 _ rfl q (by first|rfl|exact congrArg (Value.int .u8) hov) ?_;intro A8 w8 hx8 hs8;have hx8':=Below.mono hx8 (zaz HGD.out.ext);have HGE:=hid (HGD.out.later hx8);have HS8:=hid hs8;clear hx8 hs8;replace XB:=hid (Below.trans (Hid.out XB) (hx8')))|(refine zdl _ _ rfl _ acc rfl HGE.out _ 1 1 [q] rfl HS8.out (by omega) ?_;intro v' w9 hg9 hb9;have HG9:=hid hg9;clear hg9;replace XB:=hid (Below.trans (Hid.out XB) (hb9))));refine hK _ _ (by first|assumption|exact Below.refl _ _|exact Below.mono (Ext.alloc _ _) (Hid.out HSW)|exact Below.setCell (p:=⟨_,_,_⟩) (Below.refl _ _) (Nat.le_refl _) _) ?_;clear hK K)
           |refine zaL ?_ ?_
           | (refine zam rfl rfl (fun K hK=>?_);go_wp2_with (first | (go_at_call 208;(with_reducible refine (zdE y _).mono ?_);rintro e w5 ⟨he5,rfl⟩;rw [HA.out] at he5;subst he5)| (go_at_call 208;(with_reducible refine (zdE z _).mono ?_);rintro e w5 ⟨he5,rfl⟩;rw [HB.out] at he5;subst he5));refine hK _ _ (by first | assumption | exact Below.refl _ _ | exact Below.mono (Ext.alloc _ _) (Hid.out HSW) | exact Below.setCell (p:=⟨_,_,_⟩) (Below.refl _ _) (Nat.le_refl _) _) ?_;clear hK K));try simp only [Act.put,Act.eval,evs])
          refine zaG ?_
          go_wp2
          exact⟨⟨j+3,acc++[q],by omega,by go_num,by simp;omega,HG9,.inr ⟨by omega,HH⟩⟩,by simp[intOf];omega⟩
       ·have hl2':¬(j:Int)+2<(s.size:Int):=by omega
        have HF:Hid (za2 (bys s)=none):=by show _=_;rw[←HR.out,hd.out,hd1,h92,show(bys s).drop (j+1+1)=[] from zbP (by omega),zfV hsp]
        clear h92 hsp hd1
        go_wp2_with (first
         | (go_at_call 162;(with_reducible refine (za1 y _).mono ?_);rintro e w4 ⟨he4,rfl⟩;rw [HSY.out] at he4;subst he4))
        go_ret2
        exact⟨by rw[HF.out];rfl,HG.out.ext⟩
     ·have hl1':¬(j:Int)+1<(s.size:Int):=by omega
      have hl2':¬(j:Int)+2<(s.size:Int):=by omega
      have HF:Hid (za2 (bys s)=none):=by show _=_;rw[←HR.out,hd.out,h92,show(bys s).drop (j+1)=[] from zbP (by omega),zg2]
      clear h92
      go_wp2
      go_ret2
      exact⟨by rw[HF.out];rfl,HG.out.ext⟩
    ·have t92:((x.toNat:Int) != 92)=true:=by
      have h:((x.toNat:Int)==92)=false:=zav (k:=92) h92
      rw[bne,h];rfl
     have hP:=zeV (acc:=acc) (t:=(bys s).drop (j+1)) h92
     cases hsp:zbq x with
     |true=>
      have HSP:=hid hsp
      have HF:Hid (za2 (bys s)=none):=by show _=_;rw[←HR.out,hd.out,hP,if_pos (by rw[hsp];simp)]
      clear h92 hP hsp hbad t0j
      go_wp2_with (first
       | (go_at_call 162;(with_reducible refine (za1 x _).mono ?_);rintro e w4 ⟨he4,rfl⟩;rw [HSP.out] at he4;subst he4))
      go_ret2
      exact⟨by rw[HF.out];rfl,HG.out.ext⟩
     |false=>
      have HSP:=hid hsp
      by_cases h0:x=0
      ·have t0:((x.toNat:Int)==0)=true:=za0 (k:=0) (by decide) h0
       have HF:Hid (za2 (bys s)=none):=by show _=_;rw[←HR.out,hd.out,hP,if_pos (by rw[h0];rfl)]
       clear h92 h0 hP hsp hbad t0j
       go_wp2_with (first
        | (go_at_call 162;(with_reducible refine (za1 x _).mono ?_);rintro e w4 ⟨he4,rfl⟩;rw [HSP.out] at he4;subst he4))
       go_ret2
       exact⟨by rw[HF.out];rfl,HG.out.ext⟩
      ·have t0:((x.toNat:Int)==0)=false:=zav (k:=0) h0
       have hemp:((bys s).drop (j+1)).isEmpty=decide (j+1=s.size):=by
        rw[Bool.eq_iff_iff,List.isEmpty_iff,decide_eq_true_eq,List.drop_eq_nil_iff,zaj]
        omega
       by_cases h32:x=32∧j+1=s.size
       ·have t32:((x.toNat:Int)==32)=true:=za0 (k:=32) (by decide) h32.1
        have tj:((j:Int)==0)=false:=by rw[t0j,decide_eq_false];exact fun h=>hbad ⟨h,.inl h32.1⟩
        have te:((j:Int)==(s.size:Int)-1)=true:=by rw[beq_iff_eq];omega
        have HF:Hid (za2 (bys s)=none):=by show _=_;rw[←HR.out,hd.out,hP,if_pos (by rw[hemp,h32.1,decide_eq_true h32.2];rfl)]
        clear h92 h0 hP hsp hemp h32 hbad t0j
        go_wp2_with (first
         | (go_at_call 162;(with_reducible refine (za1 x _).mono ?_);rintro e w4 ⟨he4,rfl⟩;rw [HSP.out] at he4;subst he4))
        go_ret2
        exact⟨by rw[HF.out];rfl,HG.out.ext⟩
       ·have HH:Hid (readF (acc++[x]) ((bys s).drop (j+1))=za2 (bys s)):=by
         show _=_
         rw[←HR.out,hd.out,hP,if_neg]
         rw[hemp,hsp]
         simp[h0]
         exact fun e=>fun e2=>h32 ⟨e,e2⟩
        have tt:(((x.toNat:Int)==32)=true∧((j:Int)==0)=false∧((j:Int)==(s.size:Int)-1)=false∧((x.toNat:Int)==35)=false)∨(((x.toNat:Int)==32)=false∧((x.toNat:Int)==35)=true∧((j:Int)==0)=false)∨(((x.toNat:Int)==32)=false∧((x.toNat:Int)==35)=false):=by
         by_cases h3:x=32
         ·left
          refine⟨za0 (k:=32) (by decide) h3,?_,?_,zav (k:=35) (by rw[h3];decide)⟩
          ·rw[t0j,decide_eq_false];exact fun h=>hbad ⟨h,.inl h3⟩
          ·rw[beq_eq_false_iff_ne]
           intro e
           exact h32 ⟨h3,by omega⟩
         ·by_cases h5:x=35
          ·right;left
           refine⟨zav (k:=32) h3,za0 (k:=35) (by decide) h5,?_⟩
           rw[t0j,decide_eq_false];exact fun h=>hbad ⟨h,.inr h5⟩
          ·exact .inr (.inr ⟨zav (k:=32) h3,zav (k:=35) h5⟩)
        clear h92 h0 hP hsp hemp h32 hbad t0j
        rcases tt with⟨t1,t2,t3,t4⟩|⟨t1,t2,t3⟩|⟨t1,t2⟩
        all_goals
         go_wp2_with (first
          |(go_at_call 162;(with_reducible refine(za1 x _).mono ?_);rintro e w4 ⟨he4,rfl⟩;rw[HSP.out] at he4;subst he4)
          | (at_builtin;refine zbu rfl _ _ rfl _ _ rfl (HG.out.later (Ext.alloc _ _)) _ 1 1 [x] rfl (zdF _ x) (by omega) ?_;intro v' w5 hg5;have HG5:=hid hg5;clear hg5))
         exact⟨⟨j+1,acc++[x],by omega,by go_num,by simp;omega,HG5,.inr ⟨by omega,HH⟩⟩,by simp[intOf];omega⟩
  ·obtain rfl:j=s.size:=by omega
   have HF:Hid (za2 (bys s)=some acc):=by
    show _=_
    rcases HR0.out with⟨h0,ha⟩|⟨_,h⟩
    ·rw[zb3 h0,ha];rfl
    ·rw[←h,zbP (Nat.le_refl _)];rfl
   obtain⟨A1,c1,rfl,hs1⟩:=HG.out.sl
   have hC:=hs1.conv wr (Ext.refl wr)
   clear hs1
   go_wp2
   go_ret2
   exact⟨by rw[HF.out];rfl,HG.out.ext⟩
end Go.Proofs.YtkjbokhnpphimaaGreatDoor
