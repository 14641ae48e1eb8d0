/- Lemmas of the walk that the last text of this claim joins. -/
import Derived.Test.YtejdpadhemeldaaGreatDoorZ34
import Derived.Test.YtejdpadhemeldaaGreatDoorZ31
set_option maxHeartbeats 40000000
set_option linter.unusedVariables false
set_option linter.unusedSimpArgs false
namespace Go.Proofs.YtejdpadhemeldaaGreatDoor
open Go.RowKit
set_option maxRecDepth 100000
theorem alone_any {S : Nat → Prop} {A : Option Addr} {n c : Nat} {l : List ByteArray} {w : World} (h : Row Elem.str S w A n c l) (nm : ByteArray) (hG : Gl w) (hn : nm.size ≤ 4000000) :
 Calls Tryz.prog 98 #[.string nm,.slice A n c] w fun e w'=>e = .returned (.bool (!twiceV (bys nm) l)) ∧ Ext w w':=by
 have HG:=hid hG
 have HR:=hid h
 have hl:=hid h.len
 have hcap:=h.cap
 have hnl : n ≤ 9223372036854775807:=by have:=h.cap;have:=h.most;simp only [maxLen] at this;omega
 have HN:=hid hn
 clear hG h hn
 go_enter Tryz.func98,Tryz.ntmps98
 go_wp2
 go_loopw [8] (fun i wr=>∃ j : Nat,j ≤ n ∧ i = .int .i64 j ∧ Hid (twiceUp (bys nm) l j = false) ∧ Hid (Ext w wr)) (fun i _=>n - (intOf i).toNat)
 case atStart=>exact ⟨0,by omega,rfl,rfl,Ext.refl w⟩
 case round=>
  obtain ⟨j,hj,rfl,Htk,hx⟩:=hrel
  by_cases hlt : j < n
  ·have hrw:=HR.out.ext hx.out
   have hhd:=hid (hrw.head (k:=j) (by omega))
   obtain ⟨b1,o1,rfl,c1⟩:=hrw.str_cell (by omega)
   have e1:=c1 j hlt
   have hs1:=sslice_h (some ⟨b1,o1,none⟩) n c j (by omega)
   clear c1 hrw
   have g1 : l[j]? = some (l[j]?.getD ByteArray.empty):=by have:=hl.out;rw [List.getElem?_eq_getElem (by omega)];simp
   have Hg:=hid g1
   clear g1
   generalize l[j]?.getD ByteArray.empty = x1 at *
   have jj : (j : Int) < (n : Int):=by omega
   obtain ⟨b,hb⟩ : ∃ b,hasZ (bys nm) (bys x1) (l.take j) = b:=⟨_,rfl⟩
   have HF : ∀ w',Ext wr w' → Calls Tryz.prog 99 #[.string nm,.slice (cutA (some ⟨b1,o1,none⟩) 0 c 1) j c,.string x1] w' fun e w''=>e = .returned (.bool b) ∧ Ext w' w'':=fun w' hx'=>by
    rw [← hb]
    exact rwithin_any (hhd.out.ext hx') nm x1 (HG.out.ext (hx.out.trans hx')) HN.out
   have HT:=hid (twice_next Htk.out Hg.out hb)
   have HE:=hid e1
   clear hb e1
   cases b
   all_goals
    go_wp2
    refine wp_region_plan (.read 0 (.read 1 (.read 2 (.read 3 (.read 4 (.read 5 (.read 6 (.read 7 (.main 8 .done))))))))) (by kernel_rfl) (by kernel_rfl) ?_
    intro wD hxD
    have XE : Hid (Ext wD wD):=Ext.refl _
    have c0:=cell_later (cell_later HE.out _ hxD)
    repeat' (first
     | ((first | refine walks_move rfl rfl ?_ | refine walks_assign rfl rfl ?_ | refine walks_skip rfl rfl ?_);simp only [Act.put,Act.eval,evs])
     | (refine walks_unwanted rfl rfl ?_;simp only [Act.put,evp])
     | (refine walks_read (v:=?_) rfl rfl (fun w' hE=>?_) ?_;rotate_left 1;(· ((try (have hEx:=Ext.trans (Hid.out XE) hE));go_simp;(try go_bits);with_reducible rfl));simp only [Act.put,evp])
     | (refine walks_alt ?_ ?_)
     | (refine walks_main rfl rfl (fun K hK=>?_);go_wp2_with ((go_at_call 99;(with_reducible refine (HF _ (hxD.trans XE.out)).mono ?_);rintro e w5 ⟨rfl,hx5⟩;have XE':=hid (Ext.trans (Hid.out XE) hx5);clear XE;have XE:=XE';clear XE'));refine hK _ _ (by first | assumption | exact Ext.alloc _ _ | exact Ext.refl _) ?_;clear hK K;try simp only [Act.put,evp]))
    refine walks_done ?_
    have HXZ:=hid (hx.out.trans (hxD.trans XE.out))
    go_wp2
    first
     | (go_ret;exact ⟨by rw [show twiceV (bys nm) l = true from twice_up l.length (by have:=hl.out;omega) HT.out];rfl,HXZ.out⟩)
     | exact ⟨⟨j + 1,by omega,by go_num,HT.out,HXZ.out⟩,by simp [intOf];omega⟩
  ·obtain rfl : j = n:=by omega
   have HE : Hid (twiceV (bys nm) l = false):=by show _ = _;unfold twiceV;rw [← hl.out];exact Htk.out
   go_wp2
   go_ret
   exact ⟨by rw [HE.out];rfl,hx.out⟩
theorem lt_none (a : List UInt8) : ltB a [] = false:=by cases a <;> rfl
def prevT (l : List Att) : Nat → List UInt8
 | 0=>[]
 | k + 1=>(l[k]?.map fun a=>bys a.type).getD []
theorem geqB {a b : ByteArray} {r : Bool} (h : ltB (bys a) (bys b) = r) : Op.bytesLess a.toList b.toList = r:=by
 rw [ByteArray.toList_eq,ByteArray.toList_eq,less_lt]
 exact h
theorem loose_any {S : Nat → Prop} {A : Option Addr} {n c : Nat} {l : List Att} {w : World} (h : Row Elem.att S w A n c l) (nm : ByteArray) (hG : Gu w) (ht : ∀ a ∈ l,a.type.size ≤ 4000000) :
 Calls Tryz.prog 56 #[.agg #[.string nm,.slice A n c]] w fun e w'=>e = .returned (.bool (looseE (bys nm) l)) ∧ Ext w w':=by
 have HG:=hid hG
 have HR:=hid h
 have hl:=hid h.len
 have HTS:=hid ht
 have hnl : n ≤ 9223372036854775807:=by have:=h.cap;have:=h.most;simp only [maxLen] at this;omega
 have HB0:=hid (Bx.make (Ext.refl w) #[.string nm,.slice A n c] 31)
 have HNM : ∀ w,Gl w → Calls Tryz.prog 26 #[.string nm] w (NormalSays w (bys nm)):=fun w hG=>rnormal06_any nm w hG
 unfold NormalSays at HNM
 have HD : Hid (looseE (bys nm) l = (decide (codeR (partsB (bys nm)) = 0) && decide (normalS (bys nm) = bys nm) && !decide (bys nm = []) && decide (l.length ≤ 14) && attsFrom [] l)):=rfl
 obtain ⟨F,hF⟩ : ∃ F,F = looseE (bys nm) l:=⟨_,rfl⟩
 rw [← hF] at HD ⊢
 clear hF
 obtain ⟨ns,hns⟩ : ∃ ns,ns = normalS (bys nm):=⟨_,rfl⟩
 obtain ⟨ms,hms⟩ : ∃ ms,ms = str ns:=⟨_,rfl⟩
 rw [← hns,← hms] at HNM
 rw [← hns] at HD
 have HMS:=hid hms
 clear hG h ht hns hms
 generalize codeR (partsB (bys nm)) = cd at *
 by_cases hc : cd = 0
 ·have t1 : (cd != 0) = false:=by rw [hc];rfl
  by_cases hn : ms = nm
  ·have hnb : ns = bys nm:=by rw [← hn,HMS.out,bys_str]
   rw [decide_eq_true hc,decide_eq_true hnb] at HD
   subst hn
   by_cases hz : ms.size = 0
   ·have HE : Hid (F = false):=by show _ = _;rw [HD.out,show bys ms = [] from by rw [str_emp hz];rfl];simp
    have e1:=emp_yes hz
    clear hz HD hnb hc HMS
    go_enter Tryz.func56,Tryz.ntmps56
    go_wp2_with (go_at_call 26;(with_reducible refine (HNM _ (HG.out.gl.ext HB0.out.ext)).mono ?_);rintro e w1 ⟨rfl,hx1⟩;have HB1:=hid (HB0.out.later hx1);have c0:=HB1.out.cell (i:=0) rfl;have c1:=HB1.out.cell (i:=1) rfl;clear hx1)
    clear c0 c1
    go_ret
    exact ⟨by rw [HE.out];rfl,HB1.out.ext⟩
   ·have e1:=emp_nb hz
    have hne : bys ms ≠ []:=by intro h;exact hz (by rw [← bys_len,h];rfl)
    rw [decide_eq_false hne] at HD
    by_cases h14 : 14 < n
    ·have HE : Hid (F = false):=by show _ = _;rw [HD.out,decide_eq_false (show ¬ l.length ≤ 14 by have:=hl.out;omega)];simp
     have e2 : 14 < (n : Int):=by omega
     clear hz HD hnb hc HMS hne h14
     go_enter Tryz.func56,Tryz.ntmps56
     go_wp2_with (go_at_call 26;(with_reducible refine (HNM _ (HG.out.gl.ext HB0.out.ext)).mono ?_);rintro e w1 ⟨rfl,hx1⟩;have HB1:=hid (HB0.out.later hx1);have c0:=HB1.out.cell (i:=0) rfl;have c1:=HB1.out.cell (i:=1) rfl;clear hx1)
     clear c0 c1
     go_ret
     exact ⟨by rw [HE.out];rfl,HB1.out.ext⟩
    ·have e2 : decide (14 < (n : Int)) = false:=by rw [decide_eq_false_iff_not];omega
     rw [decide_eq_true (show l.length ≤ 14 by have:=hl.out;omega)] at HD
     have HF : Hid (attsFrom [] l = false → F = false):=fun h=>by rw [HD.out,h];simp
     have HT : Hid (attsFrom [] l = true → F = true):=fun h=>by rw [HD.out,h];simp
     have hn14 : n ≤ 14:=by omega
     clear hz HD hnb hc HMS hne h14
     go_enter Tryz.func56,Tryz.ntmps56
     go_wp2_with (go_at_call 26;(with_reducible refine (HNM _ (HG.out.gl.ext HB0.out.ext)).mono ?_);rintro e w1 ⟨rfl,hx1⟩;have HB1:=hid (HB0.out.later hx1);have c0:=HB1.out.cell (i:=0) rfl;have c1:=HB1.out.cell (i:=1) rfl;clear hx1)
     clear c0 c1 e1 e2 HNM
     go_loopw [39] (fun i wr=>∃ (j : Nat),j ≤ n ∧ i = .int .i64 j ∧ Hid (attsFrom (prevT l j) (l.drop j) = attsFrom [] l) ∧ Hid (Bx w wr w.heap.size 31 #[.string ms,.slice A n c])) (fun i _=>n - (intOf i).toNat)
     case atStart=>exact ⟨0,by omega,rfl,rfl,HB1.out⟩
     case round=>
      obtain ⟨j,hj,rfl,HO,HB⟩:=hrel
      have cB1:=HB.out.cell (i:=1) rfl
      by_cases hlt : j < n
      ·obtain ⟨b1,o1,v1,x1,rfl,g1,-,⟨A1,n1,c1,rfl,r1⟩,q1⟩:=(HR.out.ext HB.out.ext).at_ hlt
       have e10:=q1 0 _ rfl
       have e11:=q1 1 _ rfl
       simp only [Elem.att,Nat.add_zero] at e10 e11
       have R1:=hid r1
       clear q1 r1
       have hd : Hid (l.drop j = x1 :: l.drop (j + 1)):=by
        show _ = _
        obtain ⟨h1,h2⟩:=List.getElem?_eq_some_iff.1 g1
        rw [List.drop_eq_getElem_cons h1,h2]
       have HT1:=hid (HTS.out x1 (List.mem_of_getElem? g1))
       have HPV : Hid (prevT l (j + 1) = bys x1.type):=by show (l[j]?.map fun a=>bys a.type).getD [] = _;rw [g1];rfl
       clear g1
       have HBA:=hid (Bx.make (Ext.refl wr) #[.string x1.type,.slice A1 n1 c1] 42)
       have HTY : ∀ w,Calls Tryz.prog 97 #[.string x1.type] w (TypeSays w (bys x1.type)):=fun w=>rtype_any x1.type w (by have:=HT1.out;simp only [maxLen];omega)
       unfold TypeSays at HTY
       have HAP : Hid (attP (prevT l j) x1 = (decide ((typeB (bys x1.type)).1 = bys x1.type) && ltB (prevT l j) (bys x1.type) && decide (1 ≤ x1.vals.length) && decide (x1.vals.length ≤ 20) && !badV (bys x1.type) x1.vals && !twiceV (bys x1.type) x1.vals)):=rfl
       have HST : Hid (attsFrom (prevT l j) (x1 :: l.drop (j + 1)) = (attP (prevT l j) x1 && attsFrom (bys x1.type) (l.drop (j + 1)))):=rfl
       rw [← hd.out,HO.out] at HST
       clear hd HO
       generalize typeB (bys x1.type) = tk at *
       obtain ⟨t,k⟩:=tk
       simp only at HTY HAP
       obtain ⟨ts,hts⟩ : ∃ ts,str t = ts:=⟨_,rfl⟩
       rw [hts] at HTY
       have HTT : Hid (t = bys ts):=by show _ = _;rw [← hts,bys_str]
       clear hts
       rw [HTT.out] at HAP
       clear HTT
       have d0 : True:=trivial
       by_cases hz0 : ts.size = 0
       ·have y0:=emp_yes hz0
        have HFF : Hid (F = false):=HF.out (by
         rw [HST.out,HAP.out]
         by_cases hq : bys ts = bys x1.type
         ·rw [← hq,show bys ts = [] from by rw [str_emp hz0];rfl,lt_none];simp
         ·rw [decide_eq_false hq];simp)
        clear hz0
        go_wp2_with (go_at_call 97;(with_reducible refine (HTY _).mono ?_);rintro e w2 ⟨rfl,hx2⟩;have HA2:=hid (HBA.out.later hx2);have p0:=HA2.out.cell (i:=0) rfl;have p1:=HA2.out.cell (i:=1) rfl;have HB2:=hid (HB.out.later HA2.out.ext);have cc1:=HB2.out.cell (i:=1) rfl;clear hx2)
        go_ret
        exact ⟨by rw [HFF.out];rfl,HB.out.ext.trans HA2.out.ext⟩
       ·have y0:=emp_nb hz0
        by_cases hty : ts = x1.type
        ·subst hty
         have hne1 : bys x1.type ≠ []:=by intro h;exact hz0 (by rw [← bys_len,h];rfl)
         rw [decide_eq_true (show bys x1.type = bys x1.type from rfl)] at HAP
         have hn1:=hid R1.out.len
         have HAL : ∀ w',Ext wr w' → Calls Tryz.prog 98 #[.string x1.type,.slice A1 n1 c1] w' fun e w''=>e = .returned (.bool (!twiceV (bys x1.type) x1.vals)) ∧ Ext w' w'':=fun w' hx=>alone_any (R1.out.ext hx) x1.type (HG.out.gl.ext (HB.out.ext.trans hx)) HT1.out
         cases j with
         | zero=>
          rw [show prevT l 0 = [] from rfl] at HAP HST
          rw [Nat.zero_mul,Nat.add_zero] at e10 e11
          rw [lt_nil hne1] at HAP
          clear hne1 hz0
          by_cases hz1 : n1 = 0
          ·have HFF : Hid (F = false):=HF.out (by rw [HST.out,HAP.out,decide_eq_false (show ¬ 1 ≤ x1.vals.length by have:=hn1.out;omega)];simp)
           subst hz1
           go_wp2_with (go_at_call 97;(with_reducible refine (HTY _).mono ?_);rintro e w2 ⟨rfl,hx2⟩;have HA2:=hid (HBA.out.later hx2);have p0:=HA2.out.cell (i:=0) rfl;have p1:=HA2.out.cell (i:=1) rfl;have HB2:=hid (HB.out.later HA2.out.ext);have cc1:=HB2.out.cell (i:=1) rfl;clear hx2)
           go_ret
           exact ⟨by rw [HFF.out];rfl,HB.out.ext.trans HA2.out.ext⟩
          ·have q3 : decide ((n1 : Int) < 1) = false:=by rw [decide_eq_false_iff_not];omega
           rw [decide_eq_true (show 1 ≤ x1.vals.length by have:=hn1.out;omega)] at HAP
           by_cases h20 : 20 < n1
           ·have HFF : Hid (F = false):=HF.out (by rw [HST.out,HAP.out,decide_eq_false (show ¬ x1.vals.length ≤ 20 by have:=hn1.out;omega)];simp)
            have q4 : 20 < (n1 : Int):=by omega
            clear h20
            go_wp2_with (go_at_call 97;(with_reducible refine (HTY _).mono ?_);rintro e w2 ⟨rfl,hx2⟩;have HA2:=hid (HBA.out.later hx2);have p0:=HA2.out.cell (i:=0) rfl;have p1:=HA2.out.cell (i:=1) rfl;have HB2:=hid (HB.out.later HA2.out.ext);have cc1:=HB2.out.cell (i:=1) rfl;clear hx2)
            go_ret
            exact ⟨by rw [HFF.out];rfl,HB.out.ext.trans HA2.out.ext⟩
           ·have q4 : decide (20 < (n1 : Int)) = false:=by rw [decide_eq_false_iff_not];omega
            rw [decide_eq_true (show x1.vals.length ≤ 20 by have:=hn1.out;omega)] at HAP
            have hn20 : n1 ≤ 20:=by omega
            clear h20
            cases hb2 : twiceV (bys x1.type) x1.vals with
            | true=>
             have HFF : Hid (F = false):=HF.out (by rw [HST.out,HAP.out,hb2];simp)
             rw [hb2] at HAL
             clear hb2
             go_wp2_with (first
              | (go_at_call 97;(with_reducible refine (HTY _).mono ?_);rintro e w2 ⟨rfl,hx2⟩;have HA2:=hid (HBA.out.later hx2);have p0:=HA2.out.cell (i:=0) rfl;have p1:=HA2.out.cell (i:=1) rfl;have HB2:=hid (HB.out.later HA2.out.ext);have cc1:=HB2.out.cell (i:=1) rfl;clear hx2)
              | (go_at_call 98;(with_reducible refine (HAL _ HA2.out.ext).mono ?_);rintro e w3 ⟨rfl,hx3⟩;have HA3:=hid (HA2.out.later hx3);have p1:=HA3.out.cell (i:=1) rfl;clear hx3))
             go_ret
             exact ⟨by rw [HFF.out];rfl,HB.out.ext.trans HA3.out.ext⟩
            | false=>
             rw [hb2] at HAL HAP
             clear hb2
             have HO2 : Hid (badV (bys x1.type) x1.vals = false → attsFrom (bys x1.type) (l.drop (0 + 1)) = attsFrom [] l):=fun h=>by rw [HST.out,HAP.out,h];simp
             have HFF : Hid (badV (bys x1.type) x1.vals = true → F = false):=fun h=>HF.out (by rw [HST.out,HAP.out,h];simp)
             go_wp2_with (first
              | (go_at_call 97;(with_reducible refine (HTY _).mono ?_);rintro e w2 ⟨rfl,hx2⟩;have HA2:=hid (HBA.out.later hx2);have p0:=HA2.out.cell (i:=0) rfl;have p1:=HA2.out.cell (i:=1) rfl;have HB2:=hid (HB.out.later HA2.out.ext);have cc1:=HB2.out.cell (i:=1) rfl;clear hx2)
              | (go_at_call 98;(with_reducible refine (HAL _ HA2.out.ext).mono ?_);rintro e w3 ⟨rfl,hx3⟩;have HA3:=hid (HA2.out.later hx3);have p1:=HA3.out.cell (i:=1) rfl;clear hx3))
             clear q3 q4 HAL HTY
             obtain ⟨wo,hwo⟩ : ∃ x,x = wr:=⟨_,rfl⟩
             subst hwo
             go_loopw [98] (fun i wr=>∃ m : Nat,m ≤ n1 ∧ i = .int .i64 m ∧ Hid ((x1.vals.take m).any (badX (bys x1.type)) = false) ∧ Hid (Bx wo wr wo.heap.size 42 #[.string x1.type,.slice A1 n1 c1])) (fun i _=>n1 - (intOf i).toNat)
             case atStart=>exact ⟨0,by omega,rfl,by simp [Hid],HA3.out⟩
             case round=>
              obtain ⟨m,hm,rfl,Htk,HAW⟩:=hrel
              by_cases hlt1 : m < n1
              ·have p1:=HAW.out.cell (i:=1) rfl
               obtain ⟨b2,o2,rfl,c2⟩:=(R1.out.ext HAW.out.ext).str_cell (by omega)
               have e2:=c2 m hlt1
               clear c2
               have g2 : x1.vals[m]? = some (x1.vals[m]?.getD ByteArray.empty):=by have:=hn1.out;rw [List.getElem?_eq_getElem (by omega)];simp
               have Hg2:=hid g2
               clear g2
               generalize x1.vals[m]?.getD ByteArray.empty = y1 at *
               have HV : Calls Tryz.prog 60 #[.string x1.type,.string y1] wr (ValZSays wr (bys x1.type) (bys y1)):=rvalueZ_any x1.type y1 wr (HG.out.gl.ext (HB.out.ext.trans HAW.out.ext)) HT1.out
               unfold ValZSays at HV
               have HBX : Hid (badX (bys x1.type) y1 = ((valZ (bys x1.type) (bys y1)).2 != 0)):=rfl
               generalize valZ (bys x1.type) (bys y1) = vz at *
               obtain ⟨z1,z2⟩:=vz
               simp only at HV HBX
               cases hz2 : (z2 != 0)
               all_goals
                rw [hz2] at HBX
                go_wp2_with (go_at_call 60;(with_reducible refine HV.mono ?_);rintro e w4 ⟨rfl,hx4⟩;have HA4:=hid (HAW.out.later hx4);clear hx4)
                first
                 | (go_ret;exact ⟨by rw [show F = false from HFF.out (any_at' Hg2.out HBX.out)];rfl,HB.out.ext.trans HA4.out.ext⟩)
                 | exact ⟨⟨m + 1,by omega,by go_num,any_take' Htk.out Hg2.out HBX.out,HA4.out⟩,by simp [intOf];omega⟩
              ·obtain rfl : m = n1:=by omega
               have h9:=Htk.out
               rw [List.take_of_length_le (Nat.le_of_eq hn1.out.symm)] at h9
               have HO3:=hid (HO2.out h9)
               clear h9
               go_wp2
               exact ⟨⟨0 + 1,by omega,by go_num,by rw [show prevT l (0 + 1) = bys x1.type from HPV.out];exact HO3.out,HB.out.later HAW.out.ext⟩,by simp [intOf];omega⟩
         | succ i=>
          obtain ⟨b3,o3,v3,x3,hv3,g3,-,⟨A3,n3,c3,rfl,r3⟩,q3⟩:=(HR.out.ext HB.out.ext).at_ (i:=i) (by omega)
          injection hv3 with hv3
          injection hv3 with z1 z2 z3
          subst z1 z2
          have e30:=q3 0 _ rfl
          simp only [Elem.att,Nat.add_zero] at e30
          have HPP : prevT l (i + 1) = bys x3.type:=by show (l[i]?.map fun a=>bys a.type).getD [] = _;rw [g3];rfl
          have HE3:=hid e30
          have k1 : ((i + 1 : Nat) : Int) - 1 = (i : Int):=by omega
          have k2 : (0 : Int) < ((i + 1 : Nat) : Int):=by omega
          have k3 : (i : Int) < (n : Int):=by omega
          clear q3 r3 g3 e30
          rw [HPP] at HAP HST
          clear HPP hne1 hz0
          cases hlt2 : ltB (bys x3.type) (bys x1.type) with
          | false=>
           have HFF : Hid (F = false):=HF.out (by rw [HST.out,HAP.out,hlt2];simp)
           have q1:=geqB hlt2
           clear hlt2
           go_wp2_with (go_at_call 97;(with_reducible refine (HTY _).mono ?_);rintro e w2 ⟨rfl,hx2⟩;have HA2:=hid (HBA.out.later hx2);have p0:=HA2.out.cell (i:=0) rfl;have p1:=HA2.out.cell (i:=1) rfl;have HB2:=hid (HB.out.later HA2.out.ext);have cc1:=HB2.out.cell (i:=1) rfl;have e33:=cell_later HE3.out _ HA2.out.ext;clear hx2)
           go_ret
           exact ⟨by rw [HFF.out];rfl,HB.out.ext.trans HA2.out.ext⟩
          | true=>
           have q1:=geqB hlt2
           rw [hlt2] at HAP
           clear hlt2
           by_cases hz1 : n1 = 0
           ·have HFF : Hid (F = false):=HF.out (by rw [HST.out,HAP.out,decide_eq_false (show ¬ 1 ≤ x1.vals.length by have:=hn1.out;omega)];simp)
            subst hz1
            go_wp2_with (go_at_call 97;(with_reducible refine (HTY _).mono ?_);rintro e w2 ⟨rfl,hx2⟩;have HA2:=hid (HBA.out.later hx2);have p0:=HA2.out.cell (i:=0) rfl;have p1:=HA2.out.cell (i:=1) rfl;have HB2:=hid (HB.out.later HA2.out.ext);have cc1:=HB2.out.cell (i:=1) rfl;have e33:=cell_later HE3.out _ HA2.out.ext;clear hx2)
            go_ret
            exact ⟨by rw [HFF.out];rfl,HB.out.ext.trans HA2.out.ext⟩
           ·have q3 : decide ((n1 : Int) < 1) = false:=by rw [decide_eq_false_iff_not];omega
            rw [decide_eq_true (show 1 ≤ x1.vals.length by have:=hn1.out;omega)] at HAP
            by_cases h20 : 20 < n1
            ·have HFF : Hid (F = false):=HF.out (by rw [HST.out,HAP.out,decide_eq_false (show ¬ x1.vals.length ≤ 20 by have:=hn1.out;omega)];simp)
             have q4 : 20 < (n1 : Int):=by omega
             clear h20
             go_wp2_with (go_at_call 97;(with_reducible refine (HTY _).mono ?_);rintro e w2 ⟨rfl,hx2⟩;have HA2:=hid (HBA.out.later hx2);have p0:=HA2.out.cell (i:=0) rfl;have p1:=HA2.out.cell (i:=1) rfl;have HB2:=hid (HB.out.later HA2.out.ext);have cc1:=HB2.out.cell (i:=1) rfl;have e33:=cell_later HE3.out _ HA2.out.ext;clear hx2)
             go_ret
             exact ⟨by rw [HFF.out];rfl,HB.out.ext.trans HA2.out.ext⟩
            ·have q4 : decide (20 < (n1 : Int)) = false:=by rw [decide_eq_false_iff_not];omega
             rw [decide_eq_true (show x1.vals.length ≤ 20 by have:=hn1.out;omega)] at HAP
             have hn20 : n1 ≤ 20:=by omega
             clear h20
             cases hb2 : twiceV (bys x1.type) x1.vals with
             | true=>
              have HFF : Hid (F = false):=HF.out (by rw [HST.out,HAP.out,hb2];simp)
              rw [hb2] at HAL
              clear hb2
              go_wp2_with (first
               | (go_at_call 97;(with_reducible refine (HTY _).mono ?_);rintro e w2 ⟨rfl,hx2⟩;have HA2:=hid (HBA.out.later hx2);have p0:=HA2.out.cell (i:=0) rfl;have p1:=HA2.out.cell (i:=1) rfl;have HB2:=hid (HB.out.later HA2.out.ext);have cc1:=HB2.out.cell (i:=1) rfl;have e33:=cell_later HE3.out _ HA2.out.ext;clear hx2)
               | (go_at_call 98;(with_reducible refine (HAL _ HA2.out.ext).mono ?_);rintro e w3 ⟨rfl,hx3⟩;have HA3:=hid (HA2.out.later hx3);have p1:=HA3.out.cell (i:=1) rfl;clear hx3))
              go_ret
              exact ⟨by rw [HFF.out];rfl,HB.out.ext.trans HA3.out.ext⟩
             | false=>
              rw [hb2] at HAL HAP
              clear hb2
              have HO2 : Hid (badV (bys x1.type) x1.vals = false → attsFrom (bys x1.type) (l.drop ((i + 1) + 1)) = attsFrom [] l):=fun h=>by rw [HST.out,HAP.out,h];simp
              have HFF : Hid (badV (bys x1.type) x1.vals = true → F = false):=fun h=>HF.out (by rw [HST.out,HAP.out,h];simp)
              go_wp2_with (first
               | (go_at_call 97;(with_reducible refine (HTY _).mono ?_);rintro e w2 ⟨rfl,hx2⟩;have HA2:=hid (HBA.out.later hx2);have p0:=HA2.out.cell (i:=0) rfl;have p1:=HA2.out.cell (i:=1) rfl;have HB2:=hid (HB.out.later HA2.out.ext);have cc1:=HB2.out.cell (i:=1) rfl;have e33:=cell_later HE3.out _ HA2.out.ext;clear hx2)
               | (go_at_call 98;(with_reducible refine (HAL _ HA2.out.ext).mono ?_);rintro e w3 ⟨rfl,hx3⟩;have HA3:=hid (HA2.out.later hx3);have p1:=HA3.out.cell (i:=1) rfl;clear hx3))
              clear q3 q4 HAL HTY
              obtain ⟨wo,hwo⟩ : ∃ x,x = wr:=⟨_,rfl⟩
              subst hwo
              go_loopw [98] (fun i wr=>∃ m : Nat,m ≤ n1 ∧ i = .int .i64 m ∧ Hid ((x1.vals.take m).any (badX (bys x1.type)) = false) ∧ Hid (Bx wo wr wo.heap.size 42 #[.string x1.type,.slice A1 n1 c1])) (fun i _=>n1 - (intOf i).toNat)
              case atStart=>exact ⟨0,by omega,rfl,by simp [Hid],HA3.out⟩
              case round=>
               obtain ⟨m,hm,rfl,Htk,HAW⟩:=hrel
               by_cases hlt1 : m < n1
               ·have p1:=HAW.out.cell (i:=1) rfl
                obtain ⟨b2,o2,rfl,c2⟩:=(R1.out.ext HAW.out.ext).str_cell (by omega)
                have e2:=c2 m hlt1
                clear c2
                have g2 : x1.vals[m]? = some (x1.vals[m]?.getD ByteArray.empty):=by have:=hn1.out;rw [List.getElem?_eq_getElem (by omega)];simp
                have Hg2:=hid g2
                clear g2
                generalize x1.vals[m]?.getD ByteArray.empty = y1 at *
                have HV : Calls Tryz.prog 60 #[.string x1.type,.string y1] wr (ValZSays wr (bys x1.type) (bys y1)):=rvalueZ_any x1.type y1 wr (HG.out.gl.ext (HB.out.ext.trans HAW.out.ext)) HT1.out
                unfold ValZSays at HV
                have HBX : Hid (badX (bys x1.type) y1 = ((valZ (bys x1.type) (bys y1)).2 != 0)):=rfl
                generalize valZ (bys x1.type) (bys y1) = vz at *
                obtain ⟨z1,z2⟩:=vz
                simp only at HV HBX
                cases hz2 : (z2 != 0)
                all_goals
                 rw [hz2] at HBX
                 go_wp2_with (go_at_call 60;(with_reducible refine HV.mono ?_);rintro e w4 ⟨rfl,hx4⟩;have HA4:=hid (HAW.out.later hx4);clear hx4)
                 first
                  | (go_ret;exact ⟨by rw [show F = false from HFF.out (any_at' Hg2.out HBX.out)];rfl,HB.out.ext.trans HA4.out.ext⟩)
                  | exact ⟨⟨m + 1,by omega,by go_num,any_take' Htk.out Hg2.out HBX.out,HA4.out⟩,by simp [intOf];omega⟩
               ·obtain rfl : m = n1:=by omega
                have h9:=Htk.out
                rw [List.take_of_length_le (Nat.le_of_eq hn1.out.symm)] at h9
                have HO3:=hid (HO2.out h9)
                clear h9
                go_wp2
                exact ⟨⟨(i + 1) + 1,by omega,by go_num,by rw [show prevT l ((i + 1) + 1) = bys x1.type from HPV.out];exact HO3.out,HB.out.later HAW.out.ext⟩,by simp [intOf];omega⟩
        ·have s1:=str_ne hty
         have HFF : Hid (F = false):=HF.out (by rw [HST.out,HAP.out,decide_eq_false (show ¬ bys ts = bys x1.type from fun e=>hty (by rw [← str_bys ts,e]))];simp)
         clear hty hz0
         go_wp2_with (go_at_call 97;(with_reducible refine (HTY _).mono ?_);rintro e w2 ⟨rfl,hx2⟩;have HA2:=hid (HBA.out.later hx2);have p0:=HA2.out.cell (i:=0) rfl;have p1:=HA2.out.cell (i:=1) rfl;have HB2:=hid (HB.out.later HA2.out.ext);have cc1:=HB2.out.cell (i:=1) rfl;clear hx2)
         go_ret
         exact ⟨by rw [HFF.out];rfl,HB.out.ext.trans HA2.out.ext⟩
      ·obtain rfl : j = n:=by omega
       have hd : l.drop j = []:=by rw [hl.out];exact List.drop_eq_nil_of_le (Nat.le_refl _)
       have HTT : Hid (F = true):=HT.out (by have:=HO.out;rw [hd] at this;exact this.symm)
       clear hd HO HF HT
       go_wp2
       go_ret
       exact ⟨by rw [HTT.out];rfl,HB.out.ext⟩
  ·have e0:=str_ne hn
   have HE : Hid (F = false):=by show _ = _;rw [HD.out,decide_eq_false (show ¬ ns = bys nm from fun e=>hn (by rw [HMS.out,e]))];simp
   clear HD hn HMS hc
   go_enter Tryz.func56,Tryz.ntmps56
   go_wp2_with (go_at_call 26;(with_reducible refine (HNM _ (HG.out.gl.ext HB0.out.ext)).mono ?_);rintro e w1 ⟨rfl,hx1⟩;have HB1:=hid (HB0.out.later hx1);have c0:=HB1.out.cell (i:=0) rfl;have c1:=HB1.out.cell (i:=1) rfl;clear hx1)
   clear c0 c1
   go_ret
   exact ⟨by rw [HE.out];rfl,HB1.out.ext⟩
 ·have t1 : (cd != 0) = true:=by rw [bne_iff_ne];exact hc
  have HE : Hid (F = false):=by show _ = _;rw [HD.out,decide_eq_false hc];simp
  clear HD hc HMS
  go_enter Tryz.func56,Tryz.ntmps56
  go_wp2_with (go_at_call 26;(with_reducible refine (HNM _ (HG.out.gl.ext HB0.out.ext)).mono ?_);rintro e w1 ⟨rfl,hx1⟩;have HB1:=hid (HB0.out.later hx1);have c0:=HB1.out.cell (i:=0) rfl;have c1:=HB1.out.cell (i:=1) rfl;clear hx1)
  clear c0 c1
  go_ret
  exact ⟨by rw [HE.out];rfl,HB1.out.ext⟩
end Go.Proofs.YtejdpadhemeldaaGreatDoor
