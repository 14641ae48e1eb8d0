/- Lemmas of the walk that the last text of this claim joins. -/
import Derived.Test.YtahahafhendgoaaGreatDoorZ14
import Derived.Test.YtahahafhendgoaaGreatDoorZ08
set_option maxHeartbeats 40000000
set_option linter.unusedVariables false
set_option linter.unusedSimpArgs false
namespace Go.Proofs.YtahahafhendgoaaGreatDoor
open Go.RowKit
set_option maxRecDepth 100000
theorem digs_len (v : List UInt8) : (digsB v).length ≤ v.length:=by unfold digsB;split <;> simp
theorem ext_drop (s : ByteArray) (k : Nat) : bys (s.extract k s.size) = (bys s).drop k:=Lib.extract_to_end s k
def IntSays (w : World) (v : List UInt8) (e : Ending) (w' : World) : Prop:=e = .returned (.tuple #[.int .i64 (if intB v then intV v else 0),.bool (intB v)]) ∧ Ext w w'
theorem rinteger_any (s : ByteArray) (w : World) (hs : s.size ≤ 4000000) :
 Calls Tryz.prog 100 #[.string s] w fun e w'=>IntSays w (bys s) e w':=by
 have Hs:=hid hs
 by_cases h0 : s.size = 0
 ·have t0 : ¬ (0 : Int) < (s.size : Int):=by omega
  have HF : Hid (intB (bys s) = false):=by rw [str_emp h0];rfl
  have t1 : (s.size : Int) < 1:=by omega
  clear h0 hs
  go_enter Tryz.func100,Tryz.ntmps100
  go_wp2
  go_ret2
  exact ⟨by rw [HF.out];rfl,Ext.refl _⟩
 ·have t0 : (0 : Int) < (s.size : Int):=by omega
  obtain ⟨y,hy⟩ : ∃ x,(bys s)[0]? = some x:=⟨_,List.getElem?_eq_getElem (by rw [bys_len];omega)⟩
  have hsz : 0 < s.size:=by omega
  have gy:=bys_get hy hsz
  have Hy : Hid ((bys s).head? = some y):=by show _ = _;rw [List.head?_eq_getElem?,hy]
  clear h0 hy
  by_cases h45 : y = 45
  ·have ty : ((y.toNat : Int) == 45) = true:=byte_is (k:=45) (by decide) h45
   have HNEG : Hid (negB (bys s) = true):=by show _ = _;unfold negB;rw [Hy.out,h45];rfl
   clear h45
   obtain ⟨d,hd⟩ : ∃ d,s.extract 1 s.size = d:=⟨_,rfl⟩
   have HD : Hid (bys d = digsB (bys s)):=by show _ = _;rw [← hd,ext_drop];unfold digsB;rw [HNEG.out];rfl
   go_enter Tryz.func100,Tryz.ntmps100
   have hz1 : d.size ≤ 4000000:=by rw [← bys_len d,HD.out];exact Nat.le_trans (digs_len (bys s)) (by rw [bys_len];exact Hs.out)
   have HN : Hid (intB (bys s) = true ↔ (1 ≤ d.size ∧ d.size ≤ 18 ∧ ¬ ((bys d).head? = some 48 ∧ (1 < d.size ∨ negB (bys s) = true)) ∧ (bys d).all digC = true)):=by
    show _ ↔ _
    rw [intB_iff,← HD.out,bys_len]
   have HV : Hid (intV (bys s) = -(valFrom 0 (bys d) : Int)):=by show _ = _;unfold intV;rw [HNEG.out,← HD.out];rfl
   by_cases hl1 : d.size < 1
   ·have hl1' : (d.size : Int) < 1:=by omega
    have HF : Hid (intB (bys s) = false):=by show _ = _;cases h : intB (bys s) with | false=>rfl | true=>(have:=HN.out.1 h;omega)
    clear hl1
    go_wp2
    go_ret2
    exact ⟨by rw [HF.out];rfl,Ext.refl _⟩
   ·have hl1' : ¬ (d.size : Int) < 1:=by omega
    by_cases hl2 : 18 < d.size
    ·have hl2' : 18 < (d.size : Int):=by omega
     have HF : Hid (intB (bys s) = false):=by show _ = _;cases h : intB (bys s) with | false=>rfl | true=>(have:=HN.out.1 h;omega)
     clear hl1 hl2
     go_wp2
     go_ret2
     exact ⟨by rw [HF.out];rfl,Ext.refl _⟩
    ·have hl2' : ¬ 18 < (d.size : Int):=by omega
     obtain ⟨x0,hx0⟩ : ∃ x,(bys d)[0]? = some x:=⟨_,List.getElem?_eq_getElem (by rw [bys_len];omega)⟩
     have hz0 : 0 < d.size:=by omega
     have g0:=bys_get hx0 hz0
     have hh0 : Hid ((bys d).head? = some x0):=by show _ = _;rw [List.head?_eq_getElem?,hx0]
     clear hx0
     skip
     by_cases hb : x0 = 48 ∧ (1 < d.size ∨ negB (bys s) = true)
     ·have t0 : ((x0.toNat : Int) == 48) = true:=byte_is (k:=48) (by decide) hb.1
      have HF : Hid (intB (bys s) = false):=by
       show _ = _
       cases h : intB (bys s) with
       | false=>rfl
       | true=>exact absurd ⟨by rw [hh0.out,hb.1],hb.2⟩ (HN.out.1 h).2.2.1
      have hb2:=hb.2
      clear hl1 hl2 hb
      rw [HNEG.out] at hb2
      by_cases hg : 1 < d.size
      ·have hg' : 1 < (d.size : Int):=by omega
       clear hb2 hg
       go_wp2
       go_ret2
       exact ⟨by rw [HF.out];rfl,Ext.refl _⟩
      ·have hg' : ¬ 1 < (d.size : Int):=by omega
       clear hg
       have hb3 : (true : Bool) = true:=by rcases hb2 with h | h;exact absurd h (by omega);exact h
       clear hb2
       first
        | exact absurd hb3 (by decide)
        | (go_wp2
           go_ret2
           exact ⟨by rw [HF.out];rfl,Ext.refl _⟩)
     ·have hok : Hid (¬ ((bys d).head? = some 48 ∧ (1 < d.size ∨ negB (bys s) = true))):=by
       show ¬ _
       rintro ⟨h1,h2⟩
       rw [hh0.out] at h1
       injection h1 with h1
       exact hb ⟨h1,h2⟩
      have HT : Hid ((((x0.toNat : Int) == 48) = false) ∨ (((x0.toNat : Int) == 48) = true ∧ ¬ 1 < (d.size : Int) ∧ (true : Bool) = false)):=by
       show _ ∨ _
       by_cases h48 : x0 = 48
       ·right
        refine ⟨byte_is (k:=48) (by decide) h48,?_,?_⟩
        ·exact fun h=>hb ⟨h48,.inl (by omega)⟩
        ·cases hq : (true : Bool) with
         | false=>rfl
         | true=>exact absurd ⟨h48,.inr (by first | (rw [HNEG.out];done) | (rw [HNEG.out];exact hq))⟩ hb
       ·exact .inl (byte_isnt (k:=48) h48)
      clear hl1 hl2 hb
      rcases HT.out with t0 | ⟨t0,t1,t2⟩
      ·clear HT
       go_wp2
       go_loop [6,7] (fun n i=>∃ k : Nat,k ≤ d.size ∧ i = .int .i64 k ∧ n = .int .i64 (valFrom 0 ((bys d).take k) : Int) ∧ Hid (((bys d).take k).all digC = true)) (fun _ i=>d.size - (intOf i).toNat)
       case atStart=>exact ⟨0,by omega,rfl,rfl,rfl⟩
       case round=>
        obtain ⟨k,hk,rfl,rfl,HA⟩:=hrel
        have hd18 : d.size ≤ 18:=by omega
        have HB : Hid (valFrom 0 ((bys d).take k) < 10 ^ k):=by
         have h:=valFrom_lt ((bys d).take k) 0 HA.out
         have h2 : ((bys d).take k).length ≤ k:=List.length_take_le _ _
         have h3 : 10 ^ ((bys d).take k).length ≤ 10 ^ k:=Nat.pow_le_pow_right (by decide) h2
         show _ < _
         omega
        by_cases hlt : k < d.size
        ·have hv17 : valFrom 0 ((bys d).take k) < 100000000000000000:=by
          have h3 : 10 ^ k ≤ 10 ^ 17:=Nat.pow_le_pow_right (by decide) (by omega)
          have h4:=HB.out
          have h5 : (10 : Nat) ^ 17 = 100000000000000000:=rfl
          omega
         obtain ⟨x,hx⟩ : ∃ x,(bys d)[k]? = some x:=⟨_,List.getElem?_eq_getElem (by rw [bys_len];exact hlt)⟩
         have gk:=bys_get hx hlt
         have hx1 : (x.toNat : Int) < 256:=by have:=x.toNat_lt;omega
         have HX:=hid hx
         clear hx
         by_cases h48 : (x.toNat : Int) < 48
         ·have HF : Hid (intB (bys s) = false):=by
           show _ = _
           cases h : intB (bys s) with
           | false=>rfl
           | true=>
            have h7:=(HN.out.1 h).2.2.2
            rw [List.all_eq_true] at h7
            have:=(digC_iff x).1 (h7 x (List.mem_of_getElem? HX.out))
            omega
          go_wp2
          go_ret2
          exact ⟨by rw [HF.out];rfl,Ext.refl _⟩
         ·by_cases h57 : 57 < (x.toNat : Int)
          ·have HF : Hid (intB (bys s) = false):=by
            show _ = _
            cases h : intB (bys s) with
            | false=>rfl
            | true=>
             have h7:=(HN.out.1 h).2.2.2
             rw [List.all_eq_true] at h7
             have:=(digC_iff x).1 (h7 x (List.mem_of_getElem? HX.out))
             omega
           go_wp2
           go_ret2
           exact ⟨by rw [HF.out];rfl,Ext.refl _⟩
          ·have h48' : 48 ≤ (x.toNat : Int):=by omega
           have HT : Hid ((bys d).take (k + 1) = (bys d).take k ++ [x]):=by show _ = _;rw [List.take_add_one,HX.out];rfl
           have HD2 : Hid (digC x = true):=(digC_iff x).2 (by omega)
           generalize hv : valFrom 0 ((bys d).take k) = m at *
           go_wp2
           refine ⟨⟨k + 1,by omega,by go_num,?_,?_⟩,by simp [intOf];omega⟩
           ·rw [HT.out,valFrom_snoc,hv]
            congr 1
            omega
           ·rw [HT.out]
            show _ = _
            rw [List.all_append,HA.out]
            simp [HD2.out]
        ·obtain rfl : k = d.size:=by omega
         have htk : Hid ((bys d).take d.size = bys d):=by show _ = _;rw [List.take_of_length_le (by rw [bys_len];omega)]
         have HF : Hid (intB (bys s) = true):=HN.out.2 ⟨by omega,by omega,hok.out,by have:=HA.out;rwa [htk.out] at this⟩
         have hv18 : valFrom 0 ((bys d).take d.size) < 1000000000000000000:=by
          have h3 : 10 ^ d.size ≤ 10 ^ 18:=Nat.pow_le_pow_right (by decide) (by omega)
          have h4:=HB.out
          have h5 : (10 : Nat) ^ 18 = 1000000000000000000:=rfl
          omega
         have HW : Hid (valFrom 0 ((bys d).take d.size) = valFrom 0 (bys d)):=by show _ = _;rw [htk.out]
         generalize valFrom 0 ((bys d).take d.size) = m at *
         go_wp2
         go_ret2
         refine ⟨?_,Ext.refl _⟩
         rw [HF.out,HV.out,← HW.out]
         rfl
      ·clear HT
       exact absurd t2 (by decide)
  ·have ty : ((y.toNat : Int) == 45) = false:=byte_isnt (k:=45) h45
   have HNEG : Hid (negB (bys s) = false):=by show _ = _;unfold negB;rw [Hy.out];simpa using h45
   clear h45
   have HD : Hid (bys s = digsB (bys s)):=by show _ = _;unfold digsB;rw [HNEG.out];rfl
   go_enter Tryz.func100,Tryz.ntmps100
   have hz1 : s.size ≤ 4000000:=by rw [← bys_len s,HD.out];exact Nat.le_trans (digs_len (bys s)) (by rw [bys_len];exact Hs.out)
   have HN : Hid (intB (bys s) = true ↔ (1 ≤ s.size ∧ s.size ≤ 18 ∧ ¬ ((bys s).head? = some 48 ∧ (1 < s.size ∨ negB (bys s) = true)) ∧ (bys s).all digC = true)):=by
    show _ ↔ _
    rw [intB_iff,← HD.out,bys_len]
   have HV : Hid (intV (bys s) = (valFrom 0 (bys s) : Int)):=by show _ = _;unfold intV;rw [HNEG.out,← HD.out];rfl
   by_cases hl1 : s.size < 1
   ·have hl1' : (s.size : Int) < 1:=by omega
    have HF : Hid (intB (bys s) = false):=by show _ = _;cases h : intB (bys s) with | false=>rfl | true=>(have:=HN.out.1 h;omega)
    clear hl1
    go_wp2
    go_ret2
    exact ⟨by rw [HF.out];rfl,Ext.refl _⟩
   ·have hl1' : ¬ (s.size : Int) < 1:=by omega
    by_cases hl2 : 18 < s.size
    ·have hl2' : 18 < (s.size : Int):=by omega
     have HF : Hid (intB (bys s) = false):=by show _ = _;cases h : intB (bys s) with | false=>rfl | true=>(have:=HN.out.1 h;omega)
     clear hl1 hl2
     go_wp2
     go_ret2
     exact ⟨by rw [HF.out];rfl,Ext.refl _⟩
    ·have hl2' : ¬ 18 < (s.size : Int):=by omega
     obtain ⟨x0,hx0⟩ : ∃ x,(bys s)[0]? = some x:=⟨_,List.getElem?_eq_getElem (by rw [bys_len];omega)⟩
     have hz0 : 0 < s.size:=by omega
     have g0:=bys_get hx0 hz0
     have hh0 : Hid ((bys s).head? = some x0):=by show _ = _;rw [List.head?_eq_getElem?,hx0]
     clear hx0
     (have exy : x0 = y:=g0.symm.trans gy;subst exy)
     by_cases hb : x0 = 48 ∧ (1 < s.size ∨ negB (bys s) = true)
     ·have t0 : ((x0.toNat : Int) == 48) = true:=byte_is (k:=48) (by decide) hb.1
      have HF : Hid (intB (bys s) = false):=by
       show _ = _
       cases h : intB (bys s) with
       | false=>rfl
       | true=>exact absurd ⟨by rw [hh0.out,hb.1],hb.2⟩ (HN.out.1 h).2.2.1
      have hb2:=hb.2
      clear hl1 hl2 hb
      rw [HNEG.out] at hb2
      by_cases hg : 1 < s.size
      ·have hg' : 1 < (s.size : Int):=by omega
       clear hb2 hg
       go_wp2
       go_ret2
       exact ⟨by rw [HF.out];rfl,Ext.refl _⟩
      ·have hg' : ¬ 1 < (s.size : Int):=by omega
       clear hg
       have hb3 : (false : Bool) = true:=by rcases hb2 with h | h;exact absurd h (by omega);exact h
       clear hb2
       first
        | exact absurd hb3 (by decide)
        | (go_wp2
           go_ret2
           exact ⟨by rw [HF.out];rfl,Ext.refl _⟩)
     ·have hok : Hid (¬ ((bys s).head? = some 48 ∧ (1 < s.size ∨ negB (bys s) = true))):=by
       show ¬ _
       rintro ⟨h1,h2⟩
       rw [hh0.out] at h1
       injection h1 with h1
       exact hb ⟨h1,h2⟩
      have HT : Hid ((((x0.toNat : Int) == 48) = false) ∨ (((x0.toNat : Int) == 48) = true ∧ ¬ 1 < (s.size : Int) ∧ (false : Bool) = false)):=by
       show _ ∨ _
       by_cases h48 : x0 = 48
       ·right
        refine ⟨byte_is (k:=48) (by decide) h48,?_,?_⟩
        ·exact fun h=>hb ⟨h48,.inl (by omega)⟩
        ·cases hq : (false : Bool) with
         | false=>rfl
         | true=>exact absurd ⟨h48,.inr (by first | (rw [HNEG.out];done) | (rw [HNEG.out];exact hq))⟩ hb
       ·exact .inl (byte_isnt (k:=48) h48)
      clear hl1 hl2 hb
      rcases HT.out with t0 | ⟨t0,t1,t2⟩
      ·clear HT
       go_wp2
       go_loop [6,7] (fun n i=>∃ k : Nat,k ≤ s.size ∧ i = .int .i64 k ∧ n = .int .i64 (valFrom 0 ((bys s).take k) : Int) ∧ Hid (((bys s).take k).all digC = true)) (fun _ i=>s.size - (intOf i).toNat)
       case atStart=>exact ⟨0,by omega,rfl,rfl,rfl⟩
       case round=>
        obtain ⟨k,hk,rfl,rfl,HA⟩:=hrel
        have hd18 : s.size ≤ 18:=by omega
        have HB : Hid (valFrom 0 ((bys s).take k) < 10 ^ k):=by
         have h:=valFrom_lt ((bys s).take k) 0 HA.out
         have h2 : ((bys s).take k).length ≤ k:=List.length_take_le _ _
         have h3 : 10 ^ ((bys s).take k).length ≤ 10 ^ k:=Nat.pow_le_pow_right (by decide) h2
         show _ < _
         omega
        by_cases hlt : k < s.size
        ·have hv17 : valFrom 0 ((bys s).take k) < 100000000000000000:=by
          have h3 : 10 ^ k ≤ 10 ^ 17:=Nat.pow_le_pow_right (by decide) (by omega)
          have h4:=HB.out
          have h5 : (10 : Nat) ^ 17 = 100000000000000000:=rfl
          omega
         obtain ⟨x,hx⟩ : ∃ x,(bys s)[k]? = some x:=⟨_,List.getElem?_eq_getElem (by rw [bys_len];exact hlt)⟩
         have gk:=bys_get hx hlt
         have hx1 : (x.toNat : Int) < 256:=by have:=x.toNat_lt;omega
         have HX:=hid hx
         clear hx
         by_cases h48 : (x.toNat : Int) < 48
         ·have HF : Hid (intB (bys s) = false):=by
           show _ = _
           cases h : intB (bys s) with
           | false=>rfl
           | true=>
            have h7:=(HN.out.1 h).2.2.2
            rw [List.all_eq_true] at h7
            have:=(digC_iff x).1 (h7 x (List.mem_of_getElem? HX.out))
            omega
          go_wp2
          go_ret2
          exact ⟨by rw [HF.out];rfl,Ext.refl _⟩
         ·by_cases h57 : 57 < (x.toNat : Int)
          ·have HF : Hid (intB (bys s) = false):=by
            show _ = _
            cases h : intB (bys s) with
            | false=>rfl
            | true=>
             have h7:=(HN.out.1 h).2.2.2
             rw [List.all_eq_true] at h7
             have:=(digC_iff x).1 (h7 x (List.mem_of_getElem? HX.out))
             omega
           go_wp2
           go_ret2
           exact ⟨by rw [HF.out];rfl,Ext.refl _⟩
          ·have h48' : 48 ≤ (x.toNat : Int):=by omega
           have HT : Hid ((bys s).take (k + 1) = (bys s).take k ++ [x]):=by show _ = _;rw [List.take_add_one,HX.out];rfl
           have HD2 : Hid (digC x = true):=(digC_iff x).2 (by omega)
           generalize hv : valFrom 0 ((bys s).take k) = m at *
           go_wp2
           refine ⟨⟨k + 1,by omega,by go_num,?_,?_⟩,by simp [intOf];omega⟩
           ·rw [HT.out,valFrom_snoc,hv]
            congr 1
            omega
           ·rw [HT.out]
            show _ = _
            rw [List.all_append,HA.out]
            simp [HD2.out]
        ·obtain rfl : k = s.size:=by omega
         have htk : Hid ((bys s).take s.size = bys s):=by show _ = _;rw [List.take_of_length_le (by rw [bys_len];omega)]
         have HF : Hid (intB (bys s) = true):=HN.out.2 ⟨by omega,by omega,hok.out,by have:=HA.out;rwa [htk.out] at this⟩
         have hv18 : valFrom 0 ((bys s).take s.size) < 1000000000000000000:=by
          have h3 : 10 ^ s.size ≤ 10 ^ 18:=Nat.pow_le_pow_right (by decide) (by omega)
          have h4:=HB.out
          have h5 : (10 : Nat) ^ 18 = 1000000000000000000:=rfl
          omega
         have HW : Hid (valFrom 0 ((bys s).take s.size) = valFrom 0 (bys s)):=by show _ = _;rw [htk.out]
         generalize valFrom 0 ((bys s).take s.size) = m at *
         go_wp2
         go_ret2
         refine ⟨?_,Ext.refl _⟩
         rw [HF.out,HV.out,← HW.out]
         rfl
      ·clear HT
       go_wp2
       go_loop [6,7] (fun n i=>∃ k : Nat,k ≤ s.size ∧ i = .int .i64 k ∧ n = .int .i64 (valFrom 0 ((bys s).take k) : Int) ∧ Hid (((bys s).take k).all digC = true)) (fun _ i=>s.size - (intOf i).toNat)
       case atStart=>exact ⟨0,by omega,rfl,rfl,rfl⟩
       case round=>
        obtain ⟨k,hk,rfl,rfl,HA⟩:=hrel
        have hd18 : s.size ≤ 18:=by omega
        have HB : Hid (valFrom 0 ((bys s).take k) < 10 ^ k):=by
         have h:=valFrom_lt ((bys s).take k) 0 HA.out
         have h2 : ((bys s).take k).length ≤ k:=List.length_take_le _ _
         have h3 : 10 ^ ((bys s).take k).length ≤ 10 ^ k:=Nat.pow_le_pow_right (by decide) h2
         show _ < _
         omega
        by_cases hlt : k < s.size
        ·have hv17 : valFrom 0 ((bys s).take k) < 100000000000000000:=by
          have h3 : 10 ^ k ≤ 10 ^ 17:=Nat.pow_le_pow_right (by decide) (by omega)
          have h4:=HB.out
          have h5 : (10 : Nat) ^ 17 = 100000000000000000:=rfl
          omega
         obtain ⟨x,hx⟩ : ∃ x,(bys s)[k]? = some x:=⟨_,List.getElem?_eq_getElem (by rw [bys_len];exact hlt)⟩
         have gk:=bys_get hx hlt
         have hx1 : (x.toNat : Int) < 256:=by have:=x.toNat_lt;omega
         have HX:=hid hx
         clear hx
         by_cases h48 : (x.toNat : Int) < 48
         ·have HF : Hid (intB (bys s) = false):=by
           show _ = _
           cases h : intB (bys s) with
           | false=>rfl
           | true=>
            have h7:=(HN.out.1 h).2.2.2
            rw [List.all_eq_true] at h7
            have:=(digC_iff x).1 (h7 x (List.mem_of_getElem? HX.out))
            omega
          go_wp2
          go_ret2
          exact ⟨by rw [HF.out];rfl,Ext.refl _⟩
         ·by_cases h57 : 57 < (x.toNat : Int)
          ·have HF : Hid (intB (bys s) = false):=by
            show _ = _
            cases h : intB (bys s) with
            | false=>rfl
            | true=>
             have h7:=(HN.out.1 h).2.2.2
             rw [List.all_eq_true] at h7
             have:=(digC_iff x).1 (h7 x (List.mem_of_getElem? HX.out))
             omega
           go_wp2
           go_ret2
           exact ⟨by rw [HF.out];rfl,Ext.refl _⟩
          ·have h48' : 48 ≤ (x.toNat : Int):=by omega
           have HT : Hid ((bys s).take (k + 1) = (bys s).take k ++ [x]):=by show _ = _;rw [List.take_add_one,HX.out];rfl
           have HD2 : Hid (digC x = true):=(digC_iff x).2 (by omega)
           generalize hv : valFrom 0 ((bys s).take k) = m at *
           go_wp2
           refine ⟨⟨k + 1,by omega,by go_num,?_,?_⟩,by simp [intOf];omega⟩
           ·rw [HT.out,valFrom_snoc,hv]
            congr 1
            omega
           ·rw [HT.out]
            show _ = _
            rw [List.all_append,HA.out]
            simp [HD2.out]
        ·obtain rfl : k = s.size:=by omega
         have htk : Hid ((bys s).take s.size = bys s):=by show _ = _;rw [List.take_of_length_le (by rw [bys_len];omega)]
         have HF : Hid (intB (bys s) = true):=HN.out.2 ⟨by omega,by omega,hok.out,by have:=HA.out;rwa [htk.out] at this⟩
         have hv18 : valFrom 0 ((bys s).take s.size) < 1000000000000000000:=by
          have h3 : 10 ^ s.size ≤ 10 ^ 18:=Nat.pow_le_pow_right (by decide) (by omega)
          have h4:=HB.out
          have h5 : (10 : Nat) ^ 18 = 1000000000000000000:=rfl
          omega
         have HW : Hid (valFrom 0 ((bys s).take s.size) = valFrom 0 (bys s)):=by show _ = _;rw [htk.out]
         generalize valFrom 0 ((bys s).take s.size) = m at *
         go_wp2
         go_ret2
         refine ⟨?_,Ext.refl _⟩
         rw [HF.out,HV.out,← HW.out]
         rfl
end Go.Proofs.YtahahafhendgoaaGreatDoor
