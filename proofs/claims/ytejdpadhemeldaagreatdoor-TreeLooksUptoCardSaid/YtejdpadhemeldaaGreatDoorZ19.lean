/- Lemmas of the walk that the last text of this claim joins. -/
import Derived.Test.YtejdpadhemeldaaGreatDoorZ18
import Derived.Deep.DeepCutAuto
set_option maxHeartbeats 40000000
set_option linter.unusedVariables false
set_option linter.unusedSimpArgs false
namespace Go.Proofs.YtejdpadhemeldaaGreatDoor
open Go.RowKit
set_option maxRecDepth 100000
def SymSays (d : Nat) : Prop:=∀ (w0 w : World) (g n cap a m b : Nat) (l : List Ava),b - a ≤ d → GrowA 143 w0 w (.slice (some ⟨g,0,none⟩) n cap) l → a < m → m < b → b ≤ n → n ≤ 4000000 →
 Calls Tryz.prog 167 #[.slice (some ⟨g,0,none⟩) n cap,.int .i64 a,.int .i64 m,.int .i64 b,cmpV] w (SubSays w0 w g n cap l)
theorem sym_more (d : Nat) (IH : Hid (SymSays d)) {w0 w : World} {g n cap a m b : Nat} {l : List Ava} (h : GrowA 143 w0 w (.slice (some ⟨g,0,none⟩) n cap) l) (h1 : a < m) (h2 : m < b) (h3 : b ≤ n) (hn : n ≤ 4000000) (hd : b - a ≤ d + 1) (hma : ¬ m = a + 1) (hbm : ¬ b = m + 1) :
 Calls Tryz.prog 167 #[.slice (some ⟨g,0,none⟩) n cap,.int .i64 a,.int .i64 m,.int .i64 b,cmpV] w (SubSays w0 w g n cap l):=by
 have HIH:=IH.out
 unfold SymSays at HIH
 clear IH
 have HG0:=hid h
 have HML : Hid (l.length = n):=by show _ = _;rw [h.n_eq]
 clear h
 have t0 : ((m : Int) - (a : Int) == 1) = false:=by rw [beq_eq_false_iff_ne];omega
 have t1 : ((b : Int) - (m : Int) == 1) = false:=by rw [beq_eq_false_iff_ne];omega
 obtain ⟨md,hmd⟩ : ∃ md,md = (a + b) / 2:=⟨_,rfl⟩
 have zmd : ((a : Int) + (b : Int)) / 2 = (md : Int):=by omega
 have hmd1 : 2 * md ≤ a + b:=by omega
 have hmd2 : a + b ≤ 2 * md + 1:=by omega
 have hma1 : a + 2 ≤ m:=by omega
 have hmb1 : m + 2 ≤ b:=by omega
 clear hmd hma hbm
 obtain ⟨nn,hnn⟩ : ∃ nn,nn = md + m:=⟨_,rfl⟩
 obtain ⟨pp,hpp⟩ : ∃ pp,pp = md + m - 1:=⟨_,rfl⟩
 have zn : (md : Int) + (m : Int) = (nn : Int):=by omega
 have zp : (nn : Int) - 1 = (pp : Int):=by omega
 have hn1 : nn ≤ md + m:=by omega
 have hn2 : md + m ≤ nn:=by omega
 have hp1 : pp + 1 ≤ nn:=by omega
 have hp2 : nn ≤ pp + 1:=by omega
 clear hnn hpp
 go_enter Tryz.func167,Tryz.ntmps167
 go_upto_if 140 with fail
 go_cut [20,21] (fun u v wx=>∃ s r : Nat,u = .int .i64 s ∧ v = .int .i64 r ∧ Hid (Ext w wx) ∧ a ≤ s ∧ s ≤ r ∧ r ≤ m ∧ r ≤ md ∧ md + m ≤ s + b)
 case first=>
  by_cases hmm : md < m
  ·have t2 : decide ((md : Int) < (m : Int)) = true:=by rw [decide_eq_true_eq];omega
   have t3 : decide (md < m) = true:=by rw [decide_eq_true_eq];omega
   go_wp2
   go_meet
   exact ⟨md + m - b,md,by go_num,rfl,Ext.refl _,by omega,by omega,by omega,by omega,by omega⟩
  ·have t2 : decide ((md : Int) < (m : Int)) = false:=by rw [decide_eq_false_iff_not];omega
   have t3 : decide (md < m) = false:=by rw [decide_eq_false_iff_not];omega
   go_wp2
   go_meet
   exact ⟨a,m,rfl,rfl,Ext.refl _,by omega,by omega,by omega,by omega,by omega⟩
 case rest=>
  obtain ⟨s0,r0,rfl,rfl,HXC,hs1,hs2,hs3,hs4,hs5⟩:=hcut
  go_wp2
  go_loopw [20,21] (fun u v wr=>∃ (s r : Nat),a ≤ s ∧ s ≤ r ∧ r ≤ m ∧ r ≤ md ∧ md + m ≤ s + b ∧ u = .int .i64 s ∧ v = .int .i64 r ∧ Hid (Ext w wr)) (fun u v _=>(intOf v).toNat - (intOf u).toNat)
  case atStart=>exact ⟨s0,r0,by omega,by omega,by omega,by omega,by omega,rfl,rfl,HXC.out⟩
  case round=>
   clear hs1 hs2 hs3 hs4 hs5
   obtain ⟨s,r,hs1,hs2,hs3,hs4,hs5,rfl,rfl,HX⟩:=hrel
   have HGM:=hid (HG0.out.later HX.out)
   by_cases hlt : s < r
   ·have hlt' : (s : Int) < (r : Int):=by omega
    obtain ⟨q,hq⟩ : ∃ q,q = (s + r) / 2:=⟨_,rfl⟩
    have hq1 : s ≤ q:=by omega
    have hq2 : q < r:=by omega
    have zq : ((s : Int) + (r : Int)) / 2 = (q : Int):=by omega
    obtain ⟨t,ht⟩ : ∃ t,t = pp - q:=⟨_,rfl⟩
    have zt : (pp : Int) - (q : Int) = (t : Int):=by omega
    have ht1 : t < n:=by omega
    have hq3 : q < n:=by omega
    clear hq ht HIH
    have hml:=HML.out
    obtain ⟨x,hx⟩ : ∃ x,l[t]? = some x:=⟨_,List.getElem?_eq_getElem (show t < l.length by omega)⟩
    obtain ⟨y,hy⟩ : ∃ y,l[q]? = some y:=⟨_,List.getElem?_eq_getElem (show q < l.length by omega)⟩
    have z2 : (t : Int) < (n : Int):=by omega
    have z3 : (q : Int) < (n : Int):=by omega
    have z4 : t < n:=by omega
    have z5 : q < n:=by omega
    have x0:=HGM.out.at0 hx
    have x1:=HGM.out.at1 hx
    have y0:=HGM.out.at0 hy
    have y1:=HGM.out.at1 hy
    clear hx hy hml
    cases hcb : decide (cmpA x y < 0) with
    | false=>
     go_wp2
     refine wp_region_plan (.read 0 (.read 1 (.read 2 (.read 3 (.read 4 (.read 5 (.read 6 (.read 7 (.read 8 (.read 9 (.read 10 (.main 11 (.read 12 (.read 13 .done)))))))))))))) (by kernel_rfl) (by kernel_rfl) ?_
     intro wD hxD
     have XE : Hid (Ext wD wD):=Ext.refl _
     have px0:=cell_later (cell_later x0 _ hxD)
     have px1:=cell_later (cell_later x1 _ hxD)
     have py0:=cell_later (cell_later y0 _ hxD)
     have py1:=cell_later (cell_later y1 _ hxD)
     repeat' (first
      | ((first | refine walks_move rfl rfl ?_ | refine walks_assign rfl rfl ?_ | refine walks_skip rfl rfl ?_);simp only [Act.put,Act.eval,evs])
      | (refine walks_unwanted rfl rfl ?_;simp only [Act.put,evp])
      | (refine walks_read (v:=?_) rfl rfl (fun w' hE=>?_) ?_;rotate_left 1;(· ((try (have hEx:=Ext.trans (Hid.out XE) hE));go_simp;(try go_bits);with_reducible rfl));simp only [Act.put,evp])
      | (refine walks_alt ?_ ?_)
      | (refine walks_main rfl rfl (fun K hK=>?_);go_wp2_with ((go_at_call 132;(with_reducible refine (cmp_any x y _).mono ?_);rintro e w2 ⟨rfl,hx2⟩;have XE':=hid (Ext.trans (Hid.out XE) hx2);clear XE;have XE:=XE';clear XE'));refine hK _ _ (by first | assumption | exact Ext.alloc _ _ | exact Ext.refl _) ?_;clear hK K;try simp only [Act.put,evp]))
     refine walks_done ?_
     have HXW:=hid (hxD.trans XE.out)
     clear px0 px1 py0 py1 x0 x1 y0 y1
     go_wp2
     exact ⟨⟨q + 1,r,by omega,by omega,by omega,by omega,by omega,by go_num,rfl,HX.out.trans HXW.out⟩,by simp [intOf];omega⟩
    | true=>
     have hc:=of_decide_eq_true hcb
     clear hcb
     go_wp2
     refine wp_region_plan (.read 0 (.read 1 (.read 2 (.read 3 (.read 4 (.read 5 (.read 6 (.read 7 (.read 8 (.read 9 (.read 10 (.main 11 (.read 12 (.read 13 .done)))))))))))))) (by kernel_rfl) (by kernel_rfl) ?_
     intro wD hxD
     have XE : Hid (Ext wD wD):=Ext.refl _
     have px0:=cell_later (cell_later x0 _ hxD)
     have px1:=cell_later (cell_later x1 _ hxD)
     have py0:=cell_later (cell_later y0 _ hxD)
     have py1:=cell_later (cell_later y1 _ hxD)
     repeat' (first
      | ((first | refine walks_move rfl rfl ?_ | refine walks_assign rfl rfl ?_ | refine walks_skip rfl rfl ?_);simp only [Act.put,Act.eval,evs])
      | (refine walks_unwanted rfl rfl ?_;simp only [Act.put,evp])
      | (refine walks_read (v:=?_) rfl rfl (fun w' hE=>?_) ?_;rotate_left 1;(· ((try (have hEx:=Ext.trans (Hid.out XE) hE));go_simp;(try go_bits);with_reducible rfl));simp only [Act.put,evp])
      | (refine walks_alt ?_ ?_)
      | (refine walks_main rfl rfl (fun K hK=>?_);go_wp2_with ((go_at_call 132;(with_reducible refine (cmp_any x y _).mono ?_);rintro e w2 ⟨rfl,hx2⟩;have XE':=hid (Ext.trans (Hid.out XE) hx2);clear XE;have XE:=XE';clear XE'));refine hK _ _ (by first | assumption | exact Ext.alloc _ _ | exact Ext.refl _) ?_;clear hK K;try simp only [Act.put,evp]))
     refine walks_done ?_
     have HXW:=hid (hxD.trans XE.out)
     clear px0 px1 py0 py1 x0 x1 y0 y1
     go_wp2
     exact ⟨⟨s,q,by omega,by omega,by omega,by omega,by omega,rfl,rfl,HX.out.trans HXW.out⟩,by simp [intOf];omega⟩
   ·have hlt' : ¬ (s : Int) < (r : Int):=by omega
    obtain ⟨en,hen⟩ : ∃ en,en = nn - s:=⟨_,rfl⟩
    have ze : (nn : Int) - (s : Int) = (en : Int):=by omega
    have he1 : en + s ≤ md + m:=by omega
    have he2 : md + m ≤ en + s:=by omega
    have HBR : Hid (Below w0.heap.size w wr):=Below.mono HX.out (ext_sz HG0.out.ext)
    clear hen
    go_upto_region 39 with fail
    go_cut [185] (fun c wx=>c = .bool (decide (s < m ∧ m < en)) ∧ Hid (Ext wr wx))
    case first=>
     as_aux_lemma=>
      by_cases q1 : s < m
      ·have q1' : (s : Int) < (m : Int):=by omega
       by_cases q2 : m < en
       ·have q2' : (m : Int) < (en : Int):=by omega
        have HQ : Hid (decide (s < m ∧ m < en) = true):=decide_eq_true ⟨q1,q2⟩
        go_wp2
        go_meet
        exact ⟨by rw [HQ.out] <;> rfl,Ext.refl _⟩
       ·have q2' : decide (m < en) = false:=decide_eq_false q2
        have HQ : Hid (decide (s < m ∧ m < en) = false):=decide_eq_false (fun h=>q2 h.2)
        go_wp2
        go_meet
        exact ⟨by rw [HQ.out] <;> rfl,Ext.refl _⟩
      ·have q1' : decide (s < m) = false:=decide_eq_false q1
       have HQ : Hid (decide (s < m ∧ m < en) = false):=decide_eq_false (fun h=>q1 h.1)
       go_wp2
       go_meet
       exact ⟨by rw [HQ.out] <;> rfl,Ext.refl _⟩
    case rest=>
     obtain ⟨rfl,HXA⟩:=hcut
     have HGA:=hid (HGM.out.later HXA.out)
     have HBA:=hid (Below.trans HBR.out (Below.mono HXA.out (ext_sz HGM.out.ext)))
     clear HXA
     go_upto_if 185 with fail
     go_cut [191] (fun c wx=>Hid (∃ l1,GrowA 143 w0 wx (.slice (some ⟨g,0,none⟩) n cap) l1 ∧ Sub l l1 ∧ Below w0.heap.size w wx))
     case first=>
      as_aux_lemma=>
       by_cases hq : s < m ∧ m < en
       ·have hq' : decide (s < m ∧ m < en) = true:=decide_eq_true hq
        have q1:=hq.1
        have q2:=hq.2
        go_wp2_with (go_at_call 193;(with_reducible refine (rotate_any HGA.out q1 q2 (by omega) hn).mono ?_);rintro e w3 ⟨rfl,⟨l3,hg3,hs3⟩,hb3⟩;have HG3:=hid hg3;have HS3:=hid hs3;have HB3:=hid hb3;clear hg3 hs3 hb3)
        go_meet
        exact ⟨l3,HG3.out,HS3.out,Below.trans HBA.out HB3.out⟩
       ·have hq' : decide (s < m ∧ m < en) = false:=decide_eq_false hq
        go_wp2
        go_meet
        exact ⟨l,HGA.out,Sub.refl l,HBA.out⟩
     case rest=>
      clear HGA HBA
      obtain ⟨l1,hg1,hs1',hb1⟩:=hcut.out
      have HGA:=hid hg1
      have HSA:=hid hs1'
      have HBA:=hid hb1
      clear hcut hg1 hs1' hb1
      go_upto_region 41 with fail
      go_cut [199] (fun c wx=>c = .bool (decide (a < s ∧ s < md)) ∧ Hid (Ext wc wx))
      case first=>
       as_aux_lemma=>
        by_cases q1 : a < s
        ·have q1' : (a : Int) < (s : Int):=by omega
         by_cases q2 : s < md
         ·have q2' : (s : Int) < (md : Int):=by omega
          have HQ : Hid (decide (a < s ∧ s < md) = true):=decide_eq_true ⟨q1,q2⟩
          go_wp2
          go_meet
          exact ⟨by rw [HQ.out] <;> rfl,Ext.refl _⟩
         ·have q2' : decide (s < md) = false:=decide_eq_false q2
          have HQ : Hid (decide (a < s ∧ s < md) = false):=decide_eq_false (fun h=>q2 h.2)
          go_wp2
          go_meet
          exact ⟨by rw [HQ.out] <;> rfl,Ext.refl _⟩
        ·have q1' : decide (a < s) = false:=decide_eq_false q1
         have HQ : Hid (decide (a < s ∧ s < md) = false):=decide_eq_false (fun h=>q1 h.1)
         go_wp2
         go_meet
         exact ⟨by rw [HQ.out] <;> rfl,Ext.refl _⟩
      case' rest=>
       obtain ⟨rfl,HXA⟩:=hcut
       have HGB:=hid (HGA.out.later HXA.out)
       have HBB:=hid (Below.trans HBA.out (Below.mono HXA.out (ext_sz HGA.out.ext)))
       clear HXA HGA HBA
       have HGA:=HGB
       have HBA:=HBB
       clear HGB HBB
       go_upto_if 199 with fail
       go_cut [205] (fun c wx=>Hid (∃ l2,GrowA 143 w0 wx (.slice (some ⟨g,0,none⟩) n cap) l2 ∧ Sub l1 l2 ∧ Below w0.heap.size w wx))
       case first=>
        as_aux_lemma=>
         by_cases hq : a < s ∧ s < md
         ·have hq' : decide (a < s ∧ s < md) = true:=decide_eq_true hq
          have q1:=hq.1
          have q2:=hq.2
          go_wp2_with (go_at_call 167;(with_reducible refine (HIH _ _ _ _ _ a s md _ (by omega) HGA.out (by omega) (by omega) (by omega) hn).mono ?_);rintro e w3 ⟨rfl,⟨l3,hg3,hs3⟩,hb3⟩;have HG3:=hid hg3;have HS3:=hid hs3;have HB3:=hid hb3;clear hg3 hs3 hb3)
          go_meet
          exact ⟨l3,HG3.out,HS3.out,Below.trans HBA.out HB3.out⟩
         ·have hq' : decide (a < s ∧ s < md) = false:=decide_eq_false hq
          go_wp2
          go_meet
          exact ⟨l1,HGA.out,Sub.refl l1,HBA.out⟩
      case rest=>
       clear HGA HBA
       obtain ⟨l2,hg1,hs1',hb1⟩:=hcut.out
       have HSA2:=hid (HSA.out.trans hs1')
       clear HSA
       have HGA:=hid hg1
       have HSA:=HSA2
       have HBA:=hid hb1
       clear hcut hg1 hs1' hb1
       obtain ⟨l1',hl1⟩ : ∃ l1',l1' = l2:=⟨_,rfl⟩
       rw [← hl1] at HGA HSA
       clear hl1
       go_upto_region 43 with fail
       go_cut [213] (fun c wx=>c = .bool (decide (md < en ∧ en < b)) ∧ Hid (Ext wc wx))
       case first=>
        as_aux_lemma=>
         by_cases q1 : md < en
         ·have q1' : (md : Int) < (en : Int):=by omega
          by_cases q2 : en < b
          ·have q2' : (en : Int) < (b : Int):=by omega
           have HQ : Hid (decide (md < en ∧ en < b) = true):=decide_eq_true ⟨q1,q2⟩
           go_wp2
           go_meet
           exact ⟨by rw [HQ.out] <;> rfl,Ext.refl _⟩
          ·have q2' : decide (en < b) = false:=decide_eq_false q2
           have HQ : Hid (decide (md < en ∧ en < b) = false):=decide_eq_false (fun h=>q2 h.2)
           go_wp2
           go_meet
           exact ⟨by rw [HQ.out] <;> rfl,Ext.refl _⟩
         ·have q1' : decide (md < en) = false:=decide_eq_false q1
          have HQ : Hid (decide (md < en ∧ en < b) = false):=decide_eq_false (fun h=>q1 h.1)
          go_wp2
          go_meet
          exact ⟨by rw [HQ.out] <;> rfl,Ext.refl _⟩
       case' rest=>
        obtain ⟨rfl,HXA⟩:=hcut
        have HGB:=hid (HGA.out.later HXA.out)
        have HBB:=hid (Below.trans HBA.out (Below.mono HXA.out (ext_sz HGA.out.ext)))
        clear HXA HGA HBA
        have HGA:=HGB
        have HBA:=HBB
        clear HGB HBB
        go_upto_if 213 with fail
        have HBW:=hid HBA.out
        by_cases hq : md < en ∧ en < b
        ·as_aux_lemma=>
          have hq' : decide (md < en ∧ en < b) = true:=decide_eq_true hq
          have q1:=hq.1
          have q2:=hq.2
          go_wp2_with (go_at_call 167;(with_reducible refine (HIH _ _ _ _ _ md en b _ (by omega) HGA.out (by omega) (by omega) (by omega) hn).mono ?_);rintro e w3 ⟨rfl,⟨l3,hg3,hs3⟩,hb3⟩;have HG3:=hid hg3;have HS3:=hid hs3;have HB3:=hid hb3;clear hg3 hs3 hb3)
          go_end0
          exact ⟨rfl,⟨l3,HG3.out,HSA.out.trans HS3.out⟩,Below.trans HBA.out HB3.out⟩
        ·have hq' : decide (md < en ∧ en < b) = false:=decide_eq_false hq
         go_wp2
         go_end0
         exact ⟨rfl,⟨_,HGA.out,HSA.out⟩,HBA.out⟩
theorem symmerge_any : ∀ d,SymSays d
 | 0=>fun w0 w g n cap a m b l hd _ h1 h2=>by omega
 | d + 1=>fun w0 w g n cap a m b l hd h h1 h2 h3 hn=>by
  by_cases hma : m = a + 1
  ·exact sym_one h h1 h2 h3 hn hma
  ·by_cases hbm : b = m + 1
   ·exact sym_two h h1 h2 h3 hn hma hbm
   ·exact sym_more d (hid (symmerge_any d)) h h1 h2 h3 hn hd hma hbm
def StableSays (w0 w : World) (g n cap : Nat) (l : List Ava) (e : Ending) (w' : World) : Prop:=
 e = .returned (.tuple #[]) ∧ (∃ l',GrowA 143 w0 w' (.slice (some ⟨g,0,none⟩) n cap) l' ∧ Sub l l' ∧ (n < 20 → l' = insF 0 (n - 1) l)) ∧ Below w0.heap.size w w'
theorem insort0 {w0 w : World} {g n cap b : Nat} {l : List Ava} (h : GrowA 143 w0 w (.slice (some ⟨g,0,none⟩) n cap) l) (hb : b ≤ n) (hn : n ≤ 4000000) :
 Calls Tryz.prog 166 #[.slice (some ⟨g,0,none⟩) n cap,.int .i64 0,.int .i64 b,cmpV] w fun e w'=>
  e = .returned (.tuple #[]) ∧ GrowA 143 w0 w' (.slice (some ⟨g,0,none⟩) n cap) (insF 0 (b - 1) l) ∧ Below w0.heap.size w w':=insort_any (a:=0) h hb (by omega) hn
theorem stable_any {w0 w : World} {g n cap : Nat} {l : List Ava} (h : GrowA 143 w0 w (.slice (some ⟨g,0,none⟩) n cap) l) (hn : n ≤ 4000000) :
 Calls Tryz.prog 152 #[.slice (some ⟨g,0,none⟩) n cap,.int .i64 n,cmpV] w (StableSays w0 w g n cap l):=by
 have HG0:=hid h
 have HSM:=symmerge_any
 unfold SymSays at HSM
 clear h
 by_cases h20 : n < 20
 ·have t1 : ¬ (20 : Int) ≤ (n : Int):=by omega
  have t2 : ¬ (20 : Int) < (n : Int):=by omega
  have HZ:=hid (insF_sub 0 (n - 1) l)
  go_enter Tryz.func152,Tryz.ntmps152
  go_wp2
  go_loopw [7,8] (fun u v wr=>u = .int .i64 0 ∧ v = .int .i64 20 ∧ wr = w) (fun u v _=>0)
  case atStart=>exact ⟨rfl,rfl,rfl⟩
  case round=>
   obtain ⟨rfl,rfl,rfl⟩:=hrel
   go_wp2_with (go_at_call 166;(with_reducible refine (insort0 HG0.out (Nat.le_refl n) hn).mono ?_);rintro e w2 ⟨rfl,hg2,hb2⟩;have HG2:=hid hg2;have HB2:=hid hb2;clear hg2 hb2)
   go_loopw [6,7,8,9] (fun u _ _ _ wq=>u = .int .i64 20 ∧ wq = w2) (fun u v _ _ _=>0)
   case atStart=>exact ⟨rfl,rfl⟩
   case round=>
    obtain ⟨rfl,rfl⟩:=hrel
    go_wp2
    go_end0
    exact ⟨rfl,⟨_,HG2.out,HZ.out,fun _=>rfl⟩,HB2.out⟩
 ·have HLN:=hid HG0.out.n_eq
  go_enter Tryz.func152,Tryz.ntmps152
  go_wp2
  go_loopw [7,8] (fun u v wr=>∃ (a : Nat) (m : List Ava),a ≤ n ∧ u = .int .i64 a ∧ v = .int .i64 ((a + 20 : Nat) : Int) ∧ Hid (GrowA 143 w0 wr (.slice (some ⟨g,0,none⟩) n cap) m ∧ Below w0.heap.size w wr) ∧ Hid (Sub l m)) (fun u v _=>n - (intOf u).toNat)
  case atStart=>exact ⟨0,l,by omega,rfl,rfl,⟨HG0.out,Below.refl _ _⟩,Sub.refl l⟩
  case round=>
   obtain ⟨a,m,ha,rfl,rfl,HGM,HS⟩:=hrel
   by_cases hab : a + 20 ≤ n
   ·have hab' : ((a + 20 : Nat) : Int) ≤ (n : Int):=by omega
    obtain ⟨b,hb⟩ : ∃ b,b = a + 20:=⟨_,rfl⟩
    rw [← hb] at hab hab' ⊢
    have hb1 : b ≤ a + 20:=by omega
    have hb2 : a + 20 ≤ b:=by omega
    clear hb
    have HIS:=hid (insF_sub a (b - (a + 1)) m)
    go_wp2_with (go_at_call 166;(with_reducible refine (insort_any (a:=a) (b:=b) HGM.out.1 (by omega) (by omega) hn).mono ?_);rintro e w2 ⟨rfl,hg2,hb2⟩;have HG2:=hid hg2;have HB2:=hid hb2;clear hg2 hb2)
    exact ⟨⟨b,_,by omega,rfl,by go_num,⟨HG2.out,Below.trans HGM.out.2 HB2.out⟩,HS.out.trans HIS.out⟩,by simp [intOf];omega⟩
   ·have hab' : ¬ ((a + 20 : Nat) : Int) ≤ (n : Int):=by omega
    have HIS:=hid (insF_sub a (n - (a + 1)) m)
    go_wp2_with (go_at_call 166;(with_reducible refine (insort_any (a:=a) (b:=n) HGM.out.1 (by omega) (by omega) hn).mono ?_);rintro e w2 ⟨rfl,hg2,hb2⟩;have HG2:=hid hg2;have HB2:=hid hb2;clear hg2 hb2)
    go_loopw [6,7,8,9] (fun u _ _ _ wq=>∃ (bs : Nat) (m2 : List Ava),20 ≤ bs ∧ bs ≤ 2 * n ∧ u = .int .i64 bs ∧ Hid (GrowA 143 w0 wq (.slice (some ⟨g,0,none⟩) n cap) m2 ∧ Below w0.heap.size w wq) ∧ Hid (Sub l m2)) (fun u _ _ _ _=>2 * n - (intOf u).toNat)
    case atStart=>exact ⟨20,_,by omega,by omega,rfl,⟨HG2.out,Below.trans HGM.out.2 HB2.out⟩,HS.out.trans HIS.out⟩
    case round=>
     clear HGM HS HIS HG2 HB2
     obtain ⟨bs,m2,hbs1,hbs2,rfl,HGM,HS⟩:=hrel
     by_cases hbn : bs < n
     ·have hbn' : (bs : Int) < (n : Int):=by omega
      go_wp2
      go_loopw [7,8] (fun u v wq=>∃ (a2 b2 : Nat) (m3 : List Ava),a2 ≤ n ∧ b2 ≤ a2 + 2 * bs ∧ a2 + 2 * bs ≤ b2 ∧ u = .int .i64 a2 ∧ v = .int .i64 b2 ∧ Hid (GrowA 143 w0 wq (.slice (some ⟨g,0,none⟩) n cap) m3 ∧ Below w0.heap.size w wq) ∧ Hid (Sub l m3)) (fun u v _=>n - (intOf u).toNat)
      case atStart=>exact ⟨0,2 * bs,m2,by omega,by omega,by omega,rfl,by go_num,HGM,HS⟩
      case round=>
       clear HGM HS
       obtain ⟨a2,b2,m3,ha2,hb3,hb4,rfl,rfl,HGM,HS⟩:=hrel
       obtain ⟨mm,hmm⟩ : ∃ mm,mm = a2 + bs:=⟨_,rfl⟩
       have zm : (a2 : Int) + (bs : Int) = (mm : Int):=by omega
       have hmm1 : mm ≤ a2 + bs:=by omega
       have hmm2 : a2 + bs ≤ mm:=by omega
       clear hmm
       by_cases hb2n : b2 ≤ n
       ·have hb2n' : (b2 : Int) ≤ (n : Int):=by omega
        go_wp2_with (go_at_call 167;(with_reducible refine (HSM _ _ _ _ _ _ a2 mm b2 _ (Nat.le_refl _) HGM.out.1 (by omega) (by omega) (by omega) hn).mono ?_);rintro e w3 ⟨rfl,⟨l3,hg3,hs3⟩,hb3⟩;have HG3:=hid hg3;have HS3:=hid hs3;have HB3:=hid hb3;clear hg3 hs3 hb3)
        exact ⟨⟨b2,b2 + 2 * bs,l3,by omega,by omega,by omega,rfl,by go_num,⟨HG3.out,Below.trans HGM.out.2 HB3.out⟩,HS.out.trans HS3.out⟩,by simp [intOf];omega⟩
       ·have hb2n' : ¬ (b2 : Int) ≤ (n : Int):=by omega
        by_cases hmn : mm < n
        ·have hmn' : (mm : Int) < (n : Int):=by omega
         go_wp2_with (go_at_call 167;(with_reducible refine (HSM _ _ _ _ _ _ a2 mm n _ (Nat.le_refl _) HGM.out.1 (by omega) (by omega) (by omega) hn).mono ?_);rintro e w3 ⟨rfl,⟨l3,hg3,hs3⟩,hb3⟩;have HG3:=hid hg3;have HS3:=hid hs3;have HB3:=hid hb3;clear hg3 hs3 hb3)
         exact ⟨⟨2 * bs,l3,by omega,by omega,by go_num,⟨HG3.out,Below.trans HGM.out.2 HB3.out⟩,HS.out.trans HS3.out⟩,by simp [intOf];omega⟩
        ·have hmn' : ¬ (mm : Int) < (n : Int):=by omega
         go_wp2
         exact ⟨⟨2 * bs,m3,by omega,by omega,by go_num,HGM,HS⟩,by simp [intOf];omega⟩
     ·have hbn' : ¬ (bs : Int) < (n : Int):=by omega
      go_wp2
      go_end0
      exact ⟨rfl,⟨m2,HGM.out.1,HS.out,fun h=>absurd h h20⟩,HGM.out.2⟩
theorem sort_any {w0 w : World} {g n cap : Nat} {l : List Ava} (h : GrowA 143 w0 w (.slice (some ⟨g,0,none⟩) n cap) l) (hn : n ≤ 4000000) :
 Calls Tryz.prog 131 #[.slice (some ⟨g,0,none⟩) n cap,cmpV] w (StableSays w0 w g n cap l):=by
 have HG0:=hid h
 clear h
 have HST:=stable_any HG0.out hn
 unfold StableSays at HST
 go_enter Tryz.func131,Tryz.ntmps131
 go_wp2_with (go_at_call 152;(with_reducible refine HST.mono ?_);rintro e w2 ⟨rfl,h1,h2⟩;have H1:=hid h1;have H2:=hid h2;clear h1 h2)
 go_end0
 exact ⟨rfl,H1.out,H2.out⟩
end Go.Proofs.YtejdpadhemeldaaGreatDoor
