/- Lemmas of the walk that the last text of this claim joins. -/
import Derived.Test.YtejdpadhemeldaaGreatDoorZ14
import Derived.Test.YtejdpadhemeldaaGreatDoorZ04
import Derived.Test.YtejdpadhemeldaaGreatDoorZ15
set_option maxHeartbeats 40000000
set_option linter.unusedVariables false
set_option linter.unusedSimpArgs false
namespace Go.Proofs.YtejdpadhemeldaaGreatDoor
open Go.RowKit
set_option maxRecDepth 100000
def lastS (v : List UInt8) : Nat → Nat
 | 0=>0
 | i + 1=>if 1 ≤ i ∧ (v[i]? = some 43 ∨ v[i]? = some 45) then i else lastS v i
theorem lastS_lt (v : List UInt8) : ∀ i,0 < i → lastS v i < i
 | 0,h=>by omega
 | 1,_=>by simp [lastS]
 | i + 2,_=>by
  have:=lastS_lt v (i + 1) (by omega)
  unfold lastS
  split <;> omega
def atR (v : List UInt8) : Nat:=if v.getLast? = some 105 then lastS v v.length else v.length
def secR (b : List UInt8) : Option Int:=if b = [] ∨ b = [43] then some 1 else if b = [45] then some (-1) else numR b
def pairP (a b : Option Int) (v : List UInt8) : Option (Int × Int):=
 match a,b with
 | some a,some b=>if withinR a b = true ∧ pairR a b = v then some (a,b) else none
 | _,_=>none
def planeR (v : List UInt8) : Option (Int × Int):=
 pairP (if 0 < atR v then numR (v.take (atR v)) else some 0) (if atR v < v.length then secR ((v.take (v.length - 1)).drop (atR v)) else some 0) v
def PlaneSays (w : World) (v : List UInt8) (e : Ending) (w' : World) : Prop:=
 e = .returned (.tuple #[.agg #[.int .i64 ((planeR v).getD (0,0)).1,.int .i64 ((planeR v).getD (0,0)).2],.int .i64 (if (planeR v).isSome then 0 else 2)]) ∧ Ext w w'
theorem num_none {s1 : ByteArray} (h : s1.size ≤ 4000000) (hn : numR (bys s1) = none) : ∀ w,Calls Tryz.prog 147 #[.string s1] w fun e w'=>e = .returned (.tuple #[.int .i64 0,.bool false]) ∧ Ext w w':=fun w=>by
 have:=number_any s1 w h
 unfold NumSays at this
 rw [hn] at this
 exact this
theorem num_some {s1 : ByteArray} {a : Int} (h : s1.size ≤ 4000000) (hn : numR (bys s1) = some a) : ∀ w,Calls Tryz.prog 147 #[.string s1] w fun e w'=>e = .returned (.tuple #[.int .i64 a,.bool true]) ∧ Ext w w':=fun w=>by
 have:=number_any s1 w h
 unfold NumSays at this
 rw [hn] at this
 exact this
theorem pair_three {s : ByteArray} {a b : Int} (h : planeR (bys s) = pairP (some a) (some b) (bys s)) :
 (withinR a b = false ∧ Hid (planeR (bys s) = none)) ∨ (withinR a b = true ∧ (pairR a b == s.toList) = true ∧ Hid (planeR (bys s) = some (a,b))) ∨ (withinR a b = true ∧ (pairR a b == s.toList) = false ∧ Hid (planeR (bys s) = none)):=by
 cases hwi : withinR a b with
 | false=>exact .inl ⟨rfl,by show _ = _;rw [h];unfold pairP;simp [hwi]⟩
 | true=>
  by_cases htx : pairR a b = bys s
  ·exact .inr (.inl ⟨rfl,by rw [ByteArray.toList_eq,beq_iff_eq];exact htx,by show _ = _;rw [h];unfold pairP;simp [hwi,htx]⟩)
  ·exact .inr (.inr ⟨rfl,by rw [ByteArray.toList_eq,beq_eq_false_iff_ne];exact htx,by show _ = _;rw [h];unfold pairP;simp [hwi,htx]⟩)
theorem rplane_any (s : ByteArray) (w : World) (hG : Gl w) (hs : s.size ≤ 4000000) : Calls Tryz.prog 128 #[.string s] w (PlaneSays w (bys s)):=by
 have Hs:=hid hs
 have HG:=hid hG
 by_cases h0 : s.size = 0
 ·have HPL : Hid (planeR (bys s) = pairP (some 0) (some 0) (bys s)):=by rw [str_emp h0];rfl
  have HAB : Hid ((-1000000000 ≤ (0 : Int) ∧ (0 : Int) ≤ 1000000000) ∧ (-1000000000 ≤ (0 : Int) ∧ (0 : Int) ≤ 1000000000)):=⟨by omega,by omega⟩
  have t0 : ¬ 0 < (s.size : Int):=by omega
  clear h0 hs hG
  obtain ⟨hwi,HF⟩ | ⟨hwi,te,HF⟩ | ⟨hwi,te,HF⟩:=pair_three HPL.out
  all_goals try exact absurd hwi (by decide)
  all_goals
   have HWI:=hid hwi
   clear hwi
   go_enter Tryz.func128,Tryz.ntmps128
   go_wp2_with (first
    | (go_at_call 147;(with_reducible refine (HC1 _).mono ?_);rintro e w1 ⟨rfl,hx1⟩;obtain ⟨hr,hp⟩:=two_boxes hx1;have HR:=hid (hr.aside (Nat.le_succ _) (by omega) 0 (.int .i64 0) (k:=w.heap.size + 1));have HP:=hid (hp.set0 (.int .i64 0));obtain ⟨c0,c1,f0,f1,r0,r1,g0,g1⟩:=hp.eight hr;clear hx1 hr hp)
    | (go_at_call 147;(with_reducible refine (HC2 _).mono ?_);rintro e w2 ⟨rfl,hx2⟩;(try clear c0 c1 f0 f1 r0 r1 g0 g1);have hr:=HR.out.later hx2;have hp:=HP.out.later hx2;clear HR HP;have HR:=hid (hr.aside (Nat.le_succ _) (by omega) 1 (.int .i64 0) (k:=w.heap.size + 1));have HP:=hid (hp.set1 (.int .i64 0));obtain ⟨c0,c1,f0,f1,r0,r1,g0,g1⟩:=hp.eight hr;clear hx2 hr hp)
    | (go_at_call 148;(with_reducible refine (within_any 0 0 _).mono ?_);rintro e w3 ⟨he,hx3⟩;rw [HWI.out] at he;subst he;(try clear c0 c1 f0 f1 r0 r1 g0 g1);have hr : Bx w w3 w.heap.size 170 #[.int .i64 0,.int .i64 0]:=(by first | exact HR.out.later hx3 | exact (HR.out.aside (k:=w.heap.size + 1) (Nat.le_succ _) (by omega) 1 _).later hx3 | exact (two_boxes hx3).1);have hp : Bx w w3 (w.heap.size + 1) 170 #[.int .i64 0,.int .i64 0]:=(by first | exact HP.out.later hx3 | exact (HP.out.set1 _).later hx3 | exact (two_boxes hx3).2);(try clear HR HP);have HR:=hid hr;have HP:=hid hp;obtain ⟨c0,c1,f0,f1,r0,r1,g0,g1⟩:=hp.eight hr;clear hx3 hr hp)
    | (go_at_call 149;(with_reducible refine (pairtext_any 0 0 _ (HG.out.ext HP.out.ext) HAB.out.1 HAB.out.2).mono ?_);rintro e w4 ⟨rfl,hx4⟩;(try clear c0 c1 f0 f1 r0 r1 g0 g1);have hr:=HR.out.later hx4;have hp:=HP.out.later hx4;clear HR HP;have HR:=hid hr;have HP:=hid hp;obtain ⟨c0,c1,f0,f1,r0,r1,g0,g1⟩:=hp.eight hr;clear hx4 hr hp)
    )
   (try simp only [Exit.inBlock,Exit.then])
   refine ret_cell_tmp _ rfl rfl ((HR.out.set0 _).set1 _) Tryz.underlying170 rfl (by kernel_rfl) rfl ?_
   exact ⟨by rw [HF.out];rfl,(HP.out.ext.setCell (Nat.le_refl _) _).setCell (Nat.le_refl _) _⟩
 ·have t0 : 0 < (s.size : Int):=by omega
  obtain ⟨y,hy⟩ : ∃ y,(bys s)[s.size - 1]? = some y:=⟨_,List.getElem?_eq_getElem (by rw [bys_len];omega)⟩
  have hsz : s.size - 1 < s.size:=by omega
  have gy:=bys_get hy hsz
  have HL : Hid ((bys s).getLast? = some y):=by show _ = _;rw [List.getLast?_eq_getElem?,bys_len,hy]
  have z1 : ((s.size : Int) - 1).toNat = s.size - 1:=by omega
  have z2 : 0 ≤ (s.size : Int) - 1:=by omega
  clear hy
  by_cases h105 : y = 105
  ·have ty : ((y.toNat : Int) == 105) = true:=byte_is (k:=105) (by decide) h105
   have HA : Hid (atR (bys s) = lastS (bys s) s.size):=by show _ = _;unfold atR;rw [HL.out,if_pos (by rw [h105]),bys_len]
   clear h105 hG
   go_enter Tryz.func128,Tryz.ntmps128
   go_wp2
   go_loop [4,5] (fun v i=>∃ j : Nat,1 ≤ j ∧ j ≤ s.size ∧ i = .int .i64 j ∧ v = .int .i64 (lastS (bys s) j : Int)) (fun _ i=>s.size - (intOf i).toNat)
   case atStart=>exact ⟨1,by omega,by omega,rfl,rfl⟩
   case round=>
    obtain ⟨j,hj1,hj,rfl,rfl⟩:=hrel
    by_cases hlt : j < s.size
    ·obtain ⟨x,hx⟩:=at_some hlt
     have gx:=bys_get hx hlt
     by_cases hc : x = 43 ∨ x = 45
     ·have HH : Hid (lastS (bys s) (j + 1) = j):=by
       show _ = _
       unfold lastS
       rw [if_pos ⟨hj1,by rw [hx];exact hc.imp (fun h=>by rw [h]) (fun h=>by rw [h])⟩]
      have tc : ((x.toNat : Int) == 43) = true ∨ (((x.toNat : Int) == 43) = false ∧ ((x.toNat : Int) == 45) = true):=by
       rcases hc with rfl | rfl
       ·exact .inl rfl
       ·exact .inr ⟨rfl,rfl⟩
      clear hx hc
      rcases tc with q1 | ⟨q1,q2⟩
      all_goals
       go_wp2
       exact ⟨⟨j + 1,by omega,by omega,by go_num,by rw [HH.out]⟩,by simp [intOf];omega⟩
     ·have HH : Hid (lastS (bys s) (j + 1) = lastS (bys s) j):=by
       show _ = _
       conv=>lhs;unfold lastS
       rw [if_neg]
       rintro ⟨-,h⟩
       rw [hx] at h
       exact hc (h.imp (fun h=>by injection h) (fun h=>by injection h))
      have q1 : ((x.toNat : Int) == 43) = false:=byte_isnt (k:=43) (fun e=>hc (.inl e))
      have q2 : ((x.toNat : Int) == 45) = false:=byte_isnt (k:=45) (fun e=>hc (.inr e))
      clear hx hc
      go_wp2
      exact ⟨⟨j + 1,by omega,by omega,by go_num,by rw [HH.out]⟩,by simp [intOf];omega⟩
    ·obtain rfl : j = s.size:=by omega
     have hkl:=lastS_lt (bys s) s.size (by omega)
     have HPQ : Hid (planeR (bys s) = pairP (if 0 < lastS (bys s) s.size then numR ((bys s).take (lastS (bys s) s.size)) else some 0) (secR (((bys s).take (s.size - 1)).drop (lastS (bys s) s.size))) (bys s)):=by
      show _ = _
      unfold planeR
      rw [HA.out,if_pos (show lastS (bys s) s.size < (bys s).length by rw [bys_len];exact hkl),bys_len]
     clear HA
     generalize lastS (bys s) s.size = k at *
     obtain ⟨m,hm⟩ : ∃ m,m = ((bys s).take (s.size - 1)).drop k:=⟨_,rfl⟩
     have hs2 : s.extract k (s.size - 1) = str m:=by
      rw [hm,← str_bys (s.extract k (s.size - 1)),bys_ext,List.drop_take]
     have HZ2 : Hid ((str m).size ≤ 4000000):=by
      show _ ≤ _
      rw [hm,str_size,List.length_drop,List.length_take,bys_len]
      have:=Hs.out
      omega
     rw [← hm] at HPQ
     clear hm
     have z3 : (k : Int) < (s.size : Int):=by omega
     have z4 : (k : Int) ≤ (s.size : Int) - 1:=by omega
     have z5 : (s.size : Int) - 1 ≤ (s.size : Int):=by omega
     have z6 : (k : Int) ≤ (s.size : Int):=by omega
     have HS : Hid (∀ b,secR m = some b → -1000000000 ≤ b ∧ b ≤ 1000000000):=by
      intro b hb
      unfold secR at hb
      split at hb
      ·injection hb;omega
      ·split at hb
       ·injection hb;omega
       ·have:=numR_small hb;omega
     have HM : Hid (secR m = if m = [] ∨ m = [43] then some 1 else if m = [45] then some (-1) else numR m):=rfl
     have HN2:=num_none HZ2.out
     have HO2:=fun b=>num_some (a:=b) HZ2.out
     rw [bys_str] at HN2
     simp only [bys_str] at HO2
     have HN2:=hid HN2
     have HO2:=hid HO2
     by_cases hk0 : 0 < k
     ·have tk : 0 < (k : Int):=by omega
      obtain ⟨m1,hm1⟩ : ∃ m1,m1 = (bys s).take k:=⟨_,rfl⟩
      have hs1 : s.extract 0 k = str m1:=by rw [hm1,← str_bys (s.extract 0 k),bys_ext];rfl
      have HZ1 : Hid ((str m1).size ≤ 4000000):=by
       show _ ≤ _
       rw [hm1,str_size,List.length_take,bys_len]
       have:=Hs.out
       omega
      rw [if_pos hk0,← hm1] at HPQ
      clear hm1 hk0
      cases hn : numR m1 with
      | none=>
       have HF : Hid (planeR (bys s) = none):=by show _ = _;rw [HPQ.out,hn];rfl
       have HC1:=num_none HZ1.out (by rw [bys_str,hn])
       clear hn
       go_wp2_with (first
        | (go_at_call 147;(with_reducible refine (HC1 _).mono ?_);rintro e w1 ⟨rfl,hx1⟩;obtain ⟨hr,hp⟩:=two_boxes hx1;have HR:=hid (hr.aside (Nat.le_succ _) (by omega) 0 (.int .i64 0) (k:=w.heap.size + 1));have HP:=hid (hp.set0 (.int .i64 0));obtain ⟨c0,c1,f0,f1,r0,r1,g0,g1⟩:=hp.eight hr;clear hx1 hr hp)
        | (go_at_call 147;(with_reducible refine (HC2 _).mono ?_);rintro e w2 ⟨rfl,hx2⟩;(try clear c0 c1 f0 f1 r0 r1 g0 g1);have hr:=HR.out.later hx2;have hp:=HP.out.later hx2;clear HR HP;have HR:=hid (hr.aside (Nat.le_succ _) (by omega) 1 (.int .i64 0) (k:=w.heap.size + 1));have HP:=hid (hp.set1 (.int .i64 0));obtain ⟨c0,c1,f0,f1,r0,r1,g0,g1⟩:=hp.eight hr;clear hx2 hr hp)
        )
       (try simp only [Exit.inBlock,Exit.then])
       refine ret_cell_tmp _ rfl rfl ((HR.out.set0 (.int .i64 0)).set1 (.int .i64 0)) Tryz.underlying170 rfl (by kernel_rfl) rfl ?_
       exact ⟨by rw [HF.out];rfl,(HP.out.ext.setCell (Nat.le_refl _) _).setCell (Nat.le_refl _) _⟩
      | some a=>
       have hsm:=numR_small hn
       have HC1:=num_some HZ1.out (by rw [bys_str,hn])
       have HAa : Hid (-1000000000 ≤ a ∧ a ≤ 1000000000):=⟨by omega,by omega⟩
       rw [hn] at HPQ
       clear hn hsm
       by_cases hb0 : m = []
       ·have b0 : (m == []) = true:=by rw [hb0];rfl
        have HPL : Hid (planeR (bys s) = pairP (some (a)) (some (1)) (bys s)):=by show _ = _;rw [HPQ.out,HM.out];rw [if_pos (.inl hb0)]
        have HAB : Hid ((-1000000000 ≤ (a : Int) ∧ (a : Int) ≤ 1000000000) ∧ (-1000000000 ≤ (1 : Int) ∧ (1 : Int) ≤ 1000000000)):=⟨HAa.out,by omega⟩
        obtain ⟨hwi,HF⟩ | ⟨hwi,te,HF⟩ | ⟨hwi,te,HF⟩:=pair_three HPL.out
        all_goals try exact absurd hwi (by decide)
        all_goals
         have HWI:=hid hwi
         clear hwi
         clear hb0
         go_wp2_with (first
          | (go_at_call 147;(with_reducible refine (HC1 _).mono ?_);rintro e w1 ⟨rfl,hx1⟩;obtain ⟨hr,hp⟩:=two_boxes hx1;have HR:=hid (hr.aside (Nat.le_succ _) (by omega) 0 (.int .i64 a) (k:=w.heap.size + 1));have HP:=hid (hp.set0 (.int .i64 a));obtain ⟨c0,c1,f0,f1,r0,r1,g0,g1⟩:=hp.eight hr;clear hx1 hr hp)
          | (go_at_call 147;(with_reducible refine (HC2 _).mono ?_);rintro e w2 ⟨rfl,hx2⟩;(try clear c0 c1 f0 f1 r0 r1 g0 g1);have hr:=HR.out.later hx2;have hp:=HP.out.later hx2;clear HR HP;have HR:=hid (hr.aside (Nat.le_succ _) (by omega) 1 (.int .i64 (1)) (k:=w.heap.size + 1));have HP:=hid (hp.set1 (.int .i64 (1)));obtain ⟨c0,c1,f0,f1,r0,r1,g0,g1⟩:=hp.eight hr;clear hx2 hr hp)
          | (go_at_call 148;(with_reducible refine (within_any a (1) _).mono ?_);rintro e w3 ⟨he,hx3⟩;rw [HWI.out] at he;subst he;(try clear c0 c1 f0 f1 r0 r1 g0 g1);have hr : Bx w w3 w.heap.size 170 #[.int .i64 0,.int .i64 0]:=(by first | exact HR.out.later hx3 | exact (HR.out.aside (k:=w.heap.size + 1) (Nat.le_succ _) (by omega) 1 _).later hx3 | exact (two_boxes hx3).1);have hp : Bx w w3 (w.heap.size + 1) 170 #[.int .i64 a,.int .i64 (1)]:=(by first | exact HP.out.later hx3 | exact (HP.out.set1 _).later hx3 | exact (two_boxes hx3).2);(try clear HR HP);have HR:=hid hr;have HP:=hid hp;obtain ⟨c0,c1,f0,f1,r0,r1,g0,g1⟩:=hp.eight hr;clear hx3 hr hp)
          | (go_at_call 149;(with_reducible refine (pairtext_any a (1) _ (HG.out.ext HP.out.ext) HAB.out.1 HAB.out.2).mono ?_);rintro e w4 ⟨rfl,hx4⟩;(try clear c0 c1 f0 f1 r0 r1 g0 g1);have hr:=HR.out.later hx4;have hp:=HP.out.later hx4;clear HR HP;have HR:=hid hr;have HP:=hid hp;obtain ⟨c0,c1,f0,f1,r0,r1,g0,g1⟩:=hp.eight hr;clear hx4 hr hp)
          )
         (try simp only [Exit.inBlock,Exit.then])
         refine ret_cell_tmp _ rfl rfl ((HR.out.set0 _).set1 _) Tryz.underlying170 rfl (by kernel_rfl) rfl ?_
         exact ⟨by rw [HF.out];rfl,(HP.out.ext.setCell (Nat.le_refl _) _).setCell (Nat.le_refl _) _⟩
       ·have b0 : (m == []) = false:=by rw [beq_eq_false_iff_ne];exact hb0
        by_cases hb1 : m = [43]
        ·have b1 : (m == [43]) = true:=by rw [hb1];rfl
         have HPL : Hid (planeR (bys s) = pairP (some (a)) (some (1)) (bys s)):=by show _ = _;rw [HPQ.out,HM.out];rw [if_pos (.inr hb1)]
         have HAB : Hid ((-1000000000 ≤ (a : Int) ∧ (a : Int) ≤ 1000000000) ∧ (-1000000000 ≤ (1 : Int) ∧ (1 : Int) ≤ 1000000000)):=⟨HAa.out,by omega⟩
         obtain ⟨hwi,HF⟩ | ⟨hwi,te,HF⟩ | ⟨hwi,te,HF⟩:=pair_three HPL.out
         all_goals try exact absurd hwi (by decide)
         all_goals
          have HWI:=hid hwi
          clear hwi
          clear hb0 hb1
          go_wp2_with (first
           | (go_at_call 147;(with_reducible refine (HC1 _).mono ?_);rintro e w1 ⟨rfl,hx1⟩;obtain ⟨hr,hp⟩:=two_boxes hx1;have HR:=hid (hr.aside (Nat.le_succ _) (by omega) 0 (.int .i64 a) (k:=w.heap.size + 1));have HP:=hid (hp.set0 (.int .i64 a));obtain ⟨c0,c1,f0,f1,r0,r1,g0,g1⟩:=hp.eight hr;clear hx1 hr hp)
           | (go_at_call 147;(with_reducible refine (HC2 _).mono ?_);rintro e w2 ⟨rfl,hx2⟩;(try clear c0 c1 f0 f1 r0 r1 g0 g1);have hr:=HR.out.later hx2;have hp:=HP.out.later hx2;clear HR HP;have HR:=hid (hr.aside (Nat.le_succ _) (by omega) 1 (.int .i64 (1)) (k:=w.heap.size + 1));have HP:=hid (hp.set1 (.int .i64 (1)));obtain ⟨c0,c1,f0,f1,r0,r1,g0,g1⟩:=hp.eight hr;clear hx2 hr hp)
           | (go_at_call 148;(with_reducible refine (within_any a (1) _).mono ?_);rintro e w3 ⟨he,hx3⟩;rw [HWI.out] at he;subst he;(try clear c0 c1 f0 f1 r0 r1 g0 g1);have hr : Bx w w3 w.heap.size 170 #[.int .i64 0,.int .i64 0]:=(by first | exact HR.out.later hx3 | exact (HR.out.aside (k:=w.heap.size + 1) (Nat.le_succ _) (by omega) 1 _).later hx3 | exact (two_boxes hx3).1);have hp : Bx w w3 (w.heap.size + 1) 170 #[.int .i64 a,.int .i64 (1)]:=(by first | exact HP.out.later hx3 | exact (HP.out.set1 _).later hx3 | exact (two_boxes hx3).2);(try clear HR HP);have HR:=hid hr;have HP:=hid hp;obtain ⟨c0,c1,f0,f1,r0,r1,g0,g1⟩:=hp.eight hr;clear hx3 hr hp)
           | (go_at_call 149;(with_reducible refine (pairtext_any a (1) _ (HG.out.ext HP.out.ext) HAB.out.1 HAB.out.2).mono ?_);rintro e w4 ⟨rfl,hx4⟩;(try clear c0 c1 f0 f1 r0 r1 g0 g1);have hr:=HR.out.later hx4;have hp:=HP.out.later hx4;clear HR HP;have HR:=hid hr;have HP:=hid hp;obtain ⟨c0,c1,f0,f1,r0,r1,g0,g1⟩:=hp.eight hr;clear hx4 hr hp)
           )
          (try simp only [Exit.inBlock,Exit.then])
          refine ret_cell_tmp _ rfl rfl ((HR.out.set0 _).set1 _) Tryz.underlying170 rfl (by kernel_rfl) rfl ?_
          exact ⟨by rw [HF.out];rfl,(HP.out.ext.setCell (Nat.le_refl _) _).setCell (Nat.le_refl _) _⟩
        ·have b1 : (m == [43]) = false:=by rw [beq_eq_false_iff_ne];exact hb1
         rw [if_neg (fun h=>h.elim hb0 hb1)] at HM
         by_cases hb2 : m = [45]
         ·have b2 : (m == [45]) = true:=by rw [hb2];rfl
          have HPL : Hid (planeR (bys s) = pairP (some (a)) (some (-1)) (bys s)):=by show _ = _;rw [HPQ.out,HM.out];rw [if_pos hb2]
          have HAB : Hid ((-1000000000 ≤ (a : Int) ∧ (a : Int) ≤ 1000000000) ∧ (-1000000000 ≤ (-1 : Int) ∧ (-1 : Int) ≤ 1000000000)):=⟨HAa.out,by omega⟩
          obtain ⟨hwi,HF⟩ | ⟨hwi,te,HF⟩ | ⟨hwi,te,HF⟩:=pair_three HPL.out
          all_goals try exact absurd hwi (by decide)
          all_goals
           have HWI:=hid hwi
           clear hwi
           clear hb0 hb1 hb2
           go_wp2_with (first
            | (go_at_call 147;(with_reducible refine (HC1 _).mono ?_);rintro e w1 ⟨rfl,hx1⟩;obtain ⟨hr,hp⟩:=two_boxes hx1;have HR:=hid (hr.aside (Nat.le_succ _) (by omega) 0 (.int .i64 a) (k:=w.heap.size + 1));have HP:=hid (hp.set0 (.int .i64 a));obtain ⟨c0,c1,f0,f1,r0,r1,g0,g1⟩:=hp.eight hr;clear hx1 hr hp)
            | (go_at_call 147;(with_reducible refine (HC2 _).mono ?_);rintro e w2 ⟨rfl,hx2⟩;(try clear c0 c1 f0 f1 r0 r1 g0 g1);have hr:=HR.out.later hx2;have hp:=HP.out.later hx2;clear HR HP;have HR:=hid (hr.aside (Nat.le_succ _) (by omega) 1 (.int .i64 (-1)) (k:=w.heap.size + 1));have HP:=hid (hp.set1 (.int .i64 (-1)));obtain ⟨c0,c1,f0,f1,r0,r1,g0,g1⟩:=hp.eight hr;clear hx2 hr hp)
            | (go_at_call 148;(with_reducible refine (within_any a (-1) _).mono ?_);rintro e w3 ⟨he,hx3⟩;rw [HWI.out] at he;subst he;(try clear c0 c1 f0 f1 r0 r1 g0 g1);have hr : Bx w w3 w.heap.size 170 #[.int .i64 0,.int .i64 0]:=(by first | exact HR.out.later hx3 | exact (HR.out.aside (k:=w.heap.size + 1) (Nat.le_succ _) (by omega) 1 _).later hx3 | exact (two_boxes hx3).1);have hp : Bx w w3 (w.heap.size + 1) 170 #[.int .i64 a,.int .i64 (-1)]:=(by first | exact HP.out.later hx3 | exact (HP.out.set1 _).later hx3 | exact (two_boxes hx3).2);(try clear HR HP);have HR:=hid hr;have HP:=hid hp;obtain ⟨c0,c1,f0,f1,r0,r1,g0,g1⟩:=hp.eight hr;clear hx3 hr hp)
            | (go_at_call 149;(with_reducible refine (pairtext_any a (-1) _ (HG.out.ext HP.out.ext) HAB.out.1 HAB.out.2).mono ?_);rintro e w4 ⟨rfl,hx4⟩;(try clear c0 c1 f0 f1 r0 r1 g0 g1);have hr:=HR.out.later hx4;have hp:=HP.out.later hx4;clear HR HP;have HR:=hid hr;have HP:=hid hp;obtain ⟨c0,c1,f0,f1,r0,r1,g0,g1⟩:=hp.eight hr;clear hx4 hr hp)
            )
           (try simp only [Exit.inBlock,Exit.then])
           refine ret_cell_tmp _ rfl rfl ((HR.out.set0 _).set1 _) Tryz.underlying170 rfl (by kernel_rfl) rfl ?_
           exact ⟨by rw [HF.out];rfl,(HP.out.ext.setCell (Nat.le_refl _) _).setCell (Nat.le_refl _) _⟩
         ·have b2 : (m == [45]) = false:=by rw [beq_eq_false_iff_ne];exact hb2
          rw [if_neg hb2] at HM
          clear hb0 hb1 hb2
          cases hn2 : numR m with
          | none=>
           have HF : Hid (planeR (bys s) = none):=by show _ = _;rw [HPQ.out,HM.out,hn2];rfl
           have HC2:=HN2.out hn2
           clear hn2
           skip
           go_wp2_with (first
            | (go_at_call 147;(with_reducible refine (HC1 _).mono ?_);rintro e w1 ⟨rfl,hx1⟩;obtain ⟨hr,hp⟩:=two_boxes hx1;have HR:=hid (hr.aside (Nat.le_succ _) (by omega) 0 (.int .i64 a) (k:=w.heap.size + 1));have HP:=hid (hp.set0 (.int .i64 a));obtain ⟨c0,c1,f0,f1,r0,r1,g0,g1⟩:=hp.eight hr;clear hx1 hr hp)
            | (go_at_call 147;(with_reducible refine (HC2 _).mono ?_);rintro e w2 ⟨rfl,hx2⟩;(try clear c0 c1 f0 f1 r0 r1 g0 g1);have hr:=HR.out.later hx2;have hp:=HP.out.later hx2;clear HR HP;have HR:=hid (hr.aside (Nat.le_succ _) (by omega) 1 (.int .i64 0) (k:=w.heap.size + 1));have HP:=hid (hp.set1 (.int .i64 0));obtain ⟨c0,c1,f0,f1,r0,r1,g0,g1⟩:=hp.eight hr;clear hx2 hr hp)
            )
           (try simp only [Exit.inBlock,Exit.then])
           refine ret_cell_tmp _ rfl rfl ((HR.out.set0 (.int .i64 0)).set1 (.int .i64 0)) Tryz.underlying170 rfl (by kernel_rfl) rfl ?_
           exact ⟨by rw [HF.out];rfl,(HP.out.ext.setCell (Nat.le_refl _) _).setCell (Nat.le_refl _) _⟩
          | some b=>
           have HPL : Hid (planeR (bys s) = pairP (some (a)) (some b) (bys s)):=by show _ = _;rw [HPQ.out,HM.out,hn2]
           have HAB : Hid ((-1000000000 ≤ (a : Int) ∧ (a : Int) ≤ 1000000000) ∧ (-1000000000 ≤ b ∧ b ≤ 1000000000)):=⟨HAa.out,HS.out b (by rw [HM.out,hn2])⟩
           have HC2:=HO2.out b hn2
           clear hn2
           skip
           obtain ⟨hwi,HF⟩ | ⟨hwi,te,HF⟩ | ⟨hwi,te,HF⟩:=pair_three HPL.out
           all_goals try exact absurd hwi (by decide)
           all_goals
            have HWI:=hid hwi
            clear hwi
            skip
            go_wp2_with (first
             | (go_at_call 147;(with_reducible refine (HC1 _).mono ?_);rintro e w1 ⟨rfl,hx1⟩;obtain ⟨hr,hp⟩:=two_boxes hx1;have HR:=hid (hr.aside (Nat.le_succ _) (by omega) 0 (.int .i64 a) (k:=w.heap.size + 1));have HP:=hid (hp.set0 (.int .i64 a));obtain ⟨c0,c1,f0,f1,r0,r1,g0,g1⟩:=hp.eight hr;clear hx1 hr hp)
             | (go_at_call 147;(with_reducible refine (HC2 _).mono ?_);rintro e w2 ⟨rfl,hx2⟩;(try clear c0 c1 f0 f1 r0 r1 g0 g1);have hr:=HR.out.later hx2;have hp:=HP.out.later hx2;clear HR HP;have HR:=hid (hr.aside (Nat.le_succ _) (by omega) 1 (.int .i64 b) (k:=w.heap.size + 1));have HP:=hid (hp.set1 (.int .i64 b));obtain ⟨c0,c1,f0,f1,r0,r1,g0,g1⟩:=hp.eight hr;clear hx2 hr hp)
             | (go_at_call 148;(with_reducible refine (within_any a b _).mono ?_);rintro e w3 ⟨he,hx3⟩;rw [HWI.out] at he;subst he;(try clear c0 c1 f0 f1 r0 r1 g0 g1);have hr : Bx w w3 w.heap.size 170 #[.int .i64 0,.int .i64 0]:=(by first | exact HR.out.later hx3 | exact (HR.out.aside (k:=w.heap.size + 1) (Nat.le_succ _) (by omega) 1 _).later hx3 | exact (two_boxes hx3).1);have hp : Bx w w3 (w.heap.size + 1) 170 #[.int .i64 a,.int .i64 b]:=(by first | exact HP.out.later hx3 | exact (HP.out.set1 _).later hx3 | exact (two_boxes hx3).2);(try clear HR HP);have HR:=hid hr;have HP:=hid hp;obtain ⟨c0,c1,f0,f1,r0,r1,g0,g1⟩:=hp.eight hr;clear hx3 hr hp)
             | (go_at_call 149;(with_reducible refine (pairtext_any a b _ (HG.out.ext HP.out.ext) HAB.out.1 HAB.out.2).mono ?_);rintro e w4 ⟨rfl,hx4⟩;(try clear c0 c1 f0 f1 r0 r1 g0 g1);have hr:=HR.out.later hx4;have hp:=HP.out.later hx4;clear HR HP;have HR:=hid hr;have HP:=hid hp;obtain ⟨c0,c1,f0,f1,r0,r1,g0,g1⟩:=hp.eight hr;clear hx4 hr hp)
             )
            (try simp only [Exit.inBlock,Exit.then])
            refine ret_cell_tmp _ rfl rfl ((HR.out.set0 _).set1 _) Tryz.underlying170 rfl (by kernel_rfl) rfl ?_
            exact ⟨by rw [HF.out];rfl,(HP.out.ext.setCell (Nat.le_refl _) _).setCell (Nat.le_refl _) _⟩
     ·have tk : ¬ 0 < (k : Int):=by omega
      obtain rfl : k = 0:=by omega
      rw [if_neg (by omega)] at HPQ
      have HAa : Hid (-1000000000 ≤ (0 : Int) ∧ (0 : Int) ≤ 1000000000):=⟨by omega,by omega⟩
      by_cases hb0 : m = []
      ·have b0 : (m == []) = true:=by rw [hb0];rfl
       have HPL : Hid (planeR (bys s) = pairP (some (0)) (some (1)) (bys s)):=by show _ = _;rw [HPQ.out,HM.out];rw [if_pos (.inl hb0)]
       have HAB : Hid ((-1000000000 ≤ (0 : Int) ∧ (0 : Int) ≤ 1000000000) ∧ (-1000000000 ≤ (1 : Int) ∧ (1 : Int) ≤ 1000000000)):=⟨HAa.out,by omega⟩
       obtain ⟨hwi,HF⟩ | ⟨hwi,te,HF⟩ | ⟨hwi,te,HF⟩:=pair_three HPL.out
       all_goals try exact absurd hwi (by decide)
       all_goals
        have HWI:=hid hwi
        clear hwi
        clear hb0
        go_wp2_with (first
         | (go_at_call 147;(with_reducible refine (HC1 _).mono ?_);rintro e w1 ⟨rfl,hx1⟩;obtain ⟨hr,hp⟩:=two_boxes hx1;have HR:=hid (hr.aside (Nat.le_succ _) (by omega) 0 (.int .i64 0) (k:=w.heap.size + 1));have HP:=hid (hp.set0 (.int .i64 0));obtain ⟨c0,c1,f0,f1,r0,r1,g0,g1⟩:=hp.eight hr;clear hx1 hr hp)
         | (go_at_call 147;(with_reducible refine (HC2 _).mono ?_);rintro e w2 ⟨rfl,hx2⟩;(try clear c0 c1 f0 f1 r0 r1 g0 g1);have hr:=HR.out.later hx2;have hp:=HP.out.later hx2;clear HR HP;have HR:=hid (hr.aside (Nat.le_succ _) (by omega) 1 (.int .i64 (1)) (k:=w.heap.size + 1));have HP:=hid (hp.set1 (.int .i64 (1)));obtain ⟨c0,c1,f0,f1,r0,r1,g0,g1⟩:=hp.eight hr;clear hx2 hr hp)
         | (go_at_call 148;(with_reducible refine (within_any 0 (1) _).mono ?_);rintro e w3 ⟨he,hx3⟩;rw [HWI.out] at he;subst he;(try clear c0 c1 f0 f1 r0 r1 g0 g1);have hr : Bx w w3 w.heap.size 170 #[.int .i64 0,.int .i64 0]:=(by first | exact HR.out.later hx3 | exact (HR.out.aside (k:=w.heap.size + 1) (Nat.le_succ _) (by omega) 1 _).later hx3 | exact (two_boxes hx3).1);have hp : Bx w w3 (w.heap.size + 1) 170 #[.int .i64 0,.int .i64 (1)]:=(by first | exact HP.out.later hx3 | exact (HP.out.set1 _).later hx3 | exact (two_boxes hx3).2);(try clear HR HP);have HR:=hid hr;have HP:=hid hp;obtain ⟨c0,c1,f0,f1,r0,r1,g0,g1⟩:=hp.eight hr;clear hx3 hr hp)
         | (go_at_call 149;(with_reducible refine (pairtext_any 0 (1) _ (HG.out.ext HP.out.ext) HAB.out.1 HAB.out.2).mono ?_);rintro e w4 ⟨rfl,hx4⟩;(try clear c0 c1 f0 f1 r0 r1 g0 g1);have hr:=HR.out.later hx4;have hp:=HP.out.later hx4;clear HR HP;have HR:=hid hr;have HP:=hid hp;obtain ⟨c0,c1,f0,f1,r0,r1,g0,g1⟩:=hp.eight hr;clear hx4 hr hp)
         )
        (try simp only [Exit.inBlock,Exit.then])
        refine ret_cell_tmp _ rfl rfl ((HR.out.set0 _).set1 _) Tryz.underlying170 rfl (by kernel_rfl) rfl ?_
        exact ⟨by rw [HF.out];rfl,(HP.out.ext.setCell (Nat.le_refl _) _).setCell (Nat.le_refl _) _⟩
      ·have b0 : (m == []) = false:=by rw [beq_eq_false_iff_ne];exact hb0
       by_cases hb1 : m = [43]
       ·have b1 : (m == [43]) = true:=by rw [hb1];rfl
        have HPL : Hid (planeR (bys s) = pairP (some (0)) (some (1)) (bys s)):=by show _ = _;rw [HPQ.out,HM.out];rw [if_pos (.inr hb1)]
        have HAB : Hid ((-1000000000 ≤ (0 : Int) ∧ (0 : Int) ≤ 1000000000) ∧ (-1000000000 ≤ (1 : Int) ∧ (1 : Int) ≤ 1000000000)):=⟨HAa.out,by omega⟩
        obtain ⟨hwi,HF⟩ | ⟨hwi,te,HF⟩ | ⟨hwi,te,HF⟩:=pair_three HPL.out
        all_goals try exact absurd hwi (by decide)
        all_goals
         have HWI:=hid hwi
         clear hwi
         clear hb0 hb1
         go_wp2_with (first
          | (go_at_call 147;(with_reducible refine (HC1 _).mono ?_);rintro e w1 ⟨rfl,hx1⟩;obtain ⟨hr,hp⟩:=two_boxes hx1;have HR:=hid (hr.aside (Nat.le_succ _) (by omega) 0 (.int .i64 0) (k:=w.heap.size + 1));have HP:=hid (hp.set0 (.int .i64 0));obtain ⟨c0,c1,f0,f1,r0,r1,g0,g1⟩:=hp.eight hr;clear hx1 hr hp)
          | (go_at_call 147;(with_reducible refine (HC2 _).mono ?_);rintro e w2 ⟨rfl,hx2⟩;(try clear c0 c1 f0 f1 r0 r1 g0 g1);have hr:=HR.out.later hx2;have hp:=HP.out.later hx2;clear HR HP;have HR:=hid (hr.aside (Nat.le_succ _) (by omega) 1 (.int .i64 (1)) (k:=w.heap.size + 1));have HP:=hid (hp.set1 (.int .i64 (1)));obtain ⟨c0,c1,f0,f1,r0,r1,g0,g1⟩:=hp.eight hr;clear hx2 hr hp)
          | (go_at_call 148;(with_reducible refine (within_any 0 (1) _).mono ?_);rintro e w3 ⟨he,hx3⟩;rw [HWI.out] at he;subst he;(try clear c0 c1 f0 f1 r0 r1 g0 g1);have hr : Bx w w3 w.heap.size 170 #[.int .i64 0,.int .i64 0]:=(by first | exact HR.out.later hx3 | exact (HR.out.aside (k:=w.heap.size + 1) (Nat.le_succ _) (by omega) 1 _).later hx3 | exact (two_boxes hx3).1);have hp : Bx w w3 (w.heap.size + 1) 170 #[.int .i64 0,.int .i64 (1)]:=(by first | exact HP.out.later hx3 | exact (HP.out.set1 _).later hx3 | exact (two_boxes hx3).2);(try clear HR HP);have HR:=hid hr;have HP:=hid hp;obtain ⟨c0,c1,f0,f1,r0,r1,g0,g1⟩:=hp.eight hr;clear hx3 hr hp)
          | (go_at_call 149;(with_reducible refine (pairtext_any 0 (1) _ (HG.out.ext HP.out.ext) HAB.out.1 HAB.out.2).mono ?_);rintro e w4 ⟨rfl,hx4⟩;(try clear c0 c1 f0 f1 r0 r1 g0 g1);have hr:=HR.out.later hx4;have hp:=HP.out.later hx4;clear HR HP;have HR:=hid hr;have HP:=hid hp;obtain ⟨c0,c1,f0,f1,r0,r1,g0,g1⟩:=hp.eight hr;clear hx4 hr hp)
          )
         (try simp only [Exit.inBlock,Exit.then])
         refine ret_cell_tmp _ rfl rfl ((HR.out.set0 _).set1 _) Tryz.underlying170 rfl (by kernel_rfl) rfl ?_
         exact ⟨by rw [HF.out];rfl,(HP.out.ext.setCell (Nat.le_refl _) _).setCell (Nat.le_refl _) _⟩
       ·have b1 : (m == [43]) = false:=by rw [beq_eq_false_iff_ne];exact hb1
        rw [if_neg (fun h=>h.elim hb0 hb1)] at HM
        by_cases hb2 : m = [45]
        ·have b2 : (m == [45]) = true:=by rw [hb2];rfl
         have HPL : Hid (planeR (bys s) = pairP (some (0)) (some (-1)) (bys s)):=by show _ = _;rw [HPQ.out,HM.out];rw [if_pos hb2]
         have HAB : Hid ((-1000000000 ≤ (0 : Int) ∧ (0 : Int) ≤ 1000000000) ∧ (-1000000000 ≤ (-1 : Int) ∧ (-1 : Int) ≤ 1000000000)):=⟨HAa.out,by omega⟩
         obtain ⟨hwi,HF⟩ | ⟨hwi,te,HF⟩ | ⟨hwi,te,HF⟩:=pair_three HPL.out
         all_goals try exact absurd hwi (by decide)
         all_goals
          have HWI:=hid hwi
          clear hwi
          clear hb0 hb1 hb2
          go_wp2_with (first
           | (go_at_call 147;(with_reducible refine (HC1 _).mono ?_);rintro e w1 ⟨rfl,hx1⟩;obtain ⟨hr,hp⟩:=two_boxes hx1;have HR:=hid (hr.aside (Nat.le_succ _) (by omega) 0 (.int .i64 0) (k:=w.heap.size + 1));have HP:=hid (hp.set0 (.int .i64 0));obtain ⟨c0,c1,f0,f1,r0,r1,g0,g1⟩:=hp.eight hr;clear hx1 hr hp)
           | (go_at_call 147;(with_reducible refine (HC2 _).mono ?_);rintro e w2 ⟨rfl,hx2⟩;(try clear c0 c1 f0 f1 r0 r1 g0 g1);have hr:=HR.out.later hx2;have hp:=HP.out.later hx2;clear HR HP;have HR:=hid (hr.aside (Nat.le_succ _) (by omega) 1 (.int .i64 (-1)) (k:=w.heap.size + 1));have HP:=hid (hp.set1 (.int .i64 (-1)));obtain ⟨c0,c1,f0,f1,r0,r1,g0,g1⟩:=hp.eight hr;clear hx2 hr hp)
           | (go_at_call 148;(with_reducible refine (within_any 0 (-1) _).mono ?_);rintro e w3 ⟨he,hx3⟩;rw [HWI.out] at he;subst he;(try clear c0 c1 f0 f1 r0 r1 g0 g1);have hr : Bx w w3 w.heap.size 170 #[.int .i64 0,.int .i64 0]:=(by first | exact HR.out.later hx3 | exact (HR.out.aside (k:=w.heap.size + 1) (Nat.le_succ _) (by omega) 1 _).later hx3 | exact (two_boxes hx3).1);have hp : Bx w w3 (w.heap.size + 1) 170 #[.int .i64 0,.int .i64 (-1)]:=(by first | exact HP.out.later hx3 | exact (HP.out.set1 _).later hx3 | exact (two_boxes hx3).2);(try clear HR HP);have HR:=hid hr;have HP:=hid hp;obtain ⟨c0,c1,f0,f1,r0,r1,g0,g1⟩:=hp.eight hr;clear hx3 hr hp)
           | (go_at_call 149;(with_reducible refine (pairtext_any 0 (-1) _ (HG.out.ext HP.out.ext) HAB.out.1 HAB.out.2).mono ?_);rintro e w4 ⟨rfl,hx4⟩;(try clear c0 c1 f0 f1 r0 r1 g0 g1);have hr:=HR.out.later hx4;have hp:=HP.out.later hx4;clear HR HP;have HR:=hid hr;have HP:=hid hp;obtain ⟨c0,c1,f0,f1,r0,r1,g0,g1⟩:=hp.eight hr;clear hx4 hr hp)
           )
          (try simp only [Exit.inBlock,Exit.then])
          refine ret_cell_tmp _ rfl rfl ((HR.out.set0 _).set1 _) Tryz.underlying170 rfl (by kernel_rfl) rfl ?_
          exact ⟨by rw [HF.out];rfl,(HP.out.ext.setCell (Nat.le_refl _) _).setCell (Nat.le_refl _) _⟩
        ·have b2 : (m == [45]) = false:=by rw [beq_eq_false_iff_ne];exact hb2
         rw [if_neg hb2] at HM
         clear hb0 hb1 hb2
         cases hn2 : numR m with
         | none=>
          have HF : Hid (planeR (bys s) = none):=by show _ = _;rw [HPQ.out,HM.out,hn2];rfl
          have HC2:=HN2.out hn2
          clear hn2
          (obtain ⟨hr,hp⟩:=two_boxes (w:=w) (T:=170) (U:=170) (xs:=#[.int .i64 0,.int .i64 0]) (ys:=#[.int .i64 0,.int .i64 0]) (Ext.refl _);have HR:=hid hr;have HP:=hid hp;clear hr hp)
          go_wp2_with (first
           | (go_at_call 147;(with_reducible refine (HC1 _).mono ?_);rintro e w1 ⟨rfl,hx1⟩;obtain ⟨hr,hp⟩:=two_boxes hx1;have HR:=hid (hr.aside (Nat.le_succ _) (by omega) 0 (.int .i64 0) (k:=w.heap.size + 1));have HP:=hid (hp.set0 (.int .i64 0));obtain ⟨c0,c1,f0,f1,r0,r1,g0,g1⟩:=hp.eight hr;clear hx1 hr hp)
           | (go_at_call 147;(with_reducible refine (HC2 _).mono ?_);rintro e w2 ⟨rfl,hx2⟩;(try clear c0 c1 f0 f1 r0 r1 g0 g1);have hr:=HR.out.later hx2;have hp:=HP.out.later hx2;clear HR HP;have HR:=hid (hr.aside (Nat.le_succ _) (by omega) 1 (.int .i64 0) (k:=w.heap.size + 1));have HP:=hid (hp.set1 (.int .i64 0));obtain ⟨c0,c1,f0,f1,r0,r1,g0,g1⟩:=hp.eight hr;clear hx2 hr hp)
           )
          (try simp only [Exit.inBlock,Exit.then])
          refine ret_cell_tmp _ rfl rfl ((HR.out.set0 (.int .i64 0)).set1 (.int .i64 0)) Tryz.underlying170 rfl (by kernel_rfl) rfl ?_
          exact ⟨by rw [HF.out];rfl,(HP.out.ext.setCell (Nat.le_refl _) _).setCell (Nat.le_refl _) _⟩
         | some b=>
          have HPL : Hid (planeR (bys s) = pairP (some (0)) (some b) (bys s)):=by show _ = _;rw [HPQ.out,HM.out,hn2]
          have HAB : Hid ((-1000000000 ≤ (0 : Int) ∧ (0 : Int) ≤ 1000000000) ∧ (-1000000000 ≤ b ∧ b ≤ 1000000000)):=⟨HAa.out,HS.out b (by rw [HM.out,hn2])⟩
          have HC2:=HO2.out b hn2
          clear hn2
          (obtain ⟨hr,hp⟩:=two_boxes (w:=w) (T:=170) (U:=170) (xs:=#[.int .i64 0,.int .i64 0]) (ys:=#[.int .i64 0,.int .i64 0]) (Ext.refl _);have HR:=hid hr;have HP:=hid hp;clear hr hp)
          obtain ⟨hwi,HF⟩ | ⟨hwi,te,HF⟩ | ⟨hwi,te,HF⟩:=pair_three HPL.out
          all_goals try exact absurd hwi (by decide)
          all_goals
           have HWI:=hid hwi
           clear hwi
           skip
           go_wp2_with (first
            | (go_at_call 147;(with_reducible refine (HC1 _).mono ?_);rintro e w1 ⟨rfl,hx1⟩;obtain ⟨hr,hp⟩:=two_boxes hx1;have HR:=hid (hr.aside (Nat.le_succ _) (by omega) 0 (.int .i64 0) (k:=w.heap.size + 1));have HP:=hid (hp.set0 (.int .i64 0));obtain ⟨c0,c1,f0,f1,r0,r1,g0,g1⟩:=hp.eight hr;clear hx1 hr hp)
            | (go_at_call 147;(with_reducible refine (HC2 _).mono ?_);rintro e w2 ⟨rfl,hx2⟩;(try clear c0 c1 f0 f1 r0 r1 g0 g1);have hr:=HR.out.later hx2;have hp:=HP.out.later hx2;clear HR HP;have HR:=hid (hr.aside (Nat.le_succ _) (by omega) 1 (.int .i64 b) (k:=w.heap.size + 1));have HP:=hid (hp.set1 (.int .i64 b));obtain ⟨c0,c1,f0,f1,r0,r1,g0,g1⟩:=hp.eight hr;clear hx2 hr hp)
            | (go_at_call 148;(with_reducible refine (within_any 0 b _).mono ?_);rintro e w3 ⟨he,hx3⟩;rw [HWI.out] at he;subst he;(try clear c0 c1 f0 f1 r0 r1 g0 g1);have hr : Bx w w3 w.heap.size 170 #[.int .i64 0,.int .i64 0]:=(by first | exact HR.out.later hx3 | exact (HR.out.aside (k:=w.heap.size + 1) (Nat.le_succ _) (by omega) 1 _).later hx3 | exact (two_boxes hx3).1);have hp : Bx w w3 (w.heap.size + 1) 170 #[.int .i64 0,.int .i64 b]:=(by first | exact HP.out.later hx3 | exact (HP.out.set1 _).later hx3 | exact (two_boxes hx3).2);(try clear HR HP);have HR:=hid hr;have HP:=hid hp;obtain ⟨c0,c1,f0,f1,r0,r1,g0,g1⟩:=hp.eight hr;clear hx3 hr hp)
            | (go_at_call 149;(with_reducible refine (pairtext_any 0 b _ (HG.out.ext HP.out.ext) HAB.out.1 HAB.out.2).mono ?_);rintro e w4 ⟨rfl,hx4⟩;(try clear c0 c1 f0 f1 r0 r1 g0 g1);have hr:=HR.out.later hx4;have hp:=HP.out.later hx4;clear HR HP;have HR:=hid hr;have HP:=hid hp;obtain ⟨c0,c1,f0,f1,r0,r1,g0,g1⟩:=hp.eight hr;clear hx4 hr hp)
            )
           (try simp only [Exit.inBlock,Exit.then])
           refine ret_cell_tmp _ rfl rfl ((HR.out.set0 _).set1 _) Tryz.underlying170 rfl (by kernel_rfl) rfl ?_
           exact ⟨by rw [HF.out];rfl,(HP.out.ext.setCell (Nat.le_refl _) _).setCell (Nat.le_refl _) _⟩
  ·have ty : ((y.toNat : Int) == 105) = false:=byte_isnt (k:=105) h105
   have HA : Hid (atR (bys s) = s.size):=by show _ = _;unfold atR;rw [HL.out,if_neg (fun e=>h105 (by injection e)),bys_len]
   have HP0 : Hid (planeR (bys s) = pairP (numR (bys s)) (some 0) (bys s)):=by
    show _ = _
    unfold planeR
    rw [HA.out,if_pos (by omega),if_neg (by rw [bys_len];omega),List.take_of_length_le (Nat.le_of_eq (bys_len s))]
   obtain ⟨s1,hs1⟩ : ∃ s1,s.extract 0 s.size = s1:=⟨_,rfl⟩
   have HE1 : Hid (bys s1 = bys s):=by show _ = _;rw [← hs1,ext_drop];rfl
   have HZ1 : Hid (s1.size ≤ 4000000):=by show _ ≤ _;rw [← bys_len,HE1.out,bys_len];exact hs
   clear h105
   cases hn : numR (bys s) with
   | none=>
    have HF : Hid (planeR (bys s) = none):=by show _ = _;rw [HP0.out,hn];rfl
    have HC1:=num_none HZ1.out (by rw [HE1.out,hn])
    clear hn
    go_enter Tryz.func128,Tryz.ntmps128
    go_wp2_with (first
     | (go_at_call 147;(with_reducible refine (HC1 _).mono ?_);rintro e w1 ⟨rfl,hx1⟩;obtain ⟨hr,hp⟩:=two_boxes hx1;have HR:=hid (hr.aside (Nat.le_succ _) (by omega) 0 (.int .i64 0) (k:=w.heap.size + 1));have HP:=hid (hp.set0 (.int .i64 0));obtain ⟨c0,c1,f0,f1,r0,r1,g0,g1⟩:=hp.eight hr;clear hx1 hr hp)
     | (go_at_call 147;(with_reducible refine (HC2 _).mono ?_);rintro e w2 ⟨rfl,hx2⟩;(try clear c0 c1 f0 f1 r0 r1 g0 g1);have hr:=HR.out.later hx2;have hp:=HP.out.later hx2;clear HR HP;have HR:=hid (hr.aside (Nat.le_succ _) (by omega) 1 (.int .i64 0) (k:=w.heap.size + 1));have HP:=hid (hp.set1 (.int .i64 0));obtain ⟨c0,c1,f0,f1,r0,r1,g0,g1⟩:=hp.eight hr;clear hx2 hr hp)
     )
    (try simp only [Exit.inBlock,Exit.then])
    refine ret_cell_tmp _ rfl rfl ((HR.out.set0 (.int .i64 0)).set1 (.int .i64 0)) Tryz.underlying170 rfl (by kernel_rfl) rfl ?_
    exact ⟨by rw [HF.out];rfl,(HP.out.ext.setCell (Nat.le_refl _) _).setCell (Nat.le_refl _) _⟩
   | some a=>
    have HPL : Hid (planeR (bys s) = pairP (some a) (some 0) (bys s)):=by show _ = _;rw [HP0.out,hn]
    have hsm:=numR_small hn
    have HAB : Hid ((-1000000000 ≤ a ∧ a ≤ 1000000000) ∧ (-1000000000 ≤ (0 : Int) ∧ (0 : Int) ≤ 1000000000)):=⟨by omega,by omega⟩
    have HC1:=num_some HZ1.out (by rw [HE1.out,hn])
    clear hn hsm
    obtain ⟨hwi,HF⟩ | ⟨hwi,te,HF⟩ | ⟨hwi,te,HF⟩:=pair_three HPL.out
    all_goals try exact absurd hwi (by decide)
    all_goals
     have HWI:=hid hwi
     clear hwi
     go_enter Tryz.func128,Tryz.ntmps128
     go_wp2_with (first
      | (go_at_call 147;(with_reducible refine (HC1 _).mono ?_);rintro e w1 ⟨rfl,hx1⟩;obtain ⟨hr,hp⟩:=two_boxes hx1;have HR:=hid (hr.aside (Nat.le_succ _) (by omega) 0 (.int .i64 a) (k:=w.heap.size + 1));have HP:=hid (hp.set0 (.int .i64 a));obtain ⟨c0,c1,f0,f1,r0,r1,g0,g1⟩:=hp.eight hr;clear hx1 hr hp)
      | (go_at_call 147;(with_reducible refine (HC2 _).mono ?_);rintro e w2 ⟨rfl,hx2⟩;(try clear c0 c1 f0 f1 r0 r1 g0 g1);have hr:=HR.out.later hx2;have hp:=HP.out.later hx2;clear HR HP;have HR:=hid (hr.aside (Nat.le_succ _) (by omega) 1 (.int .i64 0) (k:=w.heap.size + 1));have HP:=hid (hp.set1 (.int .i64 0));obtain ⟨c0,c1,f0,f1,r0,r1,g0,g1⟩:=hp.eight hr;clear hx2 hr hp)
      | (go_at_call 148;(with_reducible refine (within_any a 0 _).mono ?_);rintro e w3 ⟨he,hx3⟩;rw [HWI.out] at he;subst he;(try clear c0 c1 f0 f1 r0 r1 g0 g1);have hr : Bx w w3 w.heap.size 170 #[.int .i64 0,.int .i64 0]:=(by first | exact HR.out.later hx3 | exact (HR.out.aside (k:=w.heap.size + 1) (Nat.le_succ _) (by omega) 1 _).later hx3 | exact (two_boxes hx3).1);have hp : Bx w w3 (w.heap.size + 1) 170 #[.int .i64 a,.int .i64 0]:=(by first | exact HP.out.later hx3 | exact (HP.out.set1 _).later hx3 | exact (two_boxes hx3).2);(try clear HR HP);have HR:=hid hr;have HP:=hid hp;obtain ⟨c0,c1,f0,f1,r0,r1,g0,g1⟩:=hp.eight hr;clear hx3 hr hp)
      | (go_at_call 149;(with_reducible refine (pairtext_any a 0 _ (HG.out.ext HP.out.ext) HAB.out.1 HAB.out.2).mono ?_);rintro e w4 ⟨rfl,hx4⟩;(try clear c0 c1 f0 f1 r0 r1 g0 g1);have hr:=HR.out.later hx4;have hp:=HP.out.later hx4;clear HR HP;have HR:=hid hr;have HP:=hid hp;obtain ⟨c0,c1,f0,f1,r0,r1,g0,g1⟩:=hp.eight hr;clear hx4 hr hp)
      )
     (try simp only [Exit.inBlock,Exit.then])
     refine ret_cell_tmp _ rfl rfl ((HR.out.set0 _).set1 _) Tryz.underlying170 rfl (by kernel_rfl) rfl ?_
     exact ⟨by rw [HF.out];rfl,(HP.out.ext.setCell (Nat.le_refl _) _).setCell (Nat.le_refl _) _⟩
def normZ (n v : List UInt8) : List UInt8 × Int:=
 if (typeB n).2 = 4 then (if v = [] ∨ 200 < v.length then ([],2) else if (planeR v).isSome then (v,0) else ([],2)) else normE n v
def NormZSays (w : World) (n v : List UInt8) (e : Ending) (w' : World) : Prop:=e = .returned (.tuple #[.string (str (normZ n v).1),.int .i64 (normZ n v).2]) ∧ Ext w w'
def normK (k : Nat) (v : List UInt8) : List UInt8 × Int:=
 if k = 0 then ([],5) else if k = 5 then ([],1) else if v = [] ∨ 200 < v.length then ([],2)
 else if k = 1 then (if textR v = [] then ([],2) else (textR v,0)) else if k = 3 then (if intB v then (v,0) else ([],2)) else if k = 4 then (if (planeR v).isSome then (v,0) else ([],2)) else (v,0)
theorem normZ_k (n v : List UInt8) : normZ n v = normK (typeB n).2 v:=by
 unfold normZ normE normK
 generalize (typeB n).2 = k
 by_cases h4 : k = 4
 ·subst h4;simp
 ·rw [if_neg h4]
  by_cases h0 : k = 0
  ·simp [h0]
  ·rw [if_neg h0,if_neg h0]
   by_cases h5 : k = 5
   ·simp [h5]
   ·rw [if_neg h5,if_neg h5]
    by_cases hv : v = [] ∨ 200 < v.length
    ·rw [if_pos hv,if_pos hv]
    ·rw [if_neg hv,if_neg hv]
     by_cases h1 : k = 1
     ·subst h1
      have h:=textR_some v
      simp only [normP,textN] at h ⊢
      by_cases ht : joinSp (wordsB (lowerB v)) = [] ∨ (0 : UInt8) ∈ joinSp (wordsB (lowerB v))
      ·rw [if_pos ht] at h
       have h2 : ¬ (joinSp (wordsB (lowerB v)) ≠ [] ∧ (0 : UInt8) ∉ joinSp (wordsB (lowerB v))):=by
        rintro ⟨h3,h4⟩
        rcases ht with ht | ht
        ·exact h3 ht
        ·exact h4 ht
       have h3 : textR v = []:=by
        by_cases h4 : textR v = []
        ·exact h4
        ·rw [if_neg h4] at h;cases h
       simp [h2,h3]
      ·rw [if_neg ht] at h
       have h2 : joinSp (wordsB (lowerB v)) ≠ [] ∧ (0 : UInt8) ∉ joinSp (wordsB (lowerB v)):=⟨fun e=>ht (.inl e),fun e=>ht (.inr e)⟩
       by_cases h3 : textR v = []
       ·rw [if_pos h3] at h;cases h
       ·rw [if_neg h3] at h
        injection h with h
        simp [h2,← h]
     ·by_cases h3 : k = 3
      ·subst h3
       simp [normP]
      ·have i1 : ¬ (k : Int) = 1:=by omega
       have i3 : ¬ (k : Int) = 3:=by omega
       simp [normP,i1,i3];simp [h1,h3,h4]
theorem rnormal_any (n s : ByteArray) (w : World) (hG : Gl w) (hn : n.size ≤ 4000000) :
 Calls Tryz.prog 100 #[.string n,.string s] w (NormZSays w (bys n) (bys s)):=by
 have HG:=hid hG
 have HT : ∀ w,Calls Tryz.prog 97 #[.string n] w (TypeSays w (bys n)):=fun w=>rtype_any n w (by simp only [maxLen];omega)
 have HN:=hid (normZ_k (bys n) (bys s))
 unfold TypeSays at HT
 obtain ⟨p,hp⟩ : ∃ p,p = typeB (bys n):=⟨_,rfl⟩
 rw [← hp] at HN HT
 clear hp hG
 obtain ⟨t,k⟩:=p
 simp only at HN HT
 have HK : Hid (normK k (bys s) = if k = 0 then ([],5) else if k = 5 then ([],1) else if bys s = [] ∨ 200 < (bys s).length then ([],2)
  else if k = 1 then (if textR (bys s) = [] then ([],2) else (textR (bys s),0)) else if k = 3 then (if intB (bys s) then (bys s,0) else ([],2)) else if k = 4 then (if (planeR (bys s)).isSome then (bys s,0) else ([],2)) else (bys s,0)):=rfl
 by_cases k0 : k = 0
 ·have HE : Hid (normZ (bys n) (bys s) = ([],5)):=by show _ = _;rw [HN.out,HK.out,if_pos k0]
  have t0 : ((k : Int) == 0) = true:=by rw [k0];rfl
  clear k0 HN HK
  go_enter Tryz.func100,Tryz.ntmps100
  go_wp2_with (first
   | (go_at_call 97;(with_reducible refine (HT _).mono ?_);rintro e w1 ⟨rfl,hx1⟩;have HX1:=hid hx1;clear hx1)
   | (go_at_call 126;(with_reducible refine (rtext_any s _ Hs.out).mono ?_);rintro e w2 ⟨rfl,hx2⟩;have HX1':=hid (HX1.out.trans hx2);clear HX1 hx2;have HX1:=HX1';clear HX1')
   | (go_at_call 127;(with_reducible refine (HI _ Hs.out).mono ?_);rintro e w2 ⟨rfl,hx2⟩;have HX1':=hid (HX1.out.trans hx2);clear HX1 hx2;have HX1:=HX1';clear HX1')
   | (go_at_call 128;(with_reducible refine (HPS _ (HG.out.ext HX1.out) Hs.out).mono ?_);rintro e w2 ⟨rfl,hx2⟩;have HX1':=hid (HX1.out.trans hx2);clear HX1 hx2;have HX1:=HX1';clear HX1'))
  go_ret2
  exact ⟨by rw [HE.out];first | rfl | (rw [str_bys];rfl),by first | exact HX1.out | exact HX1.out.trans (Ext.alloc _ _)⟩
 ·have t0 : ((k : Int) == 0) = false:=by rw [beq_eq_false_iff_ne];omega
  by_cases k5 : k = 5
  ·have HE : Hid (normZ (bys n) (bys s) = ([],1)):=by show _ = _;rw [HN.out,HK.out,if_neg k0,if_pos k5]
   have t5 : ((k : Int) == 5) = true:=by rw [k5];rfl
   clear k0 k5 HN HK
   go_enter Tryz.func100,Tryz.ntmps100
   go_wp2_with (first
    | (go_at_call 97;(with_reducible refine (HT _).mono ?_);rintro e w1 ⟨rfl,hx1⟩;have HX1:=hid hx1;clear hx1)
    | (go_at_call 126;(with_reducible refine (rtext_any s _ Hs.out).mono ?_);rintro e w2 ⟨rfl,hx2⟩;have HX1':=hid (HX1.out.trans hx2);clear HX1 hx2;have HX1:=HX1';clear HX1')
    | (go_at_call 127;(with_reducible refine (HI _ Hs.out).mono ?_);rintro e w2 ⟨rfl,hx2⟩;have HX1':=hid (HX1.out.trans hx2);clear HX1 hx2;have HX1:=HX1';clear HX1')
    | (go_at_call 128;(with_reducible refine (HPS _ (HG.out.ext HX1.out) Hs.out).mono ?_);rintro e w2 ⟨rfl,hx2⟩;have HX1':=hid (HX1.out.trans hx2);clear HX1 hx2;have HX1:=HX1';clear HX1'))
   go_ret2
   exact ⟨by rw [HE.out];first | rfl | (rw [str_bys];rfl),by first | exact HX1.out | exact HX1.out.trans (Ext.alloc _ _)⟩
  ·have t5 : ((k : Int) == 5) = false:=by rw [beq_eq_false_iff_ne];omega
   by_cases hz : s.size = 0
   ·have HE : Hid (normZ (bys n) (bys s) = ([],2)):=by show _ = _;rw [HN.out,HK.out,if_neg k0,if_neg k5,if_pos (.inl (by rw [str_emp hz];rfl))]
    have e1 : (s.size : Int) < 1:=by omega
    clear k0 k5 HN HK hz
    go_enter Tryz.func100,Tryz.ntmps100
    go_wp2_with (first
     | (go_at_call 97;(with_reducible refine (HT _).mono ?_);rintro e w1 ⟨rfl,hx1⟩;have HX1:=hid hx1;clear hx1)
     | (go_at_call 126;(with_reducible refine (rtext_any s _ Hs.out).mono ?_);rintro e w2 ⟨rfl,hx2⟩;have HX1':=hid (HX1.out.trans hx2);clear HX1 hx2;have HX1:=HX1';clear HX1')
     | (go_at_call 127;(with_reducible refine (HI _ Hs.out).mono ?_);rintro e w2 ⟨rfl,hx2⟩;have HX1':=hid (HX1.out.trans hx2);clear HX1 hx2;have HX1:=HX1';clear HX1')
     | (go_at_call 128;(with_reducible refine (HPS _ (HG.out.ext HX1.out) Hs.out).mono ?_);rintro e w2 ⟨rfl,hx2⟩;have HX1':=hid (HX1.out.trans hx2);clear HX1 hx2;have HX1:=HX1';clear HX1'))
    go_ret2
    exact ⟨by rw [HE.out];first | rfl | (rw [str_bys];rfl),by first | exact HX1.out | exact HX1.out.trans (Ext.alloc _ _)⟩
   ·have e1 : decide ((s.size : Int) < 1) = false:=by rw [decide_eq_false_iff_not];omega
    by_cases hl : 200 < s.size
    ·have HE : Hid (normZ (bys n) (bys s) = ([],2)):=by show _ = _;rw [HN.out,HK.out,if_neg k0,if_neg k5,if_pos (.inr (by rw [bys_len];exact hl))]
     have e2 : 200 < (s.size : Int):=by omega
     clear k0 k5 HN HK hz hl
     go_enter Tryz.func100,Tryz.ntmps100
     go_wp2_with (first
      | (go_at_call 97;(with_reducible refine (HT _).mono ?_);rintro e w1 ⟨rfl,hx1⟩;have HX1:=hid hx1;clear hx1)
      | (go_at_call 126;(with_reducible refine (rtext_any s _ Hs.out).mono ?_);rintro e w2 ⟨rfl,hx2⟩;have HX1':=hid (HX1.out.trans hx2);clear HX1 hx2;have HX1:=HX1';clear HX1')
      | (go_at_call 127;(with_reducible refine (HI _ Hs.out).mono ?_);rintro e w2 ⟨rfl,hx2⟩;have HX1':=hid (HX1.out.trans hx2);clear HX1 hx2;have HX1:=HX1';clear HX1')
      | (go_at_call 128;(with_reducible refine (HPS _ (HG.out.ext HX1.out) Hs.out).mono ?_);rintro e w2 ⟨rfl,hx2⟩;have HX1':=hid (HX1.out.trans hx2);clear HX1 hx2;have HX1:=HX1';clear HX1'))
     go_ret2
     exact ⟨by rw [HE.out];first | rfl | (rw [str_bys];rfl),by first | exact HX1.out | exact HX1.out.trans (Ext.alloc _ _)⟩
    ·have e2 : decide (200 < (s.size : Int)) = false:=by rw [decide_eq_false_iff_not];omega
     have Hs : Hid (s.size ≤ 4000000):=by show _ ≤ _;omega
     have hbs : ¬ (bys s = [] ∨ 200 < (bys s).length):=by
      rw [bys_len]
      rintro (h | h)
      ·exact hz (by rw [← bys_len,h];rfl)
      ·exact hl h
     rw [if_neg k0,if_neg k5,if_neg hbs] at HK
     clear hbs hz hl k0 k5
     by_cases k1 : k = 1
     ·have t1 : ((k : Int) == 1) = true:=by rw [k1];rfl
      rw [if_pos k1] at HK
      by_cases hr : textR (bys s) = []
      ·have r0 : (textR (bys s) == []) = true:=by rw [hr];rfl
       have HE : Hid (normZ (bys n) (bys s) = ([],2)):=by show _ = _;rw [HN.out,HK.out,if_pos hr]
       clear k1 hr HN HK
       go_enter Tryz.func100,Tryz.ntmps100
       go_wp2_with (first
        | (go_at_call 97;(with_reducible refine (HT _).mono ?_);rintro e w1 ⟨rfl,hx1⟩;have HX1:=hid hx1;clear hx1)
        | (go_at_call 126;(with_reducible refine (rtext_any s _ Hs.out).mono ?_);rintro e w2 ⟨rfl,hx2⟩;have HX1':=hid (HX1.out.trans hx2);clear HX1 hx2;have HX1:=HX1';clear HX1')
        | (go_at_call 127;(with_reducible refine (HI _ Hs.out).mono ?_);rintro e w2 ⟨rfl,hx2⟩;have HX1':=hid (HX1.out.trans hx2);clear HX1 hx2;have HX1:=HX1';clear HX1')
        | (go_at_call 128;(with_reducible refine (HPS _ (HG.out.ext HX1.out) Hs.out).mono ?_);rintro e w2 ⟨rfl,hx2⟩;have HX1':=hid (HX1.out.trans hx2);clear HX1 hx2;have HX1:=HX1';clear HX1'))
       go_ret2
       exact ⟨by rw [HE.out];first | rfl | (rw [str_bys];rfl),by first | exact HX1.out | exact HX1.out.trans (Ext.alloc _ _)⟩
      ·have r0 : (textR (bys s) == []) = false:=by rw [beq_eq_false_iff_ne];exact hr
       have HE : Hid (normZ (bys n) (bys s) = (textR (bys s),0)):=by show _ = _;rw [HN.out,HK.out,if_neg hr]
       clear k1 hr HN HK
       go_enter Tryz.func100,Tryz.ntmps100
       go_wp2_with (first
        | (go_at_call 97;(with_reducible refine (HT _).mono ?_);rintro e w1 ⟨rfl,hx1⟩;have HX1:=hid hx1;clear hx1)
        | (go_at_call 126;(with_reducible refine (rtext_any s _ Hs.out).mono ?_);rintro e w2 ⟨rfl,hx2⟩;have HX1':=hid (HX1.out.trans hx2);clear HX1 hx2;have HX1:=HX1';clear HX1')
        | (go_at_call 127;(with_reducible refine (HI _ Hs.out).mono ?_);rintro e w2 ⟨rfl,hx2⟩;have HX1':=hid (HX1.out.trans hx2);clear HX1 hx2;have HX1:=HX1';clear HX1')
        | (go_at_call 128;(with_reducible refine (HPS _ (HG.out.ext HX1.out) Hs.out).mono ?_);rintro e w2 ⟨rfl,hx2⟩;have HX1':=hid (HX1.out.trans hx2);clear HX1 hx2;have HX1:=HX1';clear HX1'))
       go_ret2
       exact ⟨by rw [HE.out];first | rfl | (rw [str_bys];rfl),by first | exact HX1.out | exact HX1.out.trans (Ext.alloc _ _)⟩
     ·have t1 : ((k : Int) == 1) = false:=by rw [beq_eq_false_iff_ne];omega
      rw [if_neg k1] at HK
      by_cases k3 : k = 3
      ·have t3 : ((k : Int) == 3) = true:=by rw [k3];rfl
       rw [if_pos k3] at HK
       have HI:=rinteger_any s
       unfold IntSays at HI
       cases hi : intB (bys s) with
       | true=>
        have HE : Hid (normZ (bys n) (bys s) = (bys s,0)):=by show _ = _;rw [HN.out,HK.out,hi];rfl
        rw [hi] at HI
        clear k1 k3 hi HN HK
        go_enter Tryz.func100,Tryz.ntmps100
        go_wp2_with (first
         | (go_at_call 97;(with_reducible refine (HT _).mono ?_);rintro e w1 ⟨rfl,hx1⟩;have HX1:=hid hx1;clear hx1)
         | (go_at_call 126;(with_reducible refine (rtext_any s _ Hs.out).mono ?_);rintro e w2 ⟨rfl,hx2⟩;have HX1':=hid (HX1.out.trans hx2);clear HX1 hx2;have HX1:=HX1';clear HX1')
         | (go_at_call 127;(with_reducible refine (HI _ Hs.out).mono ?_);rintro e w2 ⟨rfl,hx2⟩;have HX1':=hid (HX1.out.trans hx2);clear HX1 hx2;have HX1:=HX1';clear HX1')
         | (go_at_call 128;(with_reducible refine (HPS _ (HG.out.ext HX1.out) Hs.out).mono ?_);rintro e w2 ⟨rfl,hx2⟩;have HX1':=hid (HX1.out.trans hx2);clear HX1 hx2;have HX1:=HX1';clear HX1'))
        go_ret2
        exact ⟨by rw [HE.out];first | rfl | (rw [str_bys];rfl),by first | exact HX1.out | exact HX1.out.trans (Ext.alloc _ _)⟩
       | false=>
        have HE : Hid (normZ (bys n) (bys s) = ([],2)):=by show _ = _;rw [HN.out,HK.out,hi];rfl
        rw [hi] at HI
        clear k1 k3 hi HN HK
        go_enter Tryz.func100,Tryz.ntmps100
        go_wp2_with (first
         | (go_at_call 97;(with_reducible refine (HT _).mono ?_);rintro e w1 ⟨rfl,hx1⟩;have HX1:=hid hx1;clear hx1)
         | (go_at_call 126;(with_reducible refine (rtext_any s _ Hs.out).mono ?_);rintro e w2 ⟨rfl,hx2⟩;have HX1':=hid (HX1.out.trans hx2);clear HX1 hx2;have HX1:=HX1';clear HX1')
         | (go_at_call 127;(with_reducible refine (HI _ Hs.out).mono ?_);rintro e w2 ⟨rfl,hx2⟩;have HX1':=hid (HX1.out.trans hx2);clear HX1 hx2;have HX1:=HX1';clear HX1')
         | (go_at_call 128;(with_reducible refine (HPS _ (HG.out.ext HX1.out) Hs.out).mono ?_);rintro e w2 ⟨rfl,hx2⟩;have HX1':=hid (HX1.out.trans hx2);clear HX1 hx2;have HX1:=HX1';clear HX1'))
        go_ret2
        exact ⟨by rw [HE.out];first | rfl | (rw [str_bys];rfl),by first | exact HX1.out | exact HX1.out.trans (Ext.alloc _ _)⟩
      ·have t3 : ((k : Int) == 3) = false:=by rw [beq_eq_false_iff_ne];omega
       rw [if_neg k3] at HK
       by_cases k4 : k = 4
       ·have t4 : ((k : Int) == 4) = true:=by rw [k4];rfl
        rw [if_pos k4] at HK
        have HPS:=rplane_any s
        unfold PlaneSays at HPS
        generalize planeR (bys s) = q at *
        cases q with
        | none=>
         have HE : Hid (normZ (bys n) (bys s) = ([],2)):=by show _ = _;rw [HN.out,HK.out];rfl
         clear k1 k3 k4 HN HK
         go_enter Tryz.func100,Tryz.ntmps100
         go_wp2_with (first
          | (go_at_call 97;(with_reducible refine (HT _).mono ?_);rintro e w1 ⟨rfl,hx1⟩;have HX1:=hid hx1;clear hx1)
          | (go_at_call 126;(with_reducible refine (rtext_any s _ Hs.out).mono ?_);rintro e w2 ⟨rfl,hx2⟩;have HX1':=hid (HX1.out.trans hx2);clear HX1 hx2;have HX1:=HX1';clear HX1')
          | (go_at_call 127;(with_reducible refine (HI _ Hs.out).mono ?_);rintro e w2 ⟨rfl,hx2⟩;have HX1':=hid (HX1.out.trans hx2);clear HX1 hx2;have HX1:=HX1';clear HX1')
          | (go_at_call 128;(with_reducible refine (HPS _ (HG.out.ext HX1.out) Hs.out).mono ?_);rintro e w2 ⟨rfl,hx2⟩;have HX1':=hid (HX1.out.trans hx2);clear HX1 hx2;have HX1:=HX1';clear HX1'))
         go_ret2
         exact ⟨by rw [HE.out];first | rfl | (rw [str_bys];rfl),by first | exact HX1.out | exact HX1.out.trans (Ext.alloc _ _)⟩
        | some q=>
         have HE : Hid (normZ (bys n) (bys s) = (bys s,0)):=by show _ = _;rw [HN.out,HK.out];rfl
         clear k1 k3 k4 HN HK
         go_enter Tryz.func100,Tryz.ntmps100
         go_wp2_with (first
          | (go_at_call 97;(with_reducible refine (HT _).mono ?_);rintro e w1 ⟨rfl,hx1⟩;have HX1:=hid hx1;clear hx1)
          | (go_at_call 126;(with_reducible refine (rtext_any s _ Hs.out).mono ?_);rintro e w2 ⟨rfl,hx2⟩;have HX1':=hid (HX1.out.trans hx2);clear HX1 hx2;have HX1:=HX1';clear HX1')
          | (go_at_call 127;(with_reducible refine (HI _ Hs.out).mono ?_);rintro e w2 ⟨rfl,hx2⟩;have HX1':=hid (HX1.out.trans hx2);clear HX1 hx2;have HX1:=HX1';clear HX1')
          | (go_at_call 128;(with_reducible refine (HPS _ (HG.out.ext HX1.out) Hs.out).mono ?_);rintro e w2 ⟨rfl,hx2⟩;have HX1':=hid (HX1.out.trans hx2);clear HX1 hx2;have HX1:=HX1';clear HX1'))
         go_ret2
         exact ⟨by rw [HE.out];first | rfl | (rw [str_bys];rfl),by first | exact HX1.out | exact HX1.out.trans (Ext.alloc _ _)⟩
       ·have t4 : ((k : Int) == 4) = false:=by rw [beq_eq_false_iff_ne];omega
        have HE : Hid (normZ (bys n) (bys s) = (bys s,0)):=by show _ = _;rw [HN.out,HK.out,if_neg k4]
        clear k1 k3 k4 HN HK
        go_enter Tryz.func100,Tryz.ntmps100
        go_wp2_with (first
         | (go_at_call 97;(with_reducible refine (HT _).mono ?_);rintro e w1 ⟨rfl,hx1⟩;have HX1:=hid hx1;clear hx1)
         | (go_at_call 126;(with_reducible refine (rtext_any s _ Hs.out).mono ?_);rintro e w2 ⟨rfl,hx2⟩;have HX1':=hid (HX1.out.trans hx2);clear HX1 hx2;have HX1:=HX1';clear HX1')
         | (go_at_call 127;(with_reducible refine (HI _ Hs.out).mono ?_);rintro e w2 ⟨rfl,hx2⟩;have HX1':=hid (HX1.out.trans hx2);clear HX1 hx2;have HX1:=HX1';clear HX1')
         | (go_at_call 128;(with_reducible refine (HPS _ (HG.out.ext HX1.out) Hs.out).mono ?_);rintro e w2 ⟨rfl,hx2⟩;have HX1':=hid (HX1.out.trans hx2);clear HX1 hx2;have HX1:=HX1';clear HX1'))
        go_ret2
        exact ⟨by rw [HE.out];first | rfl | (rw [str_bys];rfl),by first | exact HX1.out | exact HX1.out.trans (Ext.alloc _ _)⟩
theorem normZ_zero {n v : List UInt8} (h : (typeB n).2 = 1 ∨ (typeB n).2 = 3) : (normZ n v).2 = if (normB (typeB n).2 v).isSome then 0 else 2:=by
 unfold normZ
 rw [if_neg (by omega)]
 exact normE_zero h
def lastT (l : List Ava) (j : Nat) : List UInt8:=if j = 0 then [] else (l[j - 1]?.map (·.type)).getD []
theorem lastT_succ {l : List Ava} {j : Nat} {x : Ava} (h : l[j]? = some x) : lastT l (j + 1) = x.type:=by unfold lastT;rw [if_neg (by omega),Nat.add_sub_cancel,h];rfl
theorem geq_no {a b : List UInt8} (h : ltB a b = true) : Op.bytesLess a b = true:=by rw [less_lt];exact h
theorem geq_yes {a b : List UInt8} (h : ltB a b = false) : Op.bytesLess a b = false:=by rw [less_lt];exact h
theorem rformed_any {S : Nat → Prop} {A : Option Addr} {n c : Nat} {l : List Ava} {w : World} (hG : Gl w) (h : Row Elem.ava S w A n c l) (hb : ∀ a ∈ l,a.type.length ≤ 4000000) :
 Calls Tryz.prog 118 #[.slice A n c] w fun e w'=>e = .returned (.bool (formedA l)) ∧ Ext w w':=by
 have HG:=hid hG
 have HR:=hid h
 have HB:=hid hb
 have hl:=h.len
 have HF:=hid (formedA_ok l)
 clear hG h hb
 by_cases h0 : n = 0
 ·have HE : Hid (formedA l = false):=by show _ = _;rw [HF.out,← hl,h0];rfl
  have t0 : (n : Int) < 1:=by omega
  clear hl HF
  go_enter Tryz.func118,Tryz.ntmps118
  go_wp2
  go_ret
  exact ⟨by rw [HE.out];rfl,Ext.refl _⟩
 ·have t0 : decide ((n : Int) < 1) = false:=by rw [decide_eq_false_iff_not];omega
  by_cases h3 : 3 < n
  ·have HE : Hid (formedA l = false):=by show _ = _;rw [HF.out,← hl,decide_eq_false (show ¬ n ≤ 3 by omega)];simp
   have t3 : 3 < (n : Int):=by omega
   clear h0 hl h3 HF
   go_enter Tryz.func118,Tryz.ntmps118
   go_wp2
   go_ret
   exact ⟨by rw [HE.out];rfl,Ext.refl _⟩
  ·have t3 : decide (3 < (n : Int)) = false:=by rw [decide_eq_false_iff_not];omega
   have HE : Hid (formedA l = okFrom [] l):=by show _ = _;rw [HF.out,← hl,decide_eq_true (show 1 ≤ n by omega),decide_eq_true (show n ≤ 3 by omega)];rfl
   have hn : n ≤ 3:=by omega
   clear h3 HF hl
   go_enter Tryz.func118,Tryz.ntmps118
   go_wp2
   go_loopw [18] (fun i wr=>∃ (j : Nat),j ≤ n ∧ i = .int .i64 j ∧ Hid (okFrom (lastT l j) (l.drop j) = okFrom [] l) ∧ Hid (Ext w wr)) (fun i _=>n - (intOf i).toNat)
   case atStart=>exact ⟨0,by omega,rfl,rfl,Ext.refl _⟩
   case round=>
    obtain ⟨j,hj,rfl,HO,HX⟩:=hrel
    by_cases hlt : j < n
    ·have hlt' : (j : Int) < (n : Int):=by omega
     obtain ⟨b,o,x,rfl,hx,e1,e2⟩:=ava_at (HR.out.ext HX.out) hlt
     have hd : Hid (l.drop j = x :: l.drop (j + 1)):=by
      show _ = _
      obtain ⟨h1,h2⟩:=List.getElem?_eq_some_iff.1 hx
      rw [List.drop_eq_getElem_cons h1,h2]
     have hxs:=hid (HB.out x (List.mem_of_getElem? hx))
     have HL1:=hid (lastT_succ hx)
     have HT : ∀ w,Calls Tryz.prog 97 #[.string (str x.type)] w (TypeSays w x.type):=fun w=>by
      have:=rtype_any (str x.type) w (by have:=hxs.out;rw [str_size];simp only [maxLen];omega)
      rwa [bys_str] at this
     have HNA : ∀ w,Gl w → Calls Tryz.prog 100 #[.string (str x.type),.string (str x.val)] w (NormZSays w x.type x.val):=fun w hG=>by
      have:=rnormal_any (str x.type) (str x.val) w hG (by have:=hxs.out;rw [str_size];exact this)
      rwa [bys_str,bys_str] at this
     have HAV : Hid (avaOk x = (decide ((typeB x.type).1 = x.type) && (decide ((typeB x.type).2 = 1) || decide ((typeB x.type).2 = 3)) && (normB (typeB x.type).2 x.val).isSome)):=rfl
     have HNE : Hid ((typeB x.type).2 = 1 ∨ (typeB x.type).2 = 3 → (normZ x.type x.val).2 = if (normB (typeB x.type).2 x.val).isSome then 0 else 2):=normZ_zero
     have HST : Hid (okFrom (lastT l j) (x :: l.drop (j + 1)) = (avaOk x && ltB (lastT l j) x.type && okFrom x.type (l.drop (j + 1)))):=rfl
     rw [← hd.out,HO.out] at HST
     unfold TypeSays at HT
     unfold NormZSays at HNA
     obtain ⟨p,hp⟩ : ∃ p,p = typeB x.type:=⟨_,rfl⟩
     rw [← hp] at HT HAV HNE
     clear hp
     obtain ⟨t,k⟩:=p
     generalize normZ x.type x.val = q at *
     obtain ⟨nv,ne⟩:=q
     simp only at HT HAV HNE HNA
     by_cases hj0 : j = 0
     ·have tj : decide (0 < j) = false:=by rw [decide_eq_false_iff_not];omega
      have HLT : Hid (lastT l j = []):=by show _ = _;rw [hj0];rfl
      clear hj0 hx
      by_cases ht : t = x.type
      ·subst ht
       have te : (x.type == x.type) = true:=beq_self_eq_true _
       by_cases hk : k = 1 ∨ k = 3
       ·have hne:=HNE.out hk
        have hk2 : ((k : Int) != 1) = false ∨ (((k : Int) != 1) = true ∧ ((k : Int) != 3) = false):=by
         rcases hk with h | h
         ·left;rw [h];rfl
         ·right;rw [h];exact ⟨rfl,rfl⟩
        cases hnb : (normB k x.val).isSome with
        | false=>
         have e3 : (ne != 0) = true:=by rw [hne,hnb];rfl
         have HF : Hid (okFrom [] l = false):=by show _ = _;rw [HST.out,HAV.out,hnb,Bool.and_false,Bool.false_and,Bool.false_and]
         clear hnb hne HNE HAV HST hk
         rcases hk2 with k1 | ⟨k1,k2⟩
         all_goals
          go_wp2_with (first
           | (go_at_call 97;(with_reducible refine (HT _).mono ?_);rintro e w1 ⟨rfl,hx1⟩;have HX1:=hid (HX.out.trans hx1);have HXR:=hid hx1;clear hx1))
          refine wp_region_plan (.read 0 (.read 1 (.read 2 (.read 3 (.read 4 (.read 5 (.read 6 (.read 7 (.read 8 (.read 9 (.main 10 (.read 11 (.read 12 (.read 13 (.read 14 (.read 15 .done)))))))))))))))) (by kernel_rfl) (by kernel_rfl) ?_
          intro wD hxD
          have XE : Hid (Ext wD wD):=Ext.refl _
          have HXD:=hid (HX1.out.trans hxD)
          have p1:=cell_later (cell_later e1 _ (HXR.out.trans hxD))
          have p2:=cell_later (cell_later e2 _ (HXR.out.trans hxD))
          skip
          repeat' (first
           | ((first | refine walks_move rfl rfl ?_ | refine walks_assign rfl rfl ?_ | refine walks_skip rfl rfl ?_);simp only [Act.put,Act.eval,evs])
           | (refine walks_unwanted rfl rfl ?_;simp only [Act.put,evp])
           | (refine walks_read (v:=?_) rfl rfl (fun w' hE=>?_) ?_;rotate_left 1;(· ((try (have hEx:=Ext.trans (Hid.out XE) hE));go_simp;(try go_bits);with_reducible rfl));simp only [Act.put,evp])
           | (refine walks_alt ?_ ?_)
           | (refine walks_main rfl rfl (fun K hK=>?_);go_wp2_with ((go_at_call 100;(with_reducible refine (HNA _ (HG.out.ext (HXD.out.trans XE.out))).mono ?_);rintro e w2 ⟨rfl,hx2⟩;have XE':=hid (Ext.trans (Hid.out XE) hx2);clear XE;have XE:=XE';clear XE'));refine hK _ _ (by first | assumption | exact Ext.alloc _ _ | exact Ext.refl _) ?_;clear hK K;try simp only [Act.put,evp]))
          refine walks_done ?_
          have q1:=p1 _ XE.out
          clear p1 p2
          skip
          go_wp2
          go_ret
          exact ⟨by rw [HE.out,HF.out];rfl,HXD.out.trans XE.out⟩
        | true=>
         have e3 : (ne != 0) = false:=by rw [hne,hnb];rfl
         have HAV1 : Hid (avaOk x = true):=by show _ = _;rw [HAV.out,hnb,decide_eq_true rfl];rcases hk with h | h <;> simp [h]
         clear hnb hne HNE HAV hk
         have HF : Hid (okFrom (lastT l (j + 1)) (l.drop (j + 1)) = okFrom [] l):=by show _ = _;rw [HST.out,HAV1.out,HL1.out,HLT.out,lt_nil (ok_ne HAV1.out)];rfl
         clear HST
         rcases hk2 with k1 | ⟨k1,k2⟩
         all_goals
          go_wp2_with (first
           | (go_at_call 97;(with_reducible refine (HT _).mono ?_);rintro e w1 ⟨rfl,hx1⟩;have HX1:=hid (HX.out.trans hx1);have HXR:=hid hx1;clear hx1))
          refine wp_region_plan (.read 0 (.read 1 (.read 2 (.read 3 (.read 4 (.read 5 (.read 6 (.read 7 (.read 8 (.read 9 (.main 10 (.read 11 (.read 12 (.read 13 (.read 14 (.read 15 .done)))))))))))))))) (by kernel_rfl) (by kernel_rfl) ?_
          intro wD hxD
          have XE : Hid (Ext wD wD):=Ext.refl _
          have HXD:=hid (HX1.out.trans hxD)
          have p1:=cell_later (cell_later e1 _ (HXR.out.trans hxD))
          have p2:=cell_later (cell_later e2 _ (HXR.out.trans hxD))
          skip
          repeat' (first
           | ((first | refine walks_move rfl rfl ?_ | refine walks_assign rfl rfl ?_ | refine walks_skip rfl rfl ?_);simp only [Act.put,Act.eval,evs])
           | (refine walks_unwanted rfl rfl ?_;simp only [Act.put,evp])
           | (refine walks_read (v:=?_) rfl rfl (fun w' hE=>?_) ?_;rotate_left 1;(· ((try (have hEx:=Ext.trans (Hid.out XE) hE));go_simp;(try go_bits);with_reducible rfl));simp only [Act.put,evp])
           | (refine walks_alt ?_ ?_)
           | (refine walks_main rfl rfl (fun K hK=>?_);go_wp2_with ((go_at_call 100;(with_reducible refine (HNA _ (HG.out.ext (HXD.out.trans XE.out))).mono ?_);rintro e w2 ⟨rfl,hx2⟩;have XE':=hid (Ext.trans (Hid.out XE) hx2);clear XE;have XE:=XE';clear XE'));refine hK _ _ (by first | assumption | exact Ext.alloc _ _ | exact Ext.refl _) ?_;clear hK K;try simp only [Act.put,evp]))
          refine walks_done ?_
          have q1:=p1 _ XE.out
          clear p1 p2
          skip
          go_wp2
          exact ⟨⟨j + 1,by omega,by go_num,HF,HXD.out.trans XE.out⟩,by simp [intOf];omega⟩
       ·have hk1 : ((k : Int) != 1) = true:=by rw [bne_iff_ne];omega
        have hk2 : ((k : Int) != 3) = true:=by rw [bne_iff_ne];omega
        have HF : Hid (okFrom [] l = false):=by
         show _ = _
         rw [HST.out,HAV.out,decide_eq_false (show ¬ k = 1 by omega),decide_eq_false (show ¬ k = 3 by omega)]
         simp
        clear hk HNE HAV HST
        go_wp2_with (first
         | (go_at_call 97;(with_reducible refine (HT _).mono ?_);rintro e w1 ⟨rfl,hx1⟩;have HX1:=hid (HX.out.trans hx1);have HXR:=hid hx1;clear hx1))
        refine wp_region_plan (.read 0 (.read 1 (.read 2 (.read 3 (.read 4 (.read 5 (.read 6 (.read 7 (.read 8 (.read 9 (.main 10 (.read 11 (.read 12 (.read 13 (.read 14 (.read 15 .done)))))))))))))))) (by kernel_rfl) (by kernel_rfl) ?_
        intro wD hxD
        have XE : Hid (Ext wD wD):=Ext.refl _
        have HXD:=hid (HX1.out.trans hxD)
        have p1:=cell_later (cell_later e1 _ (HXR.out.trans hxD))
        have p2:=cell_later (cell_later e2 _ (HXR.out.trans hxD))
        skip
        repeat' (first
         | ((first | refine walks_move rfl rfl ?_ | refine walks_assign rfl rfl ?_ | refine walks_skip rfl rfl ?_);simp only [Act.put,Act.eval,evs])
         | (refine walks_unwanted rfl rfl ?_;simp only [Act.put,evp])
         | (refine walks_read (v:=?_) rfl rfl (fun w' hE=>?_) ?_;rotate_left 1;(· ((try (have hEx:=Ext.trans (Hid.out XE) hE));go_simp;(try go_bits);with_reducible rfl));simp only [Act.put,evp])
         | (refine walks_alt ?_ ?_)
         | (refine walks_main rfl rfl (fun K hK=>?_);go_wp2_with ((go_at_call 100;(with_reducible refine (HNA _ (HG.out.ext (HXD.out.trans XE.out))).mono ?_);rintro e w2 ⟨rfl,hx2⟩;have XE':=hid (Ext.trans (Hid.out XE) hx2);clear XE;have XE:=XE';clear XE'));refine hK _ _ (by first | assumption | exact Ext.alloc _ _ | exact Ext.refl _) ?_;clear hK K;try simp only [Act.put,evp]))
        refine walks_done ?_
        have q1:=p1 _ XE.out
        clear p1 p2
        skip
        go_wp2
        go_ret
        exact ⟨by rw [HE.out,HF.out];rfl,HXD.out.trans XE.out⟩
      ·have te : (t == x.type) = false:=by rw [beq_eq_false_iff_ne];exact ht
       have HF : Hid (okFrom [] l = false):=by show _ = _;rw [HST.out,HAV.out,decide_eq_false ht];simp
       clear ht HNE HAV HST
       go_wp2_with (first
        | (go_at_call 97;(with_reducible refine (HT _).mono ?_);rintro e w1 ⟨rfl,hx1⟩;have HX1:=hid (HX.out.trans hx1);have HXR:=hid hx1;clear hx1))
       refine wp_region_plan (.read 0 (.read 1 (.read 2 (.read 3 (.read 4 (.read 5 (.read 6 (.read 7 (.read 8 (.read 9 (.main 10 (.read 11 (.read 12 (.read 13 (.read 14 (.read 15 .done)))))))))))))))) (by kernel_rfl) (by kernel_rfl) ?_
       intro wD hxD
       have XE : Hid (Ext wD wD):=Ext.refl _
       have HXD:=hid (HX1.out.trans hxD)
       have p1:=cell_later (cell_later e1 _ (HXR.out.trans hxD))
       have p2:=cell_later (cell_later e2 _ (HXR.out.trans hxD))
       skip
       repeat' (first
        | ((first | refine walks_move rfl rfl ?_ | refine walks_assign rfl rfl ?_ | refine walks_skip rfl rfl ?_);simp only [Act.put,Act.eval,evs])
        | (refine walks_unwanted rfl rfl ?_;simp only [Act.put,evp])
        | (refine walks_read (v:=?_) rfl rfl (fun w' hE=>?_) ?_;rotate_left 1;(· ((try (have hEx:=Ext.trans (Hid.out XE) hE));go_simp;(try go_bits);with_reducible rfl));simp only [Act.put,evp])
        | (refine walks_alt ?_ ?_)
        | (refine walks_main rfl rfl (fun K hK=>?_);go_wp2_with ((go_at_call 100;(with_reducible refine (HNA _ (HG.out.ext (HXD.out.trans XE.out))).mono ?_);rintro e w2 ⟨rfl,hx2⟩;have XE':=hid (Ext.trans (Hid.out XE) hx2);clear XE;have XE:=XE';clear XE'));refine hK _ _ (by first | assumption | exact Ext.alloc _ _ | exact Ext.refl _) ?_;clear hK K;try simp only [Act.put,evp]))
       refine walks_done ?_
       have q1:=p1 _ XE.out
       clear p1 p2
       skip
       go_wp2
       go_ret
       exact ⟨by rw [HE.out,HF.out];rfl,HXD.out.trans XE.out⟩
     ·have tj : 0 < (j : Int):=by omega
      obtain ⟨b',o',y,hA,hy,e0,-⟩:=ava_at (HR.out.ext HX.out) (show j - 1 < n by omega)
      injection hA with hA
      injection hA with hA1 hA2
      subst hA1 hA2
      have z1 : ((j : Int) - 1).toNat = j - 1:=by omega
      have z2 : 0 ≤ (j : Int) - 1:=by omega
      have z3 : (j : Int) - 1 < (n : Int):=by omega
      have HLT : Hid (lastT l j = y.type):=by show _ = _;unfold lastT;rw [if_neg hj0,hy];rfl
      clear hj0 hx hy
      by_cases ht : t = x.type
      ·subst ht
       have te : (x.type == x.type) = true:=beq_self_eq_true _
       by_cases hk : k = 1 ∨ k = 3
       ·have hne:=HNE.out hk
        have hk2 : ((k : Int) != 1) = false ∨ (((k : Int) != 1) = true ∧ ((k : Int) != 3) = false):=by
         rcases hk with h | h
         ·left;rw [h];rfl
         ·right;rw [h];exact ⟨rfl,rfl⟩
        cases hnb : (normB k x.val).isSome with
        | false=>
         have e3 : (ne != 0) = true:=by rw [hne,hnb];rfl
         have HF : Hid (okFrom [] l = false):=by show _ = _;rw [HST.out,HAV.out,hnb,Bool.and_false,Bool.false_and,Bool.false_and]
         clear hnb hne HNE HAV HST hk
         rcases hk2 with k1 | ⟨k1,k2⟩
         all_goals
          go_wp2_with (first
           | (go_at_call 97;(with_reducible refine (HT _).mono ?_);rintro e w1 ⟨rfl,hx1⟩;have HX1:=hid (HX.out.trans hx1);have HXR:=hid hx1;clear hx1))
          refine wp_region_plan (.read 0 (.read 1 (.read 2 (.read 3 (.read 4 (.read 5 (.read 6 (.read 7 (.read 8 (.read 9 (.main 10 (.read 11 (.read 12 (.read 13 (.read 14 (.read 15 .done)))))))))))))))) (by kernel_rfl) (by kernel_rfl) ?_
          intro wD hxD
          have XE : Hid (Ext wD wD):=Ext.refl _
          have HXD:=hid (HX1.out.trans hxD)
          have p1:=cell_later (cell_later e1 _ (HXR.out.trans hxD))
          have p2:=cell_later (cell_later e2 _ (HXR.out.trans hxD))
          skip
          repeat' (first
           | ((first | refine walks_move rfl rfl ?_ | refine walks_assign rfl rfl ?_ | refine walks_skip rfl rfl ?_);simp only [Act.put,Act.eval,evs])
           | (refine walks_unwanted rfl rfl ?_;simp only [Act.put,evp])
           | (refine walks_read (v:=?_) rfl rfl (fun w' hE=>?_) ?_;rotate_left 1;(· ((try (have hEx:=Ext.trans (Hid.out XE) hE));go_simp;(try go_bits);with_reducible rfl));simp only [Act.put,evp])
           | (refine walks_alt ?_ ?_)
           | (refine walks_main rfl rfl (fun K hK=>?_);go_wp2_with ((go_at_call 100;(with_reducible refine (HNA _ (HG.out.ext (HXD.out.trans XE.out))).mono ?_);rintro e w2 ⟨rfl,hx2⟩;have XE':=hid (Ext.trans (Hid.out XE) hx2);clear XE;have XE:=XE';clear XE'));refine hK _ _ (by first | assumption | exact Ext.alloc _ _ | exact Ext.refl _) ?_;clear hK K;try simp only [Act.put,evp]))
          refine walks_done ?_
          have q1:=p1 _ XE.out
          clear p1 p2
          have q0:=(cell_later (cell_later e0 _ (HXR.out.trans hxD))) _ XE.out
          go_wp2
          go_ret
          exact ⟨by rw [HE.out,HF.out];rfl,HXD.out.trans XE.out⟩
        | true=>
         have e3 : (ne != 0) = false:=by rw [hne,hnb];rfl
         have HAV1 : Hid (avaOk x = true):=by show _ = _;rw [HAV.out,hnb,decide_eq_true rfl];rcases hk with h | h <;> simp [h]
         clear hnb hne HNE HAV hk
         cases hlt2 : ltB y.type x.type with
         | false=>
          have q9:=geq_yes hlt2
          have HF : Hid (okFrom [] l = false):=by show _ = _;rw [HST.out,HLT.out,hlt2,Bool.and_false,Bool.false_and]
          clear hlt2 HST
          rcases hk2 with k1 | ⟨k1,k2⟩
          all_goals
           go_wp2_with (first
            | (go_at_call 97;(with_reducible refine (HT _).mono ?_);rintro e w1 ⟨rfl,hx1⟩;have HX1:=hid (HX.out.trans hx1);have HXR:=hid hx1;clear hx1))
           refine wp_region_plan (.read 0 (.read 1 (.read 2 (.read 3 (.read 4 (.read 5 (.read 6 (.read 7 (.read 8 (.read 9 (.main 10 (.read 11 (.read 12 (.read 13 (.read 14 (.read 15 .done)))))))))))))))) (by kernel_rfl) (by kernel_rfl) ?_
           intro wD hxD
           have XE : Hid (Ext wD wD):=Ext.refl _
           have HXD:=hid (HX1.out.trans hxD)
           have p1:=cell_later (cell_later e1 _ (HXR.out.trans hxD))
           have p2:=cell_later (cell_later e2 _ (HXR.out.trans hxD))
           skip
           repeat' (first
            | ((first | refine walks_move rfl rfl ?_ | refine walks_assign rfl rfl ?_ | refine walks_skip rfl rfl ?_);simp only [Act.put,Act.eval,evs])
            | (refine walks_unwanted rfl rfl ?_;simp only [Act.put,evp])
            | (refine walks_read (v:=?_) rfl rfl (fun w' hE=>?_) ?_;rotate_left 1;(· ((try (have hEx:=Ext.trans (Hid.out XE) hE));go_simp;(try go_bits);with_reducible rfl));simp only [Act.put,evp])
            | (refine walks_alt ?_ ?_)
            | (refine walks_main rfl rfl (fun K hK=>?_);go_wp2_with ((go_at_call 100;(with_reducible refine (HNA _ (HG.out.ext (HXD.out.trans XE.out))).mono ?_);rintro e w2 ⟨rfl,hx2⟩;have XE':=hid (Ext.trans (Hid.out XE) hx2);clear XE;have XE:=XE';clear XE'));refine hK _ _ (by first | assumption | exact Ext.alloc _ _ | exact Ext.refl _) ?_;clear hK K;try simp only [Act.put,evp]))
           refine walks_done ?_
           have q1:=p1 _ XE.out
           clear p1 p2
           have q0:=(cell_later (cell_later e0 _ (HXR.out.trans hxD))) _ XE.out
           go_wp2
           go_ret
           exact ⟨by rw [HE.out,HF.out];rfl,HXD.out.trans XE.out⟩
         | true=>
          have q9:=geq_no hlt2
          have HF : Hid (okFrom (lastT l (j + 1)) (l.drop (j + 1)) = okFrom [] l):=by show _ = _;rw [HST.out,HAV1.out,HL1.out,HLT.out,hlt2];rfl
          clear hlt2 HST
          rcases hk2 with k1 | ⟨k1,k2⟩
          all_goals
           go_wp2_with (first
            | (go_at_call 97;(with_reducible refine (HT _).mono ?_);rintro e w1 ⟨rfl,hx1⟩;have HX1:=hid (HX.out.trans hx1);have HXR:=hid hx1;clear hx1))
           refine wp_region_plan (.read 0 (.read 1 (.read 2 (.read 3 (.read 4 (.read 5 (.read 6 (.read 7 (.read 8 (.read 9 (.main 10 (.read 11 (.read 12 (.read 13 (.read 14 (.read 15 .done)))))))))))))))) (by kernel_rfl) (by kernel_rfl) ?_
           intro wD hxD
           have XE : Hid (Ext wD wD):=Ext.refl _
           have HXD:=hid (HX1.out.trans hxD)
           have p1:=cell_later (cell_later e1 _ (HXR.out.trans hxD))
           have p2:=cell_later (cell_later e2 _ (HXR.out.trans hxD))
           skip
           repeat' (first
            | ((first | refine walks_move rfl rfl ?_ | refine walks_assign rfl rfl ?_ | refine walks_skip rfl rfl ?_);simp only [Act.put,Act.eval,evs])
            | (refine walks_unwanted rfl rfl ?_;simp only [Act.put,evp])
            | (refine walks_read (v:=?_) rfl rfl (fun w' hE=>?_) ?_;rotate_left 1;(· ((try (have hEx:=Ext.trans (Hid.out XE) hE));go_simp;(try go_bits);with_reducible rfl));simp only [Act.put,evp])
            | (refine walks_alt ?_ ?_)
            | (refine walks_main rfl rfl (fun K hK=>?_);go_wp2_with ((go_at_call 100;(with_reducible refine (HNA _ (HG.out.ext (HXD.out.trans XE.out))).mono ?_);rintro e w2 ⟨rfl,hx2⟩;have XE':=hid (Ext.trans (Hid.out XE) hx2);clear XE;have XE:=XE';clear XE'));refine hK _ _ (by first | assumption | exact Ext.alloc _ _ | exact Ext.refl _) ?_;clear hK K;try simp only [Act.put,evp]))
           refine walks_done ?_
           have q1:=p1 _ XE.out
           clear p1 p2
           have q0:=(cell_later (cell_later e0 _ (HXR.out.trans hxD))) _ XE.out
           go_wp2
           exact ⟨⟨j + 1,by omega,by go_num,HF,HXD.out.trans XE.out⟩,by simp [intOf];omega⟩
       ·have hk1 : ((k : Int) != 1) = true:=by rw [bne_iff_ne];omega
        have hk2 : ((k : Int) != 3) = true:=by rw [bne_iff_ne];omega
        have HF : Hid (okFrom [] l = false):=by
         show _ = _
         rw [HST.out,HAV.out,decide_eq_false (show ¬ k = 1 by omega),decide_eq_false (show ¬ k = 3 by omega)]
         simp
        clear hk HNE HAV HST
        go_wp2_with (first
         | (go_at_call 97;(with_reducible refine (HT _).mono ?_);rintro e w1 ⟨rfl,hx1⟩;have HX1:=hid (HX.out.trans hx1);have HXR:=hid hx1;clear hx1))
        refine wp_region_plan (.read 0 (.read 1 (.read 2 (.read 3 (.read 4 (.read 5 (.read 6 (.read 7 (.read 8 (.read 9 (.main 10 (.read 11 (.read 12 (.read 13 (.read 14 (.read 15 .done)))))))))))))))) (by kernel_rfl) (by kernel_rfl) ?_
        intro wD hxD
        have XE : Hid (Ext wD wD):=Ext.refl _
        have HXD:=hid (HX1.out.trans hxD)
        have p1:=cell_later (cell_later e1 _ (HXR.out.trans hxD))
        have p2:=cell_later (cell_later e2 _ (HXR.out.trans hxD))
        skip
        repeat' (first
         | ((first | refine walks_move rfl rfl ?_ | refine walks_assign rfl rfl ?_ | refine walks_skip rfl rfl ?_);simp only [Act.put,Act.eval,evs])
         | (refine walks_unwanted rfl rfl ?_;simp only [Act.put,evp])
         | (refine walks_read (v:=?_) rfl rfl (fun w' hE=>?_) ?_;rotate_left 1;(· ((try (have hEx:=Ext.trans (Hid.out XE) hE));go_simp;(try go_bits);with_reducible rfl));simp only [Act.put,evp])
         | (refine walks_alt ?_ ?_)
         | (refine walks_main rfl rfl (fun K hK=>?_);go_wp2_with ((go_at_call 100;(with_reducible refine (HNA _ (HG.out.ext (HXD.out.trans XE.out))).mono ?_);rintro e w2 ⟨rfl,hx2⟩;have XE':=hid (Ext.trans (Hid.out XE) hx2);clear XE;have XE:=XE';clear XE'));refine hK _ _ (by first | assumption | exact Ext.alloc _ _ | exact Ext.refl _) ?_;clear hK K;try simp only [Act.put,evp]))
        refine walks_done ?_
        have q1:=p1 _ XE.out
        clear p1 p2
        have q0:=(cell_later (cell_later e0 _ (HXR.out.trans hxD))) _ XE.out
        go_wp2
        go_ret
        exact ⟨by rw [HE.out,HF.out];rfl,HXD.out.trans XE.out⟩
      ·have te : (t == x.type) = false:=by rw [beq_eq_false_iff_ne];exact ht
       have HF : Hid (okFrom [] l = false):=by show _ = _;rw [HST.out,HAV.out,decide_eq_false ht];simp
       clear ht HNE HAV HST
       go_wp2_with (first
        | (go_at_call 97;(with_reducible refine (HT _).mono ?_);rintro e w1 ⟨rfl,hx1⟩;have HX1:=hid (HX.out.trans hx1);have HXR:=hid hx1;clear hx1))
       refine wp_region_plan (.read 0 (.read 1 (.read 2 (.read 3 (.read 4 (.read 5 (.read 6 (.read 7 (.read 8 (.read 9 (.main 10 (.read 11 (.read 12 (.read 13 (.read 14 (.read 15 .done)))))))))))))))) (by kernel_rfl) (by kernel_rfl) ?_
       intro wD hxD
       have XE : Hid (Ext wD wD):=Ext.refl _
       have HXD:=hid (HX1.out.trans hxD)
       have p1:=cell_later (cell_later e1 _ (HXR.out.trans hxD))
       have p2:=cell_later (cell_later e2 _ (HXR.out.trans hxD))
       skip
       repeat' (first
        | ((first | refine walks_move rfl rfl ?_ | refine walks_assign rfl rfl ?_ | refine walks_skip rfl rfl ?_);simp only [Act.put,Act.eval,evs])
        | (refine walks_unwanted rfl rfl ?_;simp only [Act.put,evp])
        | (refine walks_read (v:=?_) rfl rfl (fun w' hE=>?_) ?_;rotate_left 1;(· ((try (have hEx:=Ext.trans (Hid.out XE) hE));go_simp;(try go_bits);with_reducible rfl));simp only [Act.put,evp])
        | (refine walks_alt ?_ ?_)
        | (refine walks_main rfl rfl (fun K hK=>?_);go_wp2_with ((go_at_call 100;(with_reducible refine (HNA _ (HG.out.ext (HXD.out.trans XE.out))).mono ?_);rintro e w2 ⟨rfl,hx2⟩;have XE':=hid (Ext.trans (Hid.out XE) hx2);clear XE;have XE:=XE';clear XE'));refine hK _ _ (by first | assumption | exact Ext.alloc _ _ | exact Ext.refl _) ?_;clear hK K;try simp only [Act.put,evp]))
       refine walks_done ?_
       have q1:=p1 _ XE.out
       clear p1 p2
       have q0:=(cell_later (cell_later e0 _ (HXR.out.trans hxD))) _ XE.out
       go_wp2
       go_ret
       exact ⟨by rw [HE.out,HF.out];rfl,HXD.out.trans XE.out⟩
    ·obtain rfl : j = n:=by omega
     have HF : Hid (okFrom [] l = true):=by show _ = _;rw [← HO.out,List.drop_of_length_le (Nat.le_of_eq HR.out.len.symm)];rfl
     go_wp2
     go_ret
     exact ⟨by rw [HE.out,HF.out];rfl,HX.out⟩
end Go.Proofs.YtejdpadhemeldaaGreatDoor
