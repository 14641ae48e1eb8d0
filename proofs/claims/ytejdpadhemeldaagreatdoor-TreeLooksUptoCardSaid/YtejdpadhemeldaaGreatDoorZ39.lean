/- Lemmas of the walk that the last text of this claim joins. -/
import Derived.Test.YtejdpadhemeldaaGreatDoorZ38
import Derived.Test.YtejdpadhemeldaaGreatDoorZ37
import Derived.Test.YtejdpadhemeldaaGreatDoorZ30
import Derived.Test.YtejdpadhemeldaaGreatDoorZ18
set_option maxHeartbeats 40000000
set_option linter.unusedVariables false
set_option linter.unusedSimpArgs false
namespace Go.Proofs.YtejdpadhemeldaaGreatDoor
open Go.RowKit
set_option maxRecDepth 100000
abbrev nmE (e : Ent) : List UInt8:=bys e.name
def isAt (s : List UInt8) (e : Ent) : Bool:=decide (codeR (partsB s) = 0) && decide (nmE e = normalS s)
def AtSays (w : World) (s : List UInt8) (l : List Ent) (e : Ending) (w' : World) : Prop:=∃ r,e = .returned (.int .i64 r) ∧ Idx (isAt s) l r ∧ Ext w w'
theorem rat_any {S : Nat → Prop} {A : Option Addr} {n c : Nat} {l : List Ent} {w : World} (h : Row Elem.ent S w A n c l) (s : ByteArray) (hG : Gl w) :
 Calls Tryz.prog 20 #[.slice A n c,.string s] w (AtSays w (bys s) l):=by
 have HNM : Calls Tryz.prog 26 #[.string s] w (NormalSays w (bys s)):=rnormal06_any s w hG
 have HP : Hid (∀ e,isAt (bys s) e = (decide (codeR (partsB (bys s)) = 0) && decide (nmE e = normalS (bys s)))):=fun e=>rfl
 have HR:=hid h
 have hl:=hid h.len
 have hnl : n ≤ 9223372036854775807:=by have:=h.cap;have:=h.most;simp only [maxLen] at this;omega
 unfold NormalSays at HNM
 unfold AtSays
 generalize isAt (bys s) = P at *
 generalize normalS (bys s) = ns at *
 generalize codeR (partsB (bys s)) = cd at *
 obtain ⟨sn,hsn⟩ : ∃ sn,sn = str ns:=⟨_,rfl⟩
 rw [← hsn] at HNM
 have HSN:=hid hsn
 clear h hG hsn
 go_enter Tryz.func20,Tryz.ntmps20
 go_wp2_with (go_at_call 26;(with_reducible refine HNM.mono ?_);rintro e w1 ⟨rfl,hx1⟩;have HX1:=hid hx1;clear hx1)
 clear HNM
 go_loopw [15] (fun i wr=>∃ j : Nat,j ≤ n ∧ i = .int .i64 j ∧ Hid ((l.take j).any P = false) ∧ Hid (Ext w wr)) (fun i _=>n - (intOf i).toNat)
 case atStart=>exact ⟨0,by omega,rfl,by simp [Hid],HX1.out⟩
 case round=>
  obtain ⟨j,hj,rfl,HA,hx⟩:=hrel
  by_cases hlt : j < n
  ·obtain ⟨b1,o1,v1,x1,rfl,g1,_,⟨A1,n1,c1,rfl,r1⟩,q1⟩:=(HR.out.ext hx.out).at_ hlt
   have e10:=q1 0 _ rfl
   simp only [Elem.ent,Nat.add_zero] at e10
   have Hg:=hid g1
   have HPX:=hid (HP.out x1)
   have HNX : Hid (P x1 = false → (l.take (j + 1)).any P = false):=fun h=>by rw [List.take_add_one,g1,List.any_append,HA.out];simp [h]
   clear q1 g1 r1
   by_cases hc : cd = 0
   ·have t1 : (cd == 0) = true:=by rw [beq_iff_eq];exact hc
    rw [decide_eq_true hc,Bool.true_and] at HPX
    clear hc
    by_cases hv : nmE x1 = ns
    ·have t2 : (x1.name.toList == sn.toList) = true:=str_eq (by rw [HSN.out,← hv];(try rfl))
     rw [decide_eq_true hv] at HPX
     clear hv HNX
     go_wp2
     go_ret
     exact ⟨j,rfl,.inr ⟨j,rfl,HA.out,x1,Hg.out,HPX.out⟩,hx.out⟩
    ·have t2 : (x1.name.toList == sn.toList) = false:=str_ne (fun e=>hv (by unfold nmE;rw [e,HSN.out,bys_str]))
     rw [decide_eq_false hv] at HPX
     have HN:=hid (HNX.out HPX.out)
     clear hv HNX
     go_wp2
     exact ⟨⟨j + 1,by omega,by go_num,HN.out,hx.out⟩,by simp [intOf];omega⟩
   ·have t1 : (cd == 0) = false:=by rw [beq_eq_false_iff_ne];exact hc
    rw [decide_eq_false hc,Bool.false_and] at HPX
    have HN:=hid (HNX.out HPX.out)
    clear hc HNX
    go_wp2
    exact ⟨⟨j + 1,by omega,by go_num,HN.out,hx.out⟩,by simp [intOf];omega⟩
  ·obtain rfl : j = n:=by omega
   have HF : Hid (l.any P = false):=by have:=HA.out;rw [List.take_of_length_le (Nat.le_of_eq hl.out.symm)] at this;exact this
   go_wp2
   go_ret
   exact ⟨-1,rfl,.inl ⟨rfl,HF.out⟩,hx.out⟩
structure Ky where
 parts : List (List UInt8)
 ok : Bool
def Elem.ky : Elem Ky:=
 ⟨2,by decide,fun S w v a=>∃ A n c,v = [.slice A n c,.bool a.ok] ∧ Row Elem.str S w A n c (strs a.parts) ∧ n ≤ 1000000,fun ⟨_,_,_,h,_⟩=>by rw [h];rfl,fun ⟨A,n,c,h,hr,hn⟩ hk=>⟨A,n,c,h,hr.same hk,hn⟩,fun ⟨A,n,c,h,hr,hn⟩ hs=>⟨A,n,c,h,hr.mono hs,hn⟩⟩
def aheadK (a b : Ky) : Bool:=a.ok && b.ok && decide (cmpL a.parts.reverse b.parts.reverse < 0)
def keyE (s : List UInt8) : Ky:=⟨okL (partsB s),codeR (partsB s) == 0⟩
theorem aheadK_lt (a b : List UInt8) : aheadK (keyE a) (keyE b) = ltName a b:=by
 unfold aheadK keyE ltName compareS
 by_cases h1 : codeR (partsB a) = 0
 ·by_cases h2 : codeR (partsB b) = 0
  ·rw [if_pos ⟨h1,h2⟩];simp [h1,h2]
  ·rw [if_neg (fun h=>h2 h.2)];simp [h2]
 ·rw [if_neg (fun h=>h1 h.1)];simp [h1]
theorem rahead_any {S T : Nat → Prop} {A B : Option Addr} {n c m d : Nat} {x y : Ky} {w : World} (h : Row Elem.str S w A n c (strs x.parts)) (k : Row Elem.str T w B m d (strs y.parts)) (hn : n ≤ 1000000) (hm : m ≤ 1000000) :
 Calls Tryz.prog 61 #[.agg #[.slice A n c,.bool x.ok],.agg #[.slice B m d,.bool y.ok]] w fun e w'=>e = .returned (.bool (aheadK x y)) ∧ Ext w w':=by
 have HO : ∀ w',Ext w w' → Calls Tryz.prog 101 #[.slice A n c,.slice B m d] w' fun e w''=>e = .returned (.int .i64 (cmpL x.parts.reverse y.parts.reverse)) ∧ Ext w' w'':=fun w' hx=>rorder_any (h.ext hx) (k.ext hx) hn hm
 have HA : Hid (aheadK x y = (x.ok && y.ok && decide (cmpL x.parts.reverse y.parts.reverse < 0))):=rfl
 generalize aheadK x y = r at *
 generalize cmpL x.parts.reverse y.parts.reverse = q at *
 obtain ⟨xp,xo⟩:=x
 obtain ⟨yp,yo⟩:=y
 simp only at *
 clear h k hn hm
 cases xo with
 | false=>
  go_enter Tryz.func61,Tryz.ntmps61
  go_wp2
  go_ret
  exact ⟨by rw [HA.out];rfl,(Ext.alloc _ _).trans (Ext.alloc _ _)⟩
 | true=>
  cases yo with
  | false=>
   go_enter Tryz.func61,Tryz.ntmps61
   go_wp2
   go_ret
   exact ⟨by rw [HA.out];rfl,(Ext.alloc _ _).trans (Ext.alloc _ _)⟩
  | true=>
   have hq : (decide (q < 0) = true ∨ decide (q < 0) = false):=by cases decide (q < 0) <;> simp
   rcases hq with hq | hq
   ·rw [hq] at HA
    go_enter Tryz.func61,Tryz.ntmps61
    go_wp2_with (go_at_call 101;(with_reducible refine (HO _ ((Ext.alloc _ _).trans (Ext.alloc _ _))).mono ?_);rintro e w1 ⟨rfl,hx1⟩;have HX1:=hid (((Ext.alloc _ _).trans (Ext.alloc _ _)).trans hx1);clear hx1)
    go_ret
    exact ⟨by rw [HA.out];rfl,HX1.out⟩
   ·rw [hq] at HA
    go_enter Tryz.func61,Tryz.ntmps61
    go_wp2_with (go_at_call 101;(with_reducible refine (HO _ ((Ext.alloc _ _).trans (Ext.alloc _ _))).mono ?_);rintro e w1 ⟨rfl,hx1⟩;have HX1:=hid (((Ext.alloc _ _).trans (Ext.alloc _ _)).trans hx1);clear hx1)
    go_ret
    exact ⟨by rw [HA.out];rfl,HX1.out⟩
end Go.Proofs.YtejdpadhemeldaaGreatDoor
