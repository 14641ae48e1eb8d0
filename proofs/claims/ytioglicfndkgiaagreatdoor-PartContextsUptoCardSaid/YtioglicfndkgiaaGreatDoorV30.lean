/- Lemmas of the walk. -/
import Derived.Test.YtioglicfndkgiaaGreatDoorV29
import Derived.Test.YtioglicfndkgiaaGreatDoorV02
set_option maxHeartbeats 40000000
set_option linter.unusedVariables false
set_option linter.unusedSimpArgs false
namespace Go.Proofs.YtioglicfndkgiaaGreatDoor
open Go.RowKit
set_option maxRecDepth 100000
theorem zbg {s : List UInt8} (h : zb3 s = true) : zaD (zaf s) = 0 ∧ za2 s = s ∧ s ≠ []:=by
 unfold zb3 at h
 simp only [Bool.and_eq_true,decide_eq_true_eq,Bool.not_eq_true',decide_eq_false_iff_not] at h
 exact ⟨h.1.1,h.1.2,h.2⟩
def zhF : List UInt8:=[97,108,105,97,115,101,100,79,98,106,101,99,116,78,97,109,101]
def aliB : List UInt8:=[97,108,105,97,115]
def zcG (l : List Att) : List UInt8 × Bool:=
 match zbv zhF l with
 | []=>([],false)
 | v :: _=>if hasZ objB aliB (zbv objB l) then ((valZ zhF (bys v)).1,(valZ zhF (bys v)).2 == 0) else ([],false)
def zdh (w : World) (l : List Att) (e : Ending) (w' : World) : Prop:=e = .returned (.tuple #[.string (str (zcG l).1),.bool (zcG l).2]) ∧ Ext w w'
theorem zjq {S : Nat → Prop} {A : Option Addr} {n c : Nat} {l : List Att} {w : World} (h : Row Elem.att S w A n c l) (nm : ByteArray) (hG : Gu w) (hv : ∀ a ∈ l,a.vals.length ≤ 8796093022208) :
 Calls Tryz.prog 41 #[.agg #[.string nm,.slice A n c]] w (zdh w l):=by
 have HG:=hid hG
 have HB:=hid (Bx.make (Ext.refl w) #[.string nm,.slice A n c] 44)
 have HVL : ∀ w',Ext w w' → Calls Tryz.prog 53 #[.agg #[.string nm,.slice A n c],.string ⟨#[97,108,105,97,115,101,100,79,98,106,101,99,116,78,97,109,101]⟩] w' (zcx w' zhF l):=fun w' hx=>zet (h.ext hx) ⟨#[97,108,105,97,115,101,100,79,98,106,101,99,116,78,97,109,101]⟩ nm (by decide) hv
 have HH : ∀ w',Ext w w' → Calls Tryz.prog 26 #[.agg #[.string nm,.slice A n c],.string ⟨#[111,98,106,101,99,116,67,108,97,115,115]⟩,.string ⟨#[97,108,105,97,115]⟩] w' fun e w''=>e = .returned (.bool (hasZ objB aliB (zbv objB l))) ∧ Ext w' w'':=fun w' hx=>zoC (h.ext hx) ⟨#[111,98,106,101,99,116,67,108,97,115,115]⟩ nm ⟨#[97,108,105,97,115]⟩ (hG.ext hx) (by decide) hv
 have HV : ∀ (x : ByteArray) w',Gu w' → Calls Tryz.prog 67 #[.string ⟨#[97,108,105,97,115,101,100,79,98,106,101,99,116,78,97,109,101]⟩,.string x] w' (zcp w' zhF (bys x)):=fun x w' hG=>zc1 ⟨#[97,108,105,97,115,101,100,79,98,106,101,99,116,78,97,109,101]⟩ x w' hG (by decide)
 have HD : Hid (zcG l = match zbv zhF l with | []=>([],false) | v :: _=>if hasZ objB aliB (zbv objB l) then ((valZ zhF (bys v)).1,(valZ zhF (bys v)).2 == 0) else ([],false)):=rfl
 have HCD : Hid (zdh w l = fun e w'=>e = .returned (.tuple #[.string (str (zcG l).1),.bool (zcG l).2]) ∧ Ext w w'):=rfl
 unfold zcx at HVL
 unfold zcp at HV
 clear h hG hv
 generalize zcG l = r at *
 obtain ⟨hb,hhb⟩ : ∃ hb,hb = hasZ objB aliB (zbv objB l):=⟨_,rfl⟩
 rw [← hhb] at HH HD
 clear hhb
 cases hq : zbv zhF l with
 | nil=>
  have HQ:=hid hq
  have HE : Hid (r = ([],false)):=by show _ = _;rw [HD.out,hq]
  clear hq HD
  cases hb
  all_goals
   go_enter Tryz.func41,Tryz.ntmps41
   go_wp2_with (first
    | (go_at_call 53;(with_reducible refine (HVL _ HB.out.ext).mono ?_);rintro e w1 ⟨A1,n1,c1,rfl,hr1,hx1⟩;obtain rfl : n1 = 0:=(by have:=hr1.len;rw [HQ.out] at this;simpa using this);have HB1:=hid (HB.out.later hx1);have c0:=HB1.out.cell (i:=0) rfl;have cc1:=HB1.out.cell (i:=1) rfl;clear hr1 hx1)
    | (go_at_call 26;(with_reducible refine (HH _ HB1.out.ext).mono ?_);rintro e w2 ⟨rfl,hx2⟩;have HB2:=hid (HB1.out.later hx2);clear hx2))
   go_ret2
   rw [HCD.out,HE.out]
   exact ⟨rfl,HB1.out.ext⟩
 | cons x q=>
  have HQ:=hid hq
  rw [hq] at HD
  simp only at HD
  clear hq
  have HV1:=HV x
  obtain ⟨vz,hvz⟩ : ∃ vz,vz = valZ zhF (bys x):=⟨_,rfl⟩
  rw [← hvz] at HV1 HD
  clear HV hvz
  obtain ⟨z1,z2⟩:=vz
  simp only at HV1 HD
  cases hb
  ·have HE : Hid (r = ([],false)):=by show _ = _;rw [HD.out];rfl
   clear HD
   go_enter Tryz.func41,Tryz.ntmps41
   go_wp2_with (first
    | (go_at_call 53;(with_reducible refine (HVL _ HB.out.ext).mono ?_);rintro e w1 ⟨A1,n1,c1,rfl,hr1,hx1⟩;have hl1 : n1 = q.length + 1:=(by have:=hr1.len;rw [HQ.out] at this;simpa using this);have tl1 : ((n1 : Int) == 0) = false:=(by rw [beq_eq_false_iff_ne];omega);have tl3 : 0 < n1:=(by omega);have tl4 : (0 : Int) < (n1 : Int):=(by omega);have HR1:=hid hr1;clear hl1;have HB1:=hid (HB.out.later hx1);have c0:=HB1.out.cell (i:=0) rfl;have cc1:=HB1.out.cell (i:=1) rfl;clear hr1 hx1)
    | (go_at_call 26;(with_reducible refine (HH _ HB1.out.ext).mono ?_);rintro e w2 ⟨rfl,hx2⟩;have HB2:=hid (HB1.out.later hx2);clear hx2))
   go_ret2
   rw [HCD.out,HE.out]
   exact ⟨rfl,HB2.out.ext⟩
  ·have HE : Hid (r = (z1,z2 == 0)):=by show _ = _;rw [HD.out];rfl
   clear HD
   go_enter Tryz.func41,Tryz.ntmps41
   go_wp2_with (first
    | (go_at_call 53;(with_reducible refine (HVL _ HB.out.ext).mono ?_);rintro e w1 ⟨A1,n1,c1,rfl,hr1,hx1⟩;have hl1 : n1 = q.length + 1:=(by have:=hr1.len;rw [HQ.out] at this;simpa using this);have tl1 : ((n1 : Int) == 0) = false:=(by rw [beq_eq_false_iff_ne];omega);have tl3 : 0 < n1:=(by omega);have tl4 : (0 : Int) < (n1 : Int):=(by omega);have HR1:=hid hr1;clear hl1;have HB1:=hid (HB.out.later hx1);have c0:=HB1.out.cell (i:=0) rfl;have cc1:=HB1.out.cell (i:=1) rfl;clear hr1 hx1)
    | (go_at_call 26;(with_reducible refine (HH _ HB1.out.ext).mono ?_);rintro e w2 ⟨rfl,hx2⟩;have HB2:=hid (HB1.out.later hx2);have HX2:=hid hx2;obtain ⟨b1,o1,rfl,k1⟩:=(HR1.out.ext HX2.out).str_cell tl3;have e1:=k1 0 (by omega);simp only [HQ.out,List.getElem?_cons_zero,Option.getD_some,Nat.add_zero] at e1;clear k1;clear hx2)
    | (go_at_call 67;(with_reducible refine (HV1 _ (HG.out.ext HB2.out.ext)).mono ?_);rintro e w3 ⟨rfl,hx3⟩;have HX3:=hid (HB2.out.ext.trans hx3);clear hx3))
   go_ret2
   rw [HCD.out,HE.out]
   exact ⟨rfl,HX3.out⟩
end Go.Proofs.YtioglicfndkgiaaGreatDoor
namespace Go.Proofs.YtioglicfndkgiaaGreatDoor
def cmpL : List (List UInt8) → List (List UInt8) → Int
 | [],[]=>0
 | [],_ :: _=>-1
 | _ :: _,[]=>1
 | x :: xs,y :: ys=>if ltB x y then -1 else if ltB y x then 1 else cmpL xs ys
theorem zdk : ∀ x y,cmpL y x = - cmpL x y
 | [],[]=>rfl
 | [],_ :: _=>rfl
 | _ :: _,[]=>rfl
 | a :: x,b :: y=>by
  unfold cmpL
  cases h1 : ltB a b with
  | true=>rw [zcD _ _ h1];rfl
  | false=>
   cases h2 : ltB b a with
   | true=>rfl
   | false=>simpa using zdk x y
theorem zjW : ∀ x y,cmpL x y = 0 → x = y
 | [],[],_=>rfl
 | [],_ :: _,h=>by simp [cmpL] at h
 | _ :: _,[],h=>by simp [cmpL] at h
 | a :: x,b :: y,h=>by
  unfold cmpL at h
  cases h1 : ltB a b with
  | true=>simp [h1] at h
  | false=>
   cases h2 : ltB b a with
   | true=>simp [h1,h2] at h
   | false=>
    simp [h1,h2] at h
    rw [zfN _ _ h1 h2,zjW x y h]
theorem zfi : ∀ x y z,cmpL x y ≤ 0 → cmpL y z ≤ 0 → cmpL x z ≤ 0
 | [],[],z,_,h=>h
 | [],_ :: _,[],_,_=>by simp [cmpL]
 | [],_ :: _,_ :: _,_,_=>by simp [cmpL]
 | _ :: _,[],_,h,_=>by simp [cmpL] at h
 | _ :: _,_ :: _,[],_,h=>by simp [cmpL] at h
 | a :: x,b :: y,c :: z,h,k=>by
  unfold cmpL at h k ⊢
  cases h1 : ltB a b with
  | true=>
   cases h3 : ltB b c with
   | true=>rw [zdm _ _ _ h1 h3];simp
   | false=>
    cases h4 : ltB c b with
    | true=>simp [h3,h4] at k
    | false=>rw [← zfN _ _ h3 h4,h1];simp
  | false=>
   cases h2 : ltB b a with
   | true=>simp [h1,h2] at h
   | false=>
    have e:=zfN _ _ h1 h2
    subst e
    simp only [h1,Bool.false_eq_true,if_false] at h
    cases h3 : ltB a c with
    | true=>simp
    | false=>
     cases h4 : ltB c a with
     | true=>simp [h3,h4] at k
     | false=>
      simp only [h3,h4,Bool.false_eq_true,if_false] at k ⊢
      exact zfi x y z h k
def zbe (a b : List UInt8) : Int:=if zaD (zaf a) = 0 ∧ zaD (zaf b) = 0 then cmpL (okL (zaf a)).reverse (okL (zaf b)).reverse else 0
theorem zbG {a b : List UInt8} (ha : zaD (zaf a) = 0) (hb : zaD (zaf b) = 0) : zbe a b = cmpL (okL (zaf a)).reverse (okL (zaf b)).reverse:=by unfold zbe;rw [if_pos ⟨ha,hb⟩]
theorem ziw {a b : List UInt8} (ha : zb3 a = true) (hb : zb3 b = true) (h : zbe a b = 0) : a = b:=by
 obtain ⟨a1,a2,a3⟩:=zbg ha
 obtain ⟨b1,b2,b3⟩:=zbg hb
 rw [zbG a1 b1] at h
 have:=congrArg List.reverse (zjW _ _ h)
 rw [List.reverse_reverse,List.reverse_reverse] at this
 rw [← a2,← b2]
 unfold za2
 rw [this]
def zcM (a b : List UInt8) : Bool:=decide (zbe a b < 0)
theorem zeb {α : Type} (f : α → List UInt8) (l : List α) (h : ∀ x ∈ l,zaD (zaf (f x)) = 0) : Ordly (fun x y=>zcM (f x) (f y)) l:=by
 refine ⟨fun x hx y hy hl=>?_,fun x hx y hy z hz h1 h2=>?_⟩
 ·simp only [zcM,decide_eq_true_eq,decide_eq_false_iff_not] at hl ⊢
  rw [zbG (h x hx) (h y hy)] at hl
  rw [zbG (h y hy) (h x hx),zdk]
  omega
 ·simp only [zcM,decide_eq_false_iff_not] at h1 h2 ⊢
  rw [zbG (h y hy) (h x hx),zdk] at h1
  rw [zbG (h z hz) (h y hy),zdk] at h2
  rw [zbG (h z hz) (h x hx),zdk]
  have:=zfi _ _ _ (show cmpL (okL (zaf (f x))).reverse (okL (zaf (f y))).reverse ≤ 0 by omega) (show cmpL (okL (zaf (f y))).reverse (okL (zaf (f z))).reverse ≤ 0 by omega)
  omega
theorem zmn {a b : List UInt8} (ha : zb3 a = true) (hb : zb3 b = true) (h1 : zcM a b = false) (h2 : zcM b a = false) : a = b:=by
 obtain ⟨a1,a2,a3⟩:=zbg ha
 obtain ⟨b1,b2,b3⟩:=zbg hb
 simp only [zcM,decide_eq_false_iff_not] at h1 h2
 refine ziw ha hb ?_
 rw [zbG b1 a1,zdk] at h2
 rw [zbG a1 b1] at h1 ⊢
 omega
section
variable {α : Type} {f : α → List UInt8} {l : List α}
def Apart (f : α → List UInt8) (l : List α) : Prop:=l.Pairwise fun x y=>f x ≠ f y
theorem Apart.one : ∀ {l : List α},Apart f l → ∀ {x y : α},x ∈ l → y ∈ l → f x = f y → x = y
 | [],_,_,_,hx,_,_=>by simp at hx
 | a :: r,hp,x,y,hx,hy,h=>by
  obtain ⟨h1,h2⟩:=List.pairwise_cons.1 hp
  rcases List.mem_cons.1 hx with ex | hx'
  ·rcases List.mem_cons.1 hy with ey | hy'
   ·rw [ex,ey]
   ·exact absurd (ex ▸ h) (h1 y hy')
  ·rcases List.mem_cons.1 hy with ey | hy'
   ·exact absurd (ey ▸ h).symm (h1 x hx')
   ·exact Apart.one h2 hx' hy' h
theorem Apart.perm {l' : List α} (h : Apart f l) (hp : l'.Perm l) : Apart f l':=(hp.pairwise_iff (fun h=>fun e=>h e.symm)).2 h
def InOrder (f : α → List UInt8) (l : List α) : Prop:=l.Pairwise fun x y=>zcM (f y) (f x) = false
theorem InOrder.of_srt (h : Srt (fun x y=>zcM (f x) (f y)) l 0 l.length) : InOrder f l:=
 List.pairwise_iff_getElem.2 fun i j hi hj hij=>h i j _ _ (Nat.zero_le _) hij hj (List.getElem?_eq_getElem hi) (List.getElem?_eq_getElem hj)
theorem zo1 {l1 l2 : List α} (hn : ∀ x ∈ l,zb3 (f x) = true) (ha : Apart f l) (p1 : l1.Perm l) (p2 : l2.Perm l) (o1 : InOrder f l1) (o2 : InOrder f l2) : l1 = l2:=
 List.Perm.eq_of_pairwise (le:=fun x y=>zcM (f y) (f x) = false) (fun a b h1 h2 h3 h4=>
  ha.one (p1.mem_iff.1 h1) (p2.mem_iff.1 h2) (zmn (hn a (p1.mem_iff.1 h1)) (hn b (p2.mem_iff.1 h2)) h4 h3)) o1 o2 (p1.trans p2.symm)
def insN (f : α → List UInt8) (e : α) : List α → List α
 | []=>[e]
 | o :: t=>if zcM (f o) (f e) then o :: insN f e t else if f o = f e then o :: t else e :: o :: t
def sortN (f : α → List UInt8) (l : List α) : List α:=l.foldl (fun out e=>insN f e out) []
theorem zoK {e : α} : ∀ {out : List α},Ordly (fun x y=>zcM (f x) (f y)) (e :: out) → InOrder f out → (∀ o ∈ out,f o ≠ f e) → (insN f e out).Perm (e :: out) ∧ InOrder f (insN f e out)
 | [],_,_,_=>⟨List.Perm.refl _,List.pairwise_cons.2 ⟨fun a ha=>(by cases ha),List.Pairwise.nil⟩⟩
 | o :: t,ho,hs,hn=>by
  obtain ⟨s1,s2⟩:=List.pairwise_cons.1 hs
  have ho' : Ordly (fun x y=>zcM (f x) (f y)) (e :: t):=⟨fun x hx y hy=>ho.asym x (by simp at hx ⊢;rcases hx with h | h <;> simp [h]) y (by simp at hy ⊢;rcases hy with h | h <;> simp [h]),
   fun x hx y hy z hz=>ho.tran x (by simp at hx ⊢;rcases hx with h | h <;> simp [h]) y (by simp at hy ⊢;rcases hy with h | h <;> simp [h]) z (by simp at hz ⊢;rcases hz with h | h <;> simp [h])⟩
  unfold insN
  cases hl : zcM (f o) (f e) with
  | true=>
   simp only [if_true]
   obtain ⟨p,q⟩:=zoK ho' s2 (fun x hx=>hn x (by simp [hx]))
   refine ⟨(p.cons o).trans (List.Perm.swap e o t),List.pairwise_cons.2 ⟨fun z hz=>?_,q⟩⟩
   rcases List.mem_cons.1 (p.mem_iff.1 hz) with h | h
   ·rw [h];exact ho.asym o (by simp) e (by simp) hl
   ·exact s1 z h
  | false=>
   simp only [Bool.false_eq_true,if_false]
   rw [if_neg (hn o (by simp))]
   refine ⟨List.Perm.refl _,List.pairwise_cons.2 ⟨fun z hz=>?_,hs⟩⟩
   rcases List.mem_cons.1 hz with h | h
   ·rw [h];exact hl
   ·exact ho.tran e (by simp) o (by simp) z (by simp [h]) hl (s1 z h)
theorem zh6 : ∀ (l out : List α),(∀ x ∈ out ++ l,zb3 (f x) = true) → Apart f (out ++ l) → InOrder f out → (l.foldl (fun out e=>insN f e out) out).Perm (out ++ l) ∧ InOrder f (l.foldl (fun out e=>insN f e out) out)
 | [],out,hn,ha,hs=>by rw [List.append_nil];exact ⟨List.Perm.refl _,hs⟩
 | e :: l,out,hn,ha,hs=>by
  have hsub : ∀ x ∈ e :: out,x ∈ out ++ e :: l:=by intro x hx;simp at hx ⊢;rcases hx with h | h <;> simp [h]
  have hne : ∀ o ∈ out,f o ≠ f e:=fun o ho=>(List.pairwise_append.1 ha).2.2 o ho e (by simp)
  obtain ⟨p,q⟩:=zoK (f:=f) (zeb f (e :: out) fun x hx=>(zbg (hn x (hsub x hx))).1) hs hne
  have p2 : (insN f e out ++ l).Perm (out ++ e :: l):=(p.append_right l).trans (by simpa using (List.perm_middle (a:=e) (l₁:=out) (l₂:=l)).symm)
  obtain ⟨p3,q3⟩:=zh6 l (insN f e out) (fun x hx=>hn x (p2.mem_iff.1 hx)) (ha.perm p2) q
  exact ⟨p3.trans p2,q3⟩
theorem zcb (hn : ∀ x ∈ l,zb3 (f x) = true) (ha : Apart f l) : (sortN f l).Perm l ∧ InOrder f (sortN f l):=by
 have:=zh6 (f:=f) l [] (by simpa using hn) (by simpa using ha) List.Pairwise.nil
 exact this
theorem zdi {l' : List α} (hn : ∀ x ∈ l,zb3 (f x) = true) (ha : Apart f l) (hp : l'.Perm l) (ho : InOrder f l') : l' = sortN f l:=by
 obtain ⟨p,q⟩:=zcb hn ha
 exact zo1 hn ha hp p ho q
theorem zmI {l' : List α} (hn : ∀ x ∈ l,zb3 (f x) = true) (ha : Apart f l) (hp : l'.Perm l) : sortN f l' = sortN f l:=by
 obtain ⟨p,q⟩:=zcb (f:=f) (l:=l') (fun x hx=>hn x (hp.mem_iff.1 hx)) (ha.perm hp)
 exact zdi hn ha (p.trans hp) q
theorem StOk.sortN {l' : List α} (h : StOk (fun x y=>zcM (f x) (f y)) l l') (hn : ∀ x ∈ l,zb3 (f x) = true) (ha : Apart f l) : l' = sortN f l:=by
 refine zdi hn ha h.1.perm (InOrder.of_srt ?_)
 rw [h.1.len]
 exact h.2 (zeb f l fun x hx=>(zbg (hn x hx)).1)
end
end Go.Proofs.YtioglicfndkgiaaGreatDoor
