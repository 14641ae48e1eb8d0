/- Lemmas of the walk. -/
import Derived.Test.YtioglicfndkgiaaGreatDoorZ02
import Derived.Test.YtioglicfndkgiaaGreatDoorZ29
import Derived.Test.YtioglicfndkgiaaGreatDoorZ15
import Derived.Test.YtioglicfndkgiaaGreatDoorZ27
set_option maxHeartbeats 40000000
set_option linter.unusedVariables false
set_option linter.unusedSimpArgs false
namespace Go.Proofs.YtioglicfndkgiaaGreatDoor
def cmpL:List (List UInt8)→List (List UInt8)→Int
 | [],[]=>0
 | [],_::_=>-1
 | _::_,[]=>1
 | x::xs,y::ys=>if ltB x y then -1 else if ltB y x then 1 else cmpL xs ys
theorem zdx:∀ x y,cmpL y x = - cmpL x y
 | [],[]=>rfl
 | [],_::_=>rfl
 | _::_,[]=>rfl
 | a::x,b::y=>by
  unfold cmpL
  cases h1:ltB a b with
  | true=>rw [zc2 _ _ h1];rfl
  | false=>
   cases h2:ltB b a with
   | true=>rfl
   | false=>simpa using zdx x y
theorem zkB:∀ x y,cmpL x y=0→x=y
 | [],[],_=>rfl
 | [],_::_,h=>by simp [cmpL] at h
 | _::_,[],h=>by simp [cmpL] at h
 | a::x,b::y,h=>by
  unfold cmpL at h
  cases h1:ltB a b with
  | true=>simp [h1] at h
  | false=>
   cases h2:ltB b a with
   | true=>simp [h1,h2] at h
   | false=>
    simp [h1,h2] at h
    rw [zgn _ _ h1 h2,zkB x y h]
theorem zfA:∀ x y z,cmpL x y≤0→cmpL y z≤0→cmpL x z≤0
 | [],[],z,_,h=>h
 | [],_::_,[],_,_=>by simp [cmpL]
 | [],_::_,_::_,_,_=>by simp [cmpL]
 | _::_,[],_,h,_=>by simp [cmpL] at h
 | _::_,_::_,[],_,h=>by simp [cmpL] at h
 | a::x,b::y,c::z,h,k=>by
  unfold cmpL at h k ⊢
  cases h1:ltB a b with
  | true=>
   cases h3:ltB b c with
   | true=>rw [zdF _ _ _ h1 h3];simp
   | false=>
    cases h4:ltB c b with
    | true=>simp [h3,h4] at k
    | false=>rw [← zgn _ _ h3 h4,h1];simp
  | false=>
   cases h2:ltB b a with
   | true=>simp [h1,h2] at h
   | false=>
    have e:=zgn _ _ h1 h2
    subst e
    simp only [h1,Bool.false_eq_true,if_false] at h
    cases h3:ltB a c with
    | true=>simp
    | false=>
     cases h4:ltB c a with
     | true=>simp [h3,h4] at k
     | false=>
      simp only [h3,h4,Bool.false_eq_true,if_false] at k ⊢
      exact zfA x y z h k
def zbj (a b:List UInt8):Int:=if zap (zac a)=0∧zap (zac b)=0 then cmpL (okL (zac a)).reverse (okL (zac b)).reverse else 0
theorem zbR {a b:List UInt8} (ha:zap (zac a)=0) (hb:zap (zac b)=0):zbj a b=cmpL (okL (zac a)).reverse (okL (zac b)).reverse:=by unfold zbj;rw [if_pos ⟨ha,hb⟩]
theorem zjM {a b:List UInt8} (ha:zbD a=true) (hb:zbD b=true) (h:zbj a b=0):a=b:=by
 obtain ⟨a1,a2,a3⟩:=za2 ha
 obtain ⟨b1,b2,b3⟩:=za2 hb
 rw [zbR a1 b1] at h
 have:=congrArg List.reverse (zkB _ _ h)
 rw [List.reverse_reverse,List.reverse_reverse] at this
 rw [← a2,← b2]
 unfold zaG
 rw [this]
def zcT (a b:List UInt8):Bool:=decide (zbj a b<0)
theorem zeq {α:Type} (f:α→List UInt8) (l:List α) (h:∀ x∈l,zap (zac (f x))=0):Ordly (fun x y=>zcT (f x) (f y)) l:=by
 refine ⟨fun x hx y hy hl=>?_,fun x hx y hy z hz h1 h2=>?_⟩
 ·simp only [zcT,decide_eq_true_eq,decide_eq_false_iff_not] at hl ⊢
  rw [zbR (h x hx) (h y hy)] at hl
  rw [zbR (h y hy) (h x hx),zdx]
  omega
 ·simp only [zcT,decide_eq_false_iff_not] at h1 h2 ⊢
  rw [zbR (h y hy) (h x hx),zdx] at h1
  rw [zbR (h z hz) (h y hy),zdx] at h2
  rw [zbR (h z hz) (h x hx),zdx]
  have:=zfA _ _ _ (show cmpL (okL (zac (f x))).reverse (okL (zac (f y))).reverse≤0 by omega) (show cmpL (okL (zac (f y))).reverse (okL (zac (f z))).reverse≤0 by omega)
  omega
theorem znH {a b:List UInt8} (ha:zbD a=true) (hb:zbD b=true) (h1:zcT a b=false) (h2:zcT b a=false):a=b:=by
 obtain ⟨a1,a2,a3⟩:=za2 ha
 obtain ⟨b1,b2,b3⟩:=za2 hb
 simp only [zcT,decide_eq_false_iff_not] at h1 h2
 refine zjM ha hb ?_
 rw [zbR b1 a1,zdx] at h2
 rw [zbR a1 b1] at h1 ⊢
 omega
section
variable {α:Type} {f:α→List UInt8} {l:List α}
def Apart (f:α→List UInt8) (l:List α):Prop:=l.Pairwise fun x y=>f x≠f y
theorem Apart.one:∀ {l:List α},Apart f l→∀ {x y:α},x∈l→y∈l→f x=f y→x=y
 | [],_,_,_,hx,_,_=>by simp at hx
 | a::r,hp,x,y,hx,hy,h=>by
  obtain ⟨h1,h2⟩:=List.pairwise_cons.1 hp
  rcases List.mem_cons.1 hx with ex | hx'
  ·rcases List.mem_cons.1 hy with ey | hy'
   ·rw [ex,ey]
   ·exact absurd (ex ▸ h) (h1 y hy')
  ·rcases List.mem_cons.1 hy with ey | hy'
   ·exact absurd (ey ▸ h).symm (h1 x hx')
   ·exact Apart.one h2 hx' hy' h
theorem Apart.perm {l':List α} (h:Apart f l) (hp:l'.Perm l):Apart f l':=(hp.pairwise_iff (fun h=>fun e=>h e.symm)).2 h
def InOrder (f:α→List UInt8) (l:List α):Prop:=l.Pairwise fun x y=>zcT (f y) (f x)=false
theorem InOrder.of_srt (h:Srt (fun x y=>zcT (f x) (f y)) l 0 l.length):InOrder f l:=
 List.pairwise_iff_getElem.2 fun i j hi hj hij=>h i j _ _ (Nat.zero_le _) hij hj (List.getElem?_eq_getElem hi) (List.getElem?_eq_getElem hj)
theorem zpw {l1 l2:List α} (hn:∀ x∈l,zbD (f x)=true) (ha:Apart f l) (p1:l1.Perm l) (p2:l2.Perm l) (o1:InOrder f l1) (o2:InOrder f l2):l1=l2:=
 List.Perm.eq_of_pairwise (le:=fun x y=>zcT (f y) (f x)=false) (fun a b h1 h2 h3 h4=>
  ha.one (p1.mem_iff.1 h1) (p2.mem_iff.1 h2) (znH (hn a (p1.mem_iff.1 h1)) (hn b (p2.mem_iff.1 h2)) h4 h3)) o1 o2 (p1.trans p2.symm)
def insN (f:α→List UInt8) (e:α):List α→List α
 | []=>[e]
 | o::t=>if zcT (f o) (f e) then o::insN f e t else if f o=f e then o::t else e::o::t
def sortN (f:α→List UInt8) (l:List α):List α:=l.foldl (fun out e=>insN f e out) []
theorem zop {e:α}:∀ {out:List α},Ordly (fun x y=>zcT (f x) (f y)) (e::out)→InOrder f out→(∀ o∈out,f o≠f e)→(insN f e out).Perm (e::out)∧InOrder f (insN f e out)
 | [],_,_,_=>⟨List.Perm.refl _,List.pairwise_cons.2 ⟨fun a ha=>(by cases ha),List.Pairwise.nil⟩⟩
 | o::t,ho,hs,hn=>by
  obtain ⟨s1,s2⟩:=List.pairwise_cons.1 hs
  have ho':Ordly (fun x y=>zcT (f x) (f y)) (e::t):=⟨fun x hx y hy=>ho.asym x (by simp at hx ⊢;rcases hx with h | h <;> simp [h]) y (by simp at hy ⊢;rcases hy with h | h <;> simp [h]),
   fun x hx y hy z hz=>ho.tran x (by simp at hx ⊢;rcases hx with h | h <;> simp [h]) y (by simp at hy ⊢;rcases hy with h | h <;> simp [h]) z (by simp at hz ⊢;rcases hz with h | h <;> simp [h])⟩
  unfold insN
  cases hl:zcT (f o) (f e) with
  | true=>
   simp only [if_true]
   obtain ⟨p,q⟩:=zop ho' s2 (fun x hx=>hn x (by simp [hx]))
   refine ⟨(p.cons o).trans (List.Perm.swap e o t),List.pairwise_cons.2 ⟨fun z hz=>?_,q⟩⟩
   rcases List.mem_cons.1 (p.mem_iff.1 hz) with h | h
   ·rw [h];exact ho.asym o (by simp) e (by simp) hl
   ·exact s1 z h
  | false=>
   simp only [Bool.false_eq_true,if_false]
   rw [if_neg (hn o (by simp))]
   refine ⟨List.Perm.refl _,List.pairwise_cons.2 ⟨fun z hz=>?_,hs⟩⟩
   rcases List.mem_cons.1 hz with h | h
   ·rw [h];exact hl
   ·exact ho.tran e (by simp) o (by simp) z (by simp [h]) hl (s1 z h)
theorem ziT:∀ (l out:List α),(∀ x∈out++l,zbD (f x)=true)→Apart f (out++l)→InOrder f out→(l.foldl (fun out e=>insN f e out) out).Perm (out++l)∧InOrder f (l.foldl (fun out e=>insN f e out) out)
 | [],out,hn,ha,hs=>by rw [List.append_nil];exact ⟨List.Perm.refl _,hs⟩
 | e::l,out,hn,ha,hs=>by
  have hsub:∀ x∈e::out,x∈out++e::l:=by intro x hx;simp at hx ⊢;rcases hx with h | h <;> simp [h]
  have hne:∀ o∈out,f o≠f e:=fun o ho=>(List.pairwise_append.1 ha).2.2 o ho e (by simp)
  obtain ⟨p,q⟩:=zop (f:=f) (zeq f (e::out) fun x hx=>(za2 (hn x (hsub x hx))).1) hs hne
  have p2:(insN f e out++l).Perm (out++e::l):=(p.append_right l).trans (by simpa using (List.perm_middle (a:=e) (l₁:=out) (l₂:=l)).symm)
  obtain ⟨p3,q3⟩:=ziT l (insN f e out) (fun x hx=>hn x (p2.mem_iff.1 hx)) (ha.perm p2) q
  exact ⟨p3.trans p2,q3⟩
theorem zcd (hn:∀ x∈l,zbD (f x)=true) (ha:Apart f l):(sortN f l).Perm l∧InOrder f (sortN f l):=by
 have:=ziT (f:=f) l [] (by simpa using hn) (by simpa using ha) List.Pairwise.nil
 exact this
theorem zdA {l':List α} (hn:∀ x∈l,zbD (f x)=true) (ha:Apart f l) (hp:l'.Perm l) (ho:InOrder f l'):l'=sortN f l:=by
 obtain ⟨p,q⟩:=zcd hn ha
 exact zpw hn ha hp p ho q
theorem znM {l':List α} (hn:∀ x∈l,zbD (f x)=true) (ha:Apart f l) (hp:l'.Perm l):sortN f l'=sortN f l:=by
 obtain ⟨p,q⟩:=zcd (f:=f) (l:=l') (fun x hx=>hn x (hp.mem_iff.1 hx)) (ha.perm hp)
 exact zdA hn ha (p.trans hp) q
theorem StOk.sortN {l':List α} (h:StOk (fun x y=>zcT (f x) (f y)) l l') (hn:∀ x∈l,zbD (f x)=true) (ha:Apart f l):l'=sortN f l:=by
 refine zdA hn ha h.1.perm (InOrder.of_srt ?_)
 rw [h.1.len]
 exact h.2 (zeq f l fun x hx=>(za2 (hn x hx)).1)
end
end Go.Proofs.YtioglicfndkgiaaGreatDoor
namespace Go.Proofs.YtioglicfndkgiaaGreatDoor
def Good (x:List UInt8):Prop:=∃ p,zan p=true∧x=za4 (zbd p)
theorem zkp:∀ {l:List (List UInt8)},(∀ x∈l,Good x)→∃ k:List (List Ava),l=k.map (fun p=>za4 (zbd p))∧∀ p∈k,zan p=true
 | [],_=>⟨[],rfl,by simp⟩
 | x::t,h=>by
  obtain ⟨k,h1,h2⟩:=zkp (l:=t) fun y hy=>h y (by simp [hy])
  obtain ⟨p,h3,h4⟩:=h x (by simp)
  refine ⟨p::k,by rw [h1,h4];rfl,fun q hq=>?_⟩
  rcases List.mem_cons.1 hq with e | e
  ·rw [e];exact h3
  ·exact h2 q e
theorem znW {l:List (List UInt8)} (hg:∀ x∈l,Good x) (h12:l.length≤12) (h1k:(za3 l).length≤1000):zac (za3 l)=.ok l:=by
 by_cases hz:l=[]
 ·subst hz;rfl
 obtain ⟨k,hl,hf⟩:=zkp hg
 have hn:∀ q∈k.map zbd,zan q=true:=by
  intro q hq
  obtain ⟨p,hp,rfl⟩:=List.mem_map.1 hq
  exact zch (hf p hp)
 have hl2:l=(k.map zbd).map za4:=by rw [hl,List.map_map];rfl
 have hcl:∀ x∈l,clos 44 x=true:=by
  intro x hx
  rw [hl2] at hx
  obtain ⟨q,hq,rfl⟩:=List.mem_map.1 hx
  have:=hn q hq
  unfold zan at this
  rw [Bool.and_eq_true,Bool.and_eq_true] at this
  exact zfs q (List.all_eq_true.1 this.1.2)
 have hsp:=zfp l hz hcl
 have hjn:za3 l≠[]:=by
  cases hk:l with
  | nil=>exact absurd hk hz
  | cons x t=>
   refine zmU ?_
   have hx:x∈(k.map zbd).map za4:=by rw [← hl2,hk];simp
   obtain ⟨q,hq,rfl⟩:=List.mem_map.1 hx
   exact zkL (by rintro rfl;have:=hn _ hq;cases this)
 unfold zac
 rw [if_neg (by omega),if_neg hjn,hsp,if_neg (by omega)]
 have hmm:l.mapM zbk=some (k.map zbd):=by
  rw [hl2]
  exact zfZ fun q hq=>zhL (hn q hq)
 rw [hmm]
 have e2:(k.map zbd).map (fun p=>zb7 (zbd p))=l:=by
  rw [hl2]
  refine List.map_congr_left fun q hq=>?_
  obtain ⟨p,hp,rfl⟩:=List.mem_map.1 hq
  have hfp:=hf p hp
  have ha:p.all zbP=true:=by
   unfold zan at hfp
   rw [Bool.and_eq_true,Bool.and_eq_true] at hfp
   exact hfp.1.2
  rw [(zfg ha).1]
  unfold zb7
  rw [if_pos (zch hfp)]
 simp only [e2]
 rw [if_neg (by omega)]
theorem znY {s:List UInt8} {l:List (List UInt8)} (h:zac s=.ok l):(∀ x∈l,Good x)∧l.length≤12∧(za3 l).length≤1000:=by
 unfold zac at h
 by_cases h1:1000<s.length
 ·rw [if_pos h1] at h;cases h
 rw [if_neg h1] at h
 by_cases h2:s=[]
 ·rw [if_pos h2] at h
  injection h with h
  subst h
  simp [za3]
 rw [if_neg h2] at h
 by_cases h3:12<(splitF 44 [] s).length
 ·rw [if_pos h3] at h;cases h
 rw [if_neg h3] at h
 cases hm:(splitF 44 [] s).mapM zbk with
 | none=>rw [hm] at h;cases h
 | some k=>
  rw [hm] at h
  simp only at h
  by_cases h4:1000<(za3 (k.map fun p=>zb7 (zbd p))).length
  ·rw [if_pos h4] at h;cases h
  rw [if_neg h4] at h
  injection h with h
  obtain ⟨hk1,hk2⟩:=zgU hm
  have hf:∀ p∈k,zan p=true:=fun p hp=>by obtain ⟨a,-,ha⟩:=hk1 p hp;exact zfW ha
  refine ⟨fun x hx=>?_,by rw [← h,List.length_map];omega,by rw [← h];omega⟩
  rw [← h] at hx
  obtain ⟨p,hp,rfl⟩:=List.mem_map.1 hx
  refine ⟨p,hf p hp,?_⟩
  unfold zb7
  rw [if_pos (zch (hf p hp))]
theorem zr4 {s:List UInt8} (h:zap (zac s)=0):zac s=.ok (okL (zac s)):=by
 cases hp:zac s with
 | ok l=>rfl
 | error e=>rw [hp] at h;cases e <;> simp [zap] at h
theorem zdo {s:List UInt8} (h:zap (zac s)=0):zac (zaO s).1=.ok (okL (zac s)).tail:=by
 obtain ⟨h1,h2,h3⟩:=znY (zr4 h)
 unfold zaO
 cases hl:okL (zac s) with
 | nil=>rfl
 | cons x t=>
  rw [hl] at h1 h2 h3
  exact znW (fun y hy=>h1 y (by simp [hy])) (by simp at h2;omega) (Nat.le_trans (zhx x t) h3)
end Go.Proofs.YtioglicfndkgiaaGreatDoor
