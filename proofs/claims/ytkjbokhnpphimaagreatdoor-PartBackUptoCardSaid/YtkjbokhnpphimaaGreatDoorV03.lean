/- Lemmas of the walk. -/
import Derived.Test.YtkjbokhnpphimaaGreatDoorV02
set_option maxHeartbeats 40000000
set_option linter.unusedVariables false
set_option linter.unusedSimpArgs false
namespace Go.Proofs.YtkjbokhnpphimaaGreatDoor
section
structure Ordly{α:Type}(lt:α→α→Bool)(l:List α):Prop where
 asym:∀x∈l,∀y∈l,lt x y=true→lt y x=false
 tran:∀x∈l,∀y∈l,∀z∈l,lt y x=false→lt z y=false→lt z x=false
def Srt{α:Type}(lt:α→α→Bool)(l:List α)(a b:Nat):Prop:=∀i j x y,a≤i→i<j→j<b→l[i]?=some x→l[j]?=some y→lt y x=false
structure Mv{α:Type}(l l':List α)(a b:Nat):Prop where
 len:l'.length=l.length
 out:∀k,k<a∨b≤k→l'[k]?=l[k]?
 ins:∀k x,a≤k→k<b→l'[k]?=some x→∃k',a≤k'∧k'<b∧l[k']?=some x
 perm:l'.Perm l
section
variable {α:Type}{lt:α→α→Bool}{l l' l'':List α}{a b c d:Nat}
theorem Mv.refl(l:List α)(a b:Nat):Mv l l a b:=⟨rfl,fun _ _=>rfl,fun k x h1 h2 h3=>⟨k,h1,h2,h3⟩,List.Perm.refl l⟩
theorem Mv.mono(h:Mv l l' a b)(h1:c≤a)(h2:b≤d):Mv l l' c d:=by
 refine⟨h.len,fun k hk=>h.out k (by omega),fun k x h3 h4 h5=>?_,h.perm⟩
 by_cases hk:a≤k∧k<b
 ·obtain⟨k',q1,q2,q3⟩:=h.ins k x hk.1 hk.2 h5
  exact⟨k',by omega,by omega,q3⟩
 ·rw[h.out k (by omega)] at h5
  exact⟨k,h3,h4,h5⟩
theorem Mv.trans'(h:Mv l l' a b)(k:Mv l' l'' a b):Mv l l'' a b:=by
 refine⟨k.len.trans h.len,fun i hi=>(k.out i hi).trans (h.out i hi),fun i x h1 h2 h3=>?_,k.perm.trans h.perm⟩
 obtain⟨i',q1,q2,q3⟩:=k.ins i x h1 h2 h3
 exact h.ins i' x q1 q2 q3
theorem Mv.trans(h:Mv l l' a b)(k:Mv l' l'' c d)(h1:a≤c)(h2:d≤b):Mv l l'' a b:=h.trans' (k.mono h1 h2)
theorem Mv.ordly(h:Mv l l' a b)(ho:Ordly lt l):Ordly lt l':=
 ⟨fun x hx y hy=>ho.asym x (h.perm.mem_iff.1 hx) y (h.perm.mem_iff.1 hy),fun x hx y hy z hz=>ho.tran x (h.perm.mem_iff.1 hx) y (h.perm.mem_iff.1 hy) z (h.perm.mem_iff.1 hz)⟩
theorem Srt.out(h:Srt lt l c d)(hm:Mv l l' a b)(hd:d≤a∨b≤c):Srt lt l' c d:=by
 intro i j x y h1 h2 h3 h4 h5
 rw[hm.out i (by omega)] at h4
 rw[hm.out j (by omega)] at h5
 exact h i j x y h1 h2 h3 h4 h5
theorem Srt.mono(h:Srt lt l a b)(h1:a≤c)(h2:d≤b):Srt lt l c d:=fun i j x y q1 q2 q3 q4 q5=>h i j x y (by omega) q2 (by omega) q4 q5
theorem Srt.small(l:List α)(h:b≤a+1):Srt lt l a b:=fun i j x y q1 q2 q3=>by omega
theorem Srt.le(h:Srt lt l a b)(ho:Ordly lt l){i j:Nat}{x y:α}(h1:a≤i)(h2:i≤j)(h3:j<b)(hi:l[i]?=some x)(hj:l[j]?=some y):lt y x=false:=by
 rcases Nat.lt_or_ge i j with h4|h4
 ·exact h i j x y h1 h4 h3 hi hj
 ·have e:i=j:=by omega
  subst e
  rw[hi] at hj
  injection hj with hj
  subst hj
  cases hx:lt x x with
  |false=>rfl
  |true=>exact(hx ▸ (ho.asym x (List.mem_of_getElem? hi) x (List.mem_of_getElem? hi) hx))
def zdi(l:List α)(i j:Nat):List α:=match l[i]?,l[j]? with|some x,some y=>(l.set i y).set j x|_,_=>l
theorem zcv{i j:Nat}{x y:α}(hi:l[i]?=some x)(hj:l[j]?=some y):zdi l i j=(l.set i y).set j x:=by unfold zdi;rw[hi,hj]
theorem zkQ(l:List α)(i j:Nat):(zdi l i j).length=l.length:=by
 unfold zdi;split<;>simp
theorem zdy{i j:Nat}(hi:i<l.length)(hj:j<l.length)(k:Nat):(zdi l i j)[k]?=if k=i then l[j]? else if k=j then l[i]? else l[k]?:=by
 rw[zcv (List.getElem?_eq_getElem hi) (List.getElem?_eq_getElem hj)]
 by_cases h1:k=j
 ·subst h1
  rw[List.getElem?_set_self (by simpa using hj)]
  split
  ·rename_i h;subst h;simp
  ·rw[if_pos rfl,List.getElem?_eq_getElem hi]
 ·rw[List.getElem?_set_ne (fun e=>h1 e.symm)]
  by_cases h2:k=i
  ·subst h2
   rw[List.getElem?_set_self hi,if_pos rfl,List.getElem?_eq_getElem hj]
  ·rw[List.getElem?_set_ne (fun e=>h2 e.symm),if_neg h2,if_neg h1]
theorem zm3{i j:Nat}(hi:i<l.length)(hj:j<l.length):(zdi l i j).Perm l:=by
 rw[zcv (List.getElem?_eq_getElem hi) (List.getElem?_eq_getElem hj)]
 exact List.set_set_perm hi hj
theorem zek{i j:Nat}(hi:i<l.length)(hj:j<l.length)(h1:a≤i)(h2:i<b)(h3:a≤j)(h4:j<b):Mv l (zdi l i j) a b:=by
 refine⟨zkQ l i j,fun k hk=>?_,fun k x q1 q2 q3=>?_,zm3 hi hj⟩
 ·rw[zdy hi hj,if_neg (by omega),if_neg (by omega)]
 ·rw[zdy hi hj] at q3
  split at q3
  ·exact⟨j,h3,h4,q3⟩
  ·split at q3
   ·exact⟨i,h1,h2,q3⟩
   ·exact⟨k,q1,q2,q3⟩
def ltAt(lt:α→α→Bool)(l:List α)(i j:Nat):Bool:=match l[i]?,l[j]? with|some x,some y=>lt x y|_,_=>false
def zdj(lt:α→α→Bool)(a:Nat):Nat→List α→List α
 |0,l=>l
 |j+1,l=>if a<j+1∧ltAt lt l (j+1) j=true then zdj lt a j (zdi l (j+1) j) else l
def insG(lt:α→α→Bool)(a:Nat):Nat→List α→List α
 |0,l=>l
 |k+1,l=>zdj lt a (a+k+1) (insG lt a k l)
def But(lt:α→α→Bool)(l:List α)(a e j:Nat):Prop:=∀p q x y,a≤p→p<q→q<e→q≠j→l[p]?=some x→l[q]?=some y→lt y x=false
theorem zn9(e:Nat):∀(j:Nat) (l:List α),a≤j→j<e→e≤l.length→Mv l (zdj lt a j l) a e∧(Ordly lt l→But lt l a e j→Srt lt (zdj lt a j l) a e)
 |0,l,haj,hje,hel=>by
  refine⟨Mv.refl l a e,fun _ hb i j x y h1 h2 h3 h4 h5=>hb i j x y h1 h2 h3 (by omega) h4 h5⟩
 |j+1,l,haj,hje,hel=>by
  obtain⟨x,hx⟩:∃x,l[j+1]?=some x:=⟨_,List.getElem?_eq_getElem (show j+1<l.length by omega)⟩
  obtain⟨y,hy⟩:∃y,l[j]?=some y:=⟨_,List.getElem?_eq_getElem (show j<l.length by omega)⟩
  unfold zdj
  by_cases hc:a<j+1∧ltAt lt l (j+1) j=true
  ·rw[if_pos hc]
   have hlt:lt x y=true:=by have:=hc.2;unfold ltAt at this;rwa[hx,hy] at this
   have hm:Mv l (zdi l (j+1) j) a e:=zek (by omega) (by omega) (by omega) hje (by omega) (by omega)
   obtain⟨h1,h2⟩:=zn9 e j (zdi l (j+1) j) (by omega) (by omega) (by rw[zkQ];exact hel)
   refine⟨hm.trans' h1,fun ho hb=>h2 (hm.ordly ho) ?_⟩
   intro p q u v q1 q2 q3 q4 q5 q6
   rw[zdy (by omega) (by omega)] at q5 q6
   by_cases e1:q=j+1
   ·subst e1
    rw[if_pos rfl,hy] at q6
    injection q6 with q6
    subst q6
    rw[if_neg (by omega)] at q5
    by_cases e2:p=j
    ·subst e2
     rw[if_pos rfl,hx] at q5
     injection q5 with q5
     subst q5
     exact ho.asym _ (List.mem_of_getElem? hx) _ (List.mem_of_getElem? hy) hlt
    ·rw[if_neg e2] at q5
     exact hb p j u y q1 (by omega) (by omega) (by omega) q5 hy
   ·rw[if_neg e1,if_neg q4] at q6
    by_cases e2:p=j+1
    ·subst e2
     rw[if_pos rfl] at q5
     exact hb j q u v (by omega) (by omega) q3 (by omega) q5 q6
    ·rw[if_neg e2] at q5
     by_cases e3:p=j
     ·subst e3
      rw[if_pos rfl] at q5
      exact hb (p+1) q u v (by omega) (by omega) q3 (by omega) q5 q6
     ·rw[if_neg e3] at q5
      exact hb p q u v q1 q2 q3 e1 q5 q6
  ·rw[if_neg hc]
   refine⟨Mv.refl l a e,fun ho hb p q u v q1 q2 q3 q4 q5=>?_⟩
   by_cases e1:q=j+1
   ·subst e1
    rw[hx] at q5
    injection q5 with q5
    subst q5
    have hxy:lt x y=false:=by
     cases h:lt x y with
     |false=>rfl
     |true=>exact absurd ⟨by omega,by unfold ltAt;rw[hx,hy];exact h⟩ hc
    by_cases e2:p=j
    ·subst e2
     rw[hy] at q4
     injection q4 with q4
     subst q4
     exact hxy
    ·have h1:=hb p j u y q1 (by omega) (by omega) (by omega) q4 hy
     exact ho.tran u (List.mem_of_getElem? q4) y (List.mem_of_getElem? hy) x (List.mem_of_getElem? hx) h1 hxy
   ·exact hb p q u v q1 q2 q3 e1 q4 q5
theorem zmC:∀(k:Nat) (l:List α),a+k<l.length→Mv l (insG lt a k l) a (a+k+1)∧(Ordly lt l→Srt lt (insG lt a k l) a (a+k+1))
 |0,l,h=>⟨Mv.refl l _ _,fun _=>Srt.small _ (by omega)⟩
 |k+1,l,h=>by
  obtain⟨h1,h2⟩:=zmC k l (by omega)
  obtain⟨h3,h4⟩:=zn9 (lt:=lt) (a:=a) (a+(k+1)+1) (a+k+1) (insG lt a k l) (by omega) (by omega) (by rw[h1.len];omega)
  have h5:=h1.mono (Nat.le_refl a) (show a+k+1≤a+(k+1)+1 by omega)
  refine⟨h5.trans' h3,fun ho=>h4 (h1.ordly ho) ?_⟩
  intro p q x y q1 q2 q3 q4 q5 q6
  exact h2 ho p q x y q1 q2 (by omega) q5 q6
def zgv(lt:α→α→Bool)(l l':List α)(a b:Nat):Prop:=Mv l l' a b∧(Ordly lt l→Srt lt l' a b)
theorem zpD(l:List α)(a b:Nat)(hb:b≤l.length):zgv lt l (insG lt a (b-(a+1)) l) a b:=by
 rcases Nat.lt_or_ge a b with h|h
 ·obtain⟨k,hk⟩:∃k,b=a+k+1:=⟨b-(a+1),by omega⟩
  subst hk
  rw[show a+k+1-(a+1)=k by omega]
  exact zmC k l (by omega)
 ·rw[show b-(a+1)=0 by omega]
  exact⟨Mv.refl l a b,fun _=>Srt.small _ (by omega)⟩
def swIx(a b c t:Nat):Nat:=if a≤t∧t<a+c then t-a+b else if b≤t∧t<b+c then t-b+a else t
structure SwOk(l l':List α)(a b c:Nat):Prop where
 mv:Mv l l' a (b+c)
 get:∀t,l'[t]?=l[swIx a b c t]?
theorem SwOk.zero(l:List α)(a b c:Nat)(hc:c=0):SwOk l l a b c:=⟨Mv.refl l _ _,fun t=>by subst hc;congr 1;unfold swIx;(repeat' split)<;>omega⟩
theorem SwOk.next{j:Nat}(h:SwOk l l' a b j)(hab:a+j<b)(hb:b+j<l.length):SwOk l (zdi l' (a+j) (b+j)) a b (j+1):=by
 have hl:=h.mv.len
 refine⟨(h.mv.mono (Nat.le_refl a) (show b+j≤b+(j+1) by omega)).trans' (zek (by omega) (by omega) (by omega) (by omega) (by omega) (by omega)),fun t=>?_⟩
 rw[zdy (by omega) (by omega)]
 split
 ·rename_i e;subst e
  rw[h.get];congr 1;unfold swIx
  (repeat' split)<;>omega
 ·split
  ·rename_i e;subst e
   rw[h.get];congr 1;unfold swIx
   (repeat' split)<;>omega
  ·rw[h.get];congr 1;unfold swIx
   (repeat' split)<;>omega
def zaO(s m e t:Nat):Nat:=if t<s∨e≤t then t else if t<s+(e-m) then t+(m-s) else t-(e-m)
structure RotOk(l l':List α)(s m e:Nat):Prop where
 mv:Mv l l' s e
 get:∀t,l'[t]?=l[zaO s m e t]?
theorem RotOk.same(l:List α){s m e:Nat}(h:s=m∨m=e)(h1:s≤m)(h2:m≤e):RotOk l l s m e:=⟨Mv.refl l _ _,fun t=>by congr 1;unfold zaO;(repeat' split)<;>omega⟩
theorem RotOk.last{m i:Nat}(hi:i≤m)(h:SwOk l l' (m-i) m i):RotOk l l' (m-i) m (m+i):=
 ⟨h.mv,fun t=>by rw[h.get];congr 1;unfold swIx zaO;(repeat' split)<;>omega⟩
theorem RotOk.left{m i j:Nat}(hi:i≤m)(hj:j<i)(h:SwOk l l' (m-i) m j)(k:RotOk l' l'' (m-(i-j)) m (m+j)):RotOk l l'' (m-i) m (m+j):=
 ⟨h.mv.trans' (k.mv.mono (by omega) (by omega)),fun t=>by rw[k.get,h.get];congr 1;unfold swIx zaO;(repeat' split)<;>omega⟩
theorem RotOk.right{m i j:Nat}(hi:i≤m)(hj:i<j)(h:SwOk l l' (m-i) (m+j-i) i)(k:RotOk l' l'' (m-i) m (m+(j-i))):RotOk l l'' (m-i) m (m+j):=
 ⟨(h.mv.mono (Nat.le_refl _) (by omega)).trans' (k.mv.mono (by omega) (by omega)),fun t=>by rw[k.get,h.get];congr 1;unfold swIx zaO;(repeat' split)<;>omega⟩
end
end
section
section
variable {α:Type}{lt:α→α→Bool}{l l' l'' l1 l2 l3:List α}{a b c d m n:Nat}
def SymOk(lt:α→α→Bool)(l l':List α)(a m b:Nat):Prop:=Mv l l' a b∧(Ordly lt l→Srt lt l a m→Srt lt l m b→Srt lt l' a b)
theorem zsN{x y z:α}(ho:Ordly lt l)(hx:x∈l)(hy:y∈l)(hz:z∈l)(h1:lt x y=true)(h2:lt x z=false):lt z y=true:=by
 cases h:lt z y with
 |true=>rfl
 |false=>
  have:=ho.tran y hy z hz x hx h h2
  rw[h1] at this;cases this
def BsA(lt:α→α→Bool)(l:List α)(a b i j:Nat):Prop:=Ordly lt l→Srt lt l (a+1) b→(∀k x y,a+1≤k→k<i→l[k]?=some x→l[a]?=some y→lt x y=true)∧(∀k x y,j≤k→k<b→l[k]?=some x→l[a]?=some y→lt x y=false)
theorem BsA.start(l:List α):BsA lt l a b (a+1) b:=fun _ _=>⟨fun k x y h1 h2=>by omega,fun k x y h1 h2=>by omega⟩
theorem BsA.up{i j q:Nat}{x y:α}(h:BsA lt l a b i j)(hi:a+1≤i)(hiq:i≤q)(hqj:q<j)(hjb:j≤b)(hx:l[q]?=some x)(hy:l[a]?=some y)(hc:lt x y=true):BsA lt l a b (q+1) j:=by
 intro ho hs
 obtain⟨h1,h2⟩:=h ho hs
 refine⟨fun k u v q1 q2 q3 q4=>?_,h2⟩
 rw[hy] at q4
 injection q4 with q4
 subst q4
 exact zsN ho (List.mem_of_getElem? hx) (List.mem_of_getElem? hy) (List.mem_of_getElem? q3) hc (hs.le ho q1 (by omega) (by omega) q3 hx)
theorem BsA.down{i j q:Nat}{x y:α}(h:BsA lt l a b i j)(hi:a+1≤i)(hiq:i≤q)(hqj:q<j)(hjb:j≤b)(hx:l[q]?=some x)(hy:l[a]?=some y)(hc:lt x y=false):BsA lt l a b i q:=by
 intro ho hs
 obtain⟨h1,h2⟩:=h ho hs
 refine⟨h1,fun k u v q1 q2 q3 q4=>?_⟩
 rw[hy] at q4
 injection q4 with q4
 subst q4
 exact ho.tran y (List.mem_of_getElem? hy) x (List.mem_of_getElem? hx) u (List.mem_of_getElem? q3) hc (hs.le ho (by omega) q1 q2 hx q3)
theorem RotOk.upNext{k:Nat}(h:RotOk l l' a (a+1) (k+1))(hak:a≤k)(hk:k+1<l.length):RotOk l (zdi l' k (k+1)) a (a+1) (k+2):=by
 have hl:=h.mv.len
 refine⟨(h.mv.mono (Nat.le_refl a) (show k+1≤k+2 by omega)).trans' (zek (by omega) (by omega) (by omega) (by omega) (by omega) (by omega)),fun t=>?_⟩
 rw[zdy (by omega) (by omega)]
 split
 ·rename_i e;subst e
  rw[h.get];congr 1;unfold zaO;(repeat' split)<;>omega
 ·split
  ·rename_i e;subst e
   rw[h.get];congr 1;unfold zaO;(repeat' split)<;>omega
  ·rw[h.get];congr 1;unfold zaO;(repeat' split)<;>omega
theorem SymOk.one{i:Nat}(h:BsA lt l a b i i)(hi:a+1≤i)(hib:i≤b)(k:RotOk l l' a (a+1) i):SymOk lt l l' a (a+1) b:=by
 refine⟨k.mv.mono (Nat.le_refl _) hib,fun ho h1 h2 p q x y q1 q2 q3 q4 q5=>?_⟩
 obtain⟨h3,h4⟩:=h ho h2
 rw[k.get] at q4 q5
 rcases Nat.lt_or_ge q i with hq|hq
 ·have ep:zaO a (a+1) i p=p+1:=by unfold zaO;(repeat' split)<;>omega
  rw[ep] at q4
  rcases Nat.lt_or_ge (q+1) i with hq2|hq2
  ·have eq:zaO a (a+1) i q=q+1:=by unfold zaO;(repeat' split)<;>omega
   rw[eq] at q5
   exact h2 (p+1) (q+1) x y (by omega) (by omega) (by omega) q4 q5
  ·have eq:zaO a (a+1) i q=a:=by unfold zaO;(repeat' split)<;>omega
   rw[eq] at q5
   have:=h3 (p+1) x y (by omega) (by omega) q4 q5
   exact ho.asym x (List.mem_of_getElem? q4) y (List.mem_of_getElem? q5) this
 ·have eq:zaO a (a+1) i q=q:=by unfold zaO;(repeat' split)<;>omega
  rw[eq] at q5
  rcases Nat.lt_or_ge p i with hp|hp
  ·rcases Nat.lt_or_ge (p+1) i with hp2|hp2
   ·have ep:zaO a (a+1) i p=p+1:=by unfold zaO;(repeat' split)<;>omega
    rw[ep] at q4
    exact h2 (p+1) q x y (by omega) (by omega) q3 q4 q5
   ·have ep:zaO a (a+1) i p=a:=by unfold zaO;(repeat' split)<;>omega
    rw[ep] at q4
    exact h4 q y x hq q3 q5 q4
  ·have ep:zaO a (a+1) i p=p:=by unfold zaO;(repeat' split)<;>omega
   rw[ep] at q4
   exact h2 p q x y (by omega) q2 q3 q4 q5
def BsB(lt:α→α→Bool)(l:List α)(a m i j:Nat):Prop:=Ordly lt l→Srt lt l a m→(∀k x y,a≤k→k<i→l[k]?=some y→l[m]?=some x→lt x y=false)∧(∀k x y,j≤k→k<m→l[k]?=some y→l[m]?=some x→lt x y=true)
theorem BsB.start(l:List α):BsB lt l a m a m:=fun _ _=>⟨fun k x y h1 h2=>by omega,fun k x y h1 h2=>by omega⟩
theorem BsB.up{i j q:Nat}{x y:α}(h:BsB lt l a m i j)(hi:a≤i)(hiq:i≤q)(hqj:q<j)(hjm:j≤m)(hx:l[m]?=some x)(hy:l[q]?=some y)(hc:lt x y=false):BsB lt l a m (q+1) j:=by
 intro ho hs
 obtain⟨h1,h2⟩:=h ho hs
 refine⟨fun k u v q1 q2 q3 q4=>?_,h2⟩
 rw[hx] at q4
 injection q4 with q4
 subst q4
 exact ho.tran v (List.mem_of_getElem? q3) y (List.mem_of_getElem? hy) x (List.mem_of_getElem? hx) (hs.le ho q1 (by omega) (by omega) q3 hy) hc
theorem BsB.down{i j q:Nat}{x y:α}(h:BsB lt l a m i j)(hi:a≤i)(hiq:i≤q)(hqj:q<j)(hjm:j≤m)(hx:l[m]?=some x)(hy:l[q]?=some y)(hc:lt x y=true):BsB lt l a m i q:=by
 intro ho hs
 obtain⟨h1,h2⟩:=h ho hs
 refine⟨h1,fun k u v q1 q2 q3 q4=>?_⟩
 rw[hx] at q4
 injection q4 with q4
 subst q4
 cases hh:lt x v with
 |true=>rfl
 |false=>
  have:=ho.tran y (List.mem_of_getElem? hy) v (List.mem_of_getElem? q3) x (List.mem_of_getElem? hx) (hs.le ho (by omega) q1 q2 hy q3) hh
  rw[hc] at this;cases this
theorem RotOk.downNext{k k1:Nat}(h:RotOk l l' k m (m+1))(hk:k=k1+1)(hkm:k≤m)(hm:m<l.length):RotOk l (zdi l' k k1) k1 m (m+1):=by
 subst hk
 have hl:=h.mv.len
 refine⟨(h.mv.mono (show k1≤k1+1 by omega) (Nat.le_refl _)).trans' (zek (by omega) (by omega) (by omega) (by omega) (by omega) (by omega)),fun t=>?_⟩
 rw[zdy (by omega) (by omega)]
 split
 ·rename_i e;subst e
  rw[h.get];congr 1;unfold zaO;(repeat' split)<;>omega
 ·split
  ·rename_i e;subst e
   rw[h.get];congr 1;unfold zaO;(repeat' split)<;>omega
  ·rw[h.get];congr 1;unfold zaO;(repeat' split)<;>omega
theorem SymOk.two{i:Nat}(h:BsB lt l a m i i)(hi:a≤i)(him:i≤m)(k:RotOk l l' i m (m+1)):SymOk lt l l' a m (m+1):=by
 refine⟨k.mv.mono hi (Nat.le_refl _),fun ho h1 h2 p q x y q1 q2 q3 q4 q5=>?_⟩
 obtain⟨h3,h4⟩:=h ho h1
 rw[k.get] at q4 q5
 rcases Nat.lt_or_ge p i with hp|hp
 ·have ep:zaO i m (m+1) p=p:=by unfold zaO;(repeat' split)<;>omega
  rw[ep] at q4
  rcases Nat.lt_or_ge q i with hq|hq
  ·have eq:zaO i m (m+1) q=q:=by unfold zaO;(repeat' split)<;>omega
   rw[eq] at q5
   exact h1 p q x y q1 q2 (by omega) q4 q5
  ·by_cases hqi:q=i
   ·have eq:zaO i m (m+1) q=m:=by unfold zaO;(repeat' split)<;>omega
    rw[eq] at q5
    exact h3 p y x q1 hp q4 q5
   ·have eq:zaO i m (m+1) q=q-1:=by unfold zaO;(repeat' split)<;>omega
    rw[eq] at q5
    exact h1 p (q-1) x y q1 (by omega) (by omega) q4 q5
 ·have eq:zaO i m (m+1) q=q-1:=by unfold zaO;(repeat' split)<;>omega
  rw[eq] at q5
  by_cases hpi:p=i
  ·have ep:zaO i m (m+1) p=m:=by unfold zaO;(repeat' split)<;>omega
   rw[ep] at q4
   have:=h4 (q-1) x y (by omega) (by omega) q5 q4
   exact ho.asym x (List.mem_of_getElem? q4) y (List.mem_of_getElem? q5) this
  ·have ep:zaO i m (m+1) p=p-1:=by unfold zaO;(repeat' split)<;>omega
   rw[ep] at q4
   exact h1 (p-1) (q-1) x y (by omega) (by omega) (by omega) q4 q5
def BsC(lt:α→α→Bool)(l:List α)(a m b p s0 r0 i j:Nat):Prop:=Ordly lt l→Srt lt l a m→Srt lt l m b→(∀c x y,s0≤c→c<i→l[c]?=some x→l[p-c]?=some y→lt y x=false)∧(∀c x y,j≤c→c<r0→l[c]?=some x→l[p-c]?=some y→lt y x=true)
structure BsAt(a m b p s0 r0:Nat):Prop where
 s1:a≤s0
 s2:p+1≤s0+b
 s3:s0=a∨p+1=s0+b
 r1:r0≤m
 r2:r0+m≤p+1
 r3:r0=m∨r0+m=p+1
 sr:s0≤r0
theorem BsC.start(l:List α)(p s0 r0:Nat):BsC lt l a m b p s0 r0 s0 r0:=fun _ _ _=>⟨fun k x y h1 h2=>by omega,fun k x y h1 h2=>by omega⟩
theorem BsC.up{p s0 r0 i j c:Nat}{x y:α}(hz:BsAt a m b p s0 r0)(h:BsC lt l a m b p s0 r0 i j)(hi:s0≤i)(hic:i≤c)(hcj:c<j)(hj:j≤r0)(hx:l[c]?=some x)(hy:l[p-c]?=some y)(hc:lt y x=false):BsC lt l a m b p s0 r0 (c+1) j:=by
 intro ho hs ht
 obtain⟨h1,h2⟩:=h ho hs ht
 obtain⟨z1,z2,z3,z4,z5,z6,z7⟩:=hz
 refine⟨fun k u v q1 q2 q3 q4=>?_,h2⟩
 have e1:=hs.le ho (show a≤k by omega) (by omega) (by omega) q3 hx
 have e2:=ht.le ho (show m≤p-c by omega) (show p-c≤p-k by omega) (by omega) hy q4
 have mu:=List.mem_of_getElem? q3
 have mx:=List.mem_of_getElem? hx
 have my:=List.mem_of_getElem? hy
 have mv:=List.mem_of_getElem? q4
 exact ho.tran u mu y my v mv (ho.tran u mu x mx y my e1 hc) e2
theorem BsC.down{p s0 r0 i j c:Nat}{x y:α}(hz:BsAt a m b p s0 r0)(h:BsC lt l a m b p s0 r0 i j)(hi:s0≤i)(hic:i≤c)(hcj:c<j)(hj:j≤r0)(hx:l[c]?=some x)(hy:l[p-c]?=some y)(hc:lt y x=true):BsC lt l a m b p s0 r0 i c:=by
 intro ho hs ht
 obtain⟨h1,h2⟩:=h ho hs ht
 obtain⟨z1,z2,z3,z4,z5,z6,z7⟩:=hz
 refine⟨h1,fun k u v q1 q2 q3 q4=>?_⟩
 have e1:=hs.le ho (show a≤c by omega) q1 (by omega) hx q3
 have e2:=ht.le ho (show m≤p-k by omega) (show p-k≤p-c by omega) (by omega) q4 hy
 have mu:=List.mem_of_getElem? q3
 have mx:=List.mem_of_getElem? hx
 have my:=List.mem_of_getElem? hy
 have mv:=List.mem_of_getElem? q4
 cases hh:lt v u with
 |true=>rfl
 |false=>
  have h3:=ho.tran x mx u mu v mv e1 hh
  have h4:=ho.tran x mx v mv y my h3 e2
  rw[hc] at h4;cases h4
theorem zmU{p s0 r0 i:Nat}(hz:BsAt a m b p s0 r0)(h:BsC lt l a m b p s0 r0 i i)(hi:s0≤i)(hir:i≤r0)(k:RotOk l l1 i m (p+1-i))(ho:Ordly lt l)(hs:Srt lt l a m)(ht:Srt lt l m b) :
 Srt lt l1 a i∧Srt lt l1 i (p+1-m)∧Srt lt l1 (p+1-m) (p+1-i)∧Srt lt l1 (p+1-i) b ∧
 (∀u v x y,a≤u→u<p+1-m→p+1-m≤v→v<b→l1[u]?=some x→l1[v]?=some y→lt y x=false):=by
 obtain⟨h1,h2⟩:=h ho hs ht
 obtain⟨z1,z2,z3,z4,z5,z6,z7⟩:=hz
 refine⟨fun u v x y q1 q2 q3 q4 q5=>?_,fun u v x y q1 q2 q3 q4 q5=>?_,fun u v x y q1 q2 q3 q4 q5=>?_,fun u v x y q1 q2 q3 q4 q5=>?_,fun u v x y q1 q2 q3 q4 q5 q6=>?_⟩
 ·rw[k.get] at q4 q5
  rw[show zaO i m (p+1-i) u=u by unfold zaO;(repeat' split)<;>omega] at q4
  rw[show zaO i m (p+1-i) v=v by unfold zaO;(repeat' split)<;>omega] at q5
  exact hs u v x y q1 q2 (by omega) q4 q5
 ·rw[k.get] at q4 q5
  rw[show zaO i m (p+1-i) u=u+(m-i) by unfold zaO;(repeat' split)<;>omega] at q4
  rw[show zaO i m (p+1-i) v=v+(m-i) by unfold zaO;(repeat' split)<;>omega] at q5
  exact ht _ _ x y (by omega) (by omega) (by omega) q4 q5
 ·rw[k.get] at q4 q5
  rw[show zaO i m (p+1-i) u=u-(p+1-i-m) by unfold zaO;(repeat' split)<;>omega] at q4
  rw[show zaO i m (p+1-i) v=v-(p+1-i-m) by unfold zaO;(repeat' split)<;>omega] at q5
  exact hs _ _ x y (by omega) (by omega) (by omega) q4 q5
 ·rw[k.get] at q4 q5
  rw[show zaO i m (p+1-i) u=u by unfold zaO;(repeat' split)<;>omega] at q4
  rw[show zaO i m (p+1-i) v=v by unfold zaO;(repeat' split)<;>omega] at q5
  exact ht u v x y (by omega) q2 (by omega) q4 q5
 ·rw[k.get] at q5 q6
  have mx:=List.mem_of_getElem? q5
  have my:=List.mem_of_getElem? q6
  rcases Nat.lt_or_ge u i with hu|hu
  ·rw[show zaO i m (p+1-i) u=u by unfold zaO;(repeat' split)<;>omega] at q5
   rcases Nat.lt_or_ge v (p+1-i) with hv|hv
   ·rw[show zaO i m (p+1-i) v=v-(p+1-i-m) by unfold zaO;(repeat' split)<;>omega] at q6
    exact hs _ _ x y (by omega) (by omega) (by omega) q5 q6
   ·rw[show zaO i m (p+1-i) v=v by unfold zaO;(repeat' split)<;>omega] at q6
    rcases Nat.lt_or_ge s0 i with hsi|hsi
    ·have hlen:v<l.length:=(List.getElem?_eq_some_iff.1 q6).1
     obtain⟨x1,e1⟩:∃x1,l[i-1]?=some x1:=⟨_,List.getElem?_eq_getElem (show i-1<l.length by omega)⟩
     obtain⟨y1,e2⟩:∃y1,l[p+1-i]?=some y1:=⟨_,List.getElem?_eq_getElem (show p+1-i<l.length by omega)⟩
     have e3:=h1 (i-1) x1 y1 (by omega) (by omega) e1 (by rw[show p-(i-1)=p+1-i by omega];exact e2)
     have e4:=hs.le ho q1 (show u≤i-1 by omega) (by omega) q5 e1
     have e5:=ht.le ho (show m≤p+1-i by omega) hv q4 e2 q6
     have m1:=List.mem_of_getElem? e1
     have m2:=List.mem_of_getElem? e2
     exact ho.tran x mx y1 m2 y my (ho.tran x mx x1 m1 y1 m2 e4 e3) e5
    ·omega
  ·rw[show zaO i m (p+1-i) u=u+(m-i) by unfold zaO;(repeat' split)<;>omega] at q5
   rcases Nat.lt_or_ge v (p+1-i) with hv|hv
   ·rw[show zaO i m (p+1-i) v=v-(p+1-i-m) by unfold zaO;(repeat' split)<;>omega] at q6
    rcases Nat.lt_or_ge i r0 with hsi|hsi
    ·have hlen:u+(m-i)<l.length:=(List.getElem?_eq_some_iff.1 q5).1
     obtain⟨x1,e1⟩:∃x1,l[i]?=some x1:=⟨_,List.getElem?_eq_getElem (show i<l.length by omega)⟩
     obtain⟨y1,e2⟩:∃y1,l[p-i]?=some y1:=by
      have hlen2:v-(p+1-i-m)<l.length:=(List.getElem?_eq_some_iff.1 q6).1
      rcases Nat.lt_or_ge (p-i) l.length with h9|h9
      ·exact⟨_,List.getElem?_eq_getElem h9⟩
      ·exfalso
       have hb:=(List.getElem?_eq_some_iff.1 q5).1
       have:l1.length=l.length:=k.mv.len
       have hcontra:l1[p-i]?=none:=List.getElem?_eq_none (by omega)
       have h8:l[m+(p-i)-m]?=none:=List.getElem?_eq_none (by omega)
       have h10:u+(m-i)≤p-i:=by omega
       have h11:=k.get v
       have h12:v<l1.length:=by
        rcases Nat.lt_or_ge v l1.length with h|h
        ·exact h
        ·rw[List.getElem?_eq_none h,show zaO i m (p+1-i) v=v-(p+1-i-m) by unfold zaO;(repeat' split)<;>omega,q6] at h11
         cases h11
       have h13:p-i<l1.length:=by
        have h14:=k.get (p-i)
        rw[hcontra] at h14
        rw[show zaO i m (p+1-i) (p-i)=m-1 by unfold zaO;(repeat' split)<;>omega] at h14
        rw[List.getElem?_eq_getElem (show m-1<l.length by omega)] at h14
        cases h14
       omega
     have e3:=h2 i x1 y1 (Nat.le_refl _) hsi e1 e2
     have e4:=hs.le ho (show a≤i by omega) (show i≤v-(p+1-i-m) by omega) (by omega) e1 q6
     have e5:=ht.le ho (show m≤u+(m-i) by omega) (show u+(m-i)≤p-i by omega) (by omega) q5 e2
     have m1:=List.mem_of_getElem? e1
     have m2:=List.mem_of_getElem? e2
     have e6:=ho.asym y1 m2 x1 m1 e3
     exact ho.tran x mx y1 m2 y my e5 (ho.tran y1 m2 x1 m1 y my e6 e4)
    ·omega
   ·rw[show zaO i m (p+1-i) v=v by unfold zaO;(repeat' split)<;>omega] at q6
    exact ht _ _ x y (by omega) (by omega) q4 q5 q6
theorem SymOk.parts{p s0 r0 i mid e:Nat}(hz:BsAt a m b p s0 r0)(h:BsC lt l a m b p s0 r0 i i)(hi:s0≤i)(hir:i≤r0)(hmid:mid=p+1-m)(he:e=p+1-i)(k:RotOk l l1 i m e)
 (k2:(a<i∧i<mid∧SymOk lt l1 l2 a i mid)∨(¬(a<i∧i<mid)∧l2=l1)) (k3:(mid<e∧e<b∧SymOk lt l2 l3 mid e b)∨(¬(mid<e∧e<b)∧l3=l2)) (ham:a≤mid) (hmb:mid≤b):SymOk lt l l3 a m b:=by
 have z1:=hz.s1
 have z2:=hz.s2
 have z4:=hz.r1
 have z5:=hz.r2
 have m1:Mv l l1 a b:=k.mv.mono (by omega) (by omega)
 have m2:Mv l1 l2 a mid:=by
  rcases k2 with⟨_,_,h9⟩|⟨_,h9⟩
  ·exact h9.1
  ·rw[h9];exact Mv.refl l1 _ _
 have m3:Mv l2 l3 mid b:=by
  rcases k3 with⟨_,_,h9⟩|⟨_,h9⟩
  ·exact h9.1
  ·rw[h9];exact Mv.refl l2 _ _
 refine⟨(m1.trans' (m2.mono (Nat.le_refl _) hmb)).trans' (m3.mono ham (Nat.le_refl _)),fun ho hs ht=>?_⟩
 subst he
 obtain⟨p1,p2,p3,p4,p5⟩:=zmU hz h hi hir k ho hs ht
 rw[←hmid] at p2 p3 p5
 have o1:=m1.ordly ho
 have s2:Srt lt l2 a mid:=by
  rcases k2 with⟨_,_,h9⟩|⟨h8,h9⟩
  ·exact h9.2 o1 p1 p2
  ·rw[h9]
   rcases Nat.lt_or_ge a i with h7|h7
   ·exact p1.mono (Nat.le_refl _) (by omega)
   ·exact p2.mono (by omega) (Nat.le_refl _)
 have o2:=m2.ordly o1
 have q3:=p3.out m2 (.inr (Nat.le_refl _))
 have q4:=p4.out m2 (.inr (show mid≤p+1-i by omega))
 have s3:Srt lt l3 mid b:=by
  rcases k3 with⟨_,_,h9⟩|⟨h8,h9⟩
  ·exact h9.2 o2 q3 q4
  ·rw[h9]
   rcases Nat.lt_or_ge mid (p+1-i) with h7|h7
   ·exact q3.mono (Nat.le_refl _) (by omega)
   ·exact q4.mono (by omega) (Nat.le_refl _)
 have s4:=s2.out m3 (.inl (Nat.le_refl _))
 intro u v x y q1 q2 q3' q4' q5
 rcases Nat.lt_or_ge v mid with hv|hv
 ·exact s4 u v x y q1 q2 hv q4' q5
 ·rcases Nat.lt_or_ge u mid with hu|hu
  ·rw[m3.out u (.inl hu)] at q4'
   obtain⟨u',w1,w2,w3⟩:=m2.ins u x q1 hu q4'
   obtain⟨v',w4,w5,w6⟩:=m3.ins v y hv q3' q5
   rw[m2.out v' (.inr w4)] at w6
   exact p5 u' v' x y w1 w2 w4 w5 w3 w6
  ·exact s3 u v x y hu q2 q3' q4' q5
theorem zdR{d s a:Nat}(h1:d∣s)(h2:d∣a)(h3:s<a):s+d≤a:=by
 have:=Nat.le_of_dvd (by omega) (Nat.dvd_sub h2 h1)
 omega
def Blk(lt:α→α→Bool)(l:List α)(bs n:Nat):Prop:=∀s,bs∣s→Srt lt l s (min (s+bs) n)
structure Half(lt:α→α→Bool)(l:List α)(bs n a:Nat):Prop where
 dv:2 * bs∣a
 le:a≤n
 lo:∀s,2 * bs∣s→s<a→Srt lt l s (s+2 * bs)
 hi:∀s,bs∣s→a≤s→Srt lt l s (min (s+bs) n)
theorem Half.start{bs:Nat}(h:Blk lt l bs n):Half lt l bs n 0:=⟨Nat.dvd_zero _,Nat.zero_le _,fun s _ h=>by omega,fun s h1 _=>h s h1⟩
theorem Half.next{bs:Nat}(h:Half lt l bs n a)(ho:Ordly lt l)(hb:a+2 * bs≤n)(k:SymOk lt l l' a (a+bs) (a+2 * bs)):Half lt l' bs n (a+2 * bs):=by
 obtain⟨h1,h2,h3,h4⟩:=h
 have d1:bs∣a:=Nat.dvd_trans (Nat.dvd_mul_left bs 2) h1
 have s1:Srt lt l a (a+bs):=(h4 a d1 (Nat.le_refl _)).mono (Nat.le_refl _) (by omega)
 have s2:Srt lt l (a+bs) (a+2 * bs):=(h4 (a+bs) (Nat.dvd_add d1 (Nat.dvd_refl _)) (by omega)).mono (Nat.le_refl _) (by omega)
 refine⟨Nat.dvd_add h1 (Nat.dvd_refl _),hb,fun s q1 q2=>?_,fun s q1 q2=>(h4 s q1 (by omega)).out k.1 (.inr q2)⟩
 rcases Nat.lt_or_ge s a with h5|h5
 ·exact(h3 s q1 h5).out k.1 (.inl (zdR q1 h1 h5))
 ·rcases Nat.lt_or_ge a s with h6|h6
  ·have:=zdR h1 q1 h6
   omega
  ·have e:s=a:=by omega
   subst e
   exact k.2 ho s1 s2
theorem Half.last{bs:Nat}(h:Half lt l bs n a)(ho:Ordly lt l)(hm:a+bs<n)(hb:n<a+2 * bs)(k:SymOk lt l l' a (a+bs) n):Blk lt l' (2 * bs) n:=by
 obtain⟨h1,h2,h3,h4⟩:=h
 have d1:bs∣a:=Nat.dvd_trans (Nat.dvd_mul_left bs 2) h1
 have s1:Srt lt l a (a+bs):=(h4 a d1 (Nat.le_refl _)).mono (Nat.le_refl _) (by omega)
 have s2:Srt lt l (a+bs) n:=(h4 (a+bs) (Nat.dvd_add d1 (Nat.dvd_refl _)) (by omega)).mono (Nat.le_refl _) (by omega)
 intro s q1
 rcases Nat.lt_or_ge s a with h5|h5
 ·exact((h3 s q1 h5).out k.1 (.inl (zdR q1 h1 h5))).mono (Nat.le_refl _) (by omega)
 ·rcases Nat.lt_or_ge a s with h6|h6
  ·have:=zdR h1 q1 h6
   exact Srt.small _ (by omega)
  ·have e:s=a:=by omega
   subst e
   exact(k.2 ho s1 s2).mono (Nat.le_refl _) (by omega)
theorem Half.none{bs:Nat}(h:Half lt l bs n a)(hm:n≤a+bs):Blk lt l (2 * bs) n:=by
 obtain⟨h1,h2,h3,h4⟩:=h
 have d1:bs∣a:=Nat.dvd_trans (Nat.dvd_mul_left bs 2) h1
 intro s q1
 rcases Nat.lt_or_ge s a with h5|h5
 ·exact(h3 s q1 h5).mono (Nat.le_refl _) (by omega)
 ·rcases Nat.lt_or_ge a s with h6|h6
  ·have:=zdR h1 q1 h6
   exact Srt.small _ (by omega)
  ·have e:s=a:=by omega
   subst e
   exact(h4 s d1 (Nat.le_refl _)).mono (Nat.le_refl _) (by omega)
structure First(lt:α→α→Bool)(l:List α)(a:Nat):Prop where
 dv:20∣a
 lo:∀s,20∣s→s<a→Srt lt l s (s+20)
theorem First.start(l:List α):First lt l 0:=⟨Nat.dvd_zero _,fun s _ h=>by omega⟩
theorem First.next(h:First lt l a)(ho:Ordly lt l)(k:zgv lt l l' a (a+20)):First lt l' (a+20):=by
 obtain⟨h1,h3⟩:=h
 refine⟨Nat.dvd_add h1 (Nat.dvd_refl _),fun s q1 q2=>?_⟩
 rcases Nat.lt_or_ge s a with h5|h5
 ·exact(h3 s q1 h5).out k.1 (.inl (zdR q1 h1 h5))
 ·rcases Nat.lt_or_ge a s with h6|h6
  ·have:=zdR h1 q1 h6
   omega
  ·have e:s=a:=by omega
   subst e
   exact k.2 ho
theorem First.last(h:First lt l a)(ho:Ordly lt l)(hn:n<a+20)(han:a≤n)(k:zgv lt l l' a n):Blk lt l' 20 n:=by
 obtain⟨h1,h3⟩:=h
 intro s q1
 rcases Nat.lt_or_ge s a with h5|h5
 ·exact((h3 s q1 h5).out k.1 (.inl (zdR q1 h1 h5))).mono (Nat.le_refl _) (by omega)
 ·rcases Nat.lt_or_ge a s with h6|h6
  ·have:=zdR h1 q1 h6
   exact Srt.small _ (by omega)
  ·have e:s=a:=by omega
   subst e
   exact(k.2 ho).mono (Nat.le_refl _) (by omega)
theorem Blk.whole{bs:Nat}(h:Blk lt l bs n)(hn:n≤bs):Srt lt l 0 n:=(h 0 (Nat.dvd_zero _)).mono (Nat.le_refl _) (by omega)
def StOk(lt:α→α→Bool)(l l':List α):Prop:=Mv l l' 0 l.length∧(Ordly lt l→Srt lt l' 0 l.length)
def CarryF(lt:α→α→Bool)(l0 l:List α)(a:Nat):Prop:=Mv l0 l 0 l0.length∧(Ordly lt l0→First lt l a)
def CarryB(lt:α→α→Bool)(l0 l:List α)(bs:Nat):Prop:=Mv l0 l 0 l0.length∧(Ordly lt l0→Blk lt l bs l0.length)
def CarryH(lt:α→α→Bool)(l0 l:List α)(bs a:Nat):Prop:=Mv l0 l 0 l0.length∧(Ordly lt l0→Half lt l bs l0.length a)
theorem CarryF.start(l:List α):CarryF lt l l 0:=⟨Mv.refl l _ _,fun _=>First.start l⟩
theorem CarryF.next(h:CarryF lt l l' a)(hb:a+20≤l.length)(k:zgv lt l' l'' a (a+20)):CarryF lt l l'' (a+20):=
 ⟨h.1.trans k.1 (Nat.zero_le _) hb,fun ho=>(h.2 ho).next (h.1.ordly ho) k⟩
theorem CarryF.last(h:CarryF lt l l' a)(ha:a≤l.length)(hb:l.length<a+20)(k:zgv lt l' l'' a l.length):CarryB lt l l'' 20:=
 ⟨h.1.trans k.1 (Nat.zero_le _) (Nat.le_refl _),fun ho=>(h.2 ho).last (h.1.ordly ho) hb ha k⟩
theorem CarryB.half{bs:Nat}(h:CarryB lt l l' bs):CarryH lt l l' bs 0:=⟨h.1,fun ho=>Half.start (h.2 ho)⟩
theorem CarryB.done{bs:Nat}(h:CarryB lt l l' bs)(hn:l.length≤bs):StOk lt l l':=⟨h.1,fun ho=>(h.2 ho).whole hn⟩
theorem CarryH.next{bs:Nat}(h:CarryH lt l l' bs a)(hb:a+2 * bs≤l.length)(k:SymOk lt l' l'' a (a+bs) (a+2 * bs)):CarryH lt l l'' bs (a+2 * bs):=
 ⟨h.1.trans k.1 (Nat.zero_le _) hb,fun ho=>(h.2 ho).next (h.1.ordly ho) hb k⟩
theorem CarryH.last{bs:Nat}(h:CarryH lt l l' bs a)(hm:a+bs<l.length)(hb:l.length<a+2 * bs)(k:SymOk lt l' l'' a (a+bs) l.length):CarryB lt l l'' (2 * bs):=
 ⟨h.1.trans k.1 (Nat.zero_le _) (Nat.le_refl _),fun ho=>(h.2 ho).last (h.1.ordly ho) hm hb k⟩
theorem CarryH.none{bs:Nat}(h:CarryH lt l l' bs a)(hm:l.length≤a+bs):CarryB lt l l' (2 * bs):=⟨h.1,fun ho=>(h.2 ho).none hm⟩
theorem StOk.small(h:zgv lt l l' 0 l.length):StOk lt l l':=h
end
end
section
def digC(c:UInt8):Bool:=decide (48≤c.toNat)&&decide (c.toNat≤57)
def zal(acc:Nat):List UInt8→Nat
 |[]=>acc
 |c::t=>zal (acc * 10+(c.toNat-48)) t
theorem zaM(c:UInt8):digC c=true↔48≤c.toNat∧c.toNat≤57:=by simp[digC]
theorem zfO(l:List UInt8):∀acc:Nat,acc≤zal acc l:=by
 induction l with
 |nil=>intro acc;exact Nat.le_refl _
 |cons c t ih=>
  intro acc
  have h:=ih (acc * 10+(c.toNat-48))
  have e:zal acc (c::t)=zal (acc * 10+(c.toNat-48)) t:=rfl
  rw[e]
  exact Nat.le_trans (by omega) h
theorem zce(l:List UInt8):∀acc:Nat,l.all digC=true→zal acc l<(acc+1) * 10 ^ l.length:=by
 induction l with
 |nil=>intro acc _;show acc<(acc+1) * 1;omega
 |cons c t ih=>
  intro acc h
  simp only[List.all_cons,Bool.and_eq_true] at h
  have h1:=(zaM c).1 h.1
  have h2:=ih (acc * 10+(c.toNat-48)) h.2
  have e:zal acc (c::t)=zal (acc * 10+(c.toNat-48)) t:=rfl
  rw[e,List.length_cons,Nat.pow_succ,Nat.mul_comm (10 ^ t.length) 10,←Nat.mul_assoc]
  exact Nat.lt_of_lt_of_le h2 (Nat.mul_le_mul_right _ (by omega))
theorem zbm:∀(l:List UInt8) (acc:Nat) (c:UInt8),zal acc (l++[c])=zal acc l * 10+(c.toNat-48)
 |[],_,_=>rfl
 |_::t,_,c=>zbm t _ c
theorem zcp{u:Nat}(h:u<10):Lib.decDigits u=[UInt8.ofNat (48+u)]:=by unfold Lib.decDigits;rw[dif_pos h]
theorem zhL{u:Nat}(h:¬u<10):Lib.decDigits u=Lib.decDigits (u / 10)++[UInt8.ofNat (48+u % 10)]:=by rw[Lib.decDigits,dif_neg h]
theorem zpC{M:Nat}(hM:1000000000000000000≤M)(l:List UInt8):∀acc:Nat,l.all digC=true→zal acc l<1000000000000000000→Lib.parseUintM M acc l=.ok (zal acc l):=by
 induction l with
 |nil=>intro acc _ _;rfl
 |cons c t ih=>
  intro acc h hv
  simp only[List.all_cons,Bool.and_eq_true] at h
  have h1:=(zaM c).1 h.1
  have e:zal acc (c::t)=zal (acc * 10+(c.toNat-48)) t:=rfl
  rw[e] at hv ⊢
  have h2:=zfO t (acc * 10+(c.toNat-48))
  have h3:acc * 10+(c.toNat-48)<1000000000000000000:=Nat.lt_of_le_of_lt h2 hv
  unfold Lib.parseUintM
  rw[if_pos h1,if_neg (by omega),if_neg (by omega)]
  exact ih _ h.2 hv
theorem zqR(l:List UInt8)(acc:Nat)(h:l.all digC=true)(hv:zal acc l<10 ^ 18):Lib.parseUintM (2 ^ 64-1) acc l=.ok (zal acc l):=zpC (by decide) l acc h hv
def zpK(d:List UInt8):Prop:=d≠[]∧d.all digC=true∧(d.head?≠some 48∨d=[48])
theorem zn1:∀(d:List UInt8),d≠[]→d.all digC=true→d.head?≠some 48→1≤zal 0 d
 |[],h,_,_=>absurd rfl h
 |c::t,_,h,hh=>by
  simp only[List.all_cons,Bool.and_eq_true] at h
  have h1:=(zaM c).1 h.1
  have h2:=zfO t (0 * 10+(c.toNat-48))
  have h3:c.toNat≠48:=fun e=>hh (congrArg some (UInt8.toNat_inj.1 e))
  have e:zal 0 (c::t)=zal (0 * 10+(c.toNat-48)) t:=rfl
  rw[e]
  exact Nat.le_trans (by omega) h2
theorem ziB:∀(n:Nat) (d:List UInt8),d.length≤n→zpK d→Lib.decDigits (zal 0 d)=d
 |n,d,hn,⟨h1,h2,h3⟩=>by
  rcases List.eq_nil_or_concat d with e|⟨e,c,hd⟩
  ·exact absurd e h1
  ·rw[List.concat_eq_append] at hd
   subst hd
   rw[List.all_append,Bool.and_eq_true] at h2
   simp only[List.all_cons,List.all_nil,Bool.and_true] at h2
   have hc:=(zaM c).1 h2.2
   rw[zbm]
   by_cases he:e=[]
   ·subst he
    have e0:zal 0 []=0:=rfl
    rw[e0,zcp (by omega)]
    have:48+(0 * 10+(c.toNat-48))=c.toNat:=by omega
    rw[this]
    simp
   ·have hh:e.head?≠some 48:=by
     rcases h3 with h3|h3
     ·cases e with
      |nil=>exact absurd rfl he
      |cons x t=>simpa using h3
     ·cases e with
      |nil=>exact absurd rfl he
      |cons x t=>have:=congrArg List.length h3;simp at this
    have hp:=zn1 e he h2.1 hh
    cases n with
    |zero=>simp at hn
    |succ n=>
     have ih:=ziB n e (by simp at hn;omega) ⟨he,h2.1,.inl hh⟩
     rw[zhL (by omega)]
     have e1:(zal 0 e * 10+(c.toNat-48)) / 10=zal 0 e:=by omega
     have e2:48+(zal 0 e * 10+(c.toNat-48)) % 10=c.toNat:=by omega
     rw[e1,e2,ih]
     simp
theorem zho:∀(n u:Nat),u≤n→zpK (Lib.decDigits u)∧(0<u→(Lib.decDigits u).head?≠some 48)
 |n,u,hn=>by
  by_cases h:u<10
  ·rw[zcp h]
   have ht:(UInt8.ofNat (48+u)).toNat=48+u:=by rw[UInt8.toNat_ofNat'];omega
   refine⟨⟨by simp,by simp[digC,ht];omega,?_⟩,fun h0=>?_⟩
   ·by_cases h0:u=0
    ·right;subst h0;rfl
    ·left
     intro e
     injection e with e
     have:=congrArg UInt8.toNat e
     rw[ht] at this
     have e48:(48:UInt8).toNat=48:=rfl
     omega
   ·intro e
    injection e with e
    have:=congrArg UInt8.toNat e
    rw[ht] at this
    have e48:(48:UInt8).toNat=48:=rfl
    omega
  ·rw[zhL h]
   cases n with
   |zero=>omega
   |succ n=>
    obtain⟨⟨h1,h2,_⟩,h4⟩:=zho n (u / 10) (by omega)
    have h5:=h4 (by omega)
    have hh:(Lib.decDigits (u / 10)++[UInt8.ofNat (48+u % 10)]).head?≠some 48:=by
     cases hd:Lib.decDigits (u / 10) with
     |nil=>exact absurd hd h1
     |cons x t=>rw[hd] at h5;simpa using h5
    have ht:(UInt8.ofNat (48+u % 10)).toNat=48+u % 10:=by rw[UInt8.toNat_ofNat'];omega
    refine⟨⟨by simp,?_,.inl hh⟩,fun _=>hh⟩
    rw[List.all_append,h2]
    simp[digC,ht]
    omega
def negB(v:List UInt8):Bool:=decide (v.head?=some 45)
def zbb(v:List UInt8):List UInt8:=if negB v then v.drop 1 else v
def intV(v:List UInt8):Int:=if negB v then -(zal 0 (zbb v):Int) else(zal 0 (zbb v):Int)
theorem zeu(v:List UInt8):intB v=true↔1≤(zbb v).length∧(zbb v).length≤18∧¬((zbb v).head?=some 48∧(1<(zbb v).length∨negB v=true))∧(zbb v).all digC=true:=by
 have e:intB v=(decide (1≤(zbb v).length)&&decide ((zbb v).length≤18)&&!(decide ((zbb v).head?=some 48)&&(decide (1<(zbb v).length) || negB v))&&(zbb v).all digC):=rfl
 rw[e]
 simp only[Bool.and_eq_true,decide_eq_true_eq,Bool.not_eq_true',Bool.and_eq_false_iff,decide_eq_false_iff_not,Bool.or_eq_false_iff,and_assoc]
 constructor
 ·rintro⟨h1,h2,h3,h4⟩
  refine⟨h1,h2,fun⟨h5,h6⟩=>?_,h4⟩
  rcases h3 with h3|⟨h3,h7⟩
  ·exact h3 h5
  ·rcases h6 with h6|h6
   ·exact h3 h6
   ·rw[h7] at h6;cases h6
 ·rintro⟨h1,h2,h3,h4⟩
  refine⟨h1,h2,?_,h4⟩
  by_cases h5:(zbb v).head?=some 48
  ·right
   refine⟨fun h6=>h3 ⟨h5,.inl h6⟩,?_⟩
   cases h7:negB v with
   |false=>rfl
   |true=>exact absurd ⟨h5,.inr h7⟩ h3
  ·exact .inl h5
theorem ziw{v:List UInt8}(h:intB v=true):zpK (zbb v)∧(negB v=true→(zbb v).head?≠some 48):=by
 obtain⟨h1,h2,h3,h4⟩:=(zeu v).1 h
 refine⟨⟨fun e=>by rw[e] at h1;simp at h1,h4,?_⟩,fun hn he=>h3 ⟨he,.inr hn⟩⟩
 by_cases hh:(zbb v).head?=some 48
 ·right
  have hl:¬1<(zbb v).length:=fun hl=>h3 ⟨hh,.inl hl⟩
  cases hd:zbb v with
  |nil=>rw[hd] at h1;simp at h1
  |cons c t=>
   rw[hd] at hh hl
   cases t with
   |nil=>simp at hh;rw[hh]
   |cons x t=>simp at hl
 ·exact .inl hh
theorem ziC{v:List UInt8}(h:intB v=true):zal 0 (zbb v)<10 ^ 18:=by
 obtain⟨h1,h2,h3,h4⟩:=(zeu v).1 h
 have:=zce (zbb v) 0 h4
 have h5:10 ^ (zbb v).length≤10 ^ 18:=Nat.pow_le_pow_right (by decide) h2
 omega
theorem zgz{v:List UInt8}(h:negB v=true):v=45::zbb v:=by
 unfold zbb
 rw[if_pos h]
 unfold negB at h
 rw[decide_eq_true_eq] at h
 cases v with
 |nil=>cases h
 |cons c t=>simp at h;rw[h];rfl
theorem ziZ{v:List UInt8}(h:negB v=false):zbb v=v:=by unfold zbb;rw[if_neg (by simp[h])]
theorem znZ{v:List UInt8}(h:intB v=true):Lib.parseIntB 64 v=.ok (intV v):=by
 obtain⟨⟨h1,h2,h3⟩,h4⟩:=ziw h
 have hs:=ziC h
 have hp:Lib.parseUintB 64 (zbb v)=.ok (zal 0 (zbb v)):=by
  unfold Lib.parseUintB
  rw[if_neg h1]
  exact zqR _ 0 h2 hs
 cases hn:negB v with
 |true=>
  have e:=zgz hn
  have hV:intV v = -(zal 0 (zbb v):Int):=by unfold intV;rw[if_pos hn]
  generalize zbb v=d at*
  subst e
  have c1:((45:UInt8).toNat=43∨(45:UInt8).toNat=45):=by decide
  have c2:(45:UInt8).toNat=45:=by decide
  have c3:¬2 ^ (64-1)<zal 0 d:=by omega
  simp only[Lib.parseIntB,if_pos c1]
  simp only[hp,c2,not_true_eq_false,false_and,if_false,true_and,if_true,c3,hV]
 |false=>
  have e:=ziZ hn
  have hV:intV v=(zal 0 (zbb v):Int):=by unfold intV;rw[if_neg (by simp[hn])]
  rw[e] at h1 h2 h3 hs hp hV
  cases v with
  |nil=>exact absurd rfl h1
  |cons c t=>
   simp only[List.all_cons,Bool.and_eq_true] at h2
   have h5:=(zaM c).1 h2.1
   have c1:¬(c.toNat=43∨c.toNat=45):=by omega
   have c2:¬c.toNat=45:=by omega
   have c3:¬2 ^ (64-1)≤zal 0 (c::t):=by omega
   simp only[Lib.parseIntB,if_neg c1]
   simp only[hp,c2,not_false_eq_true,true_and,false_and,if_false,c3,hV]
theorem zqD{v:List UInt8}(h:intB v=true):Lib.itoa (intV v)=v:=by
 obtain⟨hp,h4⟩:=ziw h
 have hd:=ziB _ (zbb v) (Nat.le_refl _) hp
 cases hn:negB v with
 |true=>
  have hpos:=zn1 _ hp.1 hp.2.1 (h4 hn)
  have hV:intV v = -(zal 0 (zbb v):Int):=by unfold intV;rw[if_pos hn]
  have hlt:-(zal 0 (zbb v):Int)<0:=by omega
  unfold Lib.itoa
  rw[hV,if_pos hlt]
  have:(-(zal 0 (zbb v):Int)).natAbs=zal 0 (zbb v):=by omega
  rw[this,hd]
  exact(zgz hn).symm
 |false=>
  have hV:intV v=(zal 0 (zbb v):Int):=by unfold intV;rw[if_neg (by simp[hn])]
  have hlt:¬(zal 0 (zbb v):Int)<0:=by omega
  unfold Lib.itoa
  rw[hV,if_neg hlt,Int.toNat_natCast,hd]
  exact ziZ hn
theorem zgU(v:List UInt8):Lib.trimPrefix v [45]=zbb v:=by
 unfold Lib.trimPrefix Lib.hasPrefix zbb negB
 cases v with
 |nil=>rfl
 |cons c t=>
  by_cases hc:c=45
  ·subst hc;rfl
  ·have:¬(45:UInt8)=c:=fun e=>hc e.symm
   simp[List.isPrefixOf,hc,this]
theorem zqO(v:List UInt8)(n:Int)(h1:Lib.itoa n=v)(h2:(Lib.trimPrefix v [45]).length≤18):intB v=true:=by
 rw[zgU] at h2
 rw[zeu]
 unfold Lib.itoa at h1
 by_cases hn:n<0
 ·rw[if_pos hn] at h1
  obtain⟨⟨p1,p2,p3⟩,p4⟩:=zho _ n.natAbs (Nat.le_refl _)
  have hneg:negB v=true:=by rw[←h1];rfl
  have hd:zbb v=Lib.decDigits n.natAbs:=by have h9:=h1.trans (zgz hneg);injection h9 with _ e;exact e.symm
  rw[hd] at h2 ⊢
  exact⟨by have:=List.length_pos_iff.2 p1;omega,h2,fun⟨e,_⟩=>p4 (by omega) e,p2⟩
 ·rw[if_neg hn] at h1
  obtain⟨⟨p1,p2,p3⟩,p4⟩:=zho _ n.toNat (Nat.le_refl _)
  rw[h1] at p1 p2 p3 p4
  have hneg:negB v=false:=by
   cases hb:negB v with
   |false=>rfl
   |true=>
    have:=zgz hb
    rw[this] at p2
    simp[digC] at p2
  have hd:=ziZ hneg
  rw[hd] at h2 ⊢
  refine⟨by have:=List.length_pos_iff.2 p1;omega,h2,?_,p2⟩
  rintro⟨e,e2|e2⟩
  ·rcases p3 with p3|p3
   ·exact p3 e
   ·rw[p3] at e2;simp at e2
  ·rw[hneg] at e2;cases e2
end
end Go.Proofs.YtkjbokhnpphimaaGreatDoor
