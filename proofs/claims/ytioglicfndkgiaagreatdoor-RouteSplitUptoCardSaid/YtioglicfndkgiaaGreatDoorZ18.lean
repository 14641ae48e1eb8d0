/- Lemmas of the walk. -/
import Derived.Test.YtioglicfndkgiaaGreatDoorZ16
import Derived.Test.YtioglicfndkgiaaGreatDoorZ17
set_option maxHeartbeats 40000000
set_option linter.unusedVariables false
set_option linter.unusedSimpArgs false
namespace Go.Proofs.YtioglicfndkgiaaGreatDoor
open Go.RowKit
set_option maxRecDepth 100000
section
variable {α β:Type} {f:α→Option β}
theorem mapM_cons {x:α} {t:List α}:(x::t).mapM f=(f x).bind fun y=>(t.mapM f).bind fun l=>some (y::l):=by
 rw [List.mapM_cons];rfl
theorem zmQ:∀ {a b:List α} {u v:List β},a.mapM f=some u→b.mapM f=some v→(a++b).mapM f=some (u++v)
 | [],b,u,v,h,k=>by simp at h;subst h;simpa using k
 | x::a,b,u,v,h,k=>by
  rw [mapM_cons] at h
  cases hx:f x with
  | none=>rw [hx] at h;cases h
  | some y=>
   rw [hx] at h
   cases ha:a.mapM f with
   | none=>rw [ha] at h;cases h
   | some u'=>
    rw [ha] at h
    cases h
    rw [List.cons_append,mapM_cons,hx,zmQ ha k]
    rfl
theorem zer:∀ {l:List α} {x:α},x∈l→f x=none→l.mapM f=none
 | [],x,h,_=>by cases h
 | y::t,x,h,k=>by
  rw [mapM_cons]
  rcases List.mem_cons.1 h with rfl | h
  ·rw [k];rfl
  ·rw [zer h k]
   cases f y <;> rfl
theorem zfQ {l:List α} {j:Nat} {x:α} {y:β} {u:List β} (h:(l.take j).mapM f=some u) (hx:l[j]?=some x) (hy:f x=some y):(l.take (j+1)).mapM f=some (u++[y]):=by
 rw [List.take_add_one,hx]
 exact zmQ h (by rw [Option.toList_some,mapM_cons,hy];simp)
theorem zmx:∀ {l:List α} {u:List β},l.mapM f=some u→u.length=l.length
 | [],u,h=>by simp at h;subst h;rfl
 | x::t,u,h=>by
  rw [mapM_cons] at h
  cases hx:f x with
  | none=>rw [hx] at h;cases h
  | some y=>
   rw [hx] at h
   cases ha:t.mapM f with
   | none=>rw [ha] at h;cases h
   | some u'=>
    rw [ha] at h
    cases h
    simp [zmx ha]
theorem zgW:∀ {l:List α} {u:List β},l.mapM f=some u→∀ y∈u,∃ x∈l,f x=some y
 | [],u,h,y,hy=>by simp at h;subst h;cases hy
 | x::t,u,h,y,hy=>by
  rw [mapM_cons] at h
  cases hx:f x with
  | none=>rw [hx] at h;cases h
  | some y'=>
   rw [hx] at h
   cases ha:t.mapM f with
   | none=>rw [ha] at h;cases h
   | some u'=>
    rw [ha] at h
    cases h
    rcases List.mem_cons.1 hy with rfl | hy
    ·exact ⟨x,by simp,hx⟩
    ·obtain ⟨x',h1,h2⟩:=zgW ha y hy
     exact ⟨x',by simp [h1],h2⟩
end
theorem zjY {p:List UInt8} {a:Ava} (h:avaB p=some a):a.type.length≤17:=by
 unfold avaB at h
 cases hc:zdT p with
 | none=>rw [hc] at h;cases h
 | some q=>
  obtain ⟨u,v⟩:=q
  rw [hc] at h
  simp only at h
  split at h
  ·cases h
  ·cases hv:za9 v with
   | none=>rw [hv] at h;cases h
   | some z=>
    rw [hv] at h
    cases h
    exact ziL u
theorem zgT {l:List Ava} {j:Nat} (h:ltO l (j+1) j=true):zc9 0 (j+1) l=zc9 0 j (zj2 l (j+1) j):=by rw [zc9,if_pos ⟨by omega,h⟩]
theorem ziZ {l:List Ava} {j:Nat} (h:ltO l (j+1) j=false):zc9 0 (j+1) l=l:=by rw [zc9,if_neg (fun k=>by rw [h] at k;cases k.2)]
theorem zn2 (l:List Ava) (h:l.length≤3):insF 0 (l.length-1) l=zlK l:=by
 match l,h with
 | [],_=>rfl
 | [a],_=>rfl
 | [a,b],_=>
  show zc9 0 1 [a,b]=if ltB b.type a.type then [b,a] else [a,b]
  cases h1:ltB b.type a.type with
  | true=>rw [zgT (show ltO [a,b] 1 0=true from h1)];rfl
  | false=>rw [ziZ (show ltO [a,b] 1 0=false from h1)];rfl
 | [a,b,c],_=>
  show zc9 0 2 (zc9 0 1 [a,b,c])=_
  have e2:∀ x y z:Ava,zc9 0 2 [x,y,z]=if ltB z.type y.type then (if ltB z.type x.type then [z,x,y] else [x,z,y]) else [x,y,z]:=by
   intro x y z
   cases h1:ltB z.type y.type with
   | true=>
    rw [zgT (show ltO [x,y,z] 2 1=true from h1)]
    show zc9 0 1 [x,z,y]=if ltB z.type x.type then [z,x,y] else [x,z,y]
    cases h2:ltB z.type x.type with
    | true=>rw [zgT (show ltO [x,z,y] 1 0=true from h2)];rfl
    | false=>rw [ziZ (show ltO [x,z,y] 1 0=false from h2)];rfl
   | false=>rw [ziZ (show ltO [x,y,z] 2 1=false from h1)];rfl
  show _=if ltB b.type a.type then (if ltB c.type a.type then (if ltB c.type b.type then [c,b,a] else [b,c,a]) else [b,a,c]) else (if ltB c.type b.type then (if ltB c.type a.type then [c,a,b] else [a,c,b]) else [a,b,c])
  cases h1:ltB b.type a.type with
  | true=>rw [zgT (show ltO [a,b,c] 1 0=true from h1)];exact e2 b a c
  | false=>rw [ziZ (show ltO [a,b,c] 1 0=false from h1)];exact e2 a b c
theorem zma {s:List UInt8} {l l':List Ava} (h:(splitF 43 [] s).mapM avaB=some l) (hs:Sub l l') (he:l.length<20→l'=insF 0 (l.length-1) l) :
 zbk s=if zan l' then some l' else none:=by
 unfold zbk
 rw [h]
 simp only
 by_cases h3:l.length≤3
 ·have h4:=zni l h3
  rw [he (by omega),zn2 l h3]
  unfold zf6 at h4
  exact h4.symm
 ·have h5:zan l'=false:=by
   unfold zan
   rw [decide_eq_false (show ¬ l'.length≤3 by rw [hs.1];exact h3)]
   simp
  have h6:zan (zcC l)=false:=by
   unfold zan
   rw [decide_eq_false (show ¬ (zcC l).length≤3 by rw [zem];exact h3)]
   simp
  rw [h5,h6]
  rfl
end Go.Proofs.YtioglicfndkgiaaGreatDoor
