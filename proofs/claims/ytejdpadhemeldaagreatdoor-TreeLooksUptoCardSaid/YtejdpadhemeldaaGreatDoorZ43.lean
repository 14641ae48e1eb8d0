/- Lemmas of the walk that the last text of this claim joins. -/
import Derived.Test.YtejdpadhemeldaaGreatDoorZ40
import Derived.Test.YtejdpadhemeldaaGreatDoorZ42
set_option maxHeartbeats 40000000
set_option linter.unusedVariables false
set_option linter.unusedSimpArgs false
namespace Go.Proofs.YtejdpadhemeldaaGreatDoor
open Go.RowKit
set_option maxRecDepth 100000
structure RTree (S : Nat → Prop) (w : World) (g : Nat) (r : List Ent) : Prop where
 ex : ∃ A n c,w.heap[g]? = some (.cells #[.slice A n c] 57 (0,0)) ∧ Row Elem.ent S w A n c r
theorem RTree.ext {S : Nat → Prop} {w w' : World} {g : Nat} {r : List Ent} (h : RTree S w g r) (hx : Ext w w') : RTree S w' g r:=by
 obtain ⟨A,n,c,h1,h2⟩:=h.ex
 exact ⟨A,n,c,row_later' h1 hx,h2.ext hx⟩
theorem ok_named {l : List Ent} (h : OkOf l) : Named l:=by
 have hs : ∀ e ∈ l,selfN (nmE e) = true:=fun e he=>by
  obtain ⟨i,hi⟩:=List.getElem?_of_mem he
  exact formed_self (h.2.1 i e (List.getElem?_eq_some_iff.1 hi).1 hi).2
 refine ⟨hs,List.pairwise_iff_getElem.2 fun i j hi hj hij=>?_⟩
 have h1:=(h.2.1 j l[j] hj (List.getElem?_eq_getElem hj)).1
 rw [entOf_any,List.any_eq_false] at h1
 have h2:=h1 l[i] (List.mem_of_getElem? (i:=i) (by rw [List.getElem?_take_of_lt hij];exact List.getElem?_eq_getElem hi))
 simpa using h2
end Go.Proofs.YtejdpadhemeldaaGreatDoor
