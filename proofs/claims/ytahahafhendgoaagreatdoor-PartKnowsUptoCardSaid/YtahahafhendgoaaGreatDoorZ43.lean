/- Lemmas of the walk that the last text of this claim joins. -/
import Derived.Test.YtahahafhendgoaaGreatDoorZ42
import Derived.Test.YtahahafhendgoaaGreatDoorZ41
import Derived.Test.YtahahafhendgoaaGreatDoorZ40
set_option maxHeartbeats 40000000
set_option linter.unusedVariables false
set_option linter.unusedSimpArgs false
namespace Go.Proofs.YtahahafhendgoaaGreatDoor
open Go.RowKit
set_option maxRecDepth 100000
theorem formed_self {nm : List UInt8} {l : List Att} (h : formedE nm l = true) : selfN nm = true:=by
 unfold formedE looseE at h
 simp only [Bool.and_eq_true] at h
 exact h.1.1.1.1
theorem entOf_any {l : List Ent} {p : ByteArray} : entOf l p = none ↔ l.any (fun e=>decide (nmE e = bys p)) = false:=by
 unfold entOf
 rw [List.find?_eq_none,List.any_eq_false]
 constructor
 ·intro h x hx
  have:=h x hx
  simp only [decide_eq_true_eq] at this ⊢
  intro e
  exact this (by rw [← str_bys x.name];unfold nmE at e;rw [e,str_bys])
 ·intro h x hx
  have:=h x hx
  simp only [decide_eq_true_eq] at this ⊢
  intro e
  exact this (by unfold nmE;rw [e])
theorem ok_named {l : List Ent} (h : OkOf l) : Named l:=by
 have hs : ∀ e ∈ l,selfN (nmE e) = true:=fun e he=>by
  obtain ⟨i,hi⟩:=List.getElem?_of_mem he
  exact formed_self (h.2.1 i e (List.getElem?_eq_some_iff.1 hi).1 hi).2
 refine ⟨hs,List.pairwise_iff_getElem.2 fun i j hi hj hij=>?_⟩
 have h1:=(h.2.1 j l[j] hj (List.getElem?_eq_getElem hj)).1
 rw [entOf_any,List.any_eq_false] at h1
 have h2:=h1 l[i] (List.mem_of_getElem? (i:=i) (by rw [List.getElem?_take_of_lt hij];exact List.getElem?_eq_getElem hi))
 simpa using h2
end Go.Proofs.YtahahafhendgoaaGreatDoor
