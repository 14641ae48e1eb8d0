/- Lemmas of the walk. -/
import Derived.Test.YtkjbokhnpphimaaGreatDoorV37
set_option maxHeartbeats 40000000
set_option linter.unusedVariables false
set_option linter.unusedSimpArgs false
namespace Go.Proofs.YtkjbokhnpphimaaGreatDoor
open Go.RowKit
set_option maxRecDepth 100000
theorem zcH{l:List Ent}(h:OkOf l):Named l:=by
 have hs:∀e∈l,zbZ (nmE e)=true:=fun e he=>by
  obtain⟨i,hi⟩:=List.getElem?_of_mem he
  exact zlF (h.2.1 i e (List.getElem?_eq_some_iff.1 hi).1 hi).2
 refine⟨hs,List.pairwise_iff_getElem.2 fun i j hi hj hij=>?_⟩
 have h1:=(h.2.1 j l[j] hj (List.getElem?_eq_getElem hj)).1
 rw[zoZ,List.any_eq_false] at h1
 have h2:=h1 l[i] (List.mem_of_getElem? (i:=i) (by rw[List.getElem?_take_of_lt hij];exact List.getElem?_eq_getElem hi))
 simpa using h2
end Go.Proofs.YtkjbokhnpphimaaGreatDoor
