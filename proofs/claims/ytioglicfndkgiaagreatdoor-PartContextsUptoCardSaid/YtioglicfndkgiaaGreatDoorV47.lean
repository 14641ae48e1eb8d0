/- Lemmas of the walk. -/
import Derived.Test.YtioglicfndkgiaaGreatDoorV46
import Derived.Test.YtioglicfndkgiaaGreatDoorV27
set_option maxHeartbeats 40000000
set_option linter.unusedVariables false
set_option linter.unusedSimpArgs false
namespace Go.Proofs.YtioglicfndkgiaaGreatDoor
open Go.RowKit
set_option maxRecDepth 100000
theorem zhn (f : List Nat) (j : Nat) : (f.take j).sum ≤ f.sum:=by
 have:=List.take_append_drop j f
 calc (f.take j).sum ≤ (f.take j).sum + (f.drop j).sum:=Nat.le_add_right _ _
  _ = f.sum:=by rw [← List.sum_append,this]
theorem zfj {f : List Nat} {j : Nat} {x : Nat} (h : f[j]? = some x) : (f.take (j + 1)).sum = (f.take j).sum + x:=by
 rw [List.take_add_one,h]
 simp
end Go.Proofs.YtioglicfndkgiaaGreatDoor
