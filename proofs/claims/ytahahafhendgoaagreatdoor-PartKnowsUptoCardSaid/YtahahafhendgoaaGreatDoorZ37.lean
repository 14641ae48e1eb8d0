/- Lemmas of the walk that the last text of this claim joins. -/
import Derived.Test.YtahahafhendgoaaGreatDoorZ36
import Derived.Test.YtahahafhendgoaaGreatDoorZ35
set_option maxHeartbeats 40000000
set_option linter.unusedVariables false
set_option linter.unusedSimpArgs false
namespace Go.Proofs.YtahahafhendgoaaGreatDoor
open Go.RowKit
set_option maxRecDepth 100000
theorem geqB {a b : ByteArray} {r : Bool} (h : ltB (bys a) (bys b) = r) : Op.bytesLess a.toList b.toList = r:=by
 rw [ByteArray.toList_eq,ByteArray.toList_eq,less_lt]
 exact h
end Go.Proofs.YtahahafhendgoaaGreatDoor
