/- Lemmas of the walk. -/
import Derived.Test.YtioglicfndkgiaaGreatDoorV28
import Derived.Test.YtioglicfndkgiaaGreatDoorV27
set_option maxHeartbeats 40000000
set_option linter.unusedVariables false
set_option linter.unusedSimpArgs false
namespace Go.Proofs.YtioglicfndkgiaaGreatDoor
open Go.RowKit
set_option maxRecDepth 100000
theorem geqB {a b : ByteArray} {r : Bool} (h : ltB (bys a) (bys b) = r) : Op.bytesLess a.toList b.toList = r:=by
 rw [ByteArray.toList_eq,ByteArray.toList_eq,zfC]
 exact h
end Go.Proofs.YtioglicfndkgiaaGreatDoor
