/- Lemmas of the walk. -/
import Derived.Test.YtkjbokhnpphimaaGreatDoorV29
set_option maxHeartbeats 40000000
set_option linter.unusedVariables false
set_option linter.unusedSimpArgs false
namespace Go.Proofs.YtkjbokhnpphimaaGreatDoor
open Go.RowKit
set_option maxRecDepth 100000
theorem geqB{a b:ByteArray}{r:Bool}(h:ltB (bys a) (bys b)=r):Op.bytesLess a.toList b.toList=r:=by
 rw[ByteArray.toList_eq,ByteArray.toList_eq,zf1]
 exact h
end Go.Proofs.YtkjbokhnpphimaaGreatDoor
