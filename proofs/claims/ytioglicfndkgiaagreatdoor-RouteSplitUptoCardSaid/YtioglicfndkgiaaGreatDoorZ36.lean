/- Lemmas of the walk. -/
import Derived.Test.YtioglicfndkgiaaGreatDoorZ32
import Derived.Test.YtioglicfndkgiaaGreatDoorZ25
set_option maxHeartbeats 40000000
set_option linter.unusedVariables false
set_option linter.unusedSimpArgs false
namespace Go.Proofs.YtioglicfndkgiaaGreatDoor
open Go.RowKit
set_option maxRecDepth 100000
section
variable {α:Type} {E:Elem α} {w w0:World} {o:Oper} {a:Act} {Q:Exit→Act→World→Prop} {ops:Array Oper} {rest:List Oper}
end
end Go.Proofs.YtioglicfndkgiaaGreatDoor
