/- Lemmas of the walk. -/
import Derived.Test.YtioglicfndkgiaaGreatDoorCards
import Derived.Test.YtioglicfndkgiaaGreatDoorTie
import Derived.WalkKit
import Derived.ProofKit
import Derived.Deep.DeepHandedRow
import Derived.Deep.DeepWitnessRowRef
set_option maxHeartbeats 40000000
set_option linter.unusedVariables false
set_option linter.unusedSimpArgs false
namespace Go.Proofs.YtioglicfndkgiaaGreatDoor.routeSplitDone
open Go.ChangeShapes Go.WideShapes Go.ChangeAt Go.RowKit
open Go.ChangeMaps (open_string shut_string)
set_option maxRecDepth 100000
theorem zlp:joinedFacts Tryz.pinned.checked.prog 5 Tryz.f5 (Rows.OpenSpec.upto Rows.routeSplitSpec).bare Rows.routeSplitUptoRow=true:=by
 simp only [joinedFacts,Bool.and_eq_true]
 repeat' (with_reducible apply And.intro)
 all_goals (as_aux_lemma=>kernel_rfl)
end Go.Proofs.YtioglicfndkgiaaGreatDoor.routeSplitDone
