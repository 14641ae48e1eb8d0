/- Lemmas of the walk. -/
import Derived.Test.YtkjbokhnpphimaaGreatDoorCards
import Derived.Test.YtkjbokhnpphimaaGreatDoorTie
import Derived.WalkKit
import Derived.ProofKit
import Derived.Deep.DeepWitnessRowRef
set_option maxHeartbeats 40000000
set_option linter.unusedVariables false
set_option linter.unusedSimpArgs false
namespace Go.Proofs.YtkjbokhnpphimaaGreatDoor.partBackDone
open Go.ChangeShapes Go.WideShapes Go.ChangeAt Go.RowKit
open Go.ChangeMaps (open_string shut_string)
set_option maxRecDepth 100000
theorem zsb:joinedFacts Tryz.pinned.checked.prog 4 Tryz.f4 (Rows.OpenSpec.upto Rows.partBackSpec).bare Rows.partBackUptoRow=true:=by
 simp only[joinedFacts,Bool.and_eq_true]
 repeat'(with_reducible apply And.intro)
 all_goals(as_aux_lemma=>kernel_rfl)
end Go.Proofs.YtkjbokhnpphimaaGreatDoor.partBackDone
