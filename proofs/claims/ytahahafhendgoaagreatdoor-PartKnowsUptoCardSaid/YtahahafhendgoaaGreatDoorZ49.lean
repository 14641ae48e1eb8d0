/- Lemmas of the walk that the last text of this claim joins. -/
import Derived.Test.YtahahafhendgoaaGreatDoorCards
import Derived.Test.YtahahafhendgoaaGreatDoorTie
import Derived.WalkKit
import Derived.ProofKit
set_option maxHeartbeats 40000000
set_option linter.unusedVariables false
set_option linter.unusedSimpArgs false
namespace Go.Proofs.YtahahafhendgoaaGreatDoor.partKnowsDone
open Go.ChangeShapes Go.WideShapes Go.ChangeAt Go.RowKit
open Go.ChangeMaps (open_string shut_string)
set_option maxRecDepth 100000
theorem plain (f : FuncId) (fn : Func) (hf : Tryz.pinned.checked.prog.funcNamed "verger/vergerlaw15.PartKnows" = some f) (hfn : Tryz.pinned.checked.prog.funcs[f]? = some fn) :
 true = Tryz.pinned.checked.prog.looks [] ∧ ∀ (j : Nat) t,fn.params[j]? = some t → Tryz.pinned.checked.prog.wantsStandIn t = false:=by
 obtain rfl : f = 3:=Option.some.inj ((show Tryz.prog.funcNamed "verger/vergerlaw15.PartKnows" = some 3 by kernel_rfl).symm.trans hf) |>.symm
 obtain rfl : fn = Tryz.f3:=(Option.some.inj (Tryz.func3.symm.trans hfn)).symm
 refine ⟨by kernel_rfl,fun j t ht=>?_⟩
 rw [Tryz.params3] at ht
 have h : t = 22 ∨ t = 23 ∨ t = 3:=by simpa using Array.mem_of_getElem? ht
 rcases h with rfl | rfl | rfl
 ·exact (show Tryz.prog.wantsStandIn 22 = false by kernel_rfl)
 ·exact (show Tryz.prog.wantsStandIn 23 = false by kernel_rfl)
 ·exact (show Tryz.prog.wantsStandIn 3 = false by kernel_rfl)
theorem wfT : Rows.partKnowsUptoRow.wfByText (Rows.OpenSpec.upto Rows.partKnowsSpec) = true:=by kernel_rfl
theorem mainT : Tryz.pinned.checked.prog.mainIs = some (true, "8d0be3c83073fc5e601eb02421aae545a57d6d521004f25a09c1b3fbec065cbf".toList):=by rfl
theorem goesT : false = Rows.partKnowsUptoRow.goesBy Tryz.pinned.checked.prog:=by kernel_rfl
end Go.Proofs.YtahahafhendgoaaGreatDoor.partKnowsDone
