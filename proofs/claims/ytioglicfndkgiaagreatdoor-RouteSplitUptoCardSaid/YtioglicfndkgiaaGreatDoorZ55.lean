/- Lemmas of the walk. -/
import Derived.Test.YtioglicfndkgiaaGreatDoorCards
import Derived.Test.YtioglicfndkgiaaGreatDoorTie
import Derived.WalkKit
import Derived.ProofKit
set_option maxHeartbeats 40000000
set_option linter.unusedVariables false
set_option linter.unusedSimpArgs false
namespace Go.Proofs.YtioglicfndkgiaaGreatDoor.routeSplitDone
open Go.ChangeShapes Go.WideShapes Go.ChangeAt Go.RowKit
open Go.ChangeMaps (open_string shut_string)
set_option maxRecDepth 100000
theorem plain (f:FuncId) (fn:Func) (hf:Tryz.pinned.checked.prog.funcNamed "verger/vergerlaw16.RouteSplit" = some f) (hfn:Tryz.pinned.checked.prog.funcs[f]?=some fn) :
 true=Tryz.pinned.checked.prog.looks []∧∀ (j:Nat) t,fn.params[j]?=some t→Tryz.pinned.checked.prog.wantsStandIn t=false:=by
 obtain rfl:f=5:=Option.some.inj ((show Tryz.prog.funcNamed "verger/vergerlaw16.RouteSplit" = some 5 by kernel_rfl).symm.trans hf) |>.symm
 obtain rfl:fn=Tryz.f5:=(Option.some.inj (Tryz.func5.symm.trans hfn)).symm
 refine ⟨by kernel_rfl,fun j t ht=>?_⟩
 rw [Tryz.params5] at ht
 have h:t=22∨t=23∨t=3∨t=9:=by simpa using Array.mem_of_getElem? ht
 rcases h with rfl | rfl | rfl | rfl
 ·exact (show Tryz.prog.wantsStandIn 22=false by kernel_rfl)
 ·exact (show Tryz.prog.wantsStandIn 23=false by kernel_rfl)
 ·exact (show Tryz.prog.wantsStandIn 3=false by kernel_rfl)
 ·exact (show Tryz.prog.wantsStandIn 9=false by kernel_rfl)
theorem wfT:Rows.routeSplitUptoRow.wfByText (Rows.OpenSpec.upto Rows.routeSplitSpec)=true:=by kernel_rfl
theorem zrO:Tryz.pinned.checked.prog.mainIs=some (true, "11f9cf1d7060a9c965d160dce877cf6f0bee6c255ff783d8db42ed9029692daf".toList):=by rfl
theorem zsj:false=Rows.routeSplitUptoRow.goesBy Tryz.pinned.checked.prog:=by kernel_rfl
end Go.Proofs.YtioglicfndkgiaaGreatDoor.routeSplitDone
