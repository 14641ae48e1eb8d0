/- Lemmas of the walk that the last text of this claim joins. -/
import Derived.Test.YtlbneoilhapkmaaGreatDoorCards
import Derived.Test.YtlbneoilhapkmaaGreatDoorTie
import Derived.WalkKit
import Derived.ProofKit
set_option maxHeartbeats 40000000
set_option linter.unusedVariables false
set_option linter.unusedSimpArgs false
namespace Go.Proofs.YtlbneoilhapkmaaGreatDoor.treeOfDone
open Go.ChangeShapes Go.WideShapes Go.ChangeAt Go.RowKit
open Go.ChangeMaps (open_string shut_string)
set_option maxRecDepth 100000
theorem plain (f : FuncId) (fn : Func) (hf : Tryz.pinned.checked.prog.funcNamed "verger/vergerlaw10.TreeOf" = some f) (hfn : Tryz.pinned.checked.prog.funcs[f]? = some fn) :
 true = Tryz.pinned.checked.prog.looks [] ∧ ∀ (j : Nat) t,fn.params[j]? = some t → Tryz.pinned.checked.prog.wantsStandIn t = false:=by
 obtain rfl : f = 3:=Option.some.inj ((show Tryz.prog.funcNamed "verger/vergerlaw10.TreeOf" = some 3 by kernel_rfl).symm.trans hf) |>.symm
 obtain rfl : fn = Tryz.f3:=(Option.some.inj (Tryz.func3.symm.trans hfn)).symm
 refine ⟨by kernel_rfl,fun j t ht=>?_⟩
 rw [Tryz.params3] at ht
 have h : t = 22:=by simpa using Array.mem_of_getElem? ht
 subst h
 ·exact (show Tryz.prog.wantsStandIn 22 = false by kernel_rfl)
theorem wfT : Rows.treeOfUptoRow.wfByText (Rows.OpenSpec.upto Rows.treeOfSpec) = true:=by kernel_rfl
theorem mainT : Tryz.pinned.checked.prog.mainIs = some (true, "b810f0003c7ca9e732f1b9a8154707b1477004f0e2e7b6ca670713d6f9cf8e4d".toList):=by rfl
theorem goesT : false = Rows.treeOfUptoRow.goesBy Tryz.pinned.checked.prog:=by kernel_rfl
end Go.Proofs.YtlbneoilhapkmaaGreatDoor.treeOfDone
