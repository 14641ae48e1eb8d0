/- Lemmas of the walk. -/
import Derived.Test.YtkjbokhnpphimaaGreatDoorCards
import Derived.Test.YtkjbokhnpphimaaGreatDoorTie
import Derived.WalkKit
import Derived.ProofKit
set_option maxHeartbeats 40000000
set_option linter.unusedVariables false
set_option linter.unusedSimpArgs false
namespace Go.Proofs.YtkjbokhnpphimaaGreatDoor.partBackDone
open Go.ChangeShapes Go.WideShapes Go.ChangeAt Go.RowKit
open Go.ChangeMaps (open_string shut_string)
set_option maxRecDepth 100000
theorem plain(f:FuncId)(fn:Func)(hf:Tryz.pinned.checked.prog.funcNamed "verger/vergerlaw15.PartBack" = some f)(hfn:Tryz.pinned.checked.prog.funcs[f]?=some fn) :
 true=Tryz.pinned.checked.prog.looks []∧∀(j:Nat) t,fn.params[j]?=some t→Tryz.pinned.checked.prog.wantsStandIn t=false:=by
 obtain rfl:f=4:=Option.some.inj ((show Tryz.prog.funcNamed "verger/vergerlaw15.PartBack" = some 4 by kernel_rfl).symm.trans hf) |>.symm
 obtain rfl:fn=Tryz.f4:=(Option.some.inj (Tryz.func4.symm.trans hfn)).symm
 refine⟨by kernel_rfl,fun j t ht=>?_⟩
 rw[Tryz.params4] at ht
 have h:t=22∨t=23∨t=3:=by simpa using Array.mem_of_getElem? ht
 rcases h with rfl|rfl|rfl
 ·exact(show Tryz.prog.wantsStandIn 22=false by kernel_rfl)
 ·exact(show Tryz.prog.wantsStandIn 23=false by kernel_rfl)
 ·exact(show Tryz.prog.wantsStandIn 3=false by kernel_rfl)
theorem wfT:Rows.partBackUptoRow.wfByText (Rows.OpenSpec.upto Rows.partBackSpec)=true:=by kernel_rfl
theorem zsV:Tryz.pinned.checked.prog.mainIs=some (true, "30651ca6919000168a721c9902852a8e5a07976631ac43256bf56ccb2566f198".toList):=by rfl
theorem zs1:false=Rows.partBackUptoRow.goesBy Tryz.pinned.checked.prog:=by kernel_rfl
end Go.Proofs.YtkjbokhnpphimaaGreatDoor.partBackDone
