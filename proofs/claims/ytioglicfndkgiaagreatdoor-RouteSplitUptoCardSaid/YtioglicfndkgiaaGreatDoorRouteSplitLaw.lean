/- RouteSplit: the tied card. Condition: the input is of bulk at most 1048576 (the given second form). -/
import Derived.Test.YtioglicfndkgiaaGreatDoorZ53
import Derived.Test.YtioglicfndkgiaaGreatDoorZ54
import Derived.Test.YtioglicfndkgiaaGreatDoorZ55
set_option maxHeartbeats 40000000
set_option linter.unusedVariables false
set_option linter.unusedSimpArgs false
namespace Go.Proofs.YtioglicfndkgiaaGreatDoor.routeSplitDone
open Go.ChangeShapes Go.WideShapes Go.ChangeAt Go.RowKit Go.Deep
open Go.ChangeMaps (open_string shut_string)
set_option maxRecDepth 100000
theorem ziV:Rows.RouteSplitUptoSaid:=
 OpenClaim.holds_of_cond 5 Tryz.f5 rfl rfl rfl rfl rfl rfl rfl ⟨rfl,rfl,rfl,rfl,rfl⟩ rfl rfl rfl rfl rfl (by kernel_rfl) Tryz.func5 zlp
  (of_decide_eq_true (by kernel_rfl)) (by unfold Func.isWrapper;first | (rw [if_pos (by decide +kernel)];kernel_rfl) | (rw [if_neg (by decide +kernel)];exact ⟨rfl,rfl⟩))
  (fun os started H enc _ F=>by rw [OpenClaim.pre_eq_preRow];exact zoL os started H enc F)
theorem proved:Rows.RouteSplitUptoCardSaid:=
 Claim7.holds_tied_plain_at .later [] _ _ _ _ ziV (fun _ h=>by cases h) wfT (fun _ h=>by cases h) routeSplitUpto_row_tie rfl ⟨rfl,rfl⟩ zrO rfl plain zsj
end Go.Proofs.YtioglicfndkgiaaGreatDoor.routeSplitDone
