/- PartBack: the tied card. Condition: the input is of bulk at most 1048576 (the given second form). -/
import Derived.Test.YtkjbokhnpphimaaGreatDoorV49
import Derived.Test.YtkjbokhnpphimaaGreatDoorV50
import Derived.Test.YtkjbokhnpphimaaGreatDoorV51
set_option maxHeartbeats 40000000
set_option linter.unusedVariables false
set_option linter.unusedSimpArgs false
namespace Go.Proofs.YtkjbokhnpphimaaGreatDoor.partBackDone
open Go.ChangeShapes Go.WideShapes Go.ChangeAt Go.RowKit Go.Deep
open Go.ChangeMaps (open_string shut_string)
set_option maxRecDepth 100000
theorem zrg:Rows.PartBackUptoSaid:=
 OpenClaim.holds_of_cond 4 Tryz.f4 rfl rfl rfl rfl rfl rfl rfl ⟨rfl,rfl,rfl,rfl,rfl⟩ rfl rfl rfl rfl rfl (by kernel_rfl) Tryz.func4 zsb
  (of_decide_eq_true (by kernel_rfl)) (by unfold Func.isWrapper;first|(rw[if_pos (by decide +kernel)];kernel_rfl)|(rw[if_neg (by decide +kernel)];exact⟨rfl,rfl⟩))
  (fun os started H enc _ F=>by rw[OpenClaim.pre_eq_preRow];exact zsz os started H enc F)
theorem proved:Rows.PartBackUptoCardSaid:=
 Claim7.holds_tied_plain_at .later [] _ _ _ _ zrg (fun _ h=>by cases h) wfT (fun _ h=>by cases h) partBackUpto_row_tie rfl ⟨rfl,rfl⟩ zsV rfl plain zs1
end Go.Proofs.YtkjbokhnpphimaaGreatDoor.partBackDone
