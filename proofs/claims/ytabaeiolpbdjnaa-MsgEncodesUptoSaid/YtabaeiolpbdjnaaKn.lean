/- The walks of msg's known and answer, and of the reference's known. -/
import Derived.Test.YtabaeiolpbdjnaaDw
namespace Go.Proofs.Ytabaeiolpbdjnaa
open Go.RowKit
set_option maxRecDepth 100000

def knownB (k : Int) : Bool := (decide (0 ≤ k) && decide (k ≤ 16) || k == 19) || k == 24
def ansB (k : Int) : Bool := ((decide (0 ≤ k) && decide (k < 16) && (k % 2 == 1)) && k != 3) || k == 24
set_option maxHeartbeats 1000000 in
theorem known_any (k : Int) (w : World) : Calls Try.prog 39 #[.int .i64 k] w fun e w' => e = .returned (.bool (knownB k)) ∧ w = w' := by
  unfold knownB
  by_cases h1 : 0 ≤ k <;> by_cases h2 : k ≤ 16 <;> by_cases h3 : k = 19 <;> by_cases h4 : k = 24 <;> (try (exfalso; omega)) <;>
    (go_enter Try.func39, Try.ntmps39
     go_wp2
     go_ret
     refine ⟨?_, rfl⟩
     (try rw [decide_eq_true (show 0 ≤ k by omega)]); (try rw [decide_eq_false (show ¬ 0 ≤ k by omega)])
     (try rw [decide_eq_true (show k ≤ 16 by omega)]); (try rw [decide_eq_false (show ¬ k ≤ 16 by omega)]); (try rw [decide_eq_true (show k < 16 by omega)]); (try rw [decide_eq_false (show ¬ k < 16 by omega)])
     simp [*])
set_option maxHeartbeats 1000000 in
theorem answer_any (k : Int) (w : World) : Calls Try.prog 56 #[.int .i64 k] w fun e w' => e = .returned (.bool (ansB k)) ∧ w = w' := by
  unfold ansB
  by_cases h1 : 0 ≤ k <;> by_cases h2 : k < 16 <;> by_cases h5 : k % 2 = 1 <;> by_cases h3 : k = 3 <;> by_cases h4 : k = 24 <;> (try (exfalso; omega)) <;>
    (go_enter Try.func56, Try.ntmps56
     go_wp2
     go_ret
     refine ⟨?_, rfl⟩
     (try rw [decide_eq_true (show 0 ≤ k by omega)]); (try rw [decide_eq_false (show ¬ 0 ≤ k by omega)])
     (try rw [decide_eq_true (show k ≤ 16 by omega)]); (try rw [decide_eq_false (show ¬ k ≤ 16 by omega)]); (try rw [decide_eq_true (show k < 16 by omega)]); (try rw [decide_eq_false (show ¬ k < 16 by omega)])
     simp [*])
end Go.Proofs.Ytabaeiolpbdjnaa
