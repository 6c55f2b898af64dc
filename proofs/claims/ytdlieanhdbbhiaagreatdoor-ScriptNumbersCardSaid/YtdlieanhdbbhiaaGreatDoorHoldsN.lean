/- The law ScriptNumbers: the row's statement. -/
import Derived.Test.YtdlieanhdbbhiaaGreatDoorRowN
import Derived.Test.YtdlieanhdbbhiaaGreatDoorFactsN
import Derived.Stop.Joined
set_option linter.unusedVariables false
set_option linter.unusedSimpArgs false
namespace Go.Proofs.YtdlieanhdbbhiaaGreatDoor
open Go.RowKit

theorem numbers_holds : Rows.ScriptNumbersSaid :=
  OpenClaim.holds_of_wide 4 Tryz.f4 rfl rfl rfl rfl rfl rfl rfl ⟨rfl, rfl, rfl, rfl, rfl⟩ rfl rfl rfl rfl rfl (by kernel_rfl) Tryz.func4 numbers_facts
    (of_decide_eq_true (by kernel_rfl)) (by unfold Func.isWrapper; first | (rw [if_pos (by decide +kernel)]; kernel_rfl) | (rw [if_neg (by decide +kernel)]; exact ⟨rfl, rfl⟩))
    (fun os started H enc _ => numbers_lifted os started H enc)

end Go.Proofs.YtdlieanhdbbhiaaGreatDoor
