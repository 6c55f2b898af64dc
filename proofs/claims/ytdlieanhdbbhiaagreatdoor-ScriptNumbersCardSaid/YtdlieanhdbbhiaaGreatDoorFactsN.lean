/- The law ScriptNumbers: the row's closed facts. -/
import Derived.Test.YtdlieanhdbbhiaaGreatDoorRows
import Derived.JoinedOf
set_option linter.unusedVariables false
set_option linter.unusedSimpArgs false
namespace Go.Proofs.YtdlieanhdbbhiaaGreatDoor

theorem and_tt {a b : Bool} (ha : a = true) (hb : b = true) : (a && b) = true := by rw [ha, hb]; rfl
set_option maxHeartbeats 4000000 in
theorem numbers_facts : joinedFacts Tryz.prog 4 Tryz.f4 Rows.scriptNumbersSpec Rows.scriptNumbersRow = true := by
  unfold joinedFacts
  repeat' (with_reducible refine and_tt ?_ ?_)
  all_goals (as_aux_lemma => kernel_rfl)
end Go.Proofs.YtdlieanhdbbhiaaGreatDoor
