/- The law ScriptNumbers: the card's closed facts. -/
import Derived.Test.YtdlieanhdbbhiaaGreatDoorCards
import Derived.SevenTiedAt
set_option linter.unusedVariables false
set_option linter.unusedSimpArgs false
namespace Go.Proofs.YtdlieanhdbbhiaaGreatDoor

theorem card_wf : Rows.scriptNumbersRow.wfByText (OpenSpec.ofChange Rows.scriptNumbersSpec) = true := by kernel_rfl
theorem card_main : Tryz.pinned.checked.prog.mainIs = some (true, "afe4f47b896c41b779b2d814647253798db4479f0e433c04811cf9b8f53a361d".toList) := by kernel_rfl
theorem card_looks : true = Tryz.prog.looks [] := by kernel_rfl
theorem card_stand : ([23, 2, 5].all fun u => !Tryz.prog.wantsStandIn u) = true := by kernel_rfl
theorem card_by : false = Rows.scriptNumbersRow.goesBy Tryz.pinned.checked.prog := by kernel_rfl
theorem card_func : Tryz.prog.funcNamed "remontoir/remontoirlaw30.ScriptNumbers" = some 4 := by kernel_rfl
end Go.Proofs.YtdlieanhdbbhiaaGreatDoor
