/- The law ScriptNumbers answers true at every number of a tick, every number of a variable and every letter: the row's statement and its tied card. Its conditions are the card's own: the eight listed package-level variables start as the program's text lays them (tied by the given text). -/
import Derived.Test.YtdlieanhdbbhiaaGreatDoorCards
import Derived.Test.YtdlieanhdbbhiaaGreatDoorTie
import Derived.Test.YtdlieanhdbbhiaaGreatDoorHoldsN
import Derived.Test.YtdlieanhdbbhiaaGreatDoorCardF
import Derived.SevenTiedAt
set_option linter.unusedVariables false
set_option linter.unusedSimpArgs false
namespace Go.Proofs.YtdlieanhdbbhiaaGreatDoor
open Go.ChangeShapes Go.WideShapes Go.ChangeAt Go.RowKit

theorem numbers_card : Rows.ScriptNumbersCardSaid :=
  Claim7.holds_tied_plain_at .later [] [.data, .data, .data, .data, .sentinel, .sentinel, .sentinel, .pinned] true (true, "afe4f47b896c41b779b2d814647253798db4479f0e433c04811cf9b8f53a361d") true
    numbers_holds (fun _ h => by cases h) card_wf (fun _ h => by cases h) scriptNumbers_row_tie rfl ⟨rfl, rfl⟩ card_main rfl
    (fun f fn hf hfn => by
      obtain rfl : f = 4 := Option.some.inj (card_func.symm.trans hf) |>.symm
      obtain rfl : fn = Tryz.f4 := (Option.some.inj (Tryz.func4.symm.trans hfn)).symm
      exact ⟨card_looks, fun j t ht => by
        rw [Tryz.params4] at ht
        have hm : t ∈ [23, 2, 5] := by simpa using Array.mem_of_getElem? ht
        exact (show Tryz.prog.wantsStandIn t = false by simpa using List.all_eq_true.1 card_stand t hm)⟩)
    card_by
#print axioms numbers_card
end Go.Proofs.YtdlieanhdbbhiaaGreatDoor
