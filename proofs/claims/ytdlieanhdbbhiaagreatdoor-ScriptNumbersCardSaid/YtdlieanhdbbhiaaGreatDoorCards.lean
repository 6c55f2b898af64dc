/-
  DERIVED. GIVEN WITH THE SEED: THE CARDS: each row of YtdlieanhdbbhiaaGreatDoorRows.lean that lists a variable, with what it lists TIED to the program's text (the seventh form; the later family's looks); each row that meets fmt, with fmt's text TOLD by the authors' own Lean function (tested against real Go, not proved from fmt's source: count such statements apart). THE CARD IS WHAT COUNTS. Prove the row's statement (the work); the ties are given (YtdlieanhdbbhiaaGreatDoorTie.lean); close each card by the builder's one call (the guide's Derived/Test/ToyasCard.lean, 'card_holds'). Laid BY PROGRAM, IN A SANDBOX (cutbox-door.mjs). By AI agents, Wed Nov 11 2026. No macro, syntax, notation, axiom, sorry.
-/
import Derived.Test.YtdlieanhdbbhiaaGreatDoorRows
import GoSem.ClaimSeven
namespace Go.Proofs.YtdlieanhdbbhiaaGreatDoor
namespace Rows

/-- THE TIED CARD OF 'remontoirlaw30.ScriptTells'. -/
def scriptTellsCard : Claim7 := { stood := { row := scriptTellsRow, standIns := [], harness := (true, "afe4f47b896c41b779b2d814647253798db4479f0e433c04811cf9b8f53a361d"), looks := true }, kinds := [], alts := [], laidByText := true, laidKinds := [.data, .data, .data, .data, .sentinel, .sentinel, .sentinel, .pinned], laidTests := true, laidLooks := .later }
def ScriptTellsCardSaid : Prop := Claim7.holds Tryz.pinned (.plain (OpenSpec.ofChange scriptTellsSpec)) scriptTellsCard

/-- THE TIED CARD OF 'remontoirlaw30.ScriptNumbers'. -/
def scriptNumbersCard : Claim7 := { stood := { row := scriptNumbersRow, standIns := [], harness := (true, "afe4f47b896c41b779b2d814647253798db4479f0e433c04811cf9b8f53a361d"), looks := true }, kinds := [], alts := [], laidByText := true, laidKinds := [.data, .data, .data, .data, .sentinel, .sentinel, .sentinel, .pinned], laidTests := true, laidLooks := .later }
def ScriptNumbersCardSaid : Prop := Claim7.holds Tryz.pinned (.plain (OpenSpec.ofChange scriptNumbersSpec)) scriptNumbersCard

/-- THE SECOND FORM's CARD OF 'remontoirlaw30.ScriptTells'. -/
def scriptTellsUptoCard : Claim7 := { stood := { row := scriptTellsUptoRow, standIns := [], harness := (true, "afe4f47b896c41b779b2d814647253798db4479f0e433c04811cf9b8f53a361d"), looks := true }, kinds := [], alts := [], laidByText := true, laidKinds := [.data, .data, .data, .data, .sentinel, .sentinel, .sentinel, .pinned], laidTests := true, laidLooks := .later }
def ScriptTellsUptoCardSaid : Prop := Claim7.holds Tryz.pinned (.plain (OpenSpec.upto scriptTellsSpec)) scriptTellsUptoCard

/-- THE SECOND FORM's CARD OF 'remontoirlaw30.ScriptNumbers'. -/
def scriptNumbersUptoCard : Claim7 := { stood := { row := scriptNumbersUptoRow, standIns := [], harness := (true, "afe4f47b896c41b779b2d814647253798db4479f0e433c04811cf9b8f53a361d"), looks := true }, kinds := [], alts := [], laidByText := true, laidKinds := [.data, .data, .data, .data, .sentinel, .sentinel, .sentinel, .pinned], laidTests := true, laidLooks := .later }
def ScriptNumbersUptoCardSaid : Prop := Claim7.holds Tryz.pinned (.plain (OpenSpec.upto scriptNumbersSpec)) scriptNumbersUptoCard
end Rows
end Go.Proofs.YtdlieanhdbbhiaaGreatDoor
