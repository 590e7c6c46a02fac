/-
  DERIVED. GIVEN WITH THE SEED: THE CARDS: each row of YtfmhnfimkpffnaaGreatDoorRows.lean that lists a variable, with what it lists TIED to the program's text (the seventh form; the later family's looks); each row that meets fmt, with fmt's text TOLD by the authors' own Lean function (tested against real Go, not proved from fmt's source: count such statements apart). THE CARD IS WHAT COUNTS. Prove the row's statement (the work); the ties are given (YtfmhnfimkpffnaaGreatDoorTie.lean); close each card by the builder's one call (the guide's Derived/Test/ToyasCard.lean, 'card_holds'). Laid BY PROGRAM, IN A SANDBOX (cutbox-door.mjs). By AI agents, Wed Nov 11 2026. No macro, syntax, notation, axiom, sorry.
-/
import Derived.Test.YtfmhnfimkpffnaaGreatDoorRows
import GoSem.ClaimSeven
namespace Go.Proofs.YtfmhnfimkpffnaaGreatDoor
namespace Rows

/-- THE TIED CARD OF 'joinerylaw15.EngineRuns'. -/
def engineRunsCard : Claim7 := { stood := { row := engineRunsRow, standIns := [], harness := (true, "b307b2bd51ad3c77d4c92350068ca3b7d263a88977fbae3154bf8d9d96ec1e8e"), looks := true }, kinds := [], alts := [], laidByText := true, laidKinds := [.data, .data, .data], laidTests := true, laidLooks := .later }
def EngineRunsCardSaid : Prop := Claim7.holds Tryz.pinned (.plain (OpenSpec.ofChange engineRunsSpec)) engineRunsCard

/-- THE TIED CARD OF 'joinerylaw15.EngineSame'. -/
def engineSameCard : Claim7 := { stood := { row := engineSameRow, standIns := [], harness := (true, "b307b2bd51ad3c77d4c92350068ca3b7d263a88977fbae3154bf8d9d96ec1e8e"), looks := true }, kinds := [], alts := [], laidByText := true, laidKinds := [.data, .data, .data], laidTests := true, laidLooks := .later }
def EngineSameCardSaid : Prop := Claim7.holds Tryz.pinned (.plain (OpenSpec.ofChange engineSameSpec)) engineSameCard

/-- THE SECOND FORM's CARD OF 'joinerylaw15.EngineRuns'. -/
def engineRunsUptoCard : Claim7 := { stood := { row := engineRunsUptoRow, standIns := [], harness := (true, "b307b2bd51ad3c77d4c92350068ca3b7d263a88977fbae3154bf8d9d96ec1e8e"), looks := true }, kinds := [], alts := [], laidByText := true, laidKinds := [.data, .data, .data], laidTests := true, laidLooks := .later }
def EngineRunsUptoCardSaid : Prop := Claim7.holds Tryz.pinned (.plain (OpenSpec.upto engineRunsSpec)) engineRunsUptoCard

/-- THE SECOND FORM's CARD OF 'joinerylaw15.EngineSame'. -/
def engineSameUptoCard : Claim7 := { stood := { row := engineSameUptoRow, standIns := [], harness := (true, "b307b2bd51ad3c77d4c92350068ca3b7d263a88977fbae3154bf8d9d96ec1e8e"), looks := true }, kinds := [], alts := [], laidByText := true, laidKinds := [.data, .data, .data], laidTests := true, laidLooks := .later }
def EngineSameUptoCardSaid : Prop := Claim7.holds Tryz.pinned (.plain (OpenSpec.upto engineSameSpec)) engineSameUptoCard
end Rows
end Go.Proofs.YtfmhnfimkpffnaaGreatDoor
