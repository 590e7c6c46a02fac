/-
  DERIVED. GIVEN WITH THE SEED: THE CARDS: each row of YtfmhnfimkpffnaaDoorRows.lean that lists a variable, with what it lists TIED to the program's text (the seventh form; the later family's looks); each row that meets fmt, with fmt's text TOLD by the authors' own Lean function (tested against real Go, not proved from fmt's source: count such statements apart). THE CARD IS WHAT COUNTS. Prove the row's statement (the work); the ties are given (YtfmhnfimkpffnaaDoorTie.lean); close each card by the builder's one call (the guide's Derived/Test/ToyasCard.lean, 'card_holds'). Laid BY PROGRAM, IN A SANDBOX (cutbox-door.mjs). By AI agents, Wed Nov 11 2026. No macro, syntax, notation, axiom, sorry.
-/
import Derived.Test.YtfmhnfimkpffnaaDoorRows
import GoSem.ClaimSeven
namespace Go.Proofs.YtfmhnfimkpffnaaDoor
namespace Rows

/-- THE TIED CARD OF 'joinerylaw15.EngineGrows'. -/
def engineGrowsCard : Claim7 := { stood := { row := engineGrowsRow, standIns := [], harness := (true, "bddd480dfd5dec2eb569e29f0aaf2f9e0ec0cc2f857550dd7433a130a19f1734"), looks := true }, kinds := [], alts := [], laidByText := true, laidKinds := [.data, .data, .data], laidTests := true, laidLooks := .later }
def EngineGrowsCardSaid : Prop := Claim7.holds Tryd.pinned (.plain (OpenSpec.ofChange engineGrowsSpec)) engineGrowsCard

/-- THE TIED CARD OF 'joinerylaw15.EngineNone'. -/
def engineNoneCard : Claim7 := { stood := { row := engineNoneRow, standIns := [], harness := (true, "bddd480dfd5dec2eb569e29f0aaf2f9e0ec0cc2f857550dd7433a130a19f1734"), looks := true }, kinds := [], alts := [], laidByText := true, laidKinds := [.data, .data, .data], laidTests := true, laidLooks := .later }
def EngineNoneCardSaid : Prop := Claim7.holds Tryd.pinned (.plain (OpenSpec.ofChange engineNoneSpec)) engineNoneCard

/-- THE TIED CARD OF 'joinerylaw15.EngineAnswers'. -/
def engineAnswersCard : Claim7 := { stood := { row := engineAnswersRow, standIns := [], harness := (true, "bddd480dfd5dec2eb569e29f0aaf2f9e0ec0cc2f857550dd7433a130a19f1734"), looks := true }, kinds := [], alts := [], laidByText := true, laidKinds := [.data, .data, .data], laidTests := true, laidLooks := .later }
def EngineAnswersCardSaid : Prop := Claim7.holds Tryd.pinned (.plain (OpenSpec.ofChange engineAnswersSpec)) engineAnswersCard

/-- THE TIED CARD OF 'joinerylaw15.EngineMoves'. -/
def engineMovesCard : Claim7 := { stood := { row := engineMovesRow, standIns := [], harness := (true, "bddd480dfd5dec2eb569e29f0aaf2f9e0ec0cc2f857550dd7433a130a19f1734"), looks := true }, kinds := [], alts := [], laidByText := true, laidKinds := [.data, .data, .data], laidTests := true, laidLooks := .later }
def EngineMovesCardSaid : Prop := Claim7.holds Tryd.pinned (.plain (OpenSpec.ofChange engineMovesSpec)) engineMovesCard

/-- THE SECOND FORM's CARD OF 'joinerylaw15.EngineGrows'. -/
def engineGrowsUptoCard : Claim7 := { stood := { row := engineGrowsUptoRow, standIns := [], harness := (true, "bddd480dfd5dec2eb569e29f0aaf2f9e0ec0cc2f857550dd7433a130a19f1734"), looks := true }, kinds := [], alts := [], laidByText := true, laidKinds := [.data, .data, .data], laidTests := true, laidLooks := .later }
def EngineGrowsUptoCardSaid : Prop := Claim7.holds Tryd.pinned (.plain (OpenSpec.upto engineGrowsSpec)) engineGrowsUptoCard

/-- THE SECOND FORM's CARD OF 'joinerylaw15.EngineNone'. -/
def engineNoneUptoCard : Claim7 := { stood := { row := engineNoneUptoRow, standIns := [], harness := (true, "bddd480dfd5dec2eb569e29f0aaf2f9e0ec0cc2f857550dd7433a130a19f1734"), looks := true }, kinds := [], alts := [], laidByText := true, laidKinds := [.data, .data, .data], laidTests := true, laidLooks := .later }
def EngineNoneUptoCardSaid : Prop := Claim7.holds Tryd.pinned (.plain (OpenSpec.upto engineNoneSpec)) engineNoneUptoCard

/-- THE SECOND FORM's CARD OF 'joinerylaw15.EngineAnswers'. -/
def engineAnswersUptoCard : Claim7 := { stood := { row := engineAnswersUptoRow, standIns := [], harness := (true, "bddd480dfd5dec2eb569e29f0aaf2f9e0ec0cc2f857550dd7433a130a19f1734"), looks := true }, kinds := [], alts := [], laidByText := true, laidKinds := [.data, .data, .data], laidTests := true, laidLooks := .later }
def EngineAnswersUptoCardSaid : Prop := Claim7.holds Tryd.pinned (.plain (OpenSpec.upto engineAnswersSpec)) engineAnswersUptoCard

/-- THE SECOND FORM's CARD OF 'joinerylaw15.EngineMoves'. -/
def engineMovesUptoCard : Claim7 := { stood := { row := engineMovesUptoRow, standIns := [], harness := (true, "bddd480dfd5dec2eb569e29f0aaf2f9e0ec0cc2f857550dd7433a130a19f1734"), looks := true }, kinds := [], alts := [], laidByText := true, laidKinds := [.data, .data, .data], laidTests := true, laidLooks := .later }
def EngineMovesUptoCardSaid : Prop := Claim7.holds Tryd.pinned (.plain (OpenSpec.upto engineMovesSpec)) engineMovesUptoCard
end Rows
end Go.Proofs.YtfmhnfimkpffnaaDoor
