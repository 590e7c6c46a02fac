/-
  DERIVED. GIVEN WITH THE SEED: THE CARDS: each row of YtbcojbmalcghbaaDoorRows.lean that lists a variable, with what it lists TIED to the program's text (the seventh form; the later family's looks); each row that meets fmt, with fmt's text TOLD by the authors' own Lean function (tested against real Go, not proved from fmt's source: count such statements apart). THE CARD IS WHAT COUNTS. Prove the row's statement (the work); the ties are given (YtbcojbmalcghbaaDoorTie.lean); close each card by the builder's one call (the guide's Derived/Test/ToyasCard.lean, 'card_holds'). Laid BY PROGRAM, IN A SANDBOX (cutbox-door.mjs). By AI agents, Wed Nov 11 2026. No macro, syntax, notation, axiom, sorry.
-/
import Derived.Test.YtbcojbmalcghbaaDoorRows
import GoSem.ClaimSeven
namespace Go.Proofs.YtbcojbmalcghbaaDoor
namespace Rows

/-- THE TIED CARD OF 'joinerylaw16.MatchFirst'. -/
def matchFirstCard : Claim7 := { stood := { row := matchFirstRow, standIns := [], harness := (true, "8aa61df4e82475081fe3e74a8ac6e91d118017ead69d553e152a5e9218672d2f"), looks := true }, kinds := [], alts := [], laidByText := true, laidKinds := [.data, .data, .data], laidTests := true, laidLooks := .later }
def MatchFirstCardSaid : Prop := Claim7.holds Tryd.pinned (.plain (OpenSpec.ofChange matchFirstSpec)) matchFirstCard

/-- THE TIED CARD OF 'joinerylaw16.MatchNone'. -/
def matchNoneCard : Claim7 := { stood := { row := matchNoneRow, standIns := [], harness := (true, "8aa61df4e82475081fe3e74a8ac6e91d118017ead69d553e152a5e9218672d2f"), looks := true }, kinds := [], alts := [], laidByText := true, laidKinds := [.data, .data, .data], laidTests := true, laidLooks := .later }
def MatchNoneCardSaid : Prop := Claim7.holds Tryd.pinned (.plain (OpenSpec.ofChange matchNoneSpec)) matchNoneCard

/-- THE TIED CARD OF 'joinerylaw16.MatchAlike'. -/
def matchAlikeCard : Claim7 := { stood := { row := matchAlikeRow, standIns := [], harness := (true, "8aa61df4e82475081fe3e74a8ac6e91d118017ead69d553e152a5e9218672d2f"), looks := true }, kinds := [], alts := [], laidByText := true, laidKinds := [.data, .data, .data], laidTests := true, laidLooks := .later }
def MatchAlikeCardSaid : Prop := Claim7.holds Tryd.pinned (.plain (OpenSpec.ofChange matchAlikeSpec)) matchAlikeCard

/-- THE TIED CARD OF 'joinerylaw16.MatchSelf'. -/
def matchSelfCard : Claim7 := { stood := { row := matchSelfRow, standIns := [], harness := (true, "8aa61df4e82475081fe3e74a8ac6e91d118017ead69d553e152a5e9218672d2f"), looks := true }, kinds := [], alts := [], laidByText := true, laidKinds := [.data, .data, .data], laidTests := true, laidLooks := .later }
def MatchSelfCardSaid : Prop := Claim7.holds Tryd.pinned (.plain (OpenSpec.ofChange matchSelfSpec)) matchSelfCard

/-- THE TIED CARD OF 'joinerylaw16.MatchAhead'. -/
def matchAheadCard : Claim7 := { stood := { row := matchAheadRow, standIns := [], harness := (true, "8aa61df4e82475081fe3e74a8ac6e91d118017ead69d553e152a5e9218672d2f"), looks := true }, kinds := [], alts := [], laidByText := true, laidKinds := [.data, .data, .data], laidTests := true, laidLooks := .later }
def MatchAheadCardSaid : Prop := Claim7.holds Tryd.pinned (.plain (OpenSpec.ofChange matchAheadSpec)) matchAheadCard

/-- THE TIED CARD OF 'joinerylaw14.ShapePrints'. -/
def shapePrintsCard : Claim7 := { stood := { row := shapePrintsRow, standIns := [], harness := (true, "8aa61df4e82475081fe3e74a8ac6e91d118017ead69d553e152a5e9218672d2f"), looks := true }, kinds := [], alts := [], laidByText := true, laidKinds := [.data, .data, .data], laidTests := true, laidLooks := .later }
def ShapePrintsCardSaid : Prop := Claim7.holds Tryd.pinned (.plain (OpenSpec.ofChange shapePrintsSpec)) shapePrintsCard

/-- THE TIED CARD OF 'joinerylaw14.ShapeParses'. -/
def shapeParsesCard : Claim7 := { stood := { row := shapeParsesRow, standIns := [], harness := (true, "8aa61df4e82475081fe3e74a8ac6e91d118017ead69d553e152a5e9218672d2f"), looks := true }, kinds := [], alts := [], laidByText := true, laidKinds := [.data, .data, .data], laidTests := true, laidLooks := .later }
def ShapeParsesCardSaid : Prop := Claim7.holds Tryd.pinned (.plain (OpenSpec.ofChange shapeParsesSpec)) shapeParsesCard

/-- THE TIED CARD OF 'joinerylaw14.ShapeBack'. -/
def shapeBackCard : Claim7 := { stood := { row := shapeBackRow, standIns := [], harness := (true, "8aa61df4e82475081fe3e74a8ac6e91d118017ead69d553e152a5e9218672d2f"), looks := true }, kinds := [], alts := [], laidByText := true, laidKinds := [.data, .data, .data], laidTests := true, laidLooks := .later }
def ShapeBackCardSaid : Prop := Claim7.holds Tryd.pinned (.plain (OpenSpec.ofChange shapeBackSpec)) shapeBackCard

/-- THE TIED CARD OF 'joinerylaw14.ShapeApart'. -/
def shapeApartCard : Claim7 := { stood := { row := shapeApartRow, standIns := [], harness := (true, "8aa61df4e82475081fe3e74a8ac6e91d118017ead69d553e152a5e9218672d2f"), looks := true }, kinds := [], alts := [], laidByText := true, laidKinds := [.data, .data, .data], laidTests := true, laidLooks := .later }
def ShapeApartCardSaid : Prop := Claim7.holds Tryd.pinned (.plain (OpenSpec.ofChange shapeApartSpec)) shapeApartCard

/-- THE TIED CARD OF 'joinerylaw14.ShapeCut'. -/
def shapeCutCard : Claim7 := { stood := { row := shapeCutRow, standIns := [], harness := (true, "8aa61df4e82475081fe3e74a8ac6e91d118017ead69d553e152a5e9218672d2f"), looks := true }, kinds := [], alts := [], laidByText := true, laidKinds := [.data, .data, .data], laidTests := true, laidLooks := .later }
def ShapeCutCardSaid : Prop := Claim7.holds Tryd.pinned (.plain (OpenSpec.ofChange shapeCutSpec)) shapeCutCard

/-- THE TIED CARD OF 'joinerylaw14.ShapeWays'. -/
def shapeWaysCard : Claim7 := { stood := { row := shapeWaysRow, standIns := [], harness := (true, "8aa61df4e82475081fe3e74a8ac6e91d118017ead69d553e152a5e9218672d2f"), looks := true }, kinds := [], alts := [], laidByText := true, laidKinds := [.data, .data, .data], laidTests := true, laidLooks := .later }
def ShapeWaysCardSaid : Prop := Claim7.holds Tryd.pinned (.plain (OpenSpec.ofChange shapeWaysSpec)) shapeWaysCard

/-- THE SECOND FORM's CARD OF 'joinerylaw16.MatchFirst'. -/
def matchFirstUptoCard : Claim7 := { stood := { row := matchFirstUptoRow, standIns := [], harness := (true, "8aa61df4e82475081fe3e74a8ac6e91d118017ead69d553e152a5e9218672d2f"), looks := true }, kinds := [], alts := [], laidByText := true, laidKinds := [.data, .data, .data], laidTests := true, laidLooks := .later }
def MatchFirstUptoCardSaid : Prop := Claim7.holds Tryd.pinned (.plain (OpenSpec.upto matchFirstSpec)) matchFirstUptoCard

/-- THE SECOND FORM's CARD OF 'joinerylaw16.MatchNone'. -/
def matchNoneUptoCard : Claim7 := { stood := { row := matchNoneUptoRow, standIns := [], harness := (true, "8aa61df4e82475081fe3e74a8ac6e91d118017ead69d553e152a5e9218672d2f"), looks := true }, kinds := [], alts := [], laidByText := true, laidKinds := [.data, .data, .data], laidTests := true, laidLooks := .later }
def MatchNoneUptoCardSaid : Prop := Claim7.holds Tryd.pinned (.plain (OpenSpec.upto matchNoneSpec)) matchNoneUptoCard

/-- THE SECOND FORM's CARD OF 'joinerylaw16.MatchAlike'. -/
def matchAlikeUptoCard : Claim7 := { stood := { row := matchAlikeUptoRow, standIns := [], harness := (true, "8aa61df4e82475081fe3e74a8ac6e91d118017ead69d553e152a5e9218672d2f"), looks := true }, kinds := [], alts := [], laidByText := true, laidKinds := [.data, .data, .data], laidTests := true, laidLooks := .later }
def MatchAlikeUptoCardSaid : Prop := Claim7.holds Tryd.pinned (.plain (OpenSpec.upto matchAlikeSpec)) matchAlikeUptoCard

/-- THE SECOND FORM's CARD OF 'joinerylaw16.MatchSelf'. -/
def matchSelfUptoCard : Claim7 := { stood := { row := matchSelfUptoRow, standIns := [], harness := (true, "8aa61df4e82475081fe3e74a8ac6e91d118017ead69d553e152a5e9218672d2f"), looks := true }, kinds := [], alts := [], laidByText := true, laidKinds := [.data, .data, .data], laidTests := true, laidLooks := .later }
def MatchSelfUptoCardSaid : Prop := Claim7.holds Tryd.pinned (.plain (OpenSpec.upto matchSelfSpec)) matchSelfUptoCard

/-- THE SECOND FORM's CARD OF 'joinerylaw16.MatchAhead'. -/
def matchAheadUptoCard : Claim7 := { stood := { row := matchAheadUptoRow, standIns := [], harness := (true, "8aa61df4e82475081fe3e74a8ac6e91d118017ead69d553e152a5e9218672d2f"), looks := true }, kinds := [], alts := [], laidByText := true, laidKinds := [.data, .data, .data], laidTests := true, laidLooks := .later }
def MatchAheadUptoCardSaid : Prop := Claim7.holds Tryd.pinned (.plain (OpenSpec.upto matchAheadSpec)) matchAheadUptoCard

/-- THE SECOND FORM's CARD OF 'joinerylaw14.ShapePrints'. -/
def shapePrintsUptoCard : Claim7 := { stood := { row := shapePrintsUptoRow, standIns := [], harness := (true, "8aa61df4e82475081fe3e74a8ac6e91d118017ead69d553e152a5e9218672d2f"), looks := true }, kinds := [], alts := [], laidByText := true, laidKinds := [.data, .data, .data], laidTests := true, laidLooks := .later }
def ShapePrintsUptoCardSaid : Prop := Claim7.holds Tryd.pinned (.plain (OpenSpec.upto shapePrintsSpec)) shapePrintsUptoCard

/-- THE SECOND FORM's CARD OF 'joinerylaw14.ShapeParses'. -/
def shapeParsesUptoCard : Claim7 := { stood := { row := shapeParsesUptoRow, standIns := [], harness := (true, "8aa61df4e82475081fe3e74a8ac6e91d118017ead69d553e152a5e9218672d2f"), looks := true }, kinds := [], alts := [], laidByText := true, laidKinds := [.data, .data, .data], laidTests := true, laidLooks := .later }
def ShapeParsesUptoCardSaid : Prop := Claim7.holds Tryd.pinned (.plain (OpenSpec.upto shapeParsesSpec)) shapeParsesUptoCard

/-- THE SECOND FORM's CARD OF 'joinerylaw14.ShapeBack'. -/
def shapeBackUptoCard : Claim7 := { stood := { row := shapeBackUptoRow, standIns := [], harness := (true, "8aa61df4e82475081fe3e74a8ac6e91d118017ead69d553e152a5e9218672d2f"), looks := true }, kinds := [], alts := [], laidByText := true, laidKinds := [.data, .data, .data], laidTests := true, laidLooks := .later }
def ShapeBackUptoCardSaid : Prop := Claim7.holds Tryd.pinned (.plain (OpenSpec.upto shapeBackSpec)) shapeBackUptoCard

/-- THE SECOND FORM's CARD OF 'joinerylaw14.ShapeApart'. -/
def shapeApartUptoCard : Claim7 := { stood := { row := shapeApartUptoRow, standIns := [], harness := (true, "8aa61df4e82475081fe3e74a8ac6e91d118017ead69d553e152a5e9218672d2f"), looks := true }, kinds := [], alts := [], laidByText := true, laidKinds := [.data, .data, .data], laidTests := true, laidLooks := .later }
def ShapeApartUptoCardSaid : Prop := Claim7.holds Tryd.pinned (.plain (OpenSpec.upto shapeApartSpec)) shapeApartUptoCard

/-- THE SECOND FORM's CARD OF 'joinerylaw14.ShapeCut'. -/
def shapeCutUptoCard : Claim7 := { stood := { row := shapeCutUptoRow, standIns := [], harness := (true, "8aa61df4e82475081fe3e74a8ac6e91d118017ead69d553e152a5e9218672d2f"), looks := true }, kinds := [], alts := [], laidByText := true, laidKinds := [.data, .data, .data], laidTests := true, laidLooks := .later }
def ShapeCutUptoCardSaid : Prop := Claim7.holds Tryd.pinned (.plain (OpenSpec.upto shapeCutSpec)) shapeCutUptoCard

/-- THE SECOND FORM's CARD OF 'joinerylaw14.ShapeWays'. -/
def shapeWaysUptoCard : Claim7 := { stood := { row := shapeWaysUptoRow, standIns := [], harness := (true, "8aa61df4e82475081fe3e74a8ac6e91d118017ead69d553e152a5e9218672d2f"), looks := true }, kinds := [], alts := [], laidByText := true, laidKinds := [.data, .data, .data], laidTests := true, laidLooks := .later }
def ShapeWaysUptoCardSaid : Prop := Claim7.holds Tryd.pinned (.plain (OpenSpec.upto shapeWaysSpec)) shapeWaysUptoCard
end Rows
end Go.Proofs.YtbcojbmalcghbaaDoor
