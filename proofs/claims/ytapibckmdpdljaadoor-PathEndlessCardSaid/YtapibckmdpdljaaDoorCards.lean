/-
  DERIVED. GIVEN WITH THE SEED: THE CARDS: each row of YtapibckmdpdljaaDoorRows.lean that lists a variable, with what it lists TIED to the program's text (the seventh form; the later family's looks); each row that meets fmt, with fmt's text TOLD by the authors' own Lean function (tested against real Go, not proved from fmt's source: count such statements apart). THE CARD IS WHAT COUNTS. Prove the row's statement (the work); the ties are given (YtapibckmdpdljaaDoorTie.lean); close each card by the builder's one call (the guide's Derived/Test/ToyasCard.lean, 'card_holds'). Laid BY PROGRAM, IN A SANDBOX (cutbox-door.mjs). By AI agents, Wed Nov 11 2026. No macro, syntax, notation, axiom, sorry.
-/
import Derived.Test.YtapibckmdpdljaaDoorRows
import GoSem.ClaimSeven
namespace Go.Proofs.YtapibckmdpdljaaDoor
namespace Rows

/-- THE TIED CARD OF 'joinerylaw09.PathLeads'. -/
def pathLeadsCard : Claim7 := { stood := { row := pathLeadsRow, standIns := [], harness := (true, "13d9c7b0cf76a0ce59a956f6bcabe4d883017d16fd43b76b602544cf0bc1a375"), looks := true }, kinds := [], alts := [], laidByText := true, laidKinds := [.data], laidTests := true, laidLooks := .later }
def PathLeadsCardSaid : Prop := Claim7.holds Tryd.pinned (.plain (OpenSpec.ofChange pathLeadsSpec)) pathLeadsCard

/-- THE TIED CARD OF 'joinerylaw09.PathOnce'. -/
def pathOnceCard : Claim7 := { stood := { row := pathOnceRow, standIns := [], harness := (true, "13d9c7b0cf76a0ce59a956f6bcabe4d883017d16fd43b76b602544cf0bc1a375"), looks := true }, kinds := [], alts := [], laidByText := true, laidKinds := [.data], laidTests := true, laidLooks := .later }
def PathOnceCardSaid : Prop := Claim7.holds Tryd.pinned (.plain (OpenSpec.ofChange pathOnceSpec)) pathOnceCard

/-- THE TIED CARD OF 'joinerylaw09.PathAlong'. -/
def pathAlongCard : Claim7 := { stood := { row := pathAlongRow, standIns := [], harness := (true, "13d9c7b0cf76a0ce59a956f6bcabe4d883017d16fd43b76b602544cf0bc1a375"), looks := true }, kinds := [], alts := [], laidByText := true, laidKinds := [.data], laidTests := true, laidLooks := .later }
def PathAlongCardSaid : Prop := Claim7.holds Tryd.pinned (.plain (OpenSpec.ofChange pathAlongSpec)) pathAlongCard

/-- THE TIED CARD OF 'joinerylaw09.PathSteps'. -/
def pathStepsCard : Claim7 := { stood := { row := pathStepsRow, standIns := [], harness := (true, "13d9c7b0cf76a0ce59a956f6bcabe4d883017d16fd43b76b602544cf0bc1a375"), looks := true }, kinds := [], alts := [], laidByText := true, laidKinds := [.data], laidTests := true, laidLooks := .later }
def PathStepsCardSaid : Prop := Claim7.holds Tryd.pinned (.plain (OpenSpec.ofChange pathStepsSpec)) pathStepsCard

/-- THE TIED CARD OF 'joinerylaw10.SkelBuilds'. -/
def skelBuildsCard : Claim7 := { stood := { row := skelBuildsRow, standIns := [], harness := (true, "13d9c7b0cf76a0ce59a956f6bcabe4d883017d16fd43b76b602544cf0bc1a375"), looks := true }, kinds := [], alts := [], laidByText := true, laidKinds := [.data], laidTests := true, laidLooks := .later }
def SkelBuildsCardSaid : Prop := Claim7.holds Tryd.pinned (.plain (OpenSpec.ofChange skelBuildsSpec)) skelBuildsCard

/-- THE TIED CARD OF 'joinerylaw10.SkelWays'. -/
def skelWaysCard : Claim7 := { stood := { row := skelWaysRow, standIns := [], harness := (true, "13d9c7b0cf76a0ce59a956f6bcabe4d883017d16fd43b76b602544cf0bc1a375"), looks := true }, kinds := [], alts := [], laidByText := true, laidKinds := [.data], laidTests := true, laidLooks := .later }
def SkelWaysCardSaid : Prop := Claim7.holds Tryd.pinned (.plain (OpenSpec.ofChange skelWaysSpec)) skelWaysCard

/-- THE TIED CARD OF 'joinerylaw10.SkelPlaces'. -/
def skelPlacesCard : Claim7 := { stood := { row := skelPlacesRow, standIns := [], harness := (true, "13d9c7b0cf76a0ce59a956f6bcabe4d883017d16fd43b76b602544cf0bc1a375"), looks := true }, kinds := [], alts := [], laidByText := true, laidKinds := [.data], laidTests := true, laidLooks := .later }
def SkelPlacesCardSaid : Prop := Claim7.holds Tryd.pinned (.plain (OpenSpec.ofChange skelPlacesSpec)) skelPlacesCard

/-- THE TIED CARD OF 'joinerylaw10.SkelCuts'. -/
def skelCutsCard : Claim7 := { stood := { row := skelCutsRow, standIns := [], harness := (true, "13d9c7b0cf76a0ce59a956f6bcabe4d883017d16fd43b76b602544cf0bc1a375"), looks := true }, kinds := [], alts := [], laidByText := true, laidKinds := [.data], laidTests := true, laidLooks := .later }
def SkelCutsCardSaid : Prop := Claim7.holds Tryd.pinned (.plain (OpenSpec.ofChange skelCutsSpec)) skelCutsCard

/-- THE TIED CARD OF 'joinerylaw09.PathEndless'. -/
def pathEndlessCard : Claim7 := { stood := { row := pathEndlessRow, standIns := [], harness := (true, "13d9c7b0cf76a0ce59a956f6bcabe4d883017d16fd43b76b602544cf0bc1a375"), looks := true }, kinds := [], alts := [], laidByText := true, laidKinds := [.data], laidTests := true, laidLooks := .later }
def PathEndlessCardSaid : Prop := Claim7.holds Tryd.pinned (.plain (OpenSpec.ofChange pathEndlessSpec)) pathEndlessCard

/-- THE TIED CARD OF 'joinerylaw09.PathRuns'. -/
def pathRunsCard : Claim7 := { stood := { row := pathRunsRow, standIns := [], harness := (true, "13d9c7b0cf76a0ce59a956f6bcabe4d883017d16fd43b76b602544cf0bc1a375"), looks := true }, kinds := [], alts := [], laidByText := true, laidKinds := [.data], laidTests := true, laidLooks := .later }
def PathRunsCardSaid : Prop := Claim7.holds Tryd.pinned (.plain (OpenSpec.ofChange pathRunsSpec)) pathRunsCard

/-- THE SECOND FORM's CARD OF 'joinerylaw09.PathLeads'. -/
def pathLeadsUptoCard : Claim7 := { stood := { row := pathLeadsUptoRow, standIns := [], harness := (true, "13d9c7b0cf76a0ce59a956f6bcabe4d883017d16fd43b76b602544cf0bc1a375"), looks := true }, kinds := [], alts := [], laidByText := true, laidKinds := [.data], laidTests := true, laidLooks := .later }
def PathLeadsUptoCardSaid : Prop := Claim7.holds Tryd.pinned (.plain (OpenSpec.upto pathLeadsSpec)) pathLeadsUptoCard

/-- THE SECOND FORM's CARD OF 'joinerylaw09.PathOnce'. -/
def pathOnceUptoCard : Claim7 := { stood := { row := pathOnceUptoRow, standIns := [], harness := (true, "13d9c7b0cf76a0ce59a956f6bcabe4d883017d16fd43b76b602544cf0bc1a375"), looks := true }, kinds := [], alts := [], laidByText := true, laidKinds := [.data], laidTests := true, laidLooks := .later }
def PathOnceUptoCardSaid : Prop := Claim7.holds Tryd.pinned (.plain (OpenSpec.upto pathOnceSpec)) pathOnceUptoCard

/-- THE SECOND FORM's CARD OF 'joinerylaw09.PathAlong'. -/
def pathAlongUptoCard : Claim7 := { stood := { row := pathAlongUptoRow, standIns := [], harness := (true, "13d9c7b0cf76a0ce59a956f6bcabe4d883017d16fd43b76b602544cf0bc1a375"), looks := true }, kinds := [], alts := [], laidByText := true, laidKinds := [.data], laidTests := true, laidLooks := .later }
def PathAlongUptoCardSaid : Prop := Claim7.holds Tryd.pinned (.plain (OpenSpec.upto pathAlongSpec)) pathAlongUptoCard

/-- THE SECOND FORM's CARD OF 'joinerylaw09.PathSteps'. -/
def pathStepsUptoCard : Claim7 := { stood := { row := pathStepsUptoRow, standIns := [], harness := (true, "13d9c7b0cf76a0ce59a956f6bcabe4d883017d16fd43b76b602544cf0bc1a375"), looks := true }, kinds := [], alts := [], laidByText := true, laidKinds := [.data], laidTests := true, laidLooks := .later }
def PathStepsUptoCardSaid : Prop := Claim7.holds Tryd.pinned (.plain (OpenSpec.upto pathStepsSpec)) pathStepsUptoCard

/-- THE SECOND FORM's CARD OF 'joinerylaw10.SkelBuilds'. -/
def skelBuildsUptoCard : Claim7 := { stood := { row := skelBuildsUptoRow, standIns := [], harness := (true, "13d9c7b0cf76a0ce59a956f6bcabe4d883017d16fd43b76b602544cf0bc1a375"), looks := true }, kinds := [], alts := [], laidByText := true, laidKinds := [.data], laidTests := true, laidLooks := .later }
def SkelBuildsUptoCardSaid : Prop := Claim7.holds Tryd.pinned (.plain (OpenSpec.upto skelBuildsSpec)) skelBuildsUptoCard

/-- THE SECOND FORM's CARD OF 'joinerylaw10.SkelWays'. -/
def skelWaysUptoCard : Claim7 := { stood := { row := skelWaysUptoRow, standIns := [], harness := (true, "13d9c7b0cf76a0ce59a956f6bcabe4d883017d16fd43b76b602544cf0bc1a375"), looks := true }, kinds := [], alts := [], laidByText := true, laidKinds := [.data], laidTests := true, laidLooks := .later }
def SkelWaysUptoCardSaid : Prop := Claim7.holds Tryd.pinned (.plain (OpenSpec.upto skelWaysSpec)) skelWaysUptoCard

/-- THE SECOND FORM's CARD OF 'joinerylaw10.SkelPlaces'. -/
def skelPlacesUptoCard : Claim7 := { stood := { row := skelPlacesUptoRow, standIns := [], harness := (true, "13d9c7b0cf76a0ce59a956f6bcabe4d883017d16fd43b76b602544cf0bc1a375"), looks := true }, kinds := [], alts := [], laidByText := true, laidKinds := [.data], laidTests := true, laidLooks := .later }
def SkelPlacesUptoCardSaid : Prop := Claim7.holds Tryd.pinned (.plain (OpenSpec.upto skelPlacesSpec)) skelPlacesUptoCard

/-- THE SECOND FORM's CARD OF 'joinerylaw10.SkelCuts'. -/
def skelCutsUptoCard : Claim7 := { stood := { row := skelCutsUptoRow, standIns := [], harness := (true, "13d9c7b0cf76a0ce59a956f6bcabe4d883017d16fd43b76b602544cf0bc1a375"), looks := true }, kinds := [], alts := [], laidByText := true, laidKinds := [.data], laidTests := true, laidLooks := .later }
def SkelCutsUptoCardSaid : Prop := Claim7.holds Tryd.pinned (.plain (OpenSpec.upto skelCutsSpec)) skelCutsUptoCard

/-- THE SECOND FORM's CARD OF 'joinerylaw09.PathEndless'. -/
def pathEndlessUptoCard : Claim7 := { stood := { row := pathEndlessUptoRow, standIns := [], harness := (true, "13d9c7b0cf76a0ce59a956f6bcabe4d883017d16fd43b76b602544cf0bc1a375"), looks := true }, kinds := [], alts := [], laidByText := true, laidKinds := [.data], laidTests := true, laidLooks := .later }
def PathEndlessUptoCardSaid : Prop := Claim7.holds Tryd.pinned (.plain (OpenSpec.upto pathEndlessSpec)) pathEndlessUptoCard

/-- THE SECOND FORM's CARD OF 'joinerylaw09.PathRuns'. -/
def pathRunsUptoCard : Claim7 := { stood := { row := pathRunsUptoRow, standIns := [], harness := (true, "13d9c7b0cf76a0ce59a956f6bcabe4d883017d16fd43b76b602544cf0bc1a375"), looks := true }, kinds := [], alts := [], laidByText := true, laidKinds := [.data], laidTests := true, laidLooks := .later }
def PathRunsUptoCardSaid : Prop := Claim7.holds Tryd.pinned (.plain (OpenSpec.upto pathRunsSpec)) pathRunsUptoCard
end Rows
end Go.Proofs.YtapibckmdpdljaaDoor
