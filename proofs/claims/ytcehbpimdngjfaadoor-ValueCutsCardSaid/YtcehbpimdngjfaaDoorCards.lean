/-
  DERIVED. GIVEN WITH THE SEED: THE CARDS: each row of YtcehbpimdngjfaaDoorRows.lean that lists a variable, with what it lists TIED to the program's text (the seventh form; the later family's looks); each row that meets fmt, with fmt's text TOLD by the authors' own Lean function (tested against real Go, not proved from fmt's source: count such statements apart). THE CARD IS WHAT COUNTS. Prove the row's statement (the work); the ties are given (YtcehbpimdngjfaaDoorTie.lean); close each card by the builder's one call (the guide's Derived/Test/ToyasCard.lean, 'card_holds'). Laid BY PROGRAM, IN A SANDBOX (cutbox-door.mjs). By AI agents, Wed Nov 11 2026. No macro, syntax, notation, axiom, sorry.
-/
import Derived.Test.YtcehbpimdngjfaaDoorRows
import GoSem.ClaimSeven
namespace Go.Proofs.YtcehbpimdngjfaaDoor
namespace Rows

/-- THE TIED CARD OF 'joinerylaw11.ValueAll'. -/
def valueAllCard : Claim7 := { stood := { row := valueAllRow, standIns := [], harness := (true, "44ecaefe8f35b4120cf5d2eb7e508e68f012c59f62bf85e87c4bf443f6a4b97c"), looks := true }, kinds := [], alts := [], laidByText := true, laidKinds := [.data, .data], laidTests := true, laidLooks := .later }
def ValueAllCardSaid : Prop := Claim7.holds Tryd.pinned (.plain (OpenSpec.ofChange valueAllSpec)) valueAllCard

/-- THE TIED CARD OF 'joinerylaw11.ValueFacts'. -/
def valueFactsCard : Claim7 := { stood := { row := valueFactsRow, standIns := [], harness := (true, "44ecaefe8f35b4120cf5d2eb7e508e68f012c59f62bf85e87c4bf443f6a4b97c"), looks := true }, kinds := [], alts := [], laidByText := true, laidKinds := [.data, .data], laidTests := true, laidLooks := .later }
def ValueFactsCardSaid : Prop := Claim7.holds Tryd.pinned (.plain (OpenSpec.ofChange valueFactsSpec)) valueFactsCard

/-- THE TIED CARD OF 'joinerylaw11.ValueCuts'. -/
def valueCutsCard : Claim7 := { stood := { row := valueCutsRow, standIns := [], harness := (true, "44ecaefe8f35b4120cf5d2eb7e508e68f012c59f62bf85e87c4bf443f6a4b97c"), looks := true }, kinds := [], alts := [], laidByText := true, laidKinds := [.data, .data], laidTests := true, laidLooks := .later }
def ValueCutsCardSaid : Prop := Claim7.holds Tryd.pinned (.plain (OpenSpec.ofChange valueCutsSpec)) valueCutsCard

/-- THE TIED CARD OF 'joinerylaw11.ValueKinds'. -/
def valueKindsCard : Claim7 := { stood := { row := valueKindsRow, standIns := [], harness := (true, "44ecaefe8f35b4120cf5d2eb7e508e68f012c59f62bf85e87c4bf443f6a4b97c"), looks := true }, kinds := [], alts := [], laidByText := true, laidKinds := [.data, .data], laidTests := true, laidLooks := .later }
def ValueKindsCardSaid : Prop := Claim7.holds Tryd.pinned (.plain (OpenSpec.ofChange valueKindsSpec)) valueKindsCard

/-- THE TIED CARD OF 'joinerylaw11.ValueNone'. -/
def valueNoneCard : Claim7 := { stood := { row := valueNoneRow, standIns := [], harness := (true, "44ecaefe8f35b4120cf5d2eb7e508e68f012c59f62bf85e87c4bf443f6a4b97c"), looks := true }, kinds := [], alts := [], laidByText := true, laidKinds := [.data, .data], laidTests := true, laidLooks := .later }
def ValueNoneCardSaid : Prop := Claim7.holds Tryd.pinned (.plain (OpenSpec.ofChange valueNoneSpec)) valueNoneCard

/-- THE TIED CARD OF 'joinerylaw11.ValueTells'. -/
def valueTellsCard : Claim7 := { stood := { row := valueTellsRow, standIns := [], harness := (true, "44ecaefe8f35b4120cf5d2eb7e508e68f012c59f62bf85e87c4bf443f6a4b97c"), looks := true }, kinds := [], alts := [], laidByText := true, laidKinds := [.data, .data], laidTests := true, laidLooks := .later }
def ValueTellsCardSaid : Prop := Claim7.holds Tryd.pinned (.plain (OpenSpec.ofChange valueTellsSpec)) valueTellsCard

/-- THE SECOND FORM's CARD OF 'joinerylaw11.ValueAll'. -/
def valueAllUptoCard : Claim7 := { stood := { row := valueAllUptoRow, standIns := [], harness := (true, "44ecaefe8f35b4120cf5d2eb7e508e68f012c59f62bf85e87c4bf443f6a4b97c"), looks := true }, kinds := [], alts := [], laidByText := true, laidKinds := [.data, .data], laidTests := true, laidLooks := .later }
def ValueAllUptoCardSaid : Prop := Claim7.holds Tryd.pinned (.plain (OpenSpec.upto valueAllSpec)) valueAllUptoCard

/-- THE SECOND FORM's CARD OF 'joinerylaw11.ValueFacts'. -/
def valueFactsUptoCard : Claim7 := { stood := { row := valueFactsUptoRow, standIns := [], harness := (true, "44ecaefe8f35b4120cf5d2eb7e508e68f012c59f62bf85e87c4bf443f6a4b97c"), looks := true }, kinds := [], alts := [], laidByText := true, laidKinds := [.data, .data], laidTests := true, laidLooks := .later }
def ValueFactsUptoCardSaid : Prop := Claim7.holds Tryd.pinned (.plain (OpenSpec.upto valueFactsSpec)) valueFactsUptoCard

/-- THE SECOND FORM's CARD OF 'joinerylaw11.ValueCuts'. -/
def valueCutsUptoCard : Claim7 := { stood := { row := valueCutsUptoRow, standIns := [], harness := (true, "44ecaefe8f35b4120cf5d2eb7e508e68f012c59f62bf85e87c4bf443f6a4b97c"), looks := true }, kinds := [], alts := [], laidByText := true, laidKinds := [.data, .data], laidTests := true, laidLooks := .later }
def ValueCutsUptoCardSaid : Prop := Claim7.holds Tryd.pinned (.plain (OpenSpec.upto valueCutsSpec)) valueCutsUptoCard

/-- THE SECOND FORM's CARD OF 'joinerylaw11.ValueKinds'. -/
def valueKindsUptoCard : Claim7 := { stood := { row := valueKindsUptoRow, standIns := [], harness := (true, "44ecaefe8f35b4120cf5d2eb7e508e68f012c59f62bf85e87c4bf443f6a4b97c"), looks := true }, kinds := [], alts := [], laidByText := true, laidKinds := [.data, .data], laidTests := true, laidLooks := .later }
def ValueKindsUptoCardSaid : Prop := Claim7.holds Tryd.pinned (.plain (OpenSpec.upto valueKindsSpec)) valueKindsUptoCard

/-- THE SECOND FORM's CARD OF 'joinerylaw11.ValueNone'. -/
def valueNoneUptoCard : Claim7 := { stood := { row := valueNoneUptoRow, standIns := [], harness := (true, "44ecaefe8f35b4120cf5d2eb7e508e68f012c59f62bf85e87c4bf443f6a4b97c"), looks := true }, kinds := [], alts := [], laidByText := true, laidKinds := [.data, .data], laidTests := true, laidLooks := .later }
def ValueNoneUptoCardSaid : Prop := Claim7.holds Tryd.pinned (.plain (OpenSpec.upto valueNoneSpec)) valueNoneUptoCard

/-- THE SECOND FORM's CARD OF 'joinerylaw11.ValueTells'. -/
def valueTellsUptoCard : Claim7 := { stood := { row := valueTellsUptoRow, standIns := [], harness := (true, "44ecaefe8f35b4120cf5d2eb7e508e68f012c59f62bf85e87c4bf443f6a4b97c"), looks := true }, kinds := [], alts := [], laidByText := true, laidKinds := [.data, .data], laidTests := true, laidLooks := .later }
def ValueTellsUptoCardSaid : Prop := Claim7.holds Tryd.pinned (.plain (OpenSpec.upto valueTellsSpec)) valueTellsUptoCard
end Rows
end Go.Proofs.YtcehbpimdngjfaaDoor
