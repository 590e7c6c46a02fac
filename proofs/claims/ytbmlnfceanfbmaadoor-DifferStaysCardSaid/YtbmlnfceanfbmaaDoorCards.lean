/-
  DERIVED. GIVEN WITH THE SEED: THE CARDS: each row of YtbmlnfceanfbmaaDoorRows.lean that lists a variable, with what it lists TIED to the program's text (the seventh form; the later family's looks); each row that meets fmt, with fmt's text TOLD by the authors' own Lean function (tested against real Go, not proved from fmt's source: count such statements apart). THE CARD IS WHAT COUNTS. Prove the row's statement (the work); the ties are given (YtbmlnfceanfbmaaDoorTie.lean); close each card by the builder's one call (the guide's Derived/Test/ToyasCard.lean, 'card_holds'). Laid BY PROGRAM, IN A SANDBOX (cutbox-door.mjs). By AI agents, Wed Nov 11 2026. No macro, syntax, notation, axiom, sorry.
-/
import Derived.Test.YtbmlnfceanfbmaaDoorRows
import GoSem.ClaimSeven
namespace Go.Proofs.YtbmlnfceanfbmaaDoor
namespace Rows

/-- THE TIED CARD OF 'joinerylaw11.ValueAll'. -/
def valueAllCard : Claim7 := { stood := { row := valueAllRow, standIns := [], harness := (true, "9e79a7f613d70142d79bd8eba0c9510d7a5d87f1530984e8c225fc2ca95ae1c9"), looks := true }, kinds := [], alts := [], laidByText := true, laidKinds := [.data, .data], laidTests := true, laidLooks := .later }
def ValueAllCardSaid : Prop := Claim7.holds Tryd.pinned (.plain (OpenSpec.ofChange valueAllSpec)) valueAllCard

/-- THE TIED CARD OF 'joinerylaw11.ValueFacts'. -/
def valueFactsCard : Claim7 := { stood := { row := valueFactsRow, standIns := [], harness := (true, "9e79a7f613d70142d79bd8eba0c9510d7a5d87f1530984e8c225fc2ca95ae1c9"), looks := true }, kinds := [], alts := [], laidByText := true, laidKinds := [.data, .data], laidTests := true, laidLooks := .later }
def ValueFactsCardSaid : Prop := Claim7.holds Tryd.pinned (.plain (OpenSpec.ofChange valueFactsSpec)) valueFactsCard

/-- THE TIED CARD OF 'joinerylaw11.ValueCuts'. -/
def valueCutsCard : Claim7 := { stood := { row := valueCutsRow, standIns := [], harness := (true, "9e79a7f613d70142d79bd8eba0c9510d7a5d87f1530984e8c225fc2ca95ae1c9"), looks := true }, kinds := [], alts := [], laidByText := true, laidKinds := [.data, .data], laidTests := true, laidLooks := .later }
def ValueCutsCardSaid : Prop := Claim7.holds Tryd.pinned (.plain (OpenSpec.ofChange valueCutsSpec)) valueCutsCard

/-- THE TIED CARD OF 'joinerylaw11.ValueKinds'. -/
def valueKindsCard : Claim7 := { stood := { row := valueKindsRow, standIns := [], harness := (true, "9e79a7f613d70142d79bd8eba0c9510d7a5d87f1530984e8c225fc2ca95ae1c9"), looks := true }, kinds := [], alts := [], laidByText := true, laidKinds := [.data, .data], laidTests := true, laidLooks := .later }
def ValueKindsCardSaid : Prop := Claim7.holds Tryd.pinned (.plain (OpenSpec.ofChange valueKindsSpec)) valueKindsCard

/-- THE TIED CARD OF 'joinerylaw11.ValueNone'. -/
def valueNoneCard : Claim7 := { stood := { row := valueNoneRow, standIns := [], harness := (true, "9e79a7f613d70142d79bd8eba0c9510d7a5d87f1530984e8c225fc2ca95ae1c9"), looks := true }, kinds := [], alts := [], laidByText := true, laidKinds := [.data, .data], laidTests := true, laidLooks := .later }
def ValueNoneCardSaid : Prop := Claim7.holds Tryd.pinned (.plain (OpenSpec.ofChange valueNoneSpec)) valueNoneCard

/-- THE TIED CARD OF 'joinerylaw18.DifferTells'. -/
def differTellsCard : Claim7 := { stood := { row := differTellsRow, standIns := [], harness := (true, "9e79a7f613d70142d79bd8eba0c9510d7a5d87f1530984e8c225fc2ca95ae1c9"), looks := true }, kinds := [], alts := [], laidByText := true, laidKinds := [.data], laidTests := true, laidLooks := .later }
def DifferTellsCardSaid : Prop := Claim7.holds Tryd.pinned (.plain (OpenSpec.ofChange differTellsSpec)) differTellsCard

/-- THE TIED CARD OF 'joinerylaw18.DifferStays'. -/
def differStaysCard : Claim7 := { stood := { row := differStaysRow, standIns := [], harness := (true, "9e79a7f613d70142d79bd8eba0c9510d7a5d87f1530984e8c225fc2ca95ae1c9"), looks := true }, kinds := [], alts := [], laidByText := true, laidKinds := [.data], laidTests := true, laidLooks := .later }
def DifferStaysCardSaid : Prop := Claim7.holds Tryd.pinned (.plain (OpenSpec.ofChange differStaysSpec)) differStaysCard

/-- THE TIED CARD OF 'joinerylaw18.DifferBoth'. -/
def differBothCard : Claim7 := { stood := { row := differBothRow, standIns := [], harness := (true, "9e79a7f613d70142d79bd8eba0c9510d7a5d87f1530984e8c225fc2ca95ae1c9"), looks := true }, kinds := [], alts := [], laidByText := true, laidKinds := [.data], laidTests := true, laidLooks := .later }
def DifferBothCardSaid : Prop := Claim7.holds Tryd.pinned (.plain (OpenSpec.ofChange differBothSpec)) differBothCard

/-- THE TIED CARD OF 'joinerylaw18.DifferTraces'. -/
def differTracesCard : Claim7 := { stood := { row := differTracesRow, standIns := [], harness := (true, "9e79a7f613d70142d79bd8eba0c9510d7a5d87f1530984e8c225fc2ca95ae1c9"), looks := true }, kinds := [], alts := [], laidByText := true, laidKinds := [.data], laidTests := true, laidLooks := .later }
def DifferTracesCardSaid : Prop := Claim7.holds Tryd.pinned (.plain (OpenSpec.ofChange differTracesSpec)) differTracesCard

/-- THE TIED CARD OF 'joinerylaw18.DifferFuel'. -/
def differFuelCard : Claim7 := { stood := { row := differFuelRow, standIns := [], harness := (true, "9e79a7f613d70142d79bd8eba0c9510d7a5d87f1530984e8c225fc2ca95ae1c9"), looks := true }, kinds := [], alts := [], laidByText := true, laidKinds := [.data], laidTests := true, laidLooks := .later }
def DifferFuelCardSaid : Prop := Claim7.holds Tryd.pinned (.plain (OpenSpec.ofChange differFuelSpec)) differFuelCard

/-- THE TIED CARD OF 'joinerylaw11.ValueTells'. -/
def valueTellsCard : Claim7 := { stood := { row := valueTellsRow, standIns := [], harness := (true, "9e79a7f613d70142d79bd8eba0c9510d7a5d87f1530984e8c225fc2ca95ae1c9"), looks := true }, kinds := [], alts := [], laidByText := true, laidKinds := [.data, .data], laidTests := true, laidLooks := .later }
def ValueTellsCardSaid : Prop := Claim7.holds Tryd.pinned (.plain (OpenSpec.ofChange valueTellsSpec)) valueTellsCard

/-- THE SECOND FORM's CARD OF 'joinerylaw11.ValueAll'. -/
def valueAllUptoCard : Claim7 := { stood := { row := valueAllUptoRow, standIns := [], harness := (true, "9e79a7f613d70142d79bd8eba0c9510d7a5d87f1530984e8c225fc2ca95ae1c9"), looks := true }, kinds := [], alts := [], laidByText := true, laidKinds := [.data, .data], laidTests := true, laidLooks := .later }
def ValueAllUptoCardSaid : Prop := Claim7.holds Tryd.pinned (.plain (OpenSpec.upto valueAllSpec)) valueAllUptoCard

/-- THE SECOND FORM's CARD OF 'joinerylaw11.ValueFacts'. -/
def valueFactsUptoCard : Claim7 := { stood := { row := valueFactsUptoRow, standIns := [], harness := (true, "9e79a7f613d70142d79bd8eba0c9510d7a5d87f1530984e8c225fc2ca95ae1c9"), looks := true }, kinds := [], alts := [], laidByText := true, laidKinds := [.data, .data], laidTests := true, laidLooks := .later }
def ValueFactsUptoCardSaid : Prop := Claim7.holds Tryd.pinned (.plain (OpenSpec.upto valueFactsSpec)) valueFactsUptoCard

/-- THE SECOND FORM's CARD OF 'joinerylaw11.ValueCuts'. -/
def valueCutsUptoCard : Claim7 := { stood := { row := valueCutsUptoRow, standIns := [], harness := (true, "9e79a7f613d70142d79bd8eba0c9510d7a5d87f1530984e8c225fc2ca95ae1c9"), looks := true }, kinds := [], alts := [], laidByText := true, laidKinds := [.data, .data], laidTests := true, laidLooks := .later }
def ValueCutsUptoCardSaid : Prop := Claim7.holds Tryd.pinned (.plain (OpenSpec.upto valueCutsSpec)) valueCutsUptoCard

/-- THE SECOND FORM's CARD OF 'joinerylaw11.ValueKinds'. -/
def valueKindsUptoCard : Claim7 := { stood := { row := valueKindsUptoRow, standIns := [], harness := (true, "9e79a7f613d70142d79bd8eba0c9510d7a5d87f1530984e8c225fc2ca95ae1c9"), looks := true }, kinds := [], alts := [], laidByText := true, laidKinds := [.data, .data], laidTests := true, laidLooks := .later }
def ValueKindsUptoCardSaid : Prop := Claim7.holds Tryd.pinned (.plain (OpenSpec.upto valueKindsSpec)) valueKindsUptoCard

/-- THE SECOND FORM's CARD OF 'joinerylaw11.ValueNone'. -/
def valueNoneUptoCard : Claim7 := { stood := { row := valueNoneUptoRow, standIns := [], harness := (true, "9e79a7f613d70142d79bd8eba0c9510d7a5d87f1530984e8c225fc2ca95ae1c9"), looks := true }, kinds := [], alts := [], laidByText := true, laidKinds := [.data, .data], laidTests := true, laidLooks := .later }
def ValueNoneUptoCardSaid : Prop := Claim7.holds Tryd.pinned (.plain (OpenSpec.upto valueNoneSpec)) valueNoneUptoCard

/-- THE SECOND FORM's CARD OF 'joinerylaw18.DifferTells'. -/
def differTellsUptoCard : Claim7 := { stood := { row := differTellsUptoRow, standIns := [], harness := (true, "9e79a7f613d70142d79bd8eba0c9510d7a5d87f1530984e8c225fc2ca95ae1c9"), looks := true }, kinds := [], alts := [], laidByText := true, laidKinds := [.data], laidTests := true, laidLooks := .later }
def DifferTellsUptoCardSaid : Prop := Claim7.holds Tryd.pinned (.plain (OpenSpec.upto differTellsSpec)) differTellsUptoCard

/-- THE SECOND FORM's CARD OF 'joinerylaw18.DifferStays'. -/
def differStaysUptoCard : Claim7 := { stood := { row := differStaysUptoRow, standIns := [], harness := (true, "9e79a7f613d70142d79bd8eba0c9510d7a5d87f1530984e8c225fc2ca95ae1c9"), looks := true }, kinds := [], alts := [], laidByText := true, laidKinds := [.data], laidTests := true, laidLooks := .later }
def DifferStaysUptoCardSaid : Prop := Claim7.holds Tryd.pinned (.plain (OpenSpec.upto differStaysSpec)) differStaysUptoCard

/-- THE SECOND FORM's CARD OF 'joinerylaw18.DifferBoth'. -/
def differBothUptoCard : Claim7 := { stood := { row := differBothUptoRow, standIns := [], harness := (true, "9e79a7f613d70142d79bd8eba0c9510d7a5d87f1530984e8c225fc2ca95ae1c9"), looks := true }, kinds := [], alts := [], laidByText := true, laidKinds := [.data], laidTests := true, laidLooks := .later }
def DifferBothUptoCardSaid : Prop := Claim7.holds Tryd.pinned (.plain (OpenSpec.upto differBothSpec)) differBothUptoCard

/-- THE SECOND FORM's CARD OF 'joinerylaw18.DifferTraces'. -/
def differTracesUptoCard : Claim7 := { stood := { row := differTracesUptoRow, standIns := [], harness := (true, "9e79a7f613d70142d79bd8eba0c9510d7a5d87f1530984e8c225fc2ca95ae1c9"), looks := true }, kinds := [], alts := [], laidByText := true, laidKinds := [.data], laidTests := true, laidLooks := .later }
def DifferTracesUptoCardSaid : Prop := Claim7.holds Tryd.pinned (.plain (OpenSpec.upto differTracesSpec)) differTracesUptoCard

/-- THE SECOND FORM's CARD OF 'joinerylaw18.DifferFuel'. -/
def differFuelUptoCard : Claim7 := { stood := { row := differFuelUptoRow, standIns := [], harness := (true, "9e79a7f613d70142d79bd8eba0c9510d7a5d87f1530984e8c225fc2ca95ae1c9"), looks := true }, kinds := [], alts := [], laidByText := true, laidKinds := [.data], laidTests := true, laidLooks := .later }
def DifferFuelUptoCardSaid : Prop := Claim7.holds Tryd.pinned (.plain (OpenSpec.upto differFuelSpec)) differFuelUptoCard

/-- THE SECOND FORM's CARD OF 'joinerylaw11.ValueTells'. -/
def valueTellsUptoCard : Claim7 := { stood := { row := valueTellsUptoRow, standIns := [], harness := (true, "9e79a7f613d70142d79bd8eba0c9510d7a5d87f1530984e8c225fc2ca95ae1c9"), looks := true }, kinds := [], alts := [], laidByText := true, laidKinds := [.data, .data], laidTests := true, laidLooks := .later }
def ValueTellsUptoCardSaid : Prop := Claim7.holds Tryd.pinned (.plain (OpenSpec.upto valueTellsSpec)) valueTellsUptoCard
end Rows
end Go.Proofs.YtbmlnfceanfbmaaDoor
