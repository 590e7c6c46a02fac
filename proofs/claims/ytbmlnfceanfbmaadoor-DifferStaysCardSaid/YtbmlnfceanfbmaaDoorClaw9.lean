/- DifferStays: what is told stays told with more fuel and more answers. No condition. -/
import Derived.Test.YtbmlnfceanfbmaaDoorCk
import Derived.Test.YtbmlnfceanfbmaaDoorCards
import Derived.Test.YtbmlnfceanfbmaaDoorTie
import Derived.SevenTiedAt
import Derived.Test.YtbmlnfceanfbmaaDoorCm
set_option linter.unusedSimpArgs false
set_option linter.unusedVariables false
set_option linter.unusedSectionVars false
/- DifferStays: what is told stays told with more fuel and more answers. No condition. -/
namespace Go.Proofs.YtbmlnfceanfbmaaDoor.M2
open Go Go.ChangeShapes Go.WideShapes Go.ChangeAt Go.RowKit

theorem bool4 : Tryd.prog.underlying 4 = some .bool := by kernel_rfl
theorem types9 : Tryd.f9.resultTypes = #[4] := by kernel_rfl
set_option maxRecDepth 100000 in
theorem differStays_row (law : Law 9 Tryd.f9.params.toList) : Rows.DifferStaysSaid :=
  OpenClaim.holds_of_wide 9 Tryd.f9 rfl rfl rfl rfl rfl rfl rfl ⟨rfl, rfl, rfl, rfl, rfl⟩ rfl rfl rfl rfl rfl (by kernel_rfl) Tryd.func9 (by kernel_rfl)
    (of_decide_eq_true (by kernel_rfl)) (by unfold Func.isWrapper; first | (rw [if_pos (by decide +kernel)]; kernel_rfl) | (rw [if_neg (by decide +kernel)]; exact ⟨rfl, rfl⟩))
    (fun os started H enc _ => lifted (s := Rows.differStaysSpec) law os started enc (by kernel_rfl) Tryd.func9 rfl (by kernel_rfl) types9 bool4
      (fun ds h => by
        have h1 : ds.length = 5 := h
        match ds, h1 with
        | [d0, d1, d2, d3, d4], _ => rfl)
      (ChangeSpec.witness_shaped (enc := enc) (C := Tryd.checked) (os := os) (X := fun w _ => laidMetH Tryd.prog laid1 w) false (World.doorLaid Tryd.prog 400 os) #[.slice none 0 0, .slice none 0 0, .agg ((List.replicate 8 (Value.int .i64 0)) ++ [Value.slice none 0 0, Value.slice none 0 0, Value.int .i64 0]).toArray, .int .u8 0, .slice none 0 0] 8 rfl (World.shaped_of_RefB (by kernel_rfl) (by kernel_rfl)) (by kernel_rfl) (by kernel_rfl) (by kernel_rfl) (door_met os _)))
theorem differStays_card (law : Law 9 Tryd.f9.params.toList) : Rows.DifferStaysCardSaid :=
  Claim7.holds_tied_plain_at .later [] [.data] true (true, "9e79a7f613d70142d79bd8eba0c9510d7a5d87f1530984e8c225fc2ca95ae1c9") true
    (differStays_row law) (fun _ h => by cases h) (by kernel_rfl) (fun _ h => by cases h) differStays_row_tie rfl ⟨rfl, rfl⟩ (by kernel_rfl) rfl
    (fun f fn hf hfn => by
      obtain rfl : f = 9 := Option.some.inj ((show Tryd.prog.funcNamed "joinery/joinerylaw18.DifferStays" = some 9 by kernel_rfl).symm.trans hf) |>.symm
      obtain rfl : fn = Tryd.f9 := (Option.some.inj (Tryd.func9.symm.trans hfn)).symm
      exact ⟨by kernel_rfl, fun j t ht => by
        rw [Tryd.params9] at ht
        have hm : t ∈ [22, 22, 70, 5, 68] := by simpa using Array.mem_of_getElem? ht
        have hall : ([22, 22, 70, 5, 68].all fun u => !Tryd.prog.wantsStandIn u) = true := by kernel_rfl
        exact (show Tryd.prog.wantsStandIn t = false by simpa using List.all_eq_true.1 hall t hm)⟩)
    (by kernel_rfl)
end Go.Proofs.YtbmlnfceanfbmaaDoor.M2
namespace Go.Proofs.YtbmlnfceanfbmaaDoor
theorem differStays_said : Rows.DifferStaysCardSaid := M2.differStays_card M2.law9
end Go.Proofs.YtbmlnfceanfbmaaDoor
