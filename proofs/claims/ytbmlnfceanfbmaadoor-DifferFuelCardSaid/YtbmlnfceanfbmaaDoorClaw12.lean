/- DifferFuel: without fuel nothing is told. No condition. -/
import Derived.Test.YtbmlnfceanfbmaaDoorCk
import Derived.Test.YtbmlnfceanfbmaaDoorCards
import Derived.Test.YtbmlnfceanfbmaaDoorTie
import Derived.SevenTiedAt
import Derived.Test.YtbmlnfceanfbmaaDoorCm
set_option linter.unusedSimpArgs false
set_option linter.unusedVariables false
set_option linter.unusedSectionVars false
/- DifferFuel: without fuel nothing is told. No condition. -/
namespace Go.Proofs.YtbmlnfceanfbmaaDoor.M2
open Go Go.ChangeShapes Go.WideShapes Go.ChangeAt Go.RowKit

theorem bool4 : Tryd.prog.underlying 4 = some .bool := by kernel_rfl
theorem types12 : Tryd.f12.resultTypes = #[4] := by kernel_rfl
set_option maxRecDepth 100000 in
theorem differFuel_row (law : Law 12 Tryd.f12.params.toList) : Rows.DifferFuelSaid :=
  OpenClaim.holds_of_wide 12 Tryd.f12 rfl rfl rfl rfl rfl rfl rfl ⟨rfl, rfl, rfl, rfl, rfl⟩ rfl rfl rfl rfl rfl (by kernel_rfl) Tryd.func12 (by kernel_rfl)
    (of_decide_eq_true (by kernel_rfl)) (by unfold Func.isWrapper; first | (rw [if_pos (by decide +kernel)]; kernel_rfl) | (rw [if_neg (by decide +kernel)]; exact ⟨rfl, rfl⟩))
    (fun os started H enc _ => lifted (s := Rows.differFuelSpec) law os started enc (by kernel_rfl) Tryd.func12 rfl (by kernel_rfl) types12 bool4
      (fun ds h => by
        have h1 : ds.length = 3 := h
        match ds, h1 with
        | [d0, d1, d2], _ => rfl)
      (ChangeSpec.witness_shaped (enc := enc) (C := Tryd.checked) (os := os) (X := fun w _ => laidMetH Tryd.prog laid1 w) false (World.doorLaid Tryd.prog 400 os) #[.slice none 0 0, .slice none 0 0, .agg ((List.replicate 8 (Value.int .i64 0)) ++ [Value.slice none 0 0, Value.slice none 0 0, Value.int .i64 0]).toArray] 8 rfl (World.shaped_of_RefB (by kernel_rfl) (by kernel_rfl)) (by kernel_rfl) (by kernel_rfl) (by kernel_rfl) (door_met os _)))
theorem differFuel_card (law : Law 12 Tryd.f12.params.toList) : Rows.DifferFuelCardSaid :=
  Claim7.holds_tied_plain_at .later [] [.data] true (true, "9e79a7f613d70142d79bd8eba0c9510d7a5d87f1530984e8c225fc2ca95ae1c9") true
    (differFuel_row law) (fun _ h => by cases h) (by kernel_rfl) (fun _ h => by cases h) differFuel_row_tie rfl ⟨rfl, rfl⟩ (by kernel_rfl) rfl
    (fun f fn hf hfn => by
      obtain rfl : f = 12 := Option.some.inj ((show Tryd.prog.funcNamed "joinery/joinerylaw18.DifferFuel" = some 12 by kernel_rfl).symm.trans hf) |>.symm
      obtain rfl : fn = Tryd.f12 := (Option.some.inj (Tryd.func12.symm.trans hfn)).symm
      exact ⟨by kernel_rfl, fun j t ht => by
        rw [Tryd.params12] at ht
        have hm : t ∈ [22, 22, 70] := by simpa using Array.mem_of_getElem? ht
        have hall : ([22, 22, 70].all fun u => !Tryd.prog.wantsStandIn u) = true := by kernel_rfl
        exact (show Tryd.prog.wantsStandIn t = false by simpa using List.all_eq_true.1 hall t hm)⟩)
    (by kernel_rfl)
end Go.Proofs.YtbmlnfceanfbmaaDoor.M2
namespace Go.Proofs.YtbmlnfceanfbmaaDoor
theorem differFuel_said : Rows.DifferFuelCardSaid := M2.differFuel_card M2.law12
end Go.Proofs.YtbmlnfceanfbmaaDoor
