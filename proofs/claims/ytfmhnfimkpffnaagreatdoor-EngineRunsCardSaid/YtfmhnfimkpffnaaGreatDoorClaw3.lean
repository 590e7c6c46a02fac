/- EngineRuns: the trace of a form's run is the one that the document says, or the error is told. No condition. -/
import Derived.Test.YtfmhnfimkpffnaaGreatDoorCf
import Derived.Test.YtfmhnfimkpffnaaGreatDoorCards
import Derived.Test.YtfmhnfimkpffnaaGreatDoorTie
import Derived.SevenTiedAt
import Derived.Test.YtfmhnfimkpffnaaGreatDoorCm
set_option linter.unusedSimpArgs false
set_option linter.unusedVariables false
set_option linter.unusedSectionVars false
namespace Go.Proofs.YtfmhnfimkpffnaaGreatDoor.M2
open Go Go.ChangeShapes Go.WideShapes Go.ChangeAt Go.RowKit
theorem bool4 : Tryz.prog.underlying 4 = some .bool := by kernel_rfl
theorem types3 : Tryz.f3.resultTypes = #[4] := by kernel_rfl
set_option maxRecDepth 100000 in
theorem engineRuns_row (law : Law 3 Tryz.f3.params.toList) : Rows.EngineRunsSaid :=
  OpenClaim.holds_of_wide 3 Tryz.f3 rfl rfl rfl rfl rfl rfl rfl ⟨rfl, rfl, rfl, rfl, rfl⟩ rfl rfl rfl rfl rfl (by kernel_rfl) Tryz.func3 (by kernel_rfl)
    (of_decide_eq_true (by kernel_rfl)) (by unfold Func.isWrapper; first | (rw [if_pos (by decide +kernel)]; kernel_rfl) | (rw [if_neg (by decide +kernel)]; exact ⟨rfl, rfl⟩))
    (fun os started H enc _ => lifted (s := Rows.engineRunsSpec) law os started enc (by kernel_rfl) Tryz.func3 rfl (by kernel_rfl) types3 bool4
      (fun ds h => by
        have h1 : ds.length = 2 := h
        match ds, h1 with
        | [d0, d1], _ => rfl)
      (ChangeSpec.witness_shaped (enc := enc) (C := Tryz.checked) (os := os) (X := fun w _ => laidMetH Tryz.prog laid1 w) false (World.doorLaid Tryz.prog 400 os) #[.agg #[.int .i64 0, .slice none 0 0, .slice none 0 0], .agg #[.int .i64 0, .int .i64 0, .int .i64 0, .int .i64 0, .int .i64 0, .int .i64 0, .int .i64 0, .int .i64 0, .slice none 0 0, .slice none 0 0, .int .i64 0]] 8 rfl (World.shaped_of_RefB (by kernel_rfl) (by kernel_rfl)) (by kernel_rfl) (by kernel_rfl) (by kernel_rfl) (door_met os _)))
theorem engineRuns_card (law : Law 3 Tryz.f3.params.toList) : Rows.EngineRunsCardSaid :=
  Claim7.holds_tied_plain_at .later [] [.data, .data, .data] true (true, "b307b2bd51ad3c77d4c92350068ca3b7d263a88977fbae3154bf8d9d96ec1e8e") true
    (engineRuns_row law) (fun _ h => by cases h) (by kernel_rfl) (fun _ h => by cases h) engineRuns_row_tie rfl ⟨rfl, rfl⟩ (by kernel_rfl) rfl
    (fun f fn hf hfn => by
      obtain rfl : f = 3 := Option.some.inj ((show Tryz.prog.funcNamed "joinery/joinerylaw15.EngineRuns" = some 3 by kernel_rfl).symm.trans hf) |>.symm
      obtain rfl : fn = Tryz.f3 := (Option.some.inj (Tryz.func3.symm.trans hfn)).symm
      exact ⟨by kernel_rfl, fun j t ht => by
        rw [Tryz.params3] at ht
        have hm : t ∈ [25, 29] := by simpa using Array.mem_of_getElem? ht
        have hall : ([25, 29].all fun u => !Tryz.prog.wantsStandIn u) = true := by kernel_rfl
        exact (show Tryz.prog.wantsStandIn t = false by simpa using List.all_eq_true.1 hall t hm)⟩)
    (by kernel_rfl)
end Go.Proofs.YtfmhnfimkpffnaaGreatDoor.M2
namespace Go.Proofs.YtfmhnfimkpffnaaGreatDoor
theorem engineRuns_said : Rows.EngineRunsCardSaid := M2.engineRuns_card M2.law3
end Go.Proofs.YtfmhnfimkpffnaaGreatDoor
