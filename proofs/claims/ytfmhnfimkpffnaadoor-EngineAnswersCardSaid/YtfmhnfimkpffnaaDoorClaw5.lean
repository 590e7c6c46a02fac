/- EngineAnswers: with more answers a form's run begins as it did; it is the same run where no answer was lacking. No condition. -/
import Derived.Test.YtfmhnfimkpffnaaDoorCf
import Derived.Test.YtfmhnfimkpffnaaDoorCards
import Derived.Test.YtfmhnfimkpffnaaDoorTie
import Derived.SevenTiedAt
import Derived.Test.YtfmhnfimkpffnaaDoorCm
set_option linter.unusedSimpArgs false
set_option linter.unusedVariables false
set_option linter.unusedSectionVars false
namespace Go.Proofs.YtfmhnfimkpffnaaDoor.M2
open Go Go.ChangeShapes Go.WideShapes Go.ChangeAt Go.RowKit
theorem bool4 : Tryd.prog.underlying 4 = some .bool := by kernel_rfl
theorem types5 : Tryd.f5.resultTypes = #[4] := by kernel_rfl
set_option maxRecDepth 100000 in
theorem engineAnswers_row (law : Law 5 Tryd.f5.params.toList) : Rows.EngineAnswersSaid :=
  OpenClaim.holds_of_wide 5 Tryd.f5 rfl rfl rfl rfl rfl rfl rfl ⟨rfl, rfl, rfl, rfl, rfl⟩ rfl rfl rfl rfl rfl (by kernel_rfl) Tryd.func5 (by kernel_rfl)
    (of_decide_eq_true (by kernel_rfl)) (by unfold Func.isWrapper; first | (rw [if_pos (by decide +kernel)]; kernel_rfl) | (rw [if_neg (by decide +kernel)]; exact ⟨rfl, rfl⟩))
    (fun os started H enc _ => lifted (s := Rows.engineAnswersSpec) law os started enc (by kernel_rfl) Tryd.func5 rfl (by kernel_rfl) types5 bool4
      (fun ds h => by
        have h1 : ds.length = 3 := h
        match ds, h1 with
        | [d0, d1, d2], _ => rfl)
      (ChangeSpec.witness_shaped (enc := enc) (C := Tryd.checked) (os := os) (X := fun w _ => laidMetH Tryd.prog laid1 w) false (World.doorLaid Tryd.prog 400 os) #[.agg #[.int .i64 0, .slice none 0 0, .slice none 0 0], .agg #[.int .i64 0, .int .i64 0, .int .i64 0, .int .i64 0, .int .i64 0, .int .i64 0, .int .i64 0, .int .i64 0, .slice none 0 0, .slice none 0 0, .int .i64 0], .slice none 0 0] 8 rfl (World.shaped_of_RefB (by kernel_rfl) (by kernel_rfl)) (by kernel_rfl) (by kernel_rfl) (by kernel_rfl) (door_met os _)))
theorem engineAnswers_card (law : Law 5 Tryd.f5.params.toList) : Rows.EngineAnswersCardSaid :=
  Claim7.holds_tied_plain_at .later [] [.data, .data, .data] true (true, "bddd480dfd5dec2eb569e29f0aaf2f9e0ec0cc2f857550dd7433a130a19f1734") true
    (engineAnswers_row law) (fun _ h => by cases h) (by kernel_rfl) (fun _ h => by cases h) engineAnswers_row_tie rfl ⟨rfl, rfl⟩ (by kernel_rfl) rfl
    (fun f fn hf hfn => by
      obtain rfl : f = 5 := Option.some.inj ((show Tryd.prog.funcNamed "joinery/joinerylaw15.EngineAnswers" = some 5 by kernel_rfl).symm.trans hf) |>.symm
      obtain rfl : fn = Tryd.f5 := (Option.some.inj (Tryd.func5.symm.trans hfn)).symm
      exact ⟨by kernel_rfl, fun j t ht => by
        rw [Tryd.params5] at ht
        have hm : t ∈ [25, 29, 27] := by simpa using Array.mem_of_getElem? ht
        have hall : ([25, 29, 27].all fun u => !Tryd.prog.wantsStandIn u) = true := by kernel_rfl
        exact (show Tryd.prog.wantsStandIn t = false by simpa using List.all_eq_true.1 hall t hm)⟩)
    (by kernel_rfl)
end Go.Proofs.YtfmhnfimkpffnaaDoor.M2
namespace Go.Proofs.YtfmhnfimkpffnaaDoor
theorem engineAnswers_said : Rows.EngineAnswersCardSaid := M2.engineAnswers_card M2.law5
end Go.Proofs.YtfmhnfimkpffnaaDoor
