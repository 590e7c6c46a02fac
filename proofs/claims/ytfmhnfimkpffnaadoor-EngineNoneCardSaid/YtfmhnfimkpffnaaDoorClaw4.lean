/- EngineNone: a form's run takes no more steps than it has fuel, and none without. No condition. -/
import Derived.Test.YtfmhnfimkpffnaaDoorCf
import Derived.Test.YtfmhnfimkpffnaaDoorCards
import Derived.Test.YtfmhnfimkpffnaaDoorTie
import Derived.SevenTiedAt
import Derived.Test.YtfmhnfimkpffnaaDoorCm
set_option linter.unusedSimpArgs false
set_option linter.unusedVariables false
set_option linter.unusedSectionVars false
namespace Go.Proofs.YtfmhnfimkpffnaaDoor.M2
open Go Go.ChangeShapes Go.WideShapes Go.ChangeAt Go.RowKit
theorem bool4 : Tryd.prog.underlying 4 = some .bool := by kernel_rfl
theorem types4 : Tryd.f4.resultTypes = #[4] := by kernel_rfl
set_option maxRecDepth 100000 in
theorem engineNone_row (law : Law 4 Tryd.f4.params.toList) : Rows.EngineNoneSaid :=
  OpenClaim.holds_of_wide 4 Tryd.f4 rfl rfl rfl rfl rfl rfl rfl ⟨rfl, rfl, rfl, rfl, rfl⟩ rfl rfl rfl rfl rfl (by kernel_rfl) Tryd.func4 (by kernel_rfl)
    (of_decide_eq_true (by kernel_rfl)) (by unfold Func.isWrapper; first | (rw [if_pos (by decide +kernel)]; kernel_rfl) | (rw [if_neg (by decide +kernel)]; exact ⟨rfl, rfl⟩))
    (fun os started H enc _ => lifted (s := Rows.engineNoneSpec) law os started enc (by kernel_rfl) Tryd.func4 rfl (by kernel_rfl) types4 bool4
      (fun ds h => by
        have h1 : ds.length = 2 := h
        match ds, h1 with
        | [d0, d1], _ => rfl)
      (ChangeSpec.witness_shaped (enc := enc) (C := Tryd.checked) (os := os) (X := fun w _ => laidMetH Tryd.prog laid1 w) false (World.doorLaid Tryd.prog 400 os) #[.agg #[.int .i64 0, .slice none 0 0, .slice none 0 0], .agg #[.int .i64 0, .int .i64 0, .int .i64 0, .int .i64 0, .int .i64 0, .int .i64 0, .int .i64 0, .int .i64 0, .slice none 0 0, .slice none 0 0, .int .i64 0]] 8 rfl (World.shaped_of_RefB (by kernel_rfl) (by kernel_rfl)) (by kernel_rfl) (by kernel_rfl) (by kernel_rfl) (door_met os _)))
theorem engineNone_card (law : Law 4 Tryd.f4.params.toList) : Rows.EngineNoneCardSaid :=
  Claim7.holds_tied_plain_at .later [] [.data, .data, .data] true (true, "bddd480dfd5dec2eb569e29f0aaf2f9e0ec0cc2f857550dd7433a130a19f1734") true
    (engineNone_row law) (fun _ h => by cases h) (by kernel_rfl) (fun _ h => by cases h) engineNone_row_tie rfl ⟨rfl, rfl⟩ (by kernel_rfl) rfl
    (fun f fn hf hfn => by
      obtain rfl : f = 4 := Option.some.inj ((show Tryd.prog.funcNamed "joinery/joinerylaw15.EngineNone" = some 4 by kernel_rfl).symm.trans hf) |>.symm
      obtain rfl : fn = Tryd.f4 := (Option.some.inj (Tryd.func4.symm.trans hfn)).symm
      exact ⟨by kernel_rfl, fun j t ht => by
        rw [Tryd.params4] at ht
        have hm : t ∈ [25, 29] := by simpa using Array.mem_of_getElem? ht
        have hall : ([25, 29].all fun u => !Tryd.prog.wantsStandIn u) = true := by kernel_rfl
        exact (show Tryd.prog.wantsStandIn t = false by simpa using List.all_eq_true.1 hall t hm)⟩)
    (by kernel_rfl)
end Go.Proofs.YtfmhnfimkpffnaaDoor.M2
namespace Go.Proofs.YtfmhnfimkpffnaaDoor
theorem engineNone_said : Rows.EngineNoneCardSaid := M2.engineNone_card M2.law4
end Go.Proofs.YtfmhnfimkpffnaaDoor
