/- PathRuns: from any state, as many steps as the path has lead to where it leads, with what its table fills, and make no event. No condition. -/
import Derived.Test.YtapibckmdpdljaaDoorCk
import Derived.Test.YtapibckmdpdljaaDoorCm
set_option linter.unusedSimpArgs false
set_option linter.unusedVariables false
set_option linter.unusedSectionVars false
/- PathRuns: from any state, as many steps as the path has lead to where it leads, with what its table fills, and make no event. No condition. -/
namespace Go.Proofs.YtapibckmdpdljaaDoor.M2
open Go Go.ChangeShapes Go.WideShapes Go.ChangeAt Go.RowKit

theorem types12 : Tryd.f12.resultTypes = #[4] := by kernel_rfl
set_option maxRecDepth 100000 in
theorem pathRuns_row (law : Law 12 Tryd.f12.params.toList) : Rows.PathRunsSaid :=
  OpenClaim.holds_of_wide 12 Tryd.f12 rfl rfl rfl rfl rfl rfl rfl ⟨rfl, rfl, rfl, rfl, rfl⟩ rfl rfl rfl rfl rfl (by kernel_rfl) Tryd.func12 (by kernel_rfl)
    (of_decide_eq_true (by kernel_rfl)) (by unfold Func.isWrapper; first | (rw [if_pos (by decide +kernel)]; kernel_rfl) | (rw [if_neg (by decide +kernel)]; exact ⟨rfl, rfl⟩))
    (fun os started H enc _ => lifted (s := Rows.pathRunsSpec) law os started enc (by kernel_rfl) Tryd.func12 rfl (by kernel_rfl) types12 bool4
      (fun ds h => by
        have h1 : ds.length = 2 := h
        match ds, h1 with
        | [d0, d1], _ => rfl)
      (ChangeSpec.witness_shaped (enc := enc) (C := Tryd.checked) (os := os) (X := fun w _ => laidMetH Tryd.prog laid1 w) false (World.doorLaid Tryd.prog 400 os) #[.slice none 0 0, .agg ((List.replicate 24 [Value.bool false, Value.int .i64 0]).flatten ++ [Value.slice none 0 0, Value.int .i64 0, Value.int .i64 0]).toArray] 8 rfl (World.shaped_of_RefB (by kernel_rfl) (by kernel_rfl)) (by kernel_rfl) (by kernel_rfl) (by kernel_rfl) (door_met os _)))
theorem pathRuns_card (law : Law 12 Tryd.f12.params.toList) : Rows.PathRunsCardSaid :=
  Claim7.holds_tied_plain_at .later [] [.data] true (true, "13d9c7b0cf76a0ce59a956f6bcabe4d883017d16fd43b76b602544cf0bc1a375") true
    (pathRuns_row law) (fun _ h => by cases h) (by kernel_rfl) (fun _ h => by cases h) pathRuns_row_tie rfl ⟨rfl, rfl⟩ (by kernel_rfl) rfl
    (fun f fn hf hfn => by
      obtain rfl : f = 12 := Option.some.inj ((show Tryd.prog.funcNamed "joinery/joinerylaw09.PathRuns" = some 12 by kernel_rfl).symm.trans hf) |>.symm
      obtain rfl : fn = Tryd.f12 := (Option.some.inj (Tryd.func12.symm.trans hfn)).symm
      exact ⟨by kernel_rfl, fun j t ht => by
        rw [Tryd.params12] at ht
        have hm : t ∈ [22, 79] := by simpa using Array.mem_of_getElem? ht
        have hall : ([22, 79].all fun u => !Tryd.prog.wantsStandIn u) = true := by kernel_rfl
        exact (show Tryd.prog.wantsStandIn t = false by simpa using List.all_eq_true.1 hall t hm)⟩)
    (by kernel_rfl)
end Go.Proofs.YtapibckmdpdljaaDoor.M2
namespace Go.Proofs.YtapibckmdpdljaaDoor
theorem pathRuns_said : Rows.PathRunsCardSaid := M2.pathRuns_card M2.law12
end Go.Proofs.YtapibckmdpdljaaDoor
