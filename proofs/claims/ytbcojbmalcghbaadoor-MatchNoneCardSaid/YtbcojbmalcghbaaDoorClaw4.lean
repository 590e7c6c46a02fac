/- MatchNone: there is no unlike line just if the forms are alike; and of both orders the spot is the same, its lines swapped. No condition. -/
import Derived.Test.YtbcojbmalcghbaaDoorCm
import Derived.Test.YtbcojbmalcghbaaDoorCh
import Derived.Test.YtbcojbmalcghbaaDoorCl
import Derived.Test.YtbcojbmalcghbaaDoorCg
import Derived.Test.YtbcojbmalcghbaaDoorCf
import Derived.Test.YtbcojbmalcghbaaDoorCards
import Derived.Test.YtbcojbmalcghbaaDoorTie
import Derived.SevenTiedAt
set_option linter.unusedSimpArgs false
set_option linter.unusedVariables false
set_option linter.unusedSectionVars false
namespace Go.Proofs.YtbcojbmalcghbaaDoor.M2
open Go
attribute [local simp] ev1 M2.get put A.ev ld sub part elems bin arith un opt idx fillC cellsO splice over newOb sto fillR laidOwn appTo appRow touch touchN touchM touchE touchA plainU flatU plainAs allM rowAt stoRow accM_nil accM_cons accMM_nil accMM_cons frz_int frz_bool frz_str frz_slt frz_nils frz_nilI frz_nilF frz_own frzRow_row frzRow_frow Ob.blw blw_bool blw_int blw_str blw_nils blw_nilI blw_nilF blw_nilp blw_nilm blw_sl blw_own blw_bp blw_rp blw_mp blw_it params
attribute [local simp] frz_agg frz_tup frz_iface frzS_agg frzS_iface accMS_cons frzS_int frzS_bool frzS_str frzS_slt frzS_nils frzS_nilI beq_dec bne_dec
attribute [local irreducible] Typed TypedA
set_option maxHeartbeats 16000000 in
theorem law4_call (x y : FForm) (hx : Big x) (hy : Big y) (rx : FormR x) (ry : FormR y) : Cl T n_joinerylaw16_MatchNone [formU x, formU y] [] (.bool true) [] := by
  refine Wp.pure (fn := c_joinerylaw16_MatchNone) rfl rfl rfl («as» := [formU x, formU y]) rfl ?_
  have kno := knows16_call
  have gx := fun st => great_call x hx st
  have gy := fun st => great_call y hy st
  cases ex : greatF x with
  | true =>
    rw [ex] at gx
    (all_goals have := fa @formC.eq_1; repeat' first | refine Wp.v ?_ | (apply Wp.call; exact gx _) | (apply Wp.call; exact kno _) | (refine Wp.c ?_ ?_ <;> intro))
    refine Wp.ret ?_; simp [Res, resU, res1, c_joinerylaw16_MatchNone]
  | false =>
    rw [ex] at gx
    cases ey : greatF y with
    | true =>
      rw [ey] at gy
      (all_goals have := fa @formC.eq_1; repeat' first | refine Wp.v ?_ | (apply Wp.call; exact gx _) | (apply Wp.call; exact gy _) | (apply Wp.call; exact kno _) | (refine Wp.c ?_ ?_ <;> intro))
      refine Wp.ret ?_; simp [Res, resU, res1, c_joinerylaw16_MatchNone]
    | false =>
      rw [ey] at gy
      have sx := small_of ex
      have sy := small_of ey
      have fxy := fun st => mfirst_call x y sx sy rx ry st
      have fyx := fun st => mfirst_call y x sy sx ry rx st
      have hxy := fun st => same_call x y sx sy st
      cases hR : (rightF x && rightF y) with
      | false =>
        rw [mfirst_bad hR] at fxy
        rw [mfirst_bad (by rw [Bool.and_comm]; exact hR)] at fyx
        (all_goals have := fa @formC.eq_1; repeat' first | refine Wp.v ?_ | (apply Wp.call; exact gx _) | (apply Wp.call; exact gy _) | (apply Wp.call; exact fxy _) | (apply Wp.call; exact fyx _) | (apply Wp.call; exact kno _) | (refine Wp.c ?_ ?_ <;> intro))
        refine Wp.ret ?_; simp [Res, resU, res1, c_joinerylaw16_MatchNone]
      | true =>
        simp only [Bool.and_eq_true] at hR
        by_cases h : x = y
        · have hd : decide (x = y) = true := decide_eq_true h
          rw [hd] at hxy
          subst h
          rw [mfirst_same hR.1] at fxy
          (all_goals have := fa @formC.eq_1; repeat' first | refine Wp.v ?_ | (apply Wp.call; exact gx _) | (apply Wp.call; exact fxy _) | (apply Wp.call; exact hxy _) | (apply Wp.call; exact kno _) | (refine Wp.c ?_ ?_ <;> intro))
          refine Wp.ret ?_; simp [Res, resU, res1, c_joinerylaw16_MatchNone]
        · have hd : decide (x = y) = false := decide_eq_false h
          rw [hd] at hxy
          rw [mfirst_ne hR.1 hR.2 h] at fxy
          rw [mfirst_ne hR.2 hR.1 (fun e => h e.symm), cp_swap (linesF y) (linesF x)] at fyx
          have hne := beq_eq_false_iff_ne.2 (lines_at hR.1 hR.2 h)
          generalize atF (linesF x) (cp (linesF x) (linesF y)) = wa at *
          generalize atF (linesF y) (cp (linesF x) (linesF y)) = wb at *
          generalize ((cp (linesF x) (linesF y) : Nat) : Int) = n at *
          (all_goals have := fa (a2 @formC.eq_1 hne); repeat' first | refine Wp.v ?_ | (apply Wp.call; exact gx _) | (apply Wp.call; exact gy _) | (apply Wp.call; exact fxy _) | (apply Wp.call; exact fyx _) | (apply Wp.call; exact hxy _) | (apply Wp.call; exact kno _) | (refine Wp.c ?_ ?_ <;> intro))
          refine Wp.ret ?_; simp [Res, resU, res1, c_joinerylaw16_MatchNone]
theorem params4 : Tryd.f4.params.toList = [25, 25] := by kernel_rfl
theorem law4 : Law 4 Tryd.f4.params.toList := by
  rw [params4]
  intro us hl hty
  obtain ⟨x, y, rfl, hx, hy, rx, ry⟩ := args2' hl hty
  exact law_of (law4_call x y hx hy rx ry)
end Go.Proofs.YtbcojbmalcghbaaDoor.M2
namespace Go.Proofs.YtbcojbmalcghbaaDoor.M2
open Go Go.ChangeShapes Go.WideShapes Go.ChangeAt Go.RowKit
theorem bool4 : Tryd.prog.underlying 4 = some .bool := by kernel_rfl
theorem types4 : Tryd.f4.resultTypes = #[4] := by kernel_rfl
set_option maxRecDepth 100000 in
theorem matchNone_row (law : Law 4 Tryd.f4.params.toList) : Rows.MatchNoneSaid :=
  OpenClaim.holds_of_wide 4 Tryd.f4 rfl rfl rfl rfl rfl rfl rfl ⟨rfl, rfl, rfl, rfl, rfl⟩ rfl rfl rfl rfl rfl (by kernel_rfl) Tryd.func4 (by kernel_rfl)
    (of_decide_eq_true (by kernel_rfl)) (by unfold Func.isWrapper; first | (rw [if_pos (by decide +kernel)]; kernel_rfl) | (rw [if_neg (by decide +kernel)]; exact ⟨rfl, rfl⟩))
    (fun os started H enc _ => lifted (s := Rows.matchNoneSpec) law os started enc (by kernel_rfl) Tryd.func4 rfl (by kernel_rfl) types4 bool4
      (fun ds h => by
        have h1 : ds.length = 2 := h
        match ds, h1 with
        | [d0, d1], _ => rfl)
      (ChangeSpec.witness_shaped (enc := enc) (C := Tryd.checked) (os := os) (X := fun w _ => laidMetH Tryd.prog laid1 w) false (World.doorLaid Tryd.prog 400 os) #[.agg #[.int .i64 0, .slice none 0 0, .slice none 0 0], .agg #[.int .i64 0, .slice none 0 0, .slice none 0 0]] 8 rfl (World.shaped_of_RefB (by kernel_rfl) (by kernel_rfl)) (by kernel_rfl) (by kernel_rfl) (by kernel_rfl) (door_met os _)))
theorem matchNone_card (law : Law 4 Tryd.f4.params.toList) : Rows.MatchNoneCardSaid :=
  Claim7.holds_tied_plain_at .later [] [.data, .data, .data] true (true, "8aa61df4e82475081fe3e74a8ac6e91d118017ead69d553e152a5e9218672d2f") true
    (matchNone_row law) (fun _ h => by cases h) (by kernel_rfl) (fun _ h => by cases h) matchNone_row_tie rfl ⟨rfl, rfl⟩ (by kernel_rfl) rfl
    (fun f fn hf hfn => by
      obtain rfl : f = 4 := Option.some.inj ((show Tryd.prog.funcNamed "joinery/joinerylaw16.MatchNone" = some 4 by kernel_rfl).symm.trans hf) |>.symm
      obtain rfl : fn = Tryd.f4 := (Option.some.inj (Tryd.func4.symm.trans hfn)).symm
      exact ⟨by kernel_rfl, fun j t ht => by
        rw [Tryd.params4] at ht
        have hm : t ∈ [25, 25] := by simpa using Array.mem_of_getElem? ht
        have hall : ([25, 25].all fun u => !Tryd.prog.wantsStandIn u) = true := by kernel_rfl
        exact (show Tryd.prog.wantsStandIn t = false by simpa using List.all_eq_true.1 hall t hm)⟩)
    (by kernel_rfl)
end Go.Proofs.YtbcojbmalcghbaaDoor.M2
namespace Go.Proofs.YtbcojbmalcghbaaDoor
theorem matchNone_said : Rows.MatchNoneCardSaid := M2.matchNone_card M2.law4
end Go.Proofs.YtbcojbmalcghbaaDoor
