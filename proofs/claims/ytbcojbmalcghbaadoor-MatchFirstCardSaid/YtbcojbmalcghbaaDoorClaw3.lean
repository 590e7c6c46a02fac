/- MatchFirst: the first unlike line of two forms is the one that the document says, or the error is told; and whether they are alike. No condition. -/
import Derived.Test.YtbcojbmalcghbaaDoorCm
import Derived.Test.YtbcojbmalcghbaaDoorCh
import Derived.Test.YtbcojbmalcghbaaDoorCl
import Derived.Test.YtbcojbmalcghbaaDoorCg
import Derived.Test.YtbcojbmalcghbaaDoorCf
import Derived.Test.YtbcojbmalcghbaaDoorCards
import Derived.Test.YtbcojbmalcghbaaDoorTie
import Derived.SevenTiedAt
set_option linter.unusedSimpArgs false
set_option linter.unusedVariables false
set_option linter.unusedSectionVars false
namespace Go.Proofs.YtbcojbmalcghbaaDoor.M2
open Go
attribute [local simp] ev1 M2.get put A.ev ld sub part elems bin arith un opt idx fillC cellsO splice over newOb sto fillR laidOwn appTo appRow touch touchN touchM touchE touchA plainU flatU plainAs allM rowAt stoRow accM_nil accM_cons accMM_nil accMM_cons frz_int frz_bool frz_str frz_slt frz_nils frz_nilI frz_nilF frz_own frzRow_row frzRow_frow Ob.blw blw_bool blw_int blw_str blw_nils blw_nilI blw_nilF blw_nilp blw_nilm blw_sl blw_own blw_bp blw_rp blw_mp blw_it params
attribute [local simp] frz_agg frz_tup frz_iface frzS_agg frzS_iface accMS_cons frzS_int frzS_bool frzS_str frzS_slt frzS_nils frzS_nilI beq_dec bne_dec
attribute [local irreducible] Typed TypedA
theorem spot_same : sameV (.tst [(1, .ti), (1, .ts), (1, .ts)]) (.agg [i64 0, .str [], .str []]) (.agg [i64 0, .str [], .str []]) = some true := rfl
set_option maxHeartbeats 16000000 in
theorem law3_call (x y : FForm) (hx : Big x) (hy : Big y) (rx : FormR x) (ry : FormR y) : Cl T n_joinerylaw16_MatchFirst [formU x, formU y] [] (.bool true) [] := by
  refine Wp.pure (fn := c_joinerylaw16_MatchFirst) rfl rfl rfl («as» := [formU x, formU y]) rfl ?_
  have kno := knows16_call
  have gx := fun st => great_call x hx st
  have gy := fun st => great_call y hy st
  have sps := spot_same
  cases ex : greatF x with
  | true =>
    rw [ex] at gx
    (all_goals have := fa @formC.eq_1; repeat' first | refine Wp.v ?_ | (apply Wp.call; exact gx _) | (apply Wp.call; exact kno _) | (refine Wp.c ?_ ?_ <;> intro))
    refine Wp.ret ?_; simp [Res, resU, res1, c_joinerylaw16_MatchFirst]
  | false =>
    rw [ex] at gx
    cases ey : greatF y with
    | true =>
      rw [ey] at gy
      (all_goals have := fa @formC.eq_1; repeat' first | refine Wp.v ?_ | (apply Wp.call; exact gx _) | (apply Wp.call; exact gy _) | (apply Wp.call; exact kno _) | (refine Wp.c ?_ ?_ <;> intro))
      refine Wp.ret ?_; simp [Res, resU, res1, c_joinerylaw16_MatchFirst]
    | false =>
      rw [ey] at gy
      have sx := small_of ex
      have sy := small_of ey
      have wx := fun st => rright_call x sx st
      have wy := fun st => rright_call y sy st
      have fxy := fun st => mfirst_call x y sx sy rx ry st
      have hxy := fun st => same_call x y sx sy st
      have rxy := fun st => rsame_call x y sx sy st
      generalize decide (x = y) = d at *
      cases hRx : rightF x with
      | false =>
        rw [hRx] at wx
        rw [mfirst_bad (by simp [hRx])] at fxy
        (all_goals have := fa @formC.eq_1; repeat' first | refine Wp.v ?_ | (apply Wp.call; exact gx _) | (apply Wp.call; exact gy _) | (apply Wp.call; exact fxy _) | (refine Wp.c ?_ ?_ <;> intro))
        refine Wp.draw (by (simp [c_joinerylaw16_MatchFirst_D0, I.need]) <;> rfl) (by (simp [formC]) <;> rfl) (by (simp [formC]) <;> rfl) (by (unfold c_joinerylaw16_MatchFirst_D0); (repeat (first | ((first | apply Dr.op | apply Dr.opN | (apply Dr.opG; exact rfl)); ((simp [formC]) <;> rfl); (apply Evt.all; intro; (simp [formC]) <;> (try simp (disch := omega) only [wrap_id]) <;> first | exact ⟨rfl, rfl⟩ | exact rfl); ((simp [I.need]) <;> rfl)) | ((first | (apply Dr.opS; exact rfl; decide) | (apply Dr.opS0; exact rfl)); ((simp [I.need]) <;> rfl)) | (apply Dr.call; ((simp [formC]) <;> rfl); exact hxy _) | (apply Dr.callG; (exact rfl); ((simp [formC]) <;> rfl); exact hxy _) | (apply Dr.call; ((simp [formC]) <;> rfl); exact rxy _) | (apply Dr.callG; (exact rfl); ((simp [formC]) <;> rfl); exact rxy _))); exact Dr.nil) (by first | decide +kernel | exact rfl) (by (simp [M2.keep]) <;> rfl) ?_
        (all_goals have := fa (a2 @formC.eq_1 sps); repeat' first | refine Wp.v ?_ | (apply Wp.call; exact wx _) | (apply Wp.call; exact kno _) | (refine Wp.c ?_ ?_ <;> intro))
        refine Wp.ret ?_; simp [Res, resU, res1, c_joinerylaw16_MatchFirst]
      | true =>
        rw [hRx] at wx
        cases hRy : rightF y with
        | false =>
          rw [hRy] at wy
          rw [mfirst_bad (by simp [hRy])] at fxy
          (all_goals have := fa @formC.eq_1; repeat' first | refine Wp.v ?_ | (apply Wp.call; exact gx _) | (apply Wp.call; exact gy _) | (apply Wp.call; exact fxy _) | (refine Wp.c ?_ ?_ <;> intro))
          refine Wp.draw (by (simp [c_joinerylaw16_MatchFirst_D0, I.need]) <;> rfl) (by (simp [formC]) <;> rfl) (by (simp [formC]) <;> rfl) (by (unfold c_joinerylaw16_MatchFirst_D0); (repeat (first | ((first | apply Dr.op | apply Dr.opN | (apply Dr.opG; exact rfl)); ((simp [formC]) <;> rfl); (apply Evt.all; intro; (simp [formC]) <;> (try simp (disch := omega) only [wrap_id]) <;> first | exact ⟨rfl, rfl⟩ | exact rfl); ((simp [I.need]) <;> rfl)) | ((first | (apply Dr.opS; exact rfl; decide) | (apply Dr.opS0; exact rfl)); ((simp [I.need]) <;> rfl)) | (apply Dr.call; ((simp [formC]) <;> rfl); exact hxy _) | (apply Dr.callG; (exact rfl); ((simp [formC]) <;> rfl); exact hxy _) | (apply Dr.call; ((simp [formC]) <;> rfl); exact rxy _) | (apply Dr.callG; (exact rfl); ((simp [formC]) <;> rfl); exact rxy _))); exact Dr.nil) (by first | decide +kernel | exact rfl) (by (simp [M2.keep]) <;> rfl) ?_
          (all_goals have := fa (a2 @formC.eq_1 sps); repeat' first | refine Wp.v ?_ | (apply Wp.call; exact wx _) | (apply Wp.call; exact wy _) | (apply Wp.call; exact kno _) | (refine Wp.c ?_ ?_ <;> intro))
          refine Wp.ret ?_; simp [Res, resU, res1, c_joinerylaw16_MatchFirst]
        | true =>
          rw [hRy] at wy
          have qxy := fun st => rfirst_call x y (right_form sx rx hRx) (right_form sy ry hRy) st
          have hm : mfirstU x y = .tup [.agg (spotC (linesF x) (linesF y)), .bool (!decide (linesF x = linesF y)), i64 0] := by simp [mfirstU, hRx, hRy]
          rw [hm] at fxy
          obtain ⟨n, wa, wb, hs⟩ : ∃ n wa wb, spotC (linesF x) (linesF y) = [i64 n, .str wa, .str wb] := by
            unfold spotC
            split
            · exact ⟨_, _, _, rfl⟩
            · exact ⟨_, _, _, rfl⟩
          rw [hs] at fxy qxy
          generalize (!decide (linesF x = linesF y)) = bb at *
          (all_goals have := fa @formC.eq_1; repeat' first | refine Wp.v ?_ | (apply Wp.call; exact gx _) | (apply Wp.call; exact gy _) | (apply Wp.call; exact fxy _) | (refine Wp.c ?_ ?_ <;> intro))
          refine Wp.draw (by (simp [c_joinerylaw16_MatchFirst_D0, I.need]) <;> rfl) (by (simp [formC]) <;> rfl) (by (simp [formC]) <;> rfl) (by (unfold c_joinerylaw16_MatchFirst_D0); (repeat (first | ((first | apply Dr.op | apply Dr.opN | (apply Dr.opG; exact rfl)); ((simp [formC]) <;> rfl); (apply Evt.all; intro; (simp [formC]) <;> (try simp (disch := omega) only [wrap_id]) <;> first | exact ⟨rfl, rfl⟩ | exact rfl); ((simp [I.need]) <;> rfl)) | ((first | (apply Dr.opS; exact rfl; decide) | (apply Dr.opS0; exact rfl)); ((simp [I.need]) <;> rfl)) | (apply Dr.call; ((simp [formC]) <;> rfl); exact hxy _) | (apply Dr.callG; (exact rfl); ((simp [formC]) <;> rfl); exact hxy _) | (apply Dr.call; ((simp [formC]) <;> rfl); exact rxy _) | (apply Dr.callG; (exact rfl); ((simp [formC]) <;> rfl); exact rxy _))); exact Dr.nil) (by first | decide +kernel | exact rfl) (by (simp [M2.keep]) <;> rfl) ?_
          (all_goals have := fa @formC.eq_1; repeat' first | refine Wp.v ?_ | (apply Wp.call; exact wx _) | (apply Wp.call; exact wy _) | (apply Wp.call; exact qxy _) | (apply Wp.call; exact kno _) | (refine Wp.c ?_ ?_ <;> intro))
          refine Wp.ret ?_; simp [Res, resU, res1, c_joinerylaw16_MatchFirst]
theorem params3 : Tryd.f3.params.toList = [25, 25] := by kernel_rfl
theorem law3 : Law 3 Tryd.f3.params.toList := by
  rw [params3]
  intro us hl hty
  obtain ⟨x, y, rfl, hx, hy, rx, ry⟩ := args2' hl hty
  exact law_of (law3_call x y hx hy rx ry)
end Go.Proofs.YtbcojbmalcghbaaDoor.M2
namespace Go.Proofs.YtbcojbmalcghbaaDoor.M2
open Go Go.ChangeShapes Go.WideShapes Go.ChangeAt Go.RowKit
theorem bool4 : Tryd.prog.underlying 4 = some .bool := by kernel_rfl
theorem types3 : Tryd.f3.resultTypes = #[4] := by kernel_rfl
set_option maxRecDepth 100000 in
theorem matchFirst_row (law : Law 3 Tryd.f3.params.toList) : Rows.MatchFirstSaid :=
  OpenClaim.holds_of_wide 3 Tryd.f3 rfl rfl rfl rfl rfl rfl rfl ⟨rfl, rfl, rfl, rfl, rfl⟩ rfl rfl rfl rfl rfl (by kernel_rfl) Tryd.func3 (by kernel_rfl)
    (of_decide_eq_true (by kernel_rfl)) (by unfold Func.isWrapper; first | (rw [if_pos (by decide +kernel)]; kernel_rfl) | (rw [if_neg (by decide +kernel)]; exact ⟨rfl, rfl⟩))
    (fun os started H enc _ => lifted (s := Rows.matchFirstSpec) law os started enc (by kernel_rfl) Tryd.func3 rfl (by kernel_rfl) types3 bool4
      (fun ds h => by
        have h1 : ds.length = 2 := h
        match ds, h1 with
        | [d0, d1], _ => rfl)
      (ChangeSpec.witness_shaped (enc := enc) (C := Tryd.checked) (os := os) (X := fun w _ => laidMetH Tryd.prog laid1 w) false (World.doorLaid Tryd.prog 400 os) #[.agg #[.int .i64 0, .slice none 0 0, .slice none 0 0], .agg #[.int .i64 0, .slice none 0 0, .slice none 0 0]] 8 rfl (World.shaped_of_RefB (by kernel_rfl) (by kernel_rfl)) (by kernel_rfl) (by kernel_rfl) (by kernel_rfl) (door_met os _)))
theorem matchFirst_card (law : Law 3 Tryd.f3.params.toList) : Rows.MatchFirstCardSaid :=
  Claim7.holds_tied_plain_at .later [] [.data, .data, .data] true (true, "8aa61df4e82475081fe3e74a8ac6e91d118017ead69d553e152a5e9218672d2f") true
    (matchFirst_row law) (fun _ h => by cases h) (by kernel_rfl) (fun _ h => by cases h) matchFirst_row_tie rfl ⟨rfl, rfl⟩ (by kernel_rfl) rfl
    (fun f fn hf hfn => by
      obtain rfl : f = 3 := Option.some.inj ((show Tryd.prog.funcNamed "joinery/joinerylaw16.MatchFirst" = some 3 by kernel_rfl).symm.trans hf) |>.symm
      obtain rfl : fn = Tryd.f3 := (Option.some.inj (Tryd.func3.symm.trans hfn)).symm
      exact ⟨by kernel_rfl, fun j t ht => by
        rw [Tryd.params3] at ht
        have hm : t ∈ [25, 25] := by simpa using Array.mem_of_getElem? ht
        have hall : ([25, 25].all fun u => !Tryd.prog.wantsStandIn u) = true := by kernel_rfl
        exact (show Tryd.prog.wantsStandIn t = false by simpa using List.all_eq_true.1 hall t hm)⟩)
    (by kernel_rfl)
end Go.Proofs.YtbcojbmalcghbaaDoor.M2
namespace Go.Proofs.YtbcojbmalcghbaaDoor
theorem matchFirst_said : Rows.MatchFirstCardSaid := M2.matchFirst_card M2.law3
end Go.Proofs.YtbcojbmalcghbaaDoor
