/- MatchAlike: being alike goes both ways, and from one to a third by a second. No condition. -/
import Derived.Test.YtbcojbmalcghbaaDoorCg
import Derived.Test.YtbcojbmalcghbaaDoorCf
import Derived.Test.YtbcojbmalcghbaaDoorCards
import Derived.Test.YtbcojbmalcghbaaDoorTie
import Derived.SevenTiedAt
set_option linter.unusedSimpArgs false
set_option linter.unusedVariables false
set_option linter.unusedSectionVars false
namespace Go.Proofs.YtbcojbmalcghbaaDoor.M2
open Go
attribute [local simp] ev1 M2.get put A.ev ld sub part elems bin arith un opt idx fillC cellsO splice over newOb sto fillR laidOwn appTo appRow touch touchN touchM touchE touchA plainU flatU plainAs allM rowAt stoRow accM_nil accM_cons accMM_nil accMM_cons frz_int frz_bool frz_str frz_slt frz_nils frz_nilI frz_nilF frz_own frzRow_row frzRow_frow Ob.blw blw_bool blw_int blw_str blw_nils blw_nilI blw_nilF blw_nilp blw_nilm blw_sl blw_own blw_bp blw_rp blw_mp blw_it params
attribute [local simp] frz_agg frz_tup frz_iface frzS_agg frzS_iface accMS_cons frzS_int frzS_bool frzS_str frzS_slt frzS_nils frzS_nilI beq_dec bne_dec
attribute [local irreducible] Typed TypedA
set_option maxHeartbeats 8000000 in
theorem law5_call (x y z : FForm) (hx : Big x) (hy : Big y) (hz : Big z) : Cl T n_joinerylaw16_MatchAlike [formU x, formU y, formU z] [] (.bool true) [] := by
  refine Wp.pure (fn := c_joinerylaw16_MatchAlike) rfl rfl rfl («as» := [formU x, formU y, formU z]) rfl ?_
  have kno := knows16_call
  have gx := fun st => great_call x hx st
  have gy := fun st => great_call y hy st
  have gz := fun st => great_call z hz st
  cases ex : greatF x with
  | true =>
    rw [ex] at gx
    (all_goals have := fa @formC.eq_1; repeat' first | refine Wp.v ?_ | (apply Wp.call; exact gx _) | (apply Wp.call; exact kno _) | (refine Wp.c ?_ ?_ <;> intro))
    refine Wp.ret ?_; simp [Res, resU, res1, c_joinerylaw16_MatchAlike]
  | false =>
    rw [ex] at gx
    cases ey : greatF y with
    | true =>
      rw [ey] at gy
      (all_goals have := fa @formC.eq_1; repeat' first | refine Wp.v ?_ | (apply Wp.call; exact gx _) | (apply Wp.call; exact gy _) | (apply Wp.call; exact kno _) | (refine Wp.c ?_ ?_ <;> intro))
      refine Wp.ret ?_; simp [Res, resU, res1, c_joinerylaw16_MatchAlike]
    | false =>
      rw [ey] at gy
      cases ez : greatF z with
      | true =>
        rw [ez] at gz
        (all_goals have := fa @formC.eq_1; repeat' first | refine Wp.v ?_ | (apply Wp.call; exact gx _) | (apply Wp.call; exact gy _) | (apply Wp.call; exact gz _) | (apply Wp.call; exact kno _) | (refine Wp.c ?_ ?_ <;> intro))
        refine Wp.ret ?_; simp [Res, resU, res1, c_joinerylaw16_MatchAlike]
      | false =>
        rw [ez] at gz
        have sx := small_of ex
        have sy := small_of ey
        have sz := small_of ez
        have hxx : ∀ st, Cl T n_match_Same [formU x, formU x] st (.bool true) st := fun st => by simpa using same_call x x sx sx st
        have hxy := fun st => same_call x y sx sy st
        have hyx : ∀ st, Cl T n_match_Same [formU y, formU x] st (.bool (decide (x = y))) st := fun st => by
          have := same_call y x sy sx st
          rwa [decide_eq_decide.2 (eq_comm (a := y) (b := x))] at this
        have hyz := fun st => same_call y z sy sz st
        have hxz := fun st => same_call x z sx sz st
        have htr : decide (x = y) = true → decide (y = z) = true → decide (x = z) = true := fun h1 h2 => decide_eq_true ((of_decide_eq_true h1).trans (of_decide_eq_true h2))
        generalize decide (x = y) = b1 at *
        generalize decide (y = z) = b2 at *
        generalize decide (x = z) = b3 at *
        (all_goals have := fa @formC.eq_1; repeat' first | refine Wp.v ?_ | (apply Wp.call; exact gx _) | (apply Wp.call; exact gy _) | (apply Wp.call; exact gz _) | (refine Wp.c ?_ ?_ <;> intro))
        refine Wp.draw (by (simp [c_joinerylaw16_MatchAlike_D0, I.need]) <;> rfl) (by (simp [formC]) <;> rfl) (by (simp [formC]) <;> rfl) (by (unfold c_joinerylaw16_MatchAlike_D0); (repeat (first | ((first | apply Dr.op | apply Dr.opN | (apply Dr.opG; exact rfl)); ((simp [formC]) <;> rfl); (apply Evt.all; intro; (simp [formC]) <;> (try simp (disch := omega) only [wrap_id]) <;> first | exact ⟨rfl, rfl⟩ | exact rfl); ((simp [I.need]) <;> rfl)) | ((first | (apply Dr.opS; exact rfl; decide) | (apply Dr.opS0; exact rfl)); ((simp [I.need]) <;> rfl)) | (apply Dr.call; ((simp [formC]) <;> rfl); exact hxx _) | (apply Dr.callG; (exact rfl); ((simp [formC]) <;> rfl); exact hxx _) | (apply Dr.call; ((simp [formC]) <;> rfl); exact hxy _) | (apply Dr.callG; (exact rfl); ((simp [formC]) <;> rfl); exact hxy _) | (apply Dr.call; ((simp [formC]) <;> rfl); exact hyx _) | (apply Dr.callG; (exact rfl); ((simp [formC]) <;> rfl); exact hyx _))); exact Dr.nil) (by first | decide +kernel | exact rfl) (by (simp [M2.keep]) <;> rfl) ?_
        cases b1 with
        | false =>
          (all_goals have := fa @formC.eq_1; repeat' first | refine Wp.v ?_ | (apply Wp.call; exact hxy _) | (apply Wp.call; exact kno _) | (refine Wp.c ?_ ?_ <;> intro))
          refine Wp.ret ?_; simp [Res, resU, res1, c_joinerylaw16_MatchAlike]
        | true =>
          cases b2 with
          | false =>
            (all_goals have := fa @formC.eq_1; repeat' first | refine Wp.v ?_ | (apply Wp.call; exact hxy _) | (apply Wp.call; exact hyz _) | (apply Wp.call; exact kno _) | (refine Wp.c ?_ ?_ <;> intro))
            refine Wp.ret ?_; simp [Res, resU, res1, c_joinerylaw16_MatchAlike]
          | true =>
            have := htr rfl rfl
            subst this
            (all_goals have := fa @formC.eq_1; repeat' first | refine Wp.v ?_ | (apply Wp.call; exact hxy _) | (apply Wp.call; exact hyz _) | (apply Wp.call; exact hxz _) | (apply Wp.call; exact kno _) | (refine Wp.c ?_ ?_ <;> intro))
            refine Wp.ret ?_; simp [Res, resU, res1, c_joinerylaw16_MatchAlike]
theorem args3 {us : List U} (hl : us.length = 3) (hty : ∀ (j : Nat) t u, [25, 25, 25][j]? = some t → us[j]? = some u → TypedA Tryd.prog 8 t u) : ∃ x y z : FForm, us = [formU x, formU y, formU z] ∧ Big x ∧ Big y ∧ Big z := by
  match us, hl with
  | [u, v, w], _ =>
    obtain ⟨x, rfl, hx, _⟩ := typed_formA (hty 0 25 u rfl rfl)
    obtain ⟨y, rfl, hy, _⟩ := typed_formA (hty 1 25 v rfl rfl)
    obtain ⟨z, rfl, hz, _⟩ := typed_formA (hty 2 25 w rfl rfl)
    exact ⟨x, y, z, rfl, hx, hy, hz⟩
theorem params5 : Tryd.f5.params.toList = [25, 25, 25] := by kernel_rfl
theorem law5 : Law 5 Tryd.f5.params.toList := by
  rw [params5]
  intro us hl hty
  obtain ⟨x, y, z, rfl, hx, hy, hz⟩ := args3 hl hty
  exact law_of (law5_call x y z hx hy hz)
end Go.Proofs.YtbcojbmalcghbaaDoor.M2
namespace Go.Proofs.YtbcojbmalcghbaaDoor.M2
open Go Go.ChangeShapes Go.WideShapes Go.ChangeAt Go.RowKit
theorem bool4 : Tryd.prog.underlying 4 = some .bool := by kernel_rfl
theorem types5 : Tryd.f5.resultTypes = #[4] := by kernel_rfl
set_option maxRecDepth 100000 in
theorem matchAlike_row (law : Law 5 Tryd.f5.params.toList) : Rows.MatchAlikeSaid :=
  OpenClaim.holds_of_wide 5 Tryd.f5 rfl rfl rfl rfl rfl rfl rfl ⟨rfl, rfl, rfl, rfl, rfl⟩ rfl rfl rfl rfl rfl (by kernel_rfl) Tryd.func5 (by kernel_rfl)
    (of_decide_eq_true (by kernel_rfl)) (by unfold Func.isWrapper; first | (rw [if_pos (by decide +kernel)]; kernel_rfl) | (rw [if_neg (by decide +kernel)]; exact ⟨rfl, rfl⟩))
    (fun os started H enc _ => lifted (s := Rows.matchAlikeSpec) law os started enc (by kernel_rfl) Tryd.func5 rfl (by kernel_rfl) types5 bool4
      (fun ds h => by
        have h1 : ds.length = 3 := h
        match ds, h1 with
        | [d0, d1, d2], _ => rfl)
      (ChangeSpec.witness_shaped (enc := enc) (C := Tryd.checked) (os := os) (X := fun w _ => laidMetH Tryd.prog laid1 w) false (World.doorLaid Tryd.prog 400 os) #[.agg #[.int .i64 0, .slice none 0 0, .slice none 0 0], .agg #[.int .i64 0, .slice none 0 0, .slice none 0 0], .agg #[.int .i64 0, .slice none 0 0, .slice none 0 0]] 8 rfl (World.shaped_of_RefB (by kernel_rfl) (by kernel_rfl)) (by kernel_rfl) (by kernel_rfl) (by kernel_rfl) (door_met os _)))
theorem matchAlike_card (law : Law 5 Tryd.f5.params.toList) : Rows.MatchAlikeCardSaid :=
  Claim7.holds_tied_plain_at .later [] [.data, .data, .data] true (true, "8aa61df4e82475081fe3e74a8ac6e91d118017ead69d553e152a5e9218672d2f") true
    (matchAlike_row law) (fun _ h => by cases h) (by kernel_rfl) (fun _ h => by cases h) matchAlike_row_tie rfl ⟨rfl, rfl⟩ (by kernel_rfl) rfl
    (fun f fn hf hfn => by
      obtain rfl : f = 5 := Option.some.inj ((show Tryd.prog.funcNamed "joinery/joinerylaw16.MatchAlike" = some 5 by kernel_rfl).symm.trans hf) |>.symm
      obtain rfl : fn = Tryd.f5 := (Option.some.inj (Tryd.func5.symm.trans hfn)).symm
      exact ⟨by kernel_rfl, fun j t ht => by
        rw [Tryd.params5] at ht
        have hm : t ∈ [25, 25, 25] := by simpa using Array.mem_of_getElem? ht
        have hall : ([25, 25, 25].all fun u => !Tryd.prog.wantsStandIn u) = true := by kernel_rfl
        exact (show Tryd.prog.wantsStandIn t = false by simpa using List.all_eq_true.1 hall t hm)⟩)
    (by kernel_rfl)
end Go.Proofs.YtbcojbmalcghbaaDoor.M2
namespace Go.Proofs.YtbcojbmalcghbaaDoor
theorem matchAlike_said : Rows.MatchAlikeCardSaid := M2.matchAlike_card M2.law5
end Go.Proofs.YtbcojbmalcghbaaDoor
