/- ShapeApart: unlike forms that are right have unlike texts. No condition. -/
import Derived.Test.YtbcojbmalcghbaaDoorCk
import Derived.Test.YtbcojbmalcghbaaDoorCl
import Derived.Test.YtbcojbmalcghbaaDoorCh
import Derived.Test.YtbcojbmalcghbaaDoorCg
import Derived.Test.YtbcojbmalcghbaaDoorCf
import Derived.Test.YtbcojbmalcghbaaDoorCards
import Derived.Test.YtbcojbmalcghbaaDoorTie
import Derived.SevenTiedAt
set_option linter.unusedSimpArgs false
set_option linter.unusedVariables false
set_option linter.unusedSectionVars false
namespace Go.Proofs.YtbcojbmalcghbaaDoor.M2
open Go
attribute [local simp] ev1 M2.get put A.ev ld sub part elems bin arith un opt idx fillC cellsO splice over newOb sto fillR laidOwn appTo appRow touch touchN touchM touchE touchA plainU flatU plainAs allM rowAt stoRow accM_nil accM_cons accMM_nil accMM_cons frz_int frz_bool frz_str frz_slt frz_nils frz_nilI frz_nilF frz_own frzRow_row frzRow_frow Ob.blw blw_bool blw_int blw_str blw_nils blw_nilI blw_nilF blw_nilp blw_nilm blw_sl blw_own blw_bp blw_rp blw_mp blw_it params
attribute [local simp] frz_agg frz_tup frz_iface frzS_agg frzS_iface accMS_cons frzS_int frzS_bool frzS_str frzS_slt frzS_nils frzS_nilI beq_dec bne_dec
attribute [local irreducible] Typed TypedA
set_option maxHeartbeats 8000000 in
theorem law11_call (x y : FForm) (hx : Big x) (hy : Big y) (rx : FormR x) (ry : FormR y) : Cl T n_joinerylaw14_ShapeApart [formU x, formU y] [] (.bool true) [] := by
  refine Wp.pure (fn := c_joinerylaw14_ShapeApart) rfl rfl rfl («as» := [formU x, formU y]) rfl ?_
  have kno := knows14_call
  have gx := fun st => great_call x hx st
  have gy := fun st => great_call y hy st
  cases ex : greatF x with
  | true =>
    rw [ex] at gx
    (all_goals have := fa @formC.eq_1; repeat' first | refine Wp.v ?_ | (apply Wp.call; exact gx _) | (apply Wp.call; exact kno _) | (refine Wp.c ?_ ?_ <;> intro))
    refine Wp.ret ?_; simp [Res, resU, res1, c_joinerylaw14_ShapeApart]
  | false =>
    rw [ex] at gx
    cases ey : greatF y with
    | true =>
      rw [ey] at gy
      (all_goals have := fa @formC.eq_1; repeat' first | refine Wp.v ?_ | (apply Wp.call; exact gx _) | (apply Wp.call; exact gy _) | (apply Wp.call; exact kno _) | (refine Wp.c ?_ ?_ <;> intro))
      refine Wp.ret ?_; simp [Res, resU, res1, c_joinerylaw14_ShapeApart]
    | false =>
      rw [ey] at gy
      have sx := small_of ex
      have sy := small_of ey
      have px := fun st => print_call x sx rx st
      have py := fun st => print_call y sy ry st
      have hxy := fun st => rsame_call x y sx sy st
      unfold printU at px py
      cases hRx : rightF x with
      | false =>
        rw [hRx] at px
        simp only [Bool.false_eq_true, if_false] at px
        cases hRy : rightF y with
        | false =>
          rw [hRy] at py
          simp only [Bool.false_eq_true, if_false] at py
          (all_goals have := fa @formC.eq_1; repeat' first | refine Wp.v ?_ | (apply Wp.call; exact gx _) | (apply Wp.call; exact gy _) | (apply Wp.call; exact px _) | (apply Wp.call; exact py _) | (apply Wp.call; exact kno _) | (refine Wp.c ?_ ?_ <;> intro))
          refine Wp.ret ?_; simp [Res, resU, res1, c_joinerylaw14_ShapeApart]
        | true =>
          rw [hRy] at py
          simp only [if_true] at py
          (all_goals have := fa @formC.eq_1; repeat' first | refine Wp.v ?_ | (apply Wp.call; exact gx _) | (apply Wp.call; exact gy _) | (apply Wp.call; exact px _) | (apply Wp.call; exact py _) | (apply Wp.call; exact kno _) | (refine Wp.c ?_ ?_ <;> intro))
          refine Wp.ret ?_; simp [Res, resU, res1, c_joinerylaw14_ShapeApart]
      | true =>
        rw [hRx] at px
        simp only [if_true] at px
        cases hRy : rightF y with
        | false =>
          rw [hRy] at py
          simp only [Bool.false_eq_true, if_false] at py
          (all_goals have := fa @formC.eq_1; repeat' first | refine Wp.v ?_ | (apply Wp.call; exact gx _) | (apply Wp.call; exact gy _) | (apply Wp.call; exact px _) | (apply Wp.call; exact py _) | (apply Wp.call; exact kno _) | (refine Wp.c ?_ ?_ <;> intro))
          refine Wp.ret ?_; simp [Res, resU, res1, c_joinerylaw14_ShapeApart]
        | true =>
          rw [hRy] at py
          simp only [if_true] at py
          by_cases h : x = y
          · have hd : decide (x = y) = true := decide_eq_true h
            rw [hd] at hxy
            have hp : printF x = printF y := by rw [h]
            rw [hp] at px
            generalize printF y = t at *
            (all_goals have := fa @formC.eq_1; repeat' first | refine Wp.v ?_ | (apply Wp.call; exact gx _) | (apply Wp.call; exact gy _) | (apply Wp.call; exact px _) | (apply Wp.call; exact py _) | (apply Wp.call; exact hxy _) | (apply Wp.call; exact kno _) | (refine Wp.c ?_ ?_ <;> intro))
            refine Wp.ret ?_; simp [Res, resU, res1, c_joinerylaw14_ShapeApart]
          · have hd : decide (x = y) = false := decide_eq_false h
            rw [hd] at hxy
            have hp : (printF x == printF y) = false := beq_eq_false_iff_ne.2 fun e => h (print_inj (right_k hRx) (right_k hRy) e)
            generalize printF x = s at *
            generalize printF y = t at *
            (all_goals have := fa (a2 @formC.eq_1 hp); repeat' first | refine Wp.v ?_ | (apply Wp.call; exact gx _) | (apply Wp.call; exact gy _) | (apply Wp.call; exact px _) | (apply Wp.call; exact py _) | (apply Wp.call; exact hxy _) | (apply Wp.call; exact kno _) | (refine Wp.c ?_ ?_ <;> intro))
            refine Wp.ret ?_; simp [Res, resU, res1, c_joinerylaw14_ShapeApart]
theorem args2 {us : List U} (hl : us.length = 2) (hty : ∀ (j : Nat) t u, [25, 25][j]? = some t → us[j]? = some u → TypedA Tryd.prog 8 t u) : ∃ x y : FForm, us = [formU x, formU y] ∧ Big x ∧ Big y ∧ FormR x ∧ FormR y := by
  obtain ⟨u, v, rfl⟩ := len2 hl
  obtain ⟨x, rfl, hx, rx⟩ := typed_formA (hty 0 25 u rfl rfl)
  obtain ⟨y, rfl, hy, ry⟩ := typed_formA (hty 1 25 v rfl rfl)
  exact ⟨x, y, rfl, hx, hy, rx, ry⟩
theorem params11 : Tryd.f11.params.toList = [25, 25] := by kernel_rfl
theorem law11 : Law 11 Tryd.f11.params.toList := by
  rw [params11]
  intro us hl hty
  obtain ⟨x, y, rfl, hx, hy, rx, ry⟩ := args2 hl hty
  exact law_of (law11_call x y hx hy rx ry)
end Go.Proofs.YtbcojbmalcghbaaDoor.M2
namespace Go.Proofs.YtbcojbmalcghbaaDoor.M2
open Go Go.ChangeShapes Go.WideShapes Go.ChangeAt Go.RowKit
theorem bool4 : Tryd.prog.underlying 4 = some .bool := by kernel_rfl
theorem types11 : Tryd.f11.resultTypes = #[4] := by kernel_rfl
set_option maxRecDepth 100000 in
theorem shapeApart_row (law : Law 11 Tryd.f11.params.toList) : Rows.ShapeApartSaid :=
  OpenClaim.holds_of_wide 11 Tryd.f11 rfl rfl rfl rfl rfl rfl rfl ⟨rfl, rfl, rfl, rfl, rfl⟩ rfl rfl rfl rfl rfl (by kernel_rfl) Tryd.func11 (by kernel_rfl)
    (of_decide_eq_true (by kernel_rfl)) (by unfold Func.isWrapper; first | (rw [if_pos (by decide +kernel)]; kernel_rfl) | (rw [if_neg (by decide +kernel)]; exact ⟨rfl, rfl⟩))
    (fun os started H enc _ => lifted (s := Rows.shapeApartSpec) law os started enc (by kernel_rfl) Tryd.func11 rfl (by kernel_rfl) types11 bool4
      (fun ds h => by
        have h1 : ds.length = 2 := h
        match ds, h1 with
        | [d0, d1], _ => rfl)
      (ChangeSpec.witness_shaped (enc := enc) (C := Tryd.checked) (os := os) (X := fun w _ => laidMetH Tryd.prog laid1 w) false (World.doorLaid Tryd.prog 400 os) #[.agg #[.int .i64 0, .slice none 0 0, .slice none 0 0], .agg #[.int .i64 0, .slice none 0 0, .slice none 0 0]] 8 rfl (World.shaped_of_RefB (by kernel_rfl) (by kernel_rfl)) (by kernel_rfl) (by kernel_rfl) (by kernel_rfl) (door_met os _)))
theorem shapeApart_card (law : Law 11 Tryd.f11.params.toList) : Rows.ShapeApartCardSaid :=
  Claim7.holds_tied_plain_at .later [] [.data, .data, .data] true (true, "8aa61df4e82475081fe3e74a8ac6e91d118017ead69d553e152a5e9218672d2f") true
    (shapeApart_row law) (fun _ h => by cases h) (by kernel_rfl) (fun _ h => by cases h) shapeApart_row_tie rfl ⟨rfl, rfl⟩ (by kernel_rfl) rfl
    (fun f fn hf hfn => by
      obtain rfl : f = 11 := Option.some.inj ((show Tryd.prog.funcNamed "joinery/joinerylaw14.ShapeApart" = some 11 by kernel_rfl).symm.trans hf) |>.symm
      obtain rfl : fn = Tryd.f11 := (Option.some.inj (Tryd.func11.symm.trans hfn)).symm
      exact ⟨by kernel_rfl, fun j t ht => by
        rw [Tryd.params11] at ht
        have hm : t ∈ [25, 25] := by simpa using Array.mem_of_getElem? ht
        have hall : ([25, 25].all fun u => !Tryd.prog.wantsStandIn u) = true := by kernel_rfl
        exact (show Tryd.prog.wantsStandIn t = false by simpa using List.all_eq_true.1 hall t hm)⟩)
    (by kernel_rfl)
end Go.Proofs.YtbcojbmalcghbaaDoor.M2
namespace Go.Proofs.YtbcojbmalcghbaaDoor
theorem shapeApart_said : Rows.ShapeApartCardSaid := M2.shapeApart_card M2.law11
end Go.Proofs.YtbcojbmalcghbaaDoor
