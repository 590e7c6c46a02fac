/- ShapeBack: a form's text is read as it. No condition. -/
import Derived.Test.YtbcojbmalcghbaaDoorCl
import Derived.Test.YtbcojbmalcghbaaDoorCj
import Derived.Test.YtbcojbmalcghbaaDoorCi
import Derived.Test.YtbcojbmalcghbaaDoorCh
import Derived.Test.YtbcojbmalcghbaaDoorCg
import Derived.Test.YtbcojbmalcghbaaDoorCf
import Derived.Test.YtbcojbmalcghbaaDoorCards
import Derived.Test.YtbcojbmalcghbaaDoorTie
import Derived.SevenTiedAt
set_option linter.unusedSimpArgs false
set_option linter.unusedVariables false
set_option linter.unusedSectionVars false
namespace Go.Proofs.YtbcojbmalcghbaaDoor.M2
open Go
attribute [local simp] ev1 M2.get put A.ev ld sub part elems bin arith un opt idx fillC cellsO splice over newOb sto fillR laidOwn appTo appRow touch touchN touchM touchE touchA plainU flatU plainAs allM rowAt stoRow accM_nil accM_cons accMM_nil accMM_cons frz_int frz_bool frz_str frz_slt frz_nils frz_nilI frz_nilF frz_own frzRow_row frzRow_frow Ob.blw blw_bool blw_int blw_str blw_nils blw_nilI blw_nilF blw_nilp blw_nilm blw_sl blw_own blw_bp blw_rp blw_mp blw_it params
attribute [local simp] frz_agg frz_tup frz_iface frzS_agg frzS_iface accMS_cons frzS_int frzS_bool frzS_str frzS_slt frzS_nils frzS_nilI beq_dec bne_dec
attribute [local irreducible] Typed TypedA
set_option maxHeartbeats 8000000 in
theorem law10_call (x : FForm) (hb : Big x) (hr : FormR x) : Cl T n_joinerylaw14_ShapeBack [formU x] [] (.bool true) [] := by
  refine Wp.pure (fn := c_joinerylaw14_ShapeBack) rfl rfl rfl («as» := [formU x]) rfl ?_
  have kno := knows14_call
  have gx := fun st => great_call x hb st
  cases ex : greatF x with
  | true =>
    rw [ex] at gx
    (all_goals have := fa @formC.eq_1; repeat' first | refine Wp.v ?_ | (apply Wp.call; exact gx _) | (apply Wp.call; exact kno _) | (refine Wp.c ?_ ?_ <;> intro))
    refine Wp.ret ?_; simp [Res, resU, res1, c_joinerylaw14_ShapeBack]
  | false =>
    rw [ex] at gx
    have sx := small_of ex
    have px := fun st => print_call x sx hr st
    have hri := fun st => rright_call x sx st
    unfold printU at px
    cases hR : rightF x with
    | false =>
      rw [hR] at px hri
      simp only [Bool.false_eq_true, if_false] at px
      (all_goals have := fa @formC.eq_1; repeat' first | refine Wp.v ?_ | (apply Wp.call; exact gx _) | (apply Wp.call; exact px _) | (apply Wp.call; exact hri _) | (apply Wp.call; exact kno _) | (refine Wp.c ?_ ?_ <;> intro))
      refine Wp.ret ?_; simp [Res, resU, res1, c_joinerylaw14_ShapeBack]
    | true =>
      rw [hR] at px
      simp only [if_true] at px
      have hlen := print_len (right_form sx hr hR) ex
      have hp := fun st => parse_call (printF x) (by omega) st
      rw [pForm_back hR hr (by have := sx.nodes; omega)] at hp
      simp only [parU, formU, formC] at hp
      have hsame := fun st => rsame_call x x sx sx st
      rw [show decide (x = x) = true from decide_eq_true rfl] at hsame
      simp only [formU, formC] at hsame
      generalize printF x = s at *
      (all_goals have := fa @formC.eq_1; repeat' first | refine Wp.v ?_ | (apply Wp.call; exact gx _) | (apply Wp.call; exact px _) | (apply Wp.call; exact hp _) | (apply Wp.call; exact hsame _) | (apply Wp.call; exact kno _) | (refine Wp.c ?_ ?_ <;> intro))
      refine Wp.ret ?_; simp [Res, resU, res1, c_joinerylaw14_ShapeBack]
theorem params10 : Tryd.f10.params.toList = [25] := by kernel_rfl
theorem law10 : Law 10 Tryd.f10.params.toList := by
  rw [params10]
  intro us hl hty
  obtain ⟨u, rfl⟩ : ∃ u, us = [u] := by
    match us, hl with
    | [a], _ => exact ⟨a, rfl⟩
  obtain ⟨x, rfl, hx, hr⟩ := typed_formA (hty 0 25 u rfl rfl)
  exact law_of (law10_call x hx hr)
end Go.Proofs.YtbcojbmalcghbaaDoor.M2
namespace Go.Proofs.YtbcojbmalcghbaaDoor.M2
open Go Go.ChangeShapes Go.WideShapes Go.ChangeAt Go.RowKit
theorem bool4 : Tryd.prog.underlying 4 = some .bool := by kernel_rfl
theorem types10 : Tryd.f10.resultTypes = #[4] := by kernel_rfl
set_option maxRecDepth 100000 in
theorem shapeBack_row (law : Law 10 Tryd.f10.params.toList) : Rows.ShapeBackSaid :=
  OpenClaim.holds_of_wide 10 Tryd.f10 rfl rfl rfl rfl rfl rfl rfl ⟨rfl, rfl, rfl, rfl, rfl⟩ rfl rfl rfl rfl rfl (by kernel_rfl) Tryd.func10 (by kernel_rfl)
    (of_decide_eq_true (by kernel_rfl)) (by unfold Func.isWrapper; first | (rw [if_pos (by decide +kernel)]; kernel_rfl) | (rw [if_neg (by decide +kernel)]; exact ⟨rfl, rfl⟩))
    (fun os started H enc _ => lifted (s := Rows.shapeBackSpec) law os started enc (by kernel_rfl) Tryd.func10 rfl (by kernel_rfl) types10 bool4
      (fun ds h => by
        have h1 : ds.length = 1 := h
        match ds, h1 with
        | [d0], _ => rfl)
      (ChangeSpec.witness_shaped (enc := enc) (C := Tryd.checked) (os := os) (X := fun w _ => laidMetH Tryd.prog laid1 w) false (World.doorLaid Tryd.prog 400 os) #[.agg #[.int .i64 0, .slice none 0 0, .slice none 0 0]] 8 rfl (World.shaped_of_RefB (by kernel_rfl) (by kernel_rfl)) (by kernel_rfl) (by kernel_rfl) (by kernel_rfl) (door_met os _)))
theorem shapeBack_card (law : Law 10 Tryd.f10.params.toList) : Rows.ShapeBackCardSaid :=
  Claim7.holds_tied_plain_at .later [] [.data, .data, .data] true (true, "8aa61df4e82475081fe3e74a8ac6e91d118017ead69d553e152a5e9218672d2f") true
    (shapeBack_row law) (fun _ h => by cases h) (by kernel_rfl) (fun _ h => by cases h) shapeBack_row_tie rfl ⟨rfl, rfl⟩ (by kernel_rfl) rfl
    (fun f fn hf hfn => by
      obtain rfl : f = 10 := Option.some.inj ((show Tryd.prog.funcNamed "joinery/joinerylaw14.ShapeBack" = some 10 by kernel_rfl).symm.trans hf) |>.symm
      obtain rfl : fn = Tryd.f10 := (Option.some.inj (Tryd.func10.symm.trans hfn)).symm
      exact ⟨by kernel_rfl, fun j t ht => by
        rw [Tryd.params10] at ht
        have hm : t ∈ [25] := by simpa using Array.mem_of_getElem? ht
        have hall : ([25].all fun u => !Tryd.prog.wantsStandIn u) = true := by kernel_rfl
        exact (show Tryd.prog.wantsStandIn t = false by simpa using List.all_eq_true.1 hall t hm)⟩)
    (by kernel_rfl)
end Go.Proofs.YtbcojbmalcghbaaDoor.M2
namespace Go.Proofs.YtbcojbmalcghbaaDoor
theorem shapeBack_said : Rows.ShapeBackCardSaid := M2.shapeBack_card M2.law10
end Go.Proofs.YtbcojbmalcghbaaDoor
