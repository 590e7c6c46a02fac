/- ShapeParses: what is read from a text is right, and has just that text. No condition. -/
import Derived.Test.YtbcojbmalcghbaaDoorCl
import Derived.Test.YtbcojbmalcghbaaDoorCm
import Derived.Test.YtbcojbmalcghbaaDoorCh
import Derived.Test.YtbcojbmalcghbaaDoorCg
import Derived.Test.YtbcojbmalcghbaaDoorCf
import Derived.Test.YtbcojbmalcghbaaDoorCards
import Derived.Test.YtbcojbmalcghbaaDoorTie
import Derived.SevenTiedAt
import Derived.Test.YtbcojbmalcghbaaDoorCi
import Derived.Test.YtbcojbmalcghbaaDoorCj
set_option linter.unusedSimpArgs false
set_option linter.unusedVariables false
set_option linter.unusedSectionVars false
namespace Go.Proofs.YtbcojbmalcghbaaDoor.M2
open Go
attribute [local simp] ev1 M2.get put A.ev ld sub part elems bin arith un opt idx fillC cellsO splice over newOb sto fillR laidOwn appTo appRow touch touchN touchM touchE touchA plainU flatU plainAs allM rowAt stoRow accM_nil accM_cons accMM_nil accMM_cons frz_int frz_bool frz_str frz_slt frz_nils frz_nilI frz_nilF frz_own frzRow_row frzRow_frow Ob.blw blw_bool blw_int blw_str blw_nils blw_nilI blw_nilF blw_nilp blw_nilm blw_sl blw_own blw_bp blw_rp blw_mp blw_it params
attribute [local simp] frz_agg frz_tup frz_iface frzS_agg frzS_iface accMS_cons frzS_int frzS_bool frzS_str frzS_slt frzS_nils frzS_nilI beq_dec bne_dec
attribute [local irreducible] Typed TypedA
def noForm : FForm := ⟨0, [], []⟩
theorem noForm_same (st : List Ob) : Cl T n_joineryref13_Same [.agg [i64 0, .sl true [], .sl true []], .agg [i64 0, .nils, .nils]] st (.bool true) st := by
  have hs : Small noForm := ⟨by decide, by decide, by simp [noForm], by simp [noForm], by simp [noForm]⟩
  have h := rsame_call noForm noForm hs hs st
  rw [show decide (noForm = noForm) = true by decide] at h
  exact Cl.lend (fn := c_joineryref13_Same) rfl rfl (bs := [formU noForm, formU noForm]) rfl rfl h
set_option maxHeartbeats 8000000 in
theorem law9_call (s : List UInt8) : Cl T n_joinerylaw14_ShapeParses [.str s] [] (.bool true) [] := by
  refine Wp.pure (fn := c_joinerylaw14_ShapeParses) rfl rfl rfl («as» := [.str s]) rfl ?_
  have kno := knows14_call
  by_cases hs : (5000 : Int) < s.length
  · (all_goals have := fa hs; repeat' first | refine Wp.v ?_ | (apply Wp.call; exact kno _) | (refine Wp.c ?_ ?_ <;> intro))
    refine Wp.ret ?_; simp [Res, resU, res1, c_joinerylaw14_ShapeParses]
  · have hs' : s.length ≤ 5000 := by omega
    have hp := fun st => parse_call s (by omega) st
    cases hf : pForm s with
    | none =>
      rw [hf] at hp
      simp only [parU] at hp
      have hno := noForm_same
      (all_goals have := fa hs; repeat' first | refine Wp.v ?_ | (apply Wp.call; exact hp _) | (apply Wp.call; exact hno _) | (apply Wp.call; exact kno _) | (refine Wp.c ?_ ?_ <;> intro))
      refine Wp.ret ?_; simp [Res, resU, res1, c_joinerylaw14_ShapeParses]
    | some x =>
      obtain ⟨hr, he⟩ := pForm_some hf
      obtain ⟨hsm, hrg⟩ := pForm_small hf hs'
      rw [hf] at hp
      simp only [parU, formU, formC] at hp
      have hri := fun st => rright_call x hsm st
      rw [hr] at hri
      have hpr := fun st => rprint_call x (right_form hsm hrg hr) st
      rw [he] at hpr
      simp only [formU, formC] at hri hpr
      (all_goals have := fa hs; repeat' first | refine Wp.v ?_ | (apply Wp.call; exact hp _) | (apply Wp.call; exact hri _) | (apply Wp.call; exact hpr _) | (apply Wp.call; exact kno _) | (refine Wp.c ?_ ?_ <;> intro))
      refine Wp.ret ?_; simp [Res, resU, res1, c_joinerylaw14_ShapeParses]
theorem typed_str {d : Nat} {us : List U} (h : Typed Tryd.prog (d + 1) 9 us) : ∃ s : List UInt8, us = [.str s] := by
  unfold Typed at h
  simp only [Tryd.underlying9] at h
  obtain ⟨s, e, _⟩ := h
  exact ⟨s, e⟩
theorem params9 : Tryd.f9.params.toList = [9] := by kernel_rfl
theorem law9 : Law 9 Tryd.f9.params.toList := by
  rw [params9]
  intro us hl hty
  obtain ⟨u, rfl⟩ : ∃ u, us = [u] := by
    match us, hl with
    | [a], _ => exact ⟨a, rfl⟩
  obtain ⟨s, e⟩ := typed_str (d := 7) ((hty 0 9 u rfl rfl).one (by kernel_rfl))
  injection e with e
  subst e
  exact law_of (law9_call s)
end Go.Proofs.YtbcojbmalcghbaaDoor.M2
namespace Go.Proofs.YtbcojbmalcghbaaDoor.M2
open Go Go.ChangeShapes Go.WideShapes Go.ChangeAt Go.RowKit
theorem bool4 : Tryd.prog.underlying 4 = some .bool := by kernel_rfl
theorem types9 : Tryd.f9.resultTypes = #[4] := by kernel_rfl
set_option maxRecDepth 100000 in
theorem shapeParses_row (law : Law 9 Tryd.f9.params.toList) : Rows.ShapeParsesSaid :=
  OpenClaim.holds_of_wide 9 Tryd.f9 rfl rfl rfl rfl rfl rfl rfl ⟨rfl, rfl, rfl, rfl, rfl⟩ rfl rfl rfl rfl rfl (by kernel_rfl) Tryd.func9 (by kernel_rfl)
    (of_decide_eq_true (by kernel_rfl)) (by unfold Func.isWrapper; first | (rw [if_pos (by decide +kernel)]; kernel_rfl) | (rw [if_neg (by decide +kernel)]; exact ⟨rfl, rfl⟩))
    (fun os started H enc _ => lifted (s := Rows.shapeParsesSpec) law os started enc (by kernel_rfl) Tryd.func9 rfl (by kernel_rfl) types9 bool4
      (fun ds h => by
        have h1 : ds.length = 1 := h
        match ds, h1 with
        | [d0], _ => rfl)
      (ChangeSpec.witness_shaped (enc := enc) (C := Tryd.checked) (os := os) (X := fun w _ => laidMetH Tryd.prog laid1 w) false (World.doorLaid Tryd.prog 400 os) #[.string ⟨#[]⟩] 8 rfl (World.shaped_of_RefB (by kernel_rfl) (by kernel_rfl)) (by kernel_rfl) (by kernel_rfl) (by kernel_rfl) (door_met os _)))
theorem shapeParses_card (law : Law 9 Tryd.f9.params.toList) : Rows.ShapeParsesCardSaid :=
  Claim7.holds_tied_plain_at .later [] [.data, .data, .data] true (true, "8aa61df4e82475081fe3e74a8ac6e91d118017ead69d553e152a5e9218672d2f") true
    (shapeParses_row law) (fun _ h => by cases h) (by kernel_rfl) (fun _ h => by cases h) shapeParses_row_tie rfl ⟨rfl, rfl⟩ (by kernel_rfl) rfl
    (fun f fn hf hfn => by
      obtain rfl : f = 9 := Option.some.inj ((show Tryd.prog.funcNamed "joinery/joinerylaw14.ShapeParses" = some 9 by kernel_rfl).symm.trans hf) |>.symm
      obtain rfl : fn = Tryd.f9 := (Option.some.inj (Tryd.func9.symm.trans hfn)).symm
      exact ⟨by kernel_rfl, fun j t ht => by
        rw [Tryd.params9] at ht
        have hm : t ∈ [9] := by simpa using Array.mem_of_getElem? ht
        have hall : ([9].all fun u => !Tryd.prog.wantsStandIn u) = true := by kernel_rfl
        exact (show Tryd.prog.wantsStandIn t = false by simpa using List.all_eq_true.1 hall t hm)⟩)
    (by kernel_rfl)
end Go.Proofs.YtbcojbmalcghbaaDoor.M2
namespace Go.Proofs.YtbcojbmalcghbaaDoor
theorem shapeParses_said : Rows.ShapeParsesCardSaid := M2.shapeParses_card M2.law9
end Go.Proofs.YtbcojbmalcghbaaDoor
