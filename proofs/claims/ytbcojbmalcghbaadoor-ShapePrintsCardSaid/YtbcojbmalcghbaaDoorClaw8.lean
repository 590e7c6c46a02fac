/- ShapePrints: which forms are right, the ways to their nodes, and their texts, is what the document says, or the error is told. No condition. -/
import Derived.Test.YtbcojbmalcghbaaDoorCk
import Derived.Test.YtbcojbmalcghbaaDoorCh
import Derived.Test.YtbcojbmalcghbaaDoorCg
import Derived.Test.YtbcojbmalcghbaaDoorCf
import Derived.Test.YtbcojbmalcghbaaDoorCards
import Derived.Test.YtbcojbmalcghbaaDoorTie
import Derived.SevenTiedAt
set_option linter.unusedSimpArgs false
set_option linter.unusedVariables false
set_option linter.unusedSectionVars false
namespace Go.Proofs.YtbcojbmalcghbaaDoor.M2
open Go
attribute [local simp] ev1 M2.get put A.ev ld sub part elems bin arith un opt idx fillC cellsO splice over newOb sto fillR laidOwn appTo appRow touch touchN touchM touchE touchA plainU flatU plainAs allM rowAt stoRow accM_nil accM_cons accMM_nil accMM_cons frz_int frz_bool frz_str frz_slt frz_nils frz_nilI frz_nilF frz_own frzRow_row frzRow_frow Ob.blw blw_bool blw_int blw_str blw_nils blw_nilI blw_nilF blw_nilp blw_nilm blw_sl blw_own blw_bp blw_rp blw_mp blw_it params
attribute [local simp] frz_agg frz_tup frz_iface frzS_agg frzS_iface accMS_cons frzS_int frzS_bool frzS_str frzS_slt frzS_nils frzS_nilI beq_dec bne_dec
attribute [local irreducible] Typed TypedA
def sp3S (x : FForm) (s : List UInt8) (e : Int) (W : List (Int × Int)) (k : Nat) : S := ⟨[(2, .bp 0 0), (5, .str s), (6, i64 e), (7, srcsU W), (8, srcsU W), (9, i64 k)], [.box (formC x)]⟩
set_option maxHeartbeats 4000000 in
theorem sp3_loop (x : FForm) (s : List UInt8) (e : Int) (W : List (Int × Int)) (hW : W.length ≤ 1300) (R : S → Prop) : Wp T (.loop c_joinerylaw14_ShapePrints_L3) (sp3S x s e W 0) (fun _ => False) R
    (fun b s' => b = 0 ∧ s' = ⟨[(2, .bp 0 0), (5, .str s), (6, i64 e), (7, srcsU W), (8, srcsU W), (9, i64 (W.length : Nat)), (39, .bool false)], [.box (formC x)]⟩) := by
  refine Wp.count W.length (fun k => sp3S x s e W k) (fun _ => True) (fun k hk _ => ?_) (fun _ => ?_) 0 (by omega) trivial
  · have hk' : (k : Int) < W.length := by omega
    have eg : W[k]? = some W[k] := List.getElem?_eq_getElem hk
    generalize W[k] = a at *
    simp only [sp3S, srcsU]
    (have := fa hk'; repeat refine Wp.f ?_)
    refine Wp.i ?_ ?_ <;> intro h1
    · repeat refine Wp.a ?_
      refine Wp.draw (by (simp [c_joinerylaw14_ShapePrints_D2, I.need]) <;> rfl) (by (simp [hk', eg, srcC_len, srcC_take, src_same]) <;> rfl) (by (simp [hk', eg, srcC_len, srcC_take, src_same]) <;> rfl) (by (unfold c_joinerylaw14_ShapePrints_D2); (repeat (first | ((first | apply Dr.op | apply Dr.opN | (apply Dr.opG; exact rfl)); ((simp [hk', eg, srcC_len, srcC_take, src_same]) <;> rfl); (apply Evt.all; intro; (simp [hk', eg, srcC_len, srcC_take, src_same]) <;> (try simp (disch := omega) only [wrap_id]) <;> first | exact ⟨rfl, rfl⟩ | exact rfl); ((simp [I.need]) <;> rfl)) | ((first | (apply Dr.opS; exact rfl; decide) | (apply Dr.opS0; exact rfl)); ((simp [I.need]) <;> rfl)))); exact Dr.nil) (by first | decide +kernel | exact rfl) (by (simp [M2.keep]) <;> rfl) ?_
      repeat refine Wp.a ?_
      refine Wp.i ?_ ?_ <;> intro h2
      · cases h2
      · (have := fa @wrap_id; repeat refine Wp.f ?_)
        exact ⟨trimO_len rfl, trivial⟩
    · cases h1
  · simp only [sp3S, srcsU]
    repeat refine Wp.a ?_
    refine Wp.i ?_ ?_ <;> intro h1
    · simp at h1
    · exact Wp.exit ⟨rfl, rfl⟩
set_option maxHeartbeats 8000000 in
theorem law8_call (x : FForm) (hb : Big x) (hr : FormR x) (n : Int) : Cl T n_joinerylaw14_ShapePrints [formU x, i64 n] [] (.bool true) [] := by
  refine Wp.pure (fn := c_joinerylaw14_ShapePrints) rfl rfl rfl («as» := [formU x, i64 n]) rfl ?_
  have kno := knows14_call
  have gx := fun st => great_call x hb st
  cases ex : greatF x with
  | true =>
    rw [ex] at gx
    (all_goals have := fa @formC.eq_1; repeat' first | refine Wp.v ?_ | (apply Wp.call; exact gx _) | (apply Wp.call; exact kno _) | (refine Wp.c ?_ ?_ <;> intro))
    refine Wp.ret ?_; simp [Res, resU, res1, c_joinerylaw14_ShapePrints]
  | false =>
    rw [ex] at gx
    have sx := small_of ex
    have hw := fun st => ways_call x sx n st
    have hrw := fun st => rways_call x sx n st
    have hri := fun st => right_call x sx st
    have hrr := fun st => rright_call x sx st
    have hpr := fun st => print_call x sx hr st
    have hwl := ways_len sx n
    unfold printU at hpr
    have hl3 := fun s e B => sp3_loop x s e (waysF x n) hwl B
    generalize waysF x n = W at *
    simp only [sp3S, formC] at hl3
    cases hR : rightF x with
    | false =>
      rw [hR] at hri hrr hpr
      simp only [Bool.false_eq_true, if_false] at hpr
      (all_goals have := fa @formC.eq_1; repeat' first | refine Wp.v ?_ | (apply Wp.call; exact gx _) | (apply Wp.call; exact hpr _) | (refine Wp.c ?_ ?_ <;> intro))
      refine Wp.draw (by (simp [c_joinerylaw14_ShapePrints_D0, I.need]) <;> rfl) (by (simp [formC]) <;> rfl) (by (simp [formC]) <;> rfl) (by (unfold c_joinerylaw14_ShapePrints_D0); (repeat (first | ((first | apply Dr.op | apply Dr.opN | (apply Dr.opG; exact rfl)); ((simp [formC]) <;> rfl); (apply Evt.all; intro; (simp [formC]) <;> (try simp (disch := omega) only [wrap_id]) <;> first | exact ⟨rfl, rfl⟩ | exact rfl); ((simp [I.need]) <;> rfl)) | ((first | (apply Dr.opS; exact rfl; decide) | (apply Dr.opS0; exact rfl)); ((simp [I.need]) <;> rfl)) | (apply Dr.call; ((simp [formC]) <;> rfl); exact hw _) | (apply Dr.callG; (exact rfl); ((simp [formC]) <;> rfl); exact hw _) | (apply Dr.call; ((simp [formC]) <;> rfl); exact hrw _) | (apply Dr.callG; (exact rfl); ((simp [formC]) <;> rfl); exact hrw _))); exact Dr.nil) (by first | decide +kernel | exact rfl) (by (simp [M2.keep]) <;> rfl) ?_
      repeat refine Wp.a ?_
      refine Wp.draw (by (simp [c_joinerylaw14_ShapePrints_D1, I.need]) <;> rfl) (by (simp [formC, srcsU]) <;> rfl) (by (simp [formC, srcsU]) <;> rfl) (by (unfold c_joinerylaw14_ShapePrints_D1); (repeat (first | ((first | apply Dr.op | apply Dr.opN | (apply Dr.opG; exact rfl)); ((simp [formC, srcsU]) <;> rfl); (apply Evt.all; intro; (simp [formC, srcsU]) <;> (try simp (disch := omega) only [wrap_id]) <;> first | exact ⟨rfl, rfl⟩ | exact rfl); ((simp [I.need]) <;> rfl)) | ((first | (apply Dr.opS; exact rfl; decide) | (apply Dr.opS0; exact rfl)); ((simp [I.need]) <;> rfl)) | (apply Dr.call; ((simp [formC, srcsU]) <;> rfl); exact hri _) | (apply Dr.callG; (exact rfl); ((simp [formC, srcsU]) <;> rfl); exact hri _) | (apply Dr.call; ((simp [formC, srcsU]) <;> rfl); exact hrr _) | (apply Dr.callG; (exact rfl); ((simp [formC, srcsU]) <;> rfl); exact hrr _))); exact Dr.nil) (by first | decide +kernel | exact rfl) (by (simp [M2.keep]) <;> rfl) ?_
      (repeat' first | refine Wp.u ?_ | (refine Wp.c ?_ ?_ <;> intro))
      refine (hl3 _ _ _).imp (fun _ h => h.elim) (fun _ h => h) ?_
      rintro b s ⟨rfl, rfl⟩
      rw [if_pos rfl]
      (repeat' first | refine Wp.u ?_ | (apply Wp.call; exact hrr _) | (apply Wp.call; exact kno _) | (refine Wp.c ?_ ?_ <;> intro))
      refine Wp.ret ?_; simp [Res, resU, res1, c_joinerylaw14_ShapePrints]
    | true =>
      rw [hR] at hri hrr hpr
      simp only [if_true] at hpr
      have hrp := fun st => rprint_call x (right_form sx hr hR) st
      generalize printF x = t at *
      (all_goals have := fa @formC.eq_1; repeat' first | refine Wp.v ?_ | (apply Wp.call; exact gx _) | (apply Wp.call; exact hpr _) | (refine Wp.c ?_ ?_ <;> intro))
      refine Wp.draw (by (simp [c_joinerylaw14_ShapePrints_D0, I.need]) <;> rfl) (by (simp [formC]) <;> rfl) (by (simp [formC]) <;> rfl) (by (unfold c_joinerylaw14_ShapePrints_D0); (repeat (first | ((first | apply Dr.op | apply Dr.opN | (apply Dr.opG; exact rfl)); ((simp [formC]) <;> rfl); (apply Evt.all; intro; (simp [formC]) <;> (try simp (disch := omega) only [wrap_id]) <;> first | exact ⟨rfl, rfl⟩ | exact rfl); ((simp [I.need]) <;> rfl)) | ((first | (apply Dr.opS; exact rfl; decide) | (apply Dr.opS0; exact rfl)); ((simp [I.need]) <;> rfl)) | (apply Dr.call; ((simp [formC]) <;> rfl); exact hw _) | (apply Dr.callG; (exact rfl); ((simp [formC]) <;> rfl); exact hw _) | (apply Dr.call; ((simp [formC]) <;> rfl); exact hrw _) | (apply Dr.callG; (exact rfl); ((simp [formC]) <;> rfl); exact hrw _))); exact Dr.nil) (by first | decide +kernel | exact rfl) (by (simp [M2.keep]) <;> rfl) ?_
      repeat refine Wp.a ?_
      refine Wp.draw (by (simp [c_joinerylaw14_ShapePrints_D1, I.need]) <;> rfl) (by (simp [formC, srcsU]) <;> rfl) (by (simp [formC, srcsU]) <;> rfl) (by (unfold c_joinerylaw14_ShapePrints_D1); (repeat (first | ((first | apply Dr.op | apply Dr.opN | (apply Dr.opG; exact rfl)); ((simp [formC, srcsU]) <;> rfl); (apply Evt.all; intro; (simp [formC, srcsU]) <;> (try simp (disch := omega) only [wrap_id]) <;> first | exact ⟨rfl, rfl⟩ | exact rfl); ((simp [I.need]) <;> rfl)) | ((first | (apply Dr.opS; exact rfl; decide) | (apply Dr.opS0; exact rfl)); ((simp [I.need]) <;> rfl)) | (apply Dr.call; ((simp [formC, srcsU]) <;> rfl); exact hri _) | (apply Dr.callG; (exact rfl); ((simp [formC, srcsU]) <;> rfl); exact hri _) | (apply Dr.call; ((simp [formC, srcsU]) <;> rfl); exact hrr _) | (apply Dr.callG; (exact rfl); ((simp [formC, srcsU]) <;> rfl); exact hrr _))); exact Dr.nil) (by first | decide +kernel | exact rfl) (by (simp [M2.keep]) <;> rfl) ?_
      (repeat' first | refine Wp.u ?_ | (refine Wp.c ?_ ?_ <;> intro))
      refine (hl3 _ _ _).imp (fun _ h => h.elim) (fun _ h => h) ?_
      rintro b s ⟨rfl, rfl⟩
      rw [if_pos rfl]
      (repeat' first | refine Wp.u ?_ | (apply Wp.call; exact hrr _) | (apply Wp.call; exact hrp _) | (apply Wp.call; exact kno _) | (refine Wp.c ?_ ?_ <;> intro))
      refine Wp.ret ?_; simp [Res, resU, res1, c_joinerylaw14_ShapePrints]
theorem params8 : Tryd.f8.params.toList = [25, 3] := by kernel_rfl
theorem law8 : Law 8 Tryd.f8.params.toList := by
  rw [params8]
  intro us hl hty
  obtain ⟨u, v, rfl⟩ := len2 hl
  obtain ⟨x, rfl, hx, hr⟩ := typed_formA (hty 0 25 u rfl rfl)
  obtain ⟨n, e, _⟩ := typed_i64 (d := 7) Tryd.underlying3 ((hty 1 3 v rfl rfl).one (by kernel_rfl))
  injection e with e
  subst e
  exact law_of (law8_call x hx hr n)
end Go.Proofs.YtbcojbmalcghbaaDoor.M2
namespace Go.Proofs.YtbcojbmalcghbaaDoor.M2
open Go Go.ChangeShapes Go.WideShapes Go.ChangeAt Go.RowKit
theorem bool4 : Tryd.prog.underlying 4 = some .bool := by kernel_rfl
theorem types8 : Tryd.f8.resultTypes = #[4] := by kernel_rfl
set_option maxRecDepth 100000 in
theorem shapePrints_row (law : Law 8 Tryd.f8.params.toList) : Rows.ShapePrintsSaid :=
  OpenClaim.holds_of_wide 8 Tryd.f8 rfl rfl rfl rfl rfl rfl rfl ⟨rfl, rfl, rfl, rfl, rfl⟩ rfl rfl rfl rfl rfl (by kernel_rfl) Tryd.func8 (by kernel_rfl)
    (of_decide_eq_true (by kernel_rfl)) (by unfold Func.isWrapper; first | (rw [if_pos (by decide +kernel)]; kernel_rfl) | (rw [if_neg (by decide +kernel)]; exact ⟨rfl, rfl⟩))
    (fun os started H enc _ => lifted (s := Rows.shapePrintsSpec) law os started enc (by kernel_rfl) Tryd.func8 rfl (by kernel_rfl) types8 bool4
      (fun ds h => by
        have h1 : ds.length = 2 := h
        match ds, h1 with
        | [d0, d1], _ => rfl)
      (ChangeSpec.witness_shaped (enc := enc) (C := Tryd.checked) (os := os) (X := fun w _ => laidMetH Tryd.prog laid1 w) false (World.doorLaid Tryd.prog 400 os) #[.agg #[.int .i64 0, .slice none 0 0, .slice none 0 0], .int .i64 0] 8 rfl (World.shaped_of_RefB (by kernel_rfl) (by kernel_rfl)) (by kernel_rfl) (by kernel_rfl) (by kernel_rfl) (door_met os _)))
theorem shapePrints_card (law : Law 8 Tryd.f8.params.toList) : Rows.ShapePrintsCardSaid :=
  Claim7.holds_tied_plain_at .later [] [.data, .data, .data] true (true, "8aa61df4e82475081fe3e74a8ac6e91d118017ead69d553e152a5e9218672d2f") true
    (shapePrints_row law) (fun _ h => by cases h) (by kernel_rfl) (fun _ h => by cases h) shapePrints_row_tie rfl ⟨rfl, rfl⟩ (by kernel_rfl) rfl
    (fun f fn hf hfn => by
      obtain rfl : f = 8 := Option.some.inj ((show Tryd.prog.funcNamed "joinery/joinerylaw14.ShapePrints" = some 8 by kernel_rfl).symm.trans hf) |>.symm
      obtain rfl : fn = Tryd.f8 := (Option.some.inj (Tryd.func8.symm.trans hfn)).symm
      exact ⟨by kernel_rfl, fun j t ht => by
        rw [Tryd.params8] at ht
        have hm : t ∈ [25, 3] := by simpa using Array.mem_of_getElem? ht
        have hall : ([25, 3].all fun u => !Tryd.prog.wantsStandIn u) = true := by kernel_rfl
        exact (show Tryd.prog.wantsStandIn t = false by simpa using List.all_eq_true.1 hall t hm)⟩)
    (by kernel_rfl)
end Go.Proofs.YtbcojbmalcghbaaDoor.M2
namespace Go.Proofs.YtbcojbmalcghbaaDoor
theorem shapePrints_said : Rows.ShapePrintsCardSaid := M2.shapePrints_card M2.law8
end Go.Proofs.YtbcojbmalcghbaaDoor
