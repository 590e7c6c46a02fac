/- The laws DifferFuel and DifferBoth in M2. -/
import Derived.Test.YtbmlnfceanfbmaaDoorCi
import Derived.Test.YtbmlnfceanfbmaaDoorCl
import Derived.Test.YtbmlnfceanfbmaaDoorCk
import Derived.Test.YtbmlnfceanfbmaaDoorCe
set_option linter.unusedSimpArgs false
set_option linter.unusedVariables false
set_option linter.unusedSectionVars false
/- What the functions answer in M2. What the laws ask of a case. -/
namespace Go.Proofs.YtbmlnfceanfbmaaDoor.M2
open Go
attribute [local simp] ev1 M2.get put A.ev ld sub part elems bin arith un opt idx fillC cellsO splice over newOb sto fillR laidOwn appTo appRow touch touchN touchM touchE touchA plainU flatU plainAs allM rowAt stoRow accM_nil accM_cons accMM_nil accMM_cons frz_int frz_bool frz_str frz_slt frz_nils frz_nilI frz_nilF frz_own frzRow_row frzRow_frow Ob.blw blw_bool blw_int blw_str blw_nils blw_nilI blw_nilF blw_nilp blw_nilm blw_sl blw_own blw_bp blw_rp blw_mp blw_it params
attribute [local simp] frz_agg frz_tup frz_iface frzS_agg frzS_iface accMS_cons frzS_int frzS_bool frzS_str frzS_slt frzS_nils frzS_nilI beq_dec bne_dec
set_option maxHeartbeats 4000000 in
theorem refRight8_call (c : Cs) (hR : c.R.length = 8) (st : List Ob) : Cl T n_joineryref08_Right [.agg (csU c)] st (.bool (csRight c)) st := by
  obtain ⟨R, h, ans, fuel⟩ := c
  obtain ⟨r0, r1, r2, r3, r4, r5, r6, r7, rfl⟩ := R8 hR
  refine Wp.pure (fn := c_joineryref08_Right) rfl rfl rfl («as» := [.agg (csU ⟨[r0, r1, r2, r3, r4, r5, r6, r7], h, ans, fuel⟩)]) rfl ?_
  unfold csRight
  simp only
  have e0 : decide ((h.length : Int) ≤ 16) = decide (h.length ≤ 16) := decide_eq_decide.2 (by omega)
  have e1 : decide ((ans.length : Int) ≤ 5000) = decide (ans.length ≤ 5000) := decide_eq_decide.2 (by omega)
  by_cases h1 : h.length ≤ 16
  · have d1 : decide (h.length ≤ 16) = true := decide_eq_true h1
    rw [d1] at e0 ⊢
    by_cases h2 : ans.length ≤ 5000
    · have d2 : decide (ans.length ≤ 5000) = true := decide_eq_true h2
      rw [d2] at e1 ⊢
      by_cases h3 : 0 ≤ fuel
      · have d3 : decide (0 ≤ fuel) = true := decide_eq_true h3
        rw [d3]
        repeat' (first | apply Wp.seq | apply Wp.skip | apply Wp.block | (apply Wp.op0; ((simp [M2.keep]) <;> rfl)) | ((first | (apply Wp.pickT; (exact rfl); (first | exact rfl | assumption)) | (apply Wp.pickF; (exact rfl); (first | exact rfl | assumption))); ((simp) <;> exact rfl)) | ((first | apply Wp.op | apply Wp.opN); (apply Evt.all; intro; (simp [csU]) <;> (try simp (disch := omega) only [wrap_id]) <;> first | exact ⟨rfl, rfl⟩ | exact rfl)) | (first | (apply Wp.ung; (exact rfl); (first | exact rfl | assumption)) | (apply Wp.opSt; (exact rfl); (first | exact rfl | assumption)) | (apply Wp.opSf; (exact rfl); (first | exact rfl | assumption))) | (apply Wp.opS0; (exact rfl)) | (first | (apply Wp.condT; (exact rfl); (first | exact rfl | assumption)) | (apply Wp.condF; (exact rfl); (first | exact rfl | assumption))) | ((first | apply Wp.grdT | apply Wp.grdF | apply Wp.cond); (exact rfl); (intro); rotate_left 1; (intro); rotate_right 1))
        refine Wp.ret ?_
        simp [Res, resU, res1, c_joineryref08_Right]
      · have d3 : decide (0 ≤ fuel) = false := decide_eq_false h3
        rw [d3]
        repeat' (first | apply Wp.seq | apply Wp.skip | apply Wp.block | (apply Wp.op0; ((simp [M2.keep]) <;> rfl)) | ((first | (apply Wp.pickT; (exact rfl); (first | exact rfl | assumption)) | (apply Wp.pickF; (exact rfl); (first | exact rfl | assumption))); ((simp) <;> exact rfl)) | ((first | apply Wp.op | apply Wp.opN); (apply Evt.all; intro; (simp [csU]) <;> (try simp (disch := omega) only [wrap_id]) <;> first | exact ⟨rfl, rfl⟩ | exact rfl)) | (first | (apply Wp.ung; (exact rfl); (first | exact rfl | assumption)) | (apply Wp.opSt; (exact rfl); (first | exact rfl | assumption)) | (apply Wp.opSf; (exact rfl); (first | exact rfl | assumption))) | (apply Wp.opS0; (exact rfl)) | (first | (apply Wp.condT; (exact rfl); (first | exact rfl | assumption)) | (apply Wp.condF; (exact rfl); (first | exact rfl | assumption))) | ((first | apply Wp.grdT | apply Wp.grdF | apply Wp.cond); (exact rfl); (intro); rotate_left 1; (intro); rotate_right 1))
        refine Wp.ret ?_
        simp [Res, resU, res1, c_joineryref08_Right]
    · have d2 : decide (ans.length ≤ 5000) = false := decide_eq_false h2
      rw [d2] at e1 ⊢
      repeat' (first | apply Wp.seq | apply Wp.skip | apply Wp.block | (apply Wp.op0; ((simp [M2.keep]) <;> rfl)) | ((first | (apply Wp.pickT; (exact rfl); (first | exact rfl | assumption)) | (apply Wp.pickF; (exact rfl); (first | exact rfl | assumption))); ((simp) <;> exact rfl)) | ((first | apply Wp.op | apply Wp.opN); (apply Evt.all; intro; (simp [csU]) <;> (try simp (disch := omega) only [wrap_id]) <;> first | exact ⟨rfl, rfl⟩ | exact rfl)) | (first | (apply Wp.ung; (exact rfl); (first | exact rfl | assumption)) | (apply Wp.opSt; (exact rfl); (first | exact rfl | assumption)) | (apply Wp.opSf; (exact rfl); (first | exact rfl | assumption))) | (apply Wp.opS0; (exact rfl)) | (first | (apply Wp.condT; (exact rfl); (first | exact rfl | assumption)) | (apply Wp.condF; (exact rfl); (first | exact rfl | assumption))) | ((first | apply Wp.grdT | apply Wp.grdF | apply Wp.cond); (exact rfl); (intro); rotate_left 1; (intro); rotate_right 1))
      refine Wp.ret ?_
      simp [Res, resU, res1, c_joineryref08_Right]
  · have d1 : decide (h.length ≤ 16) = false := decide_eq_false h1
    rw [d1] at e0 ⊢
    repeat' (first | apply Wp.seq | apply Wp.skip | apply Wp.block | (apply Wp.op0; ((simp [M2.keep]) <;> rfl)) | ((first | (apply Wp.pickT; (exact rfl); (first | exact rfl | assumption)) | (apply Wp.pickF; (exact rfl); (first | exact rfl | assumption))); ((simp) <;> exact rfl)) | ((first | apply Wp.op | apply Wp.opN); (apply Evt.all; intro; (simp [csU]) <;> (try simp (disch := omega) only [wrap_id]) <;> first | exact ⟨rfl, rfl⟩ | exact rfl)) | (first | (apply Wp.ung; (exact rfl); (first | exact rfl | assumption)) | (apply Wp.opSt; (exact rfl); (first | exact rfl | assumption)) | (apply Wp.opSf; (exact rfl); (first | exact rfl | assumption))) | (apply Wp.opS0; (exact rfl)) | (first | (apply Wp.condT; (exact rfl); (first | exact rfl | assumption)) | (apply Wp.condF; (exact rfl); (first | exact rfl | assumption))) | ((first | apply Wp.grdT | apply Wp.grdF | apply Wp.cond); (exact rfl); (intro); rotate_left 1; (intro); rotate_right 1))
    refine Wp.ret ?_
    simp [Res, resU, res1, c_joineryref08_Right]
set_option maxHeartbeats 4000000 in
theorem fair8_call (p : Bool) (l : List Ins) (c : Cs) (hR : c.R.length = 8) (st : List Ob) : Cl T n_joineryref08_Fair [insL p l, .agg (csU c)] st (.bool (rightF l && csRight c)) st := by
  have hbr := brw_cs st c hR
  refine Wp.pure (fn := c_joineryref08_Fair) rfl rfl rfl («as» := [insL p l, .agg (csU c)]) (by simp [hbr, insL]; rfl) ?_
  have hr := fun st => right4_call p l st (insL p l) rfl
  have hc := refRight8_call c hR
  have hcl : (csU c).length = 11 := by simp [csU, hR]
  have hct : (csU c).take 11 = csU c := List.take_of_length_le (by omega)
  cases h : rightF l with
  | true =>
    rw [h] at hr
    repeat' (first | apply Wp.seq | apply Wp.skip | apply Wp.block | (apply Wp.op0; ((simp [M2.keep]) <;> rfl)) | ((first | (apply Wp.pickT; (exact rfl); (first | exact rfl | assumption)) | (apply Wp.pickF; (exact rfl); (first | exact rfl | assumption))); ((simp) <;> exact rfl)) | ((first | apply Wp.op | apply Wp.opN); (apply Evt.all; intro; (simp [hcl, hct]) <;> (try simp (disch := omega) only [wrap_id]) <;> first | exact ⟨rfl, rfl⟩ | exact rfl)) | (apply Wp.call; exact hr _) | (apply Wp.call; exact hc _) | (first | (apply Wp.ung; (exact rfl); (first | exact rfl | assumption)) | (apply Wp.opSt; (exact rfl); (first | exact rfl | assumption)) | (apply Wp.opSf; (exact rfl); (first | exact rfl | assumption))) | (apply Wp.opS0; (exact rfl)) | (first | (apply Wp.condT; (exact rfl); (first | exact rfl | assumption)) | (apply Wp.condF; (exact rfl); (first | exact rfl | assumption))) | ((first | apply Wp.grdT | apply Wp.grdF | apply Wp.cond); (exact rfl); (intro); rotate_left 1; (intro); rotate_right 1))
    refine Wp.ret ?_
    simp [Res, resU, res1, c_joineryref08_Fair]
  | false =>
    rw [h] at hr
    repeat' (first | apply Wp.seq | apply Wp.skip | apply Wp.block | (apply Wp.op0; ((simp [M2.keep]) <;> rfl)) | ((first | (apply Wp.pickT; (exact rfl); (first | exact rfl | assumption)) | (apply Wp.pickF; (exact rfl); (first | exact rfl | assumption))); ((simp) <;> exact rfl)) | ((first | apply Wp.op | apply Wp.opN); (apply Evt.all; intro; (simp [hcl, hct]) <;> (try simp (disch := omega) only [wrap_id]) <;> first | exact ⟨rfl, rfl⟩ | exact rfl)) | (apply Wp.call; exact hr _) | (apply Wp.call; exact hc _) | (first | (apply Wp.ung; (exact rfl); (first | exact rfl | assumption)) | (apply Wp.opSt; (exact rfl); (first | exact rfl | assumption)) | (apply Wp.opSf; (exact rfl); (first | exact rfl | assumption))) | (apply Wp.opS0; (exact rfl)) | (first | (apply Wp.condT; (exact rfl); (first | exact rfl | assumption)) | (apply Wp.condF; (exact rfl); (first | exact rfl | assumption))) | ((first | apply Wp.grdT | apply Wp.grdF | apply Wp.cond); (exact rfl); (intro); rotate_left 1; (intro); rotate_right 1))
    refine Wp.ret ?_
    simp [Res, resU, res1, c_joineryref08_Fair]
def great8F (l : List Ins) (c : Cs) : Bool := decide (300 < l.length) || (decide (100 < c.h.length) || (decide (1000 < c.ans.length) || (decide (1000 < c.fuel) && decide (c.fuel ≤ 5000))))
set_option maxHeartbeats 4000000 in
theorem great8_call (p : Bool) (l : List Ins) (c : Cs) (hR : c.R.length = 8) (st : List Ob) : Cl T n_joinerylaw08_Great [insL p l, .agg (csU c)] st (.bool (great8F l c)) st := by
  have hbr := brw_cs st c hR
  refine Wp.pure (fn := c_joinerylaw08_Great) rfl rfl rfl («as» := [insL p l, .agg (csU c)]) (by simp [hbr, insL]; rfl) ?_
  clear hbr
  obtain ⟨R, h, ans, fuel⟩ := c
  obtain ⟨r0, r1, r2, r3, r4, r5, r6, r7, rfl⟩ := R8 hR
  unfold great8F
  simp only
  have e0 : decide (300 < (l.length : Int)) = decide (300 < l.length) := decide_eq_decide.2 (by omega)
  have e1 : decide (100 < (h.length : Int)) = decide (100 < h.length) := decide_eq_decide.2 (by omega)
  have e2 : decide (1000 < (ans.length : Int)) = decide (1000 < ans.length) := decide_eq_decide.2 (by omega)
  by_cases h1 : 300 < l.length
  · have d1 : decide (300 < l.length) = true := decide_eq_true h1
    rw [d1] at e0 ⊢
    repeat' (first | apply Wp.seq | apply Wp.skip | apply Wp.block | (apply Wp.op0; ((simp [M2.keep]) <;> rfl)) | ((first | (apply Wp.pickT; (exact rfl); (first | exact rfl | assumption)) | (apply Wp.pickF; (exact rfl); (first | exact rfl | assumption))); ((simp) <;> exact rfl)) | ((first | apply Wp.op | apply Wp.opN); (apply Evt.all; intro; (simp [csU, insL]) <;> (try simp (disch := omega) only [wrap_id]) <;> first | exact ⟨rfl, rfl⟩ | exact rfl)) | (first | (apply Wp.ung; (exact rfl); (first | exact rfl | assumption)) | (apply Wp.opSt; (exact rfl); (first | exact rfl | assumption)) | (apply Wp.opSf; (exact rfl); (first | exact rfl | assumption))) | (apply Wp.opS0; (exact rfl)) | (first | (apply Wp.condT; (exact rfl); (first | exact rfl | assumption)) | (apply Wp.condF; (exact rfl); (first | exact rfl | assumption))) | ((first | apply Wp.grdT | apply Wp.grdF | apply Wp.cond); (exact rfl); (intro); rotate_left 1; (intro); rotate_right 1))
    refine Wp.ret ?_
    simp [Res, resU, res1, c_joinerylaw08_Great]
  have d1 : decide (300 < l.length) = false := decide_eq_false h1
  rw [d1] at e0 ⊢
  by_cases h2 : 100 < h.length
  · have d2 : decide (100 < h.length) = true := decide_eq_true h2
    rw [d2] at e1 ⊢
    repeat' (first | apply Wp.seq | apply Wp.skip | apply Wp.block | (apply Wp.op0; ((simp [M2.keep]) <;> rfl)) | ((first | (apply Wp.pickT; (exact rfl); (first | exact rfl | assumption)) | (apply Wp.pickF; (exact rfl); (first | exact rfl | assumption))); ((simp) <;> exact rfl)) | ((first | apply Wp.op | apply Wp.opN); (apply Evt.all; intro; (simp [csU, insL]) <;> (try simp (disch := omega) only [wrap_id]) <;> first | exact ⟨rfl, rfl⟩ | exact rfl)) | (first | (apply Wp.ung; (exact rfl); (first | exact rfl | assumption)) | (apply Wp.opSt; (exact rfl); (first | exact rfl | assumption)) | (apply Wp.opSf; (exact rfl); (first | exact rfl | assumption))) | (apply Wp.opS0; (exact rfl)) | (first | (apply Wp.condT; (exact rfl); (first | exact rfl | assumption)) | (apply Wp.condF; (exact rfl); (first | exact rfl | assumption))) | ((first | apply Wp.grdT | apply Wp.grdF | apply Wp.cond); (exact rfl); (intro); rotate_left 1; (intro); rotate_right 1))
    refine Wp.ret ?_
    simp [Res, resU, res1, c_joinerylaw08_Great]
  have d2 : decide (100 < h.length) = false := decide_eq_false h2
  rw [d2] at e1 ⊢
  by_cases h3 : 1000 < ans.length
  · have d3 : decide (1000 < ans.length) = true := decide_eq_true h3
    rw [d3] at e2 ⊢
    repeat' (first | apply Wp.seq | apply Wp.skip | apply Wp.block | (apply Wp.op0; ((simp [M2.keep]) <;> rfl)) | ((first | (apply Wp.pickT; (exact rfl); (first | exact rfl | assumption)) | (apply Wp.pickF; (exact rfl); (first | exact rfl | assumption))); ((simp) <;> exact rfl)) | ((first | apply Wp.op | apply Wp.opN); (apply Evt.all; intro; (simp [csU, insL]) <;> (try simp (disch := omega) only [wrap_id]) <;> first | exact ⟨rfl, rfl⟩ | exact rfl)) | (first | (apply Wp.ung; (exact rfl); (first | exact rfl | assumption)) | (apply Wp.opSt; (exact rfl); (first | exact rfl | assumption)) | (apply Wp.opSf; (exact rfl); (first | exact rfl | assumption))) | (apply Wp.opS0; (exact rfl)) | (first | (apply Wp.condT; (exact rfl); (first | exact rfl | assumption)) | (apply Wp.condF; (exact rfl); (first | exact rfl | assumption))) | ((first | apply Wp.grdT | apply Wp.grdF | apply Wp.cond); (exact rfl); (intro); rotate_left 1; (intro); rotate_right 1))
    refine Wp.ret ?_
    simp [Res, resU, res1, c_joinerylaw08_Great]
  have d3 : decide (1000 < ans.length) = false := decide_eq_false h3
  rw [d3] at e2 ⊢
  by_cases h4 : 1000 < fuel
  · have d4 : decide (1000 < fuel) = true := decide_eq_true h4
    rw [d4]
    repeat' (first | apply Wp.seq | apply Wp.skip | apply Wp.block | (apply Wp.op0; ((simp [M2.keep]) <;> rfl)) | ((first | (apply Wp.pickT; (exact rfl); (first | exact rfl | assumption)) | (apply Wp.pickF; (exact rfl); (first | exact rfl | assumption))); ((simp) <;> exact rfl)) | ((first | apply Wp.op | apply Wp.opN); (apply Evt.all; intro; (simp [csU, insL]) <;> (try simp (disch := omega) only [wrap_id]) <;> first | exact ⟨rfl, rfl⟩ | exact rfl)) | (first | (apply Wp.ung; (exact rfl); (first | exact rfl | assumption)) | (apply Wp.opSt; (exact rfl); (first | exact rfl | assumption)) | (apply Wp.opSf; (exact rfl); (first | exact rfl | assumption))) | (apply Wp.opS0; (exact rfl)) | (first | (apply Wp.condT; (exact rfl); (first | exact rfl | assumption)) | (apply Wp.condF; (exact rfl); (first | exact rfl | assumption))) | ((first | apply Wp.grdT | apply Wp.grdF | apply Wp.cond); (exact rfl); (intro); rotate_left 1; (intro); rotate_right 1))
    refine Wp.ret ?_
    simp [Res, resU, res1, c_joinerylaw08_Great]
  · have d4 : decide (1000 < fuel) = false := decide_eq_false h4
    rw [d4]
    repeat' (first | apply Wp.seq | apply Wp.skip | apply Wp.block | (apply Wp.op0; ((simp [M2.keep]) <;> rfl)) | ((first | (apply Wp.pickT; (exact rfl); (first | exact rfl | assumption)) | (apply Wp.pickF; (exact rfl); (first | exact rfl | assumption))); ((simp) <;> exact rfl)) | ((first | apply Wp.op | apply Wp.opN); (apply Evt.all; intro; (simp [csU, insL]) <;> (try simp (disch := omega) only [wrap_id]) <;> first | exact ⟨rfl, rfl⟩ | exact rfl)) | (first | (apply Wp.ung; (exact rfl); (first | exact rfl | assumption)) | (apply Wp.opSt; (exact rfl); (first | exact rfl | assumption)) | (apply Wp.opSf; (exact rfl); (first | exact rfl | assumption))) | (apply Wp.opS0; (exact rfl)) | (first | (apply Wp.condT; (exact rfl); (first | exact rfl | assumption)) | (apply Wp.condF; (exact rfl); (first | exact rfl | assumption))) | ((first | apply Wp.grdT | apply Wp.grdF | apply Wp.cond); (exact rfl); (intro); rotate_left 1; (intro); rotate_right 1))
    refine Wp.ret ?_
    simp [Res, resU, res1, c_joinerylaw08_Great]
set_option maxHeartbeats 4000000 in
theorem great_call (p q : Bool) (l g : List Ins) (c : Cs) (hR : c.R.length = 8) (st : List Ob) : Cl T n_joinerylaw18_great [insL p l, insL q g, .agg (csU c)] st (.bool (great8F l c || great8F g c)) st := by
  have hbr := brw_cs st c hR
  refine Wp.pure (fn := c_joinerylaw18_great) rfl rfl rfl («as» := [insL p l, insL q g, .agg (csU c)]) (by simp [hbr, insL]; rfl) ?_
  have h1 := great8_call p l c hR
  have h2 := great8_call q g c hR
  have hcl : (csU c).length = 11 := by simp [csU, hR]
  have hct : (csU c).take 11 = csU c := List.take_of_length_le (by omega)
  cases h : great8F l c with
  | true =>
    rw [h] at h1
    repeat' (first | apply Wp.seq | apply Wp.skip | apply Wp.block | (apply Wp.op0; ((simp [M2.keep]) <;> rfl)) | ((first | (apply Wp.pickT; (exact rfl); (first | exact rfl | assumption)) | (apply Wp.pickF; (exact rfl); (first | exact rfl | assumption))); ((simp) <;> exact rfl)) | ((first | apply Wp.op | apply Wp.opN); (apply Evt.all; intro; (simp [hcl, hct]) <;> (try simp (disch := omega) only [wrap_id]) <;> first | exact ⟨rfl, rfl⟩ | exact rfl)) | (apply Wp.call; exact h1 _) | (apply Wp.call; exact h2 _) | (first | (apply Wp.ung; (exact rfl); (first | exact rfl | assumption)) | (apply Wp.opSt; (exact rfl); (first | exact rfl | assumption)) | (apply Wp.opSf; (exact rfl); (first | exact rfl | assumption))) | (apply Wp.opS0; (exact rfl)) | (first | (apply Wp.condT; (exact rfl); (first | exact rfl | assumption)) | (apply Wp.condF; (exact rfl); (first | exact rfl | assumption))) | ((first | apply Wp.grdT | apply Wp.grdF | apply Wp.cond); (exact rfl); (intro); rotate_left 1; (intro); rotate_right 1))
    refine Wp.ret ?_
    simp [Res, resU, res1, c_joinerylaw18_great]
  | false =>
    rw [h] at h1
    repeat' (first | apply Wp.seq | apply Wp.skip | apply Wp.block | (apply Wp.op0; ((simp [M2.keep]) <;> rfl)) | ((first | (apply Wp.pickT; (exact rfl); (first | exact rfl | assumption)) | (apply Wp.pickF; (exact rfl); (first | exact rfl | assumption))); ((simp) <;> exact rfl)) | ((first | apply Wp.op | apply Wp.opN); (apply Evt.all; intro; (simp [hcl, hct]) <;> (try simp (disch := omega) only [wrap_id]) <;> first | exact ⟨rfl, rfl⟩ | exact rfl)) | (apply Wp.call; exact h1 _) | (apply Wp.call; exact h2 _) | (first | (apply Wp.ung; (exact rfl); (first | exact rfl | assumption)) | (apply Wp.opSt; (exact rfl); (first | exact rfl | assumption)) | (apply Wp.opSf; (exact rfl); (first | exact rfl | assumption))) | (apply Wp.opS0; (exact rfl)) | (first | (apply Wp.condT; (exact rfl); (first | exact rfl | assumption)) | (apply Wp.condF; (exact rfl); (first | exact rfl | assumption))) | ((first | apply Wp.grdT | apply Wp.grdF | apply Wp.cond); (exact rfl); (intro); rotate_left 1; (intro); rotate_right 1))
    refine Wp.ret ?_
    simp [Res, resU, res1, c_joinerylaw18_great]
end Go.Proofs.YtbmlnfceanfbmaaDoor.M2
/- Typed arguments, as this chapter's data. -/
namespace Go.Proofs.YtbmlnfceanfbmaaDoor.M2
open Go
def rng (n : Int) : Prop := -9223372036854775808 ≤ n ∧ n < 9223372036854775808
section
variable {P : Program}
theorem typed_i64 {t : TypeId} (hu : P.underlying t = some (.int .i64)) {d : Nat} {us : List U} (h : Typed P (d + 1) t us) : ∃ n, us = [i64 n] ∧ rng n := by
  simp only [Typed, hu] at h
  obtain ⟨n, e, hw⟩ := h
  refine ⟨n, e, ?_⟩
  simp [Lit.wf, IntKind.min, IntKind.max, IntKind.bits, IntKind.signed] at hw
  unfold rng
  omega
theorem typed_slice {t e : TypeId} (hu : P.underlying t = some (.slice e)) {d : Nat} {us : List U} (h : Typed P (d + 1) t us) : ∃ xs, us = [.sl true xs] ∧ xs.length ≤ maxLen ∧ ∀ x ∈ xs, Typed P d e x ∧ x.length = P.cellsOf e := by
  simp only [Typed, hu] at h
  exact h
theorem typed_struct {t : TypeId} {fs : Array Field} (hu : P.underlying t = some (.struct fs)) {d : Nat} {us : List U} (h : Typed P (d + 1) t us) : us.length = P.cellsOf t ∧ ∀ f ∈ fs.toList, Typed P d f.type ((us.drop f.offset).take (P.cellsOf f.type)) := by
  simp only [Typed, hu] at h
  exact h
def InsR (x : Ins) : Prop := rng x.op ∧ rng x.d ∧ rng x.a ∧ rng x.b ∧ rng x.n ∧ rng x.to
theorem typed_ins6 {t t1 t2 : TypeId} {a1 a2 a3 a4 a5 a6 : Field} (hu : P.underlying t = some (.struct #[a1, a2, a3, a4, a5, a6])) (o : [a1.offset, a2.offset, a3.offset, a4.offset, a5.offset, a6.offset] = [0, 1, 2, 3, 4, 5]) (ty : [a1.type, a2.type, a3.type, a4.type, a5.type, a6.type] = [t1, t1, t1, t1, t2, t1])
    (h1 : P.underlying t1 = some (.int .i64)) (h2 : P.underlying t2 = some (.int .i64)) (c : P.cellsOf t = 6) (c1 : P.cellsOf t1 = 1) (c2 : P.cellsOf t2 = 1) {d : Nat} {us : List U} (h : Typed P (d + 2) t us) : ∃ x : Ins, us = insU x ∧ InsR x := by
  obtain ⟨hl, h⟩ := typed_struct hu h
  rw [c] at hl
  simp only [List.cons.injEq, and_true] at o ty
  obtain ⟨o1, o2, o3, o4, o5, o6⟩ := o
  obtain ⟨y1, y2, y3, y4, y5, y6⟩ := ty
  match us, hl with
  | [a, b, e, f, g, k], _ =>
    have k1 := h a1 (by simp)
    have k2 := h a2 (by simp)
    have k3 := h a3 (by simp)
    have k4 := h a4 (by simp)
    have k5 := h a5 (by simp)
    have k6 := h a6 (by simp)
    simp only [o1, o2, o3, o4, o5, o6, y1, y2, y3, y4, y5, y6, c1, c2, List.drop, List.take] at k1 k2 k3 k4 k5 k6
    obtain ⟨n1, e1, r1⟩ := typed_i64 h1 k1
    obtain ⟨n2, e2, r2⟩ := typed_i64 h1 k2
    obtain ⟨n3, e3, r3⟩ := typed_i64 h1 k3
    obtain ⟨n4, e4, r4⟩ := typed_i64 h1 k4
    obtain ⟨n5, e5, r5⟩ := typed_i64 h2 k5
    obtain ⟨n6, e6, r6⟩ := typed_i64 h1 k6
    injection e1 with e1
    injection e2 with e2
    injection e3 with e3
    injection e4 with e4
    injection e5 with e5
    injection e6 with e6
    exact ⟨⟨n1, n2, n3, n4, n5, n6⟩, by rw [e1, e2, e3, e4, e5, e6]; rfl, r1, r2, r3, r4, r5, r6⟩
theorem map_of {α : Type} {P : List U → Prop} {Q : α → Prop} (f : α → List U) : ∀ {xs : List (List U)}, (∀ x ∈ xs, ∃ r, x = f r ∧ Q r) → ∃ l : List α, xs = l.map f ∧ ∀ r ∈ l, Q r
  | [], _ => ⟨[], rfl, by simp⟩
  | x :: xs, h => by
    obtain ⟨r, e, q⟩ := h x (by simp)
    obtain ⟨l, hl, hq⟩ := map_of (P := P) f (xs := xs) (fun y hy => h y (by simp [hy]))
    exact ⟨r :: l, by rw [List.map_cons, e, hl], fun y hy => by
      rcases List.mem_cons.1 hy with rfl | hy
      · exact q
      · exact hq y hy⟩
theorem typed_sl {α : Type} {Q : α → Prop} {f : α → List U} {t e : TypeId} (hu : P.underlying t = some (.slice e)) {d : Nat} {u : U} (hf : ∀ x, Typed P d e x → ∃ r, x = f r ∧ Q r) (h : Typed P (d + 1) t [u]) : ∃ l : List α, u = .sl true (l.map f) ∧ l.length < 9223372036854775808 ∧ ∀ x ∈ l, Q x := by
  obtain ⟨xs, e, hm, h⟩ := typed_slice hu h
  obtain ⟨l, hl, hq⟩ := map_of (P := fun _ => True) f (xs := xs) (fun x hx => hf x (h x hx).1)
  injection e with e
  refine ⟨l, by rw [e, hl], ?_, hq⟩
  rw [hl, List.length_map] at hm
  simp only [maxLen] at hm
  omega
end
attribute [local irreducible] Typed
theorem cells43 : Tryd.prog.cellsOf 66 = 6 := by kernel_rfl
theorem cells3 : Tryd.prog.cellsOf 3 = 1 := by kernel_rfl
theorem cells2 : Tryd.prog.cellsOf 2 = 1 := by kernel_rfl
theorem typed_insn {n : Nat} (hn : ∃ d, n = d + 3) {u : U} (h : Typed Tryd.prog n 22 [u]) : ∃ l : List Ins, u = insL true l ∧ l.length < 9223372036854775808 ∧ ∀ x ∈ l, InsR x := by
  obtain ⟨d, rfl⟩ := hn
  exact typed_sl (f := insU) Tryd.underlying22 (fun _ hx => typed_ins6 Tryd.underlying66 rfl rfl Tryd.underlying3 Tryd.underlying2 cells43 cells3 cells2 hx) h
theorem typed_intn {n : Nat} (hn : ∃ d, n = d + 1) {u : U} (h : Typed Tryd.prog n 3 [u]) : ∃ n, u = i64 n ∧ rng n := by
  obtain ⟨d, rfl⟩ := hn
  obtain ⟨n, e, hn⟩ := typed_i64 Tryd.underlying3 h
  injection e with e
  exact ⟨n, e, hn⟩
theorem law_of {f : Nat} {us : List U} (h : Cl T f us [] (.bool true) []) : ∃ n, M2.call T n f us [] = some (.bool true, []) := by
  obtain ⟨N, h⟩ := h
  exact ⟨N, h N (Nat.le_refl _)⟩
end Go.Proofs.YtbmlnfceanfbmaaDoor.M2
/- Typed arguments: cases. -/
namespace Go.Proofs.YtbmlnfceanfbmaaDoor.M2
open Go
section
variable {P : Program}
theorem typed_array {t e : TypeId} {n : Nat} (hu : P.underlying t = some (.array n e)) {d : Nat} {us : List U} (h : Typed P (d + 1) t us) : us.length = P.cellsOf t ∧ ∀ i, i < n → Typed P d e ((us.drop (i * P.cellsOf e)).take (P.cellsOf e)) := by
  simp only [Typed, hu] at h
  exact h
theorem pieces_int {Q : List U → Prop} (hQ : ∀ us, Q us → ∃ n, us = [i64 n] ∧ rng n) : ∀ (n : Nat) (us : List U), us.length = n → (∀ i, i < n → Q ((us.drop (i * 1)).take 1)) → ∃ L : List Int, us = L.map (fun v => i64 v) ∧ L.length = n
  | 0, us, h, _ => ⟨[], by simpa using h, rfl⟩
  | n + 1, us, h, hq => by
    match us, h with
    | a :: us, h =>
      obtain ⟨x, e, _⟩ := hQ _ (hq 0 (by omega))
      obtain ⟨L, k1, k2⟩ := pieces_int hQ n us (by simpa using h) (fun i hi => by
        have := hq (i + 1) (by omega)
        rwa [show (i + 1) * 1 = i * 1 + 1 by omega, List.drop_succ_cons] at this)
      have e' : [a] = [i64 x] := e
      simp only [List.cons.injEq, and_true] at e'
      exact ⟨x :: L, by rw [List.map_cons, e', k1], by simp [k2]⟩
    | [], h => simp at h
theorem typed_ints {t e : TypeId} (hu : P.underlying t = some (.slice e)) (he : P.underlying e = some (.int .i64)) {d : Nat} {us : List U} (h : Typed P (d + 2) t us) : ∃ L : List Int, us = [intsU L] ∧ L.length < 9223372036854775808 := by
  obtain ⟨xs, ex, _⟩ := typed_slice hu h
  rw [ex] at h
  obtain ⟨hp, eh, lh, _⟩ := typed_sl (Q := fun _ => True) (f := fun v => [i64 v]) hu (fun x hx => by
    obtain ⟨n, e, _⟩ := typed_i64 he hx
    exact ⟨n, e, trivial⟩) h
  exact ⟨hp, by rw [ex, eh], lh⟩
theorem typed_case {t tR t2 tH tI : TypeId} {a1 a2 a3 a4 : Field} (hu : P.underlying t = some (.struct #[a1, a2, a3, a4])) (o : [a1.offset, a2.offset, a3.offset, a4.offset] = [0, 8, 9, 10]) (ty : [a1.type, a2.type, a3.type, a4.type] = [tR, tH, tH, tI])
    (hR : P.underlying tR = some (.array 8 t2)) (h2 : P.underlying t2 = some (.int .i64)) (hH : P.underlying tH = some (.slice t2)) (hI : P.underlying tI = some (.int .i64))
    (c : P.cellsOf t = 11) (cR : P.cellsOf tR = 8) (c2 : P.cellsOf t2 = 1) (cH : P.cellsOf tH = 1) (cI : P.cellsOf tI = 1) {d : Nat} {us : List U} (h : Typed P (d + 3) t us) :
    ∃ s : Cs, us = csU s ∧ s.R.length = 8 ∧ s.h.length < 9223372036854775808 ∧ s.ans.length < 9223372036854775808 ∧ rng s.fuel := by
  obtain ⟨hl, h⟩ := typed_struct hu h
  rw [c] at hl
  simp only [List.cons.injEq, and_true] at o ty
  obtain ⟨o1, o2, o3, o4⟩ := o
  obtain ⟨y1, y2, y3, y4⟩ := ty
  have k1 := h a1 (by simp)
  have k2 := h a2 (by simp)
  have k3 := h a3 (by simp)
  have k4 := h a4 (by simp)
  simp only [o1, o2, o3, o4, y1, y2, y3, y4, cR, cH, cI, List.drop_zero] at k1 k2 k3 k4
  obtain ⟨_, k1⟩ := typed_array hR k1
  rw [c2] at k1
  obtain ⟨L, e1, l1⟩ := pieces_int (Q := Typed P (d + 1) t2) (fun us hq => typed_i64 h2 hq) 8 (us.take 8) (by rw [List.length_take]; omega) k1
  have e : us = us.take 8 ++ ((us.drop 8).take 1 ++ ((us.drop 9).take 1 ++ (us.drop 10).take 1)) := by
    have p1 : us.drop 8 = (us.drop 8).take 1 ++ us.drop 9 := by
      have := (List.take_append_drop 1 (us.drop 8)).symm
      rw [List.drop_drop] at this
      exact this
    have p2 : us.drop 9 = (us.drop 9).take 1 ++ us.drop 10 := by
      have := (List.take_append_drop 1 (us.drop 9)).symm
      rw [List.drop_drop] at this
      exact this
    have p3 : (us.drop 10).take 1 = us.drop 10 := List.take_of_length_le (by rw [List.length_drop]; omega)
    rw [p3, ← p2, ← p1, List.take_append_drop]
  obtain ⟨H, e2, lh⟩ := typed_ints hH h2 k2
  obtain ⟨A, e3, la⟩ := typed_ints hH h2 k3
  obtain ⟨n4, e4, r4⟩ := typed_i64 hI k4
  refine ⟨⟨L, H, A, n4⟩, ?_, l1, lh, la, r4⟩
  rw [e, e1, e2, e3, e4]
  rfl
end
attribute [local irreducible] Typed TypedA
theorem cells70 : Tryd.prog.cellsOf 70 = 11 := by kernel_rfl
theorem cells67 : Tryd.prog.cellsOf 67 = 8 := by kernel_rfl
theorem cells68 : Tryd.prog.cellsOf 68 = 1 := by kernel_rfl
theorem agg70 : aggT Tryd.prog 70 = true := by kernel_rfl
theorem agg22 : aggT Tryd.prog 22 = false := by kernel_rfl
theorem args3 {us : List U} (hl : us.length = 3) (hty : ∀ (j : Nat) t u, [22, 22, 70][j]? = some t → us[j]? = some u → TypedA Tryd.prog 8 t u) : ∃ (l g : List Ins) (c : Cs), us = [insL true l, insL true g, .agg (csU c)] ∧ c.R.length = 8 := by
  match us, hl with
  | [u, w, v], _ =>
    obtain ⟨l, rfl, _, _⟩ := typed_insn ⟨5, rfl⟩ ((hty 0 22 u rfl rfl).one agg22)
    obtain ⟨g, rfl, _, _⟩ := typed_insn ⟨5, rfl⟩ ((hty 1 22 w rfl rfl).one agg22)
    obtain ⟨cs, rfl, hc⟩ := (hty 2 70 v rfl rfl).cells agg70
    obtain ⟨c, rfl, h8, _⟩ := typed_case (d := 5) Tryd.underlying70 rfl rfl Tryd.underlying67 Tryd.underlying2 Tryd.underlying68 Tryd.underlying3 cells70 cells67 cells2 cells68 cells3 hc
    exact ⟨l, g, c, rfl, h8⟩
end Go.Proofs.YtbmlnfceanfbmaaDoor.M2
/- The laws DifferFuel and DifferBoth in M2. -/
namespace Go.Proofs.YtbmlnfceanfbmaaDoor.M2
open Go
attribute [local simp] ev1 M2.get put A.ev ld sub part elems bin arith un opt idx fillC cellsO splice over newOb sto fillR laidOwn appTo appRow touch touchN touchM touchE touchA plainU flatU plainAs allM rowAt stoRow accM_nil accM_cons accMM_nil accMM_cons frz_int frz_bool frz_str frz_slt frz_nils frz_nilI frz_nilF frz_own frzRow_row frzRow_frow Ob.blw blw_bool blw_int blw_str blw_nils blw_nilI blw_nilF blw_nilp blw_nilm blw_sl blw_own blw_bp blw_rp blw_mp blw_it params
attribute [local simp] frz_agg frz_tup frz_iface frzS_agg frzS_iface accMS_cons frzS_int frzS_bool frzS_str frzS_slt frzS_nils frzS_nilI beq_dec bne_dec
attribute [local irreducible] Typed TypedA
set_option maxHeartbeats 16000000 in
theorem law12_call (l g : List Ins) (c : Cs) (hR : c.R.length = 8) : Cl T n_joinerylaw18_DifferFuel [insL true l, insL true g, .agg (csU c)] [] (.bool true) [] := by
  have hbr := brw_cs [] c hR
  refine Wp.pure (fn := c_joinerylaw18_DifferFuel) rfl rfl rfl («as» := [insL true l, insL true g, .agg (csU c)]) (by simp [hbr, insL]; rfl) ?_
  clear hbr
  obtain ⟨R, h, ans, fuel⟩ := c
  obtain ⟨r0, r1, r2, r3, r4, r5, r6, r7, rfl⟩ := R8 hR
  have hg := great_call true true l g ⟨[r0, r1, r2, r3, r4, r5, r6, r7], h, ans, 0⟩ rfl
  have h1 := fair8_call true l ⟨[r0, r1, r2, r3, r4, r5, r6, r7], h, ans, 0⟩ rfl
  have h2 := fair8_call true g ⟨[r0, r1, r2, r3, r4, r5, r6, r7], h, ans, 0⟩ rfl
  have kno := knows_call
  cases hG : great8F l ⟨[r0, r1, r2, r3, r4, r5, r6, r7], h, ans, 0⟩ || great8F g ⟨[r0, r1, r2, r3, r4, r5, r6, r7], h, ans, 0⟩ with
  | true =>
    rw [hG] at hg
    repeat' (first | apply Wp.seq | apply Wp.skip | apply Wp.block | (apply Wp.op0; ((simp [M2.keep]) <;> rfl)) | ((first | (apply Wp.pickT; (exact rfl); (first | exact rfl | assumption)) | (apply Wp.pickF; (exact rfl); (first | exact rfl | assumption))); ((simp) <;> exact rfl)) | ((first | apply Wp.op | apply Wp.opN); (apply Evt.all; intro; (simp [csU]) <;> (try simp (disch := omega) only [wrap_id]) <;> first | exact ⟨rfl, rfl⟩ | exact rfl)) | (apply Wp.call; exact hg _) | (apply Wp.call; exact kno _) | (first | (apply Wp.ung; (exact rfl); (first | exact rfl | assumption)) | (apply Wp.opSt; (exact rfl); (first | exact rfl | assumption)) | (apply Wp.opSf; (exact rfl); (first | exact rfl | assumption))) | (apply Wp.opS0; (exact rfl)) | (first | (apply Wp.condT; (exact rfl); (first | exact rfl | assumption)) | (apply Wp.condF; (exact rfl); (first | exact rfl | assumption))) | ((first | apply Wp.grdT | apply Wp.grdF | apply Wp.cond); (exact rfl); (intro); rotate_left 1; (intro); rotate_right 1))
    refine Wp.ret ?_
    simp [Res, resU, res1, c_joinerylaw18_DifferFuel]
  | false =>
    rw [hG] at hg
    cases hA : rightF l && csRight ⟨[r0, r1, r2, r3, r4, r5, r6, r7], h, ans, 0⟩ with
    | false =>
      rw [hA] at h1
      repeat' (first | apply Wp.seq | apply Wp.skip | apply Wp.block | (apply Wp.op0; ((simp [M2.keep]) <;> rfl)) | ((first | (apply Wp.pickT; (exact rfl); (first | exact rfl | assumption)) | (apply Wp.pickF; (exact rfl); (first | exact rfl | assumption))); ((simp) <;> exact rfl)) | ((first | apply Wp.op | apply Wp.opN); (apply Evt.all; intro; (simp [csU]) <;> (try simp (disch := omega) only [wrap_id]) <;> first | exact ⟨rfl, rfl⟩ | exact rfl)) | (apply Wp.call; exact hg _) | (apply Wp.call; exact h1 _) | (apply Wp.call; exact kno _) | (first | (apply Wp.ung; (exact rfl); (first | exact rfl | assumption)) | (apply Wp.opSt; (exact rfl); (first | exact rfl | assumption)) | (apply Wp.opSf; (exact rfl); (first | exact rfl | assumption))) | (apply Wp.opS0; (exact rfl)) | (first | (apply Wp.condT; (exact rfl); (first | exact rfl | assumption)) | (apply Wp.condF; (exact rfl); (first | exact rfl | assumption))) | ((first | apply Wp.grdT | apply Wp.grdF | apply Wp.cond); (exact rfl); (intro); rotate_left 1; (intro); rotate_right 1))
      refine Wp.ret ?_
      simp [Res, resU, res1, c_joinerylaw18_DifferFuel]
    | true =>
      rw [hA] at h1
      cases hB : rightF g && csRight ⟨[r0, r1, r2, r3, r4, r5, r6, r7], h, ans, 0⟩ with
      | false =>
        rw [hB] at h2
        repeat' (first | apply Wp.seq | apply Wp.skip | apply Wp.block | (apply Wp.op0; ((simp [M2.keep]) <;> rfl)) | ((first | (apply Wp.pickT; (exact rfl); (first | exact rfl | assumption)) | (apply Wp.pickF; (exact rfl); (first | exact rfl | assumption))); ((simp) <;> exact rfl)) | ((first | apply Wp.op | apply Wp.opN); (apply Evt.all; intro; (simp [csU]) <;> (try simp (disch := omega) only [wrap_id]) <;> first | exact ⟨rfl, rfl⟩ | exact rfl)) | (apply Wp.call; exact hg _) | (apply Wp.call; exact h1 _) | (apply Wp.call; exact h2 _) | (apply Wp.call; exact kno _) | (first | (apply Wp.ung; (exact rfl); (first | exact rfl | assumption)) | (apply Wp.opSt; (exact rfl); (first | exact rfl | assumption)) | (apply Wp.opSf; (exact rfl); (first | exact rfl | assumption))) | (apply Wp.opS0; (exact rfl)) | (first | (apply Wp.condT; (exact rfl); (first | exact rfl | assumption)) | (apply Wp.condF; (exact rfl); (first | exact rfl | assumption))) | ((first | apply Wp.grdT | apply Wp.grdF | apply Wp.cond); (exact rfl); (intro); rotate_left 1; (intro); rotate_right 1))
        refine Wp.ret ?_
        simp [Res, resU, res1, c_joinerylaw18_DifferFuel]
      | true =>
        rw [hB] at h2
        have hh : h.length ≤ 16 := by
          simp only [Bool.and_eq_true, csRight, decide_eq_true_eq] at hA
          exact hA.2.1
        have ht := tell_call true true l g ⟨[r0, r1, r2, r3, r4, r5, r6, r7], h, ans, 0⟩ rfl (Nat.le_trans hh (by omega)) hA hB
        have hz : tellF (sdF l ⟨[r0, r1, r2, r3, r4, r5, r6, r7], h, ans, 0⟩) (sdF g ⟨[r0, r1, r2, r3, r4, r5, r6, r7], h, ans, 0⟩) = 0 := by
          unfold sdF
          rfl
        rw [hz] at ht
        repeat' (first | apply Wp.seq | apply Wp.skip | apply Wp.block | (apply Wp.op0; ((simp [M2.keep]) <;> rfl)) | ((first | (apply Wp.pickT; (exact rfl); (first | exact rfl | assumption)) | (apply Wp.pickF; (exact rfl); (first | exact rfl | assumption))); ((simp) <;> exact rfl)) | ((first | apply Wp.op | apply Wp.opN); (apply Evt.all; intro; (simp [csU]) <;> (try simp (disch := omega) only [wrap_id]) <;> first | exact ⟨rfl, rfl⟩ | exact rfl)) | (apply Wp.call; exact hg _) | (apply Wp.call; exact h1 _) | (apply Wp.call; exact h2 _) | (apply Wp.call; exact ht _) | (apply Wp.call; exact kno _) | (first | (apply Wp.ung; (exact rfl); (first | exact rfl | assumption)) | (apply Wp.opSt; (exact rfl); (first | exact rfl | assumption)) | (apply Wp.opSf; (exact rfl); (first | exact rfl | assumption))) | (apply Wp.opS0; (exact rfl)) | (first | (apply Wp.condT; (exact rfl); (first | exact rfl | assumption)) | (apply Wp.condF; (exact rfl); (first | exact rfl | assumption))) | ((first | apply Wp.grdT | apply Wp.grdF | apply Wp.cond); (exact rfl); (intro); rotate_left 1; (intro); rotate_right 1))
        refine Wp.ret ?_
        simp [Res, resU, res1, c_joinerylaw18_DifferFuel]
set_option maxHeartbeats 16000000 in
theorem law10_call (l g : List Ins) (c : Cs) (hR : c.R.length = 8) : Cl T n_joinerylaw18_DifferBoth [insL true l, insL true g, .agg (csU c)] [] (.bool true) [] := by
  have hbr := brw_cs [] c hR
  refine Wp.pure (fn := c_joinerylaw18_DifferBoth) rfl rfl rfl («as» := [insL true l, insL true g, .agg (csU c)]) (by simp [hbr, insL]; rfl) ?_
  have hg := great_call true true l g c hR
  have h1 := fair8_call true l c hR
  have h2 := fair8_call true g c hR
  have kno := knows_call
  have hcl : (csU c).length = 11 := by simp [csU, hR]
  have hct : (csU c).take 11 = csU c := List.take_of_length_le (by omega)
  cases hG : great8F l c || great8F g c with
  | true =>
    rw [hG] at hg
    repeat' (first | apply Wp.seq | apply Wp.skip | apply Wp.block | (apply Wp.op0; ((simp [M2.keep]) <;> rfl)) | ((first | (apply Wp.pickT; (exact rfl); (first | exact rfl | assumption)) | (apply Wp.pickF; (exact rfl); (first | exact rfl | assumption))); ((simp) <;> exact rfl)) | ((first | apply Wp.op | apply Wp.opN); (apply Evt.all; intro; (simp [hcl, hct]) <;> (try simp (disch := omega) only [wrap_id]) <;> first | exact ⟨rfl, rfl⟩ | exact rfl)) | (apply Wp.call; exact hg _) | (apply Wp.call; exact kno _) | (first | (apply Wp.ung; (exact rfl); (first | exact rfl | assumption)) | (apply Wp.opSt; (exact rfl); (first | exact rfl | assumption)) | (apply Wp.opSf; (exact rfl); (first | exact rfl | assumption))) | (apply Wp.opS0; (exact rfl)) | (first | (apply Wp.condT; (exact rfl); (first | exact rfl | assumption)) | (apply Wp.condF; (exact rfl); (first | exact rfl | assumption))) | ((first | apply Wp.grdT | apply Wp.grdF | apply Wp.cond); (exact rfl); (intro); rotate_left 1; (intro); rotate_right 1))
    refine Wp.ret ?_
    simp [Res, resU, res1, c_joinerylaw18_DifferBoth]
  | false =>
    rw [hG] at hg
    cases hA : rightF l && csRight c with
    | false =>
      rw [hA] at h1
      repeat' (first | apply Wp.seq | apply Wp.skip | apply Wp.block | (apply Wp.op0; ((simp [M2.keep]) <;> rfl)) | ((first | (apply Wp.pickT; (exact rfl); (first | exact rfl | assumption)) | (apply Wp.pickF; (exact rfl); (first | exact rfl | assumption))); ((simp) <;> exact rfl)) | ((first | apply Wp.op | apply Wp.opN); (apply Evt.all; intro; (simp [hcl, hct]) <;> (try simp (disch := omega) only [wrap_id]) <;> first | exact ⟨rfl, rfl⟩ | exact rfl)) | (apply Wp.call; exact hg _) | (apply Wp.call; exact h1 _) | (apply Wp.call; exact kno _) | (first | (apply Wp.ung; (exact rfl); (first | exact rfl | assumption)) | (apply Wp.opSt; (exact rfl); (first | exact rfl | assumption)) | (apply Wp.opSf; (exact rfl); (first | exact rfl | assumption))) | (apply Wp.opS0; (exact rfl)) | (first | (apply Wp.condT; (exact rfl); (first | exact rfl | assumption)) | (apply Wp.condF; (exact rfl); (first | exact rfl | assumption))) | ((first | apply Wp.grdT | apply Wp.grdF | apply Wp.cond); (exact rfl); (intro); rotate_left 1; (intro); rotate_right 1))
      refine Wp.ret ?_
      simp [Res, resU, res1, c_joinerylaw18_DifferBoth]
    | true =>
      rw [hA] at h1
      cases hB : rightF g && csRight c with
      | false =>
        rw [hB] at h2
        repeat' (first | apply Wp.seq | apply Wp.skip | apply Wp.block | (apply Wp.op0; ((simp [M2.keep]) <;> rfl)) | ((first | (apply Wp.pickT; (exact rfl); (first | exact rfl | assumption)) | (apply Wp.pickF; (exact rfl); (first | exact rfl | assumption))); ((simp) <;> exact rfl)) | ((first | apply Wp.op | apply Wp.opN); (apply Evt.all; intro; (simp [hcl, hct]) <;> (try simp (disch := omega) only [wrap_id]) <;> first | exact ⟨rfl, rfl⟩ | exact rfl)) | (apply Wp.call; exact hg _) | (apply Wp.call; exact h1 _) | (apply Wp.call; exact h2 _) | (apply Wp.call; exact kno _) | (first | (apply Wp.ung; (exact rfl); (first | exact rfl | assumption)) | (apply Wp.opSt; (exact rfl); (first | exact rfl | assumption)) | (apply Wp.opSf; (exact rfl); (first | exact rfl | assumption))) | (apply Wp.opS0; (exact rfl)) | (first | (apply Wp.condT; (exact rfl); (first | exact rfl | assumption)) | (apply Wp.condF; (exact rfl); (first | exact rfl | assumption))) | ((first | apply Wp.grdT | apply Wp.grdF | apply Wp.cond); (exact rfl); (intro); rotate_left 1; (intro); rotate_right 1))
        refine Wp.ret ?_
        simp [Res, resU, res1, c_joinerylaw18_DifferBoth]
      | true =>
        rw [hB] at h2
        have hh : c.h.length ≤ 1000 := by
          simp only [Bool.and_eq_true, csRight, decide_eq_true_eq] at hA
          omega
        have t1 := tell_call true true l l c hR hh hA hA
        have t2 := tell_call true true l g c hR hh hA hB
        have t3 := tell_call true true g l c hR hh hB hA
        have hz : tellF (sdF l c) (sdF l c) = 0 := tell_self _ (fun h => by
          simp only [sdF, Bool.and_eq_true, decide_eq_true_eq] at h
          exact h.1)
        rw [hz] at t1
        rw [tell_swap] at t3
        generalize tellF (sdF l c) (sdF g c) = v at t2 t3
        repeat' (first | apply Wp.seq | apply Wp.skip | apply Wp.block | (apply Wp.op0; ((simp [M2.keep]) <;> rfl)) | ((first | (apply Wp.pickT; (exact rfl); (first | exact rfl | assumption)) | (apply Wp.pickF; (exact rfl); (first | exact rfl | assumption))); ((simp) <;> exact rfl)) | ((first | apply Wp.op | apply Wp.opN); (apply Evt.all; intro; (simp [hcl, hct]) <;> (try simp (disch := omega) only [wrap_id]) <;> first | exact ⟨rfl, rfl⟩ | exact rfl)) | (apply Wp.call; exact hg _) | (apply Wp.call; exact h1 _) | (apply Wp.call; exact h2 _) | (apply Wp.call; exact t1 _) | (apply Wp.call; exact t2 _) | (apply Wp.call; exact t3 _) | (apply Wp.call; exact kno _) | (first | (apply Wp.ung; (exact rfl); (first | exact rfl | assumption)) | (apply Wp.opSt; (exact rfl); (first | exact rfl | assumption)) | (apply Wp.opSf; (exact rfl); (first | exact rfl | assumption))) | (apply Wp.opS0; (exact rfl)) | (first | (apply Wp.condT; (exact rfl); (first | exact rfl | assumption)) | (apply Wp.condF; (exact rfl); (first | exact rfl | assumption))) | ((first | apply Wp.grdT | apply Wp.grdF | apply Wp.cond); (exact rfl); (intro); rotate_left 1; (intro); rotate_right 1))
        refine Wp.ret ?_
        simp [Res, resU, res1, c_joinerylaw18_DifferBoth]
theorem params12 : Tryd.f12.params.toList = [22, 22, 70] := by kernel_rfl
theorem law12 : Law 12 Tryd.f12.params.toList := by
  rw [params12]
  intro us hl hty
  obtain ⟨l, g, c, rfl, h⟩ := args3 hl hty
  exact law_of (law12_call l g c h)
theorem params10 : Tryd.f10.params.toList = [22, 22, 70] := by kernel_rfl
theorem law10 : Law 10 Tryd.f10.params.toList := by
  rw [params10]
  intro us hl hty
  obtain ⟨l, g, c, rfl, h⟩ := args3 hl hty
  exact law_of (law10_call l g c h)
end Go.Proofs.YtbmlnfceanfbmaaDoor.M2
