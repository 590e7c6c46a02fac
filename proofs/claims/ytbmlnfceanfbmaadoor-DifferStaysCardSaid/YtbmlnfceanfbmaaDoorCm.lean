/- The law DifferStays in M2. -/
import Derived.Test.YtbmlnfceanfbmaaDoorCi
import Derived.Test.YtbmlnfceanfbmaaDoorCl
import Derived.Test.YtbmlnfceanfbmaaDoorCk
import Derived.Test.YtbmlnfceanfbmaaDoorCe
import Derived.Test.YtbmlnfceanfbmaaDoorCg
import Derived.Test.YtbmlnfceanfbmaaDoorCh
set_option linter.unusedSimpArgs false
set_option linter.unusedVariables false
set_option linter.unusedSectionVars false
/- What the functions answer in M2. What the laws ask of a case. -/
namespace Go.Proofs.YtbmlnfceanfbmaaDoor.M2
open Go
attribute [local simp] ev1 M2.get put A.ev ld sub part elems bin arith un opt idx fillC cellsO splice over newOb sto fillR laidOwn appTo appRow touch touchN touchM touchE touchA plainU flatU plainAs allM rowAt stoRow accM_nil accM_cons accMM_nil accMM_cons frz_int frz_bool frz_str frz_slt frz_nils frz_nilI frz_nilF frz_own frzRow_row frzRow_frow Ob.blw blw_bool blw_int blw_str blw_nils blw_nilI blw_nilF blw_nilp blw_nilm blw_sl blw_own blw_bp blw_rp blw_mp blw_it params
attribute [local simp] frz_agg frz_tup frz_iface frzS_agg frzS_iface accMS_cons frzS_int frzS_bool frzS_str frzS_slt frzS_nils frzS_nilI beq_dec bne_dec
set_option maxHeartbeats 4000000 in
theorem refRight8_call (c : Cs) (hR : c.R.length = 8) (st : List Ob) : Cl T n_joineryref08_Right [.agg (csU c)] st (.bool (csRight c)) st := by
  obtain ⟨R, h, ans, fuel, q⟩ := c
  obtain ⟨r0, r1, r2, r3, r4, r5, r6, r7, rfl⟩ := R8 hR
  refine Wp.pure (fn := c_joineryref08_Right) rfl rfl rfl («as» := [.agg (csU ⟨[r0, r1, r2, r3, r4, r5, r6, r7], h, ans, fuel, q⟩)]) rfl ?_
  unfold csRight
  simp only
  have e0 : decide ((h.length : Int) ≤ 16) = decide (h.length ≤ 16) := decide_eq_decide.2 (by omega)
  have e1 : decide ((ans.length : Int) ≤ 5000) = decide (ans.length ≤ 5000) := decide_eq_decide.2 (by omega)
  by_cases h1 : h.length ≤ 16
  · have d1 : decide (h.length ≤ 16) = true := decide_eq_true h1
    rw [d1] at e0 ⊢
    by_cases h2 : ans.length ≤ 5000
    · have d2 : decide (ans.length ≤ 5000) = true := decide_eq_true h2
      rw [d2] at e1 ⊢
      by_cases h3 : 0 ≤ fuel
      · have d3 : decide (0 ≤ fuel) = true := decide_eq_true h3
        rw [d3]
        repeat' (first | apply Wp.seq | apply Wp.skip | apply Wp.block | (apply Wp.op0; ((simp [M2.keep]) <;> rfl)) | ((first | (apply Wp.pickT; (exact rfl); (first | exact rfl | assumption)) | (apply Wp.pickF; (exact rfl); (first | exact rfl | assumption))); ((simp) <;> exact rfl)) | ((first | apply Wp.op | apply Wp.opN); (apply Evt.all; intro; (simp [csU]) <;> (try simp (disch := omega) only [wrap_id]) <;> first | exact ⟨rfl, rfl⟩ | exact rfl)) | (first | (apply Wp.ung; (exact rfl); (first | exact rfl | assumption)) | (apply Wp.opSt; (exact rfl); (first | exact rfl | assumption)) | (apply Wp.opSf; (exact rfl); (first | exact rfl | assumption))) | (apply Wp.opS0; (exact rfl)) | (first | (apply Wp.condT; (exact rfl); (first | exact rfl | assumption)) | (apply Wp.condF; (exact rfl); (first | exact rfl | assumption))) | ((first | apply Wp.grdT | apply Wp.grdF | apply Wp.cond); (exact rfl); (intro); rotate_left 1; (intro); rotate_right 1))
        refine Wp.ret ?_
        simp [Res, resU, res1, c_joineryref08_Right]
      · have d3 : decide (0 ≤ fuel) = false := decide_eq_false h3
        rw [d3]
        repeat' (first | apply Wp.seq | apply Wp.skip | apply Wp.block | (apply Wp.op0; ((simp [M2.keep]) <;> rfl)) | ((first | (apply Wp.pickT; (exact rfl); (first | exact rfl | assumption)) | (apply Wp.pickF; (exact rfl); (first | exact rfl | assumption))); ((simp) <;> exact rfl)) | ((first | apply Wp.op | apply Wp.opN); (apply Evt.all; intro; (simp [csU]) <;> (try simp (disch := omega) only [wrap_id]) <;> first | exact ⟨rfl, rfl⟩ | exact rfl)) | (first | (apply Wp.ung; (exact rfl); (first | exact rfl | assumption)) | (apply Wp.opSt; (exact rfl); (first | exact rfl | assumption)) | (apply Wp.opSf; (exact rfl); (first | exact rfl | assumption))) | (apply Wp.opS0; (exact rfl)) | (first | (apply Wp.condT; (exact rfl); (first | exact rfl | assumption)) | (apply Wp.condF; (exact rfl); (first | exact rfl | assumption))) | ((first | apply Wp.grdT | apply Wp.grdF | apply Wp.cond); (exact rfl); (intro); rotate_left 1; (intro); rotate_right 1))
        refine Wp.ret ?_
        simp [Res, resU, res1, c_joineryref08_Right]
    · have d2 : decide (ans.length ≤ 5000) = false := decide_eq_false h2
      rw [d2] at e1 ⊢
      repeat' (first | apply Wp.seq | apply Wp.skip | apply Wp.block | (apply Wp.op0; ((simp [M2.keep]) <;> rfl)) | ((first | (apply Wp.pickT; (exact rfl); (first | exact rfl | assumption)) | (apply Wp.pickF; (exact rfl); (first | exact rfl | assumption))); ((simp) <;> exact rfl)) | ((first | apply Wp.op | apply Wp.opN); (apply Evt.all; intro; (simp [csU]) <;> (try simp (disch := omega) only [wrap_id]) <;> first | exact ⟨rfl, rfl⟩ | exact rfl)) | (first | (apply Wp.ung; (exact rfl); (first | exact rfl | assumption)) | (apply Wp.opSt; (exact rfl); (first | exact rfl | assumption)) | (apply Wp.opSf; (exact rfl); (first | exact rfl | assumption))) | (apply Wp.opS0; (exact rfl)) | (first | (apply Wp.condT; (exact rfl); (first | exact rfl | assumption)) | (apply Wp.condF; (exact rfl); (first | exact rfl | assumption))) | ((first | apply Wp.grdT | apply Wp.grdF | apply Wp.cond); (exact rfl); (intro); rotate_left 1; (intro); rotate_right 1))
      refine Wp.ret ?_
      simp [Res, resU, res1, c_joineryref08_Right]
  · have d1 : decide (h.length ≤ 16) = false := decide_eq_false h1
    rw [d1] at e0 ⊢
    repeat' (first | apply Wp.seq | apply Wp.skip | apply Wp.block | (apply Wp.op0; ((simp [M2.keep]) <;> rfl)) | ((first | (apply Wp.pickT; (exact rfl); (first | exact rfl | assumption)) | (apply Wp.pickF; (exact rfl); (first | exact rfl | assumption))); ((simp) <;> exact rfl)) | ((first | apply Wp.op | apply Wp.opN); (apply Evt.all; intro; (simp [csU]) <;> (try simp (disch := omega) only [wrap_id]) <;> first | exact ⟨rfl, rfl⟩ | exact rfl)) | (first | (apply Wp.ung; (exact rfl); (first | exact rfl | assumption)) | (apply Wp.opSt; (exact rfl); (first | exact rfl | assumption)) | (apply Wp.opSf; (exact rfl); (first | exact rfl | assumption))) | (apply Wp.opS0; (exact rfl)) | (first | (apply Wp.condT; (exact rfl); (first | exact rfl | assumption)) | (apply Wp.condF; (exact rfl); (first | exact rfl | assumption))) | ((first | apply Wp.grdT | apply Wp.grdF | apply Wp.cond); (exact rfl); (intro); rotate_left 1; (intro); rotate_right 1))
    refine Wp.ret ?_
    simp [Res, resU, res1, c_joineryref08_Right]
set_option maxHeartbeats 4000000 in
theorem fair8_call (p : Bool) (l : List Ins) (c : Cs) (hR : c.R.length = 8) (st : List Ob) : Cl T n_joineryref08_Fair [insL p l, .agg (csU c)] st (.bool (rightF l && csRight c)) st := by
  have hbr := brw_cs st c hR
  refine Wp.pure (fn := c_joineryref08_Fair) rfl rfl rfl («as» := [insL p l, .agg (csU c)]) (by simp [hbr, insL]; rfl) ?_
  have hr := fun st => right4_call p l st (insL p l) rfl
  have hc := refRight8_call c hR
  have hcl : (csU c).length = 11 := by simp [csU, hR]
  have hct : (csU c).take 11 = csU c := List.take_of_length_le (by omega)
  cases h : rightF l with
  | true =>
    rw [h] at hr
    repeat' (first | apply Wp.seq | apply Wp.skip | apply Wp.block | (apply Wp.op0; ((simp [M2.keep]) <;> rfl)) | ((first | (apply Wp.pickT; (exact rfl); (first | exact rfl | assumption)) | (apply Wp.pickF; (exact rfl); (first | exact rfl | assumption))); ((simp) <;> exact rfl)) | ((first | apply Wp.op | apply Wp.opN); (apply Evt.all; intro; (simp [hcl, hct]) <;> (try simp (disch := omega) only [wrap_id]) <;> first | exact ⟨rfl, rfl⟩ | exact rfl)) | (apply Wp.call; exact hr _) | (apply Wp.call; exact hc _) | (first | (apply Wp.ung; (exact rfl); (first | exact rfl | assumption)) | (apply Wp.opSt; (exact rfl); (first | exact rfl | assumption)) | (apply Wp.opSf; (exact rfl); (first | exact rfl | assumption))) | (apply Wp.opS0; (exact rfl)) | (first | (apply Wp.condT; (exact rfl); (first | exact rfl | assumption)) | (apply Wp.condF; (exact rfl); (first | exact rfl | assumption))) | ((first | apply Wp.grdT | apply Wp.grdF | apply Wp.cond); (exact rfl); (intro); rotate_left 1; (intro); rotate_right 1))
    refine Wp.ret ?_
    simp [Res, resU, res1, c_joineryref08_Fair]
  | false =>
    rw [h] at hr
    repeat' (first | apply Wp.seq | apply Wp.skip | apply Wp.block | (apply Wp.op0; ((simp [M2.keep]) <;> rfl)) | ((first | (apply Wp.pickT; (exact rfl); (first | exact rfl | assumption)) | (apply Wp.pickF; (exact rfl); (first | exact rfl | assumption))); ((simp) <;> exact rfl)) | ((first | apply Wp.op | apply Wp.opN); (apply Evt.all; intro; (simp [hcl, hct]) <;> (try simp (disch := omega) only [wrap_id]) <;> first | exact ⟨rfl, rfl⟩ | exact rfl)) | (apply Wp.call; exact hr _) | (apply Wp.call; exact hc _) | (first | (apply Wp.ung; (exact rfl); (first | exact rfl | assumption)) | (apply Wp.opSt; (exact rfl); (first | exact rfl | assumption)) | (apply Wp.opSf; (exact rfl); (first | exact rfl | assumption))) | (apply Wp.opS0; (exact rfl)) | (first | (apply Wp.condT; (exact rfl); (first | exact rfl | assumption)) | (apply Wp.condF; (exact rfl); (first | exact rfl | assumption))) | ((first | apply Wp.grdT | apply Wp.grdF | apply Wp.cond); (exact rfl); (intro); rotate_left 1; (intro); rotate_right 1))
    refine Wp.ret ?_
    simp [Res, resU, res1, c_joineryref08_Fair]
def great8F (l : List Ins) (c : Cs) : Bool := decide (300 < l.length) || (decide (100 < c.h.length) || (decide (1000 < c.ans.length) || (decide (1000 < c.fuel) && decide (c.fuel ≤ 5000))))
set_option maxHeartbeats 4000000 in
theorem great8_call (p : Bool) (l : List Ins) (c : Cs) (hR : c.R.length = 8) (st : List Ob) : Cl T n_joinerylaw08_Great [insL p l, .agg (csU c)] st (.bool (great8F l c)) st := by
  have hbr := brw_cs st c hR
  refine Wp.pure (fn := c_joinerylaw08_Great) rfl rfl rfl («as» := [insL p l, .agg (csU c)]) (by simp [hbr, insL]; rfl) ?_
  clear hbr
  obtain ⟨R, h, ans, fuel, q⟩ := c
  obtain ⟨r0, r1, r2, r3, r4, r5, r6, r7, rfl⟩ := R8 hR
  unfold great8F
  simp only
  have e0 : decide (300 < (l.length : Int)) = decide (300 < l.length) := decide_eq_decide.2 (by omega)
  have e1 : decide (100 < (h.length : Int)) = decide (100 < h.length) := decide_eq_decide.2 (by omega)
  have e2 : decide (1000 < (ans.length : Int)) = decide (1000 < ans.length) := decide_eq_decide.2 (by omega)
  by_cases h1 : 300 < l.length
  · have d1 : decide (300 < l.length) = true := decide_eq_true h1
    rw [d1] at e0 ⊢
    repeat' (first | apply Wp.seq | apply Wp.skip | apply Wp.block | (apply Wp.op0; ((simp [M2.keep]) <;> rfl)) | ((first | (apply Wp.pickT; (exact rfl); (first | exact rfl | assumption)) | (apply Wp.pickF; (exact rfl); (first | exact rfl | assumption))); ((simp) <;> exact rfl)) | ((first | apply Wp.op | apply Wp.opN); (apply Evt.all; intro; (simp [csU, insL]) <;> (try simp (disch := omega) only [wrap_id]) <;> first | exact ⟨rfl, rfl⟩ | exact rfl)) | (first | (apply Wp.ung; (exact rfl); (first | exact rfl | assumption)) | (apply Wp.opSt; (exact rfl); (first | exact rfl | assumption)) | (apply Wp.opSf; (exact rfl); (first | exact rfl | assumption))) | (apply Wp.opS0; (exact rfl)) | (first | (apply Wp.condT; (exact rfl); (first | exact rfl | assumption)) | (apply Wp.condF; (exact rfl); (first | exact rfl | assumption))) | ((first | apply Wp.grdT | apply Wp.grdF | apply Wp.cond); (exact rfl); (intro); rotate_left 1; (intro); rotate_right 1))
    refine Wp.ret ?_
    simp [Res, resU, res1, c_joinerylaw08_Great]
  have d1 : decide (300 < l.length) = false := decide_eq_false h1
  rw [d1] at e0 ⊢
  by_cases h2 : 100 < h.length
  · have d2 : decide (100 < h.length) = true := decide_eq_true h2
    rw [d2] at e1 ⊢
    repeat' (first | apply Wp.seq | apply Wp.skip | apply Wp.block | (apply Wp.op0; ((simp [M2.keep]) <;> rfl)) | ((first | (apply Wp.pickT; (exact rfl); (first | exact rfl | assumption)) | (apply Wp.pickF; (exact rfl); (first | exact rfl | assumption))); ((simp) <;> exact rfl)) | ((first | apply Wp.op | apply Wp.opN); (apply Evt.all; intro; (simp [csU, insL]) <;> (try simp (disch := omega) only [wrap_id]) <;> first | exact ⟨rfl, rfl⟩ | exact rfl)) | (first | (apply Wp.ung; (exact rfl); (first | exact rfl | assumption)) | (apply Wp.opSt; (exact rfl); (first | exact rfl | assumption)) | (apply Wp.opSf; (exact rfl); (first | exact rfl | assumption))) | (apply Wp.opS0; (exact rfl)) | (first | (apply Wp.condT; (exact rfl); (first | exact rfl | assumption)) | (apply Wp.condF; (exact rfl); (first | exact rfl | assumption))) | ((first | apply Wp.grdT | apply Wp.grdF | apply Wp.cond); (exact rfl); (intro); rotate_left 1; (intro); rotate_right 1))
    refine Wp.ret ?_
    simp [Res, resU, res1, c_joinerylaw08_Great]
  have d2 : decide (100 < h.length) = false := decide_eq_false h2
  rw [d2] at e1 ⊢
  by_cases h3 : 1000 < ans.length
  · have d3 : decide (1000 < ans.length) = true := decide_eq_true h3
    rw [d3] at e2 ⊢
    repeat' (first | apply Wp.seq | apply Wp.skip | apply Wp.block | (apply Wp.op0; ((simp [M2.keep]) <;> rfl)) | ((first | (apply Wp.pickT; (exact rfl); (first | exact rfl | assumption)) | (apply Wp.pickF; (exact rfl); (first | exact rfl | assumption))); ((simp) <;> exact rfl)) | ((first | apply Wp.op | apply Wp.opN); (apply Evt.all; intro; (simp [csU, insL]) <;> (try simp (disch := omega) only [wrap_id]) <;> first | exact ⟨rfl, rfl⟩ | exact rfl)) | (first | (apply Wp.ung; (exact rfl); (first | exact rfl | assumption)) | (apply Wp.opSt; (exact rfl); (first | exact rfl | assumption)) | (apply Wp.opSf; (exact rfl); (first | exact rfl | assumption))) | (apply Wp.opS0; (exact rfl)) | (first | (apply Wp.condT; (exact rfl); (first | exact rfl | assumption)) | (apply Wp.condF; (exact rfl); (first | exact rfl | assumption))) | ((first | apply Wp.grdT | apply Wp.grdF | apply Wp.cond); (exact rfl); (intro); rotate_left 1; (intro); rotate_right 1))
    refine Wp.ret ?_
    simp [Res, resU, res1, c_joinerylaw08_Great]
  have d3 : decide (1000 < ans.length) = false := decide_eq_false h3
  rw [d3] at e2 ⊢
  by_cases h4 : 1000 < fuel
  · have d4 : decide (1000 < fuel) = true := decide_eq_true h4
    rw [d4]
    repeat' (first | apply Wp.seq | apply Wp.skip | apply Wp.block | (apply Wp.op0; ((simp [M2.keep]) <;> rfl)) | ((first | (apply Wp.pickT; (exact rfl); (first | exact rfl | assumption)) | (apply Wp.pickF; (exact rfl); (first | exact rfl | assumption))); ((simp) <;> exact rfl)) | ((first | apply Wp.op | apply Wp.opN); (apply Evt.all; intro; (simp [csU, insL]) <;> (try simp (disch := omega) only [wrap_id]) <;> first | exact ⟨rfl, rfl⟩ | exact rfl)) | (first | (apply Wp.ung; (exact rfl); (first | exact rfl | assumption)) | (apply Wp.opSt; (exact rfl); (first | exact rfl | assumption)) | (apply Wp.opSf; (exact rfl); (first | exact rfl | assumption))) | (apply Wp.opS0; (exact rfl)) | (first | (apply Wp.condT; (exact rfl); (first | exact rfl | assumption)) | (apply Wp.condF; (exact rfl); (first | exact rfl | assumption))) | ((first | apply Wp.grdT | apply Wp.grdF | apply Wp.cond); (exact rfl); (intro); rotate_left 1; (intro); rotate_right 1))
    refine Wp.ret ?_
    simp [Res, resU, res1, c_joinerylaw08_Great]
  · have d4 : decide (1000 < fuel) = false := decide_eq_false h4
    rw [d4]
    repeat' (first | apply Wp.seq | apply Wp.skip | apply Wp.block | (apply Wp.op0; ((simp [M2.keep]) <;> rfl)) | ((first | (apply Wp.pickT; (exact rfl); (first | exact rfl | assumption)) | (apply Wp.pickF; (exact rfl); (first | exact rfl | assumption))); ((simp) <;> exact rfl)) | ((first | apply Wp.op | apply Wp.opN); (apply Evt.all; intro; (simp [csU, insL]) <;> (try simp (disch := omega) only [wrap_id]) <;> first | exact ⟨rfl, rfl⟩ | exact rfl)) | (first | (apply Wp.ung; (exact rfl); (first | exact rfl | assumption)) | (apply Wp.opSt; (exact rfl); (first | exact rfl | assumption)) | (apply Wp.opSf; (exact rfl); (first | exact rfl | assumption))) | (apply Wp.opS0; (exact rfl)) | (first | (apply Wp.condT; (exact rfl); (first | exact rfl | assumption)) | (apply Wp.condF; (exact rfl); (first | exact rfl | assumption))) | ((first | apply Wp.grdT | apply Wp.grdF | apply Wp.cond); (exact rfl); (intro); rotate_left 1; (intro); rotate_right 1))
    refine Wp.ret ?_
    simp [Res, resU, res1, c_joinerylaw08_Great]
set_option maxHeartbeats 4000000 in
theorem great_call (p q : Bool) (l g : List Ins) (c : Cs) (hR : c.R.length = 8) (st : List Ob) : Cl T n_joinerylaw18_great [insL p l, insL q g, .agg (csU c)] st (.bool (great8F l c || great8F g c)) st := by
  have hbr := brw_cs st c hR
  refine Wp.pure (fn := c_joinerylaw18_great) rfl rfl rfl («as» := [insL p l, insL q g, .agg (csU c)]) (by simp [hbr, insL]; rfl) ?_
  have h1 := great8_call p l c hR
  have h2 := great8_call q g c hR
  have hcl : (csU c).length = 11 := by simp [csU, hR]
  have hct : (csU c).take 11 = csU c := List.take_of_length_le (by omega)
  cases h : great8F l c with
  | true =>
    rw [h] at h1
    repeat' (first | apply Wp.seq | apply Wp.skip | apply Wp.block | (apply Wp.op0; ((simp [M2.keep]) <;> rfl)) | ((first | (apply Wp.pickT; (exact rfl); (first | exact rfl | assumption)) | (apply Wp.pickF; (exact rfl); (first | exact rfl | assumption))); ((simp) <;> exact rfl)) | ((first | apply Wp.op | apply Wp.opN); (apply Evt.all; intro; (simp [hcl, hct]) <;> (try simp (disch := omega) only [wrap_id]) <;> first | exact ⟨rfl, rfl⟩ | exact rfl)) | (apply Wp.call; exact h1 _) | (apply Wp.call; exact h2 _) | (first | (apply Wp.ung; (exact rfl); (first | exact rfl | assumption)) | (apply Wp.opSt; (exact rfl); (first | exact rfl | assumption)) | (apply Wp.opSf; (exact rfl); (first | exact rfl | assumption))) | (apply Wp.opS0; (exact rfl)) | (first | (apply Wp.condT; (exact rfl); (first | exact rfl | assumption)) | (apply Wp.condF; (exact rfl); (first | exact rfl | assumption))) | ((first | apply Wp.grdT | apply Wp.grdF | apply Wp.cond); (exact rfl); (intro); rotate_left 1; (intro); rotate_right 1))
    refine Wp.ret ?_
    simp [Res, resU, res1, c_joinerylaw18_great]
  | false =>
    rw [h] at h1
    repeat' (first | apply Wp.seq | apply Wp.skip | apply Wp.block | (apply Wp.op0; ((simp [M2.keep]) <;> rfl)) | ((first | (apply Wp.pickT; (exact rfl); (first | exact rfl | assumption)) | (apply Wp.pickF; (exact rfl); (first | exact rfl | assumption))); ((simp) <;> exact rfl)) | ((first | apply Wp.op | apply Wp.opN); (apply Evt.all; intro; (simp [hcl, hct]) <;> (try simp (disch := omega) only [wrap_id]) <;> first | exact ⟨rfl, rfl⟩ | exact rfl)) | (apply Wp.call; exact h1 _) | (apply Wp.call; exact h2 _) | (first | (apply Wp.ung; (exact rfl); (first | exact rfl | assumption)) | (apply Wp.opSt; (exact rfl); (first | exact rfl | assumption)) | (apply Wp.opSf; (exact rfl); (first | exact rfl | assumption))) | (apply Wp.opS0; (exact rfl)) | (first | (apply Wp.condT; (exact rfl); (first | exact rfl | assumption)) | (apply Wp.condF; (exact rfl); (first | exact rfl | assumption))) | ((first | apply Wp.grdT | apply Wp.grdF | apply Wp.cond); (exact rfl); (intro); rotate_left 1; (intro); rotate_right 1))
    refine Wp.ret ?_
    simp [Res, resU, res1, c_joinerylaw18_great]
end Go.Proofs.YtbmlnfceanfbmaaDoor.M2
/- Typed arguments, as this chapter's data. -/
namespace Go.Proofs.YtbmlnfceanfbmaaDoor.M2
open Go
def rng (n : Int) : Prop := -9223372036854775808 ≤ n ∧ n < 9223372036854775808
section
variable {P : Program}
theorem typed_i64 {t : TypeId} (hu : P.underlying t = some (.int .i64)) {d : Nat} {us : List U} (h : Typed P (d + 1) t us) : ∃ n, us = [i64 n] ∧ rng n := by
  simp only [Typed, hu] at h
  obtain ⟨n, e, hw⟩ := h
  refine ⟨n, e, ?_⟩
  simp [Lit.wf, IntKind.min, IntKind.max, IntKind.bits, IntKind.signed] at hw
  unfold rng
  omega
theorem typed_slice {t e : TypeId} (hu : P.underlying t = some (.slice e)) {d : Nat} {us : List U} (h : Typed P (d + 1) t us) : ∃ xs, us = [.sl true xs] ∧ xs.length ≤ maxLen ∧ ∀ x ∈ xs, Typed P d e x ∧ x.length = P.cellsOf e := by
  simp only [Typed, hu] at h
  exact h
theorem typed_struct {t : TypeId} {fs : Array Field} (hu : P.underlying t = some (.struct fs)) {d : Nat} {us : List U} (h : Typed P (d + 1) t us) : us.length = P.cellsOf t ∧ ∀ f ∈ fs.toList, Typed P d f.type ((us.drop f.offset).take (P.cellsOf f.type)) := by
  simp only [Typed, hu] at h
  exact h
def InsR (x : Ins) : Prop := rng x.op ∧ rng x.d ∧ rng x.a ∧ rng x.b ∧ rng x.n ∧ rng x.to
theorem typed_ins6 {t t1 t2 : TypeId} {a1 a2 a3 a4 a5 a6 : Field} (hu : P.underlying t = some (.struct #[a1, a2, a3, a4, a5, a6])) (o : [a1.offset, a2.offset, a3.offset, a4.offset, a5.offset, a6.offset] = [0, 1, 2, 3, 4, 5]) (ty : [a1.type, a2.type, a3.type, a4.type, a5.type, a6.type] = [t1, t1, t1, t1, t2, t1])
    (h1 : P.underlying t1 = some (.int .i64)) (h2 : P.underlying t2 = some (.int .i64)) (c : P.cellsOf t = 6) (c1 : P.cellsOf t1 = 1) (c2 : P.cellsOf t2 = 1) {d : Nat} {us : List U} (h : Typed P (d + 2) t us) : ∃ x : Ins, us = insU x ∧ InsR x := by
  obtain ⟨hl, h⟩ := typed_struct hu h
  rw [c] at hl
  simp only [List.cons.injEq, and_true] at o ty
  obtain ⟨o1, o2, o3, o4, o5, o6⟩ := o
  obtain ⟨y1, y2, y3, y4, y5, y6⟩ := ty
  match us, hl with
  | [a, b, e, f, g, k], _ =>
    have k1 := h a1 (by simp)
    have k2 := h a2 (by simp)
    have k3 := h a3 (by simp)
    have k4 := h a4 (by simp)
    have k5 := h a5 (by simp)
    have k6 := h a6 (by simp)
    simp only [o1, o2, o3, o4, o5, o6, y1, y2, y3, y4, y5, y6, c1, c2, List.drop, List.take] at k1 k2 k3 k4 k5 k6
    obtain ⟨n1, e1, r1⟩ := typed_i64 h1 k1
    obtain ⟨n2, e2, r2⟩ := typed_i64 h1 k2
    obtain ⟨n3, e3, r3⟩ := typed_i64 h1 k3
    obtain ⟨n4, e4, r4⟩ := typed_i64 h1 k4
    obtain ⟨n5, e5, r5⟩ := typed_i64 h2 k5
    obtain ⟨n6, e6, r6⟩ := typed_i64 h1 k6
    injection e1 with e1
    injection e2 with e2
    injection e3 with e3
    injection e4 with e4
    injection e5 with e5
    injection e6 with e6
    exact ⟨⟨n1, n2, n3, n4, n5, n6⟩, by rw [e1, e2, e3, e4, e5, e6]; rfl, r1, r2, r3, r4, r5, r6⟩
theorem map_of {α : Type} {P : List U → Prop} {Q : α → Prop} (f : α → List U) : ∀ {xs : List (List U)}, (∀ x ∈ xs, ∃ r, x = f r ∧ Q r) → ∃ l : List α, xs = l.map f ∧ ∀ r ∈ l, Q r
  | [], _ => ⟨[], rfl, by simp⟩
  | x :: xs, h => by
    obtain ⟨r, e, q⟩ := h x (by simp)
    obtain ⟨l, hl, hq⟩ := map_of (P := P) f (xs := xs) (fun y hy => h y (by simp [hy]))
    exact ⟨r :: l, by rw [List.map_cons, e, hl], fun y hy => by
      rcases List.mem_cons.1 hy with rfl | hy
      · exact q
      · exact hq y hy⟩
theorem typed_sl {α : Type} {Q : α → Prop} {f : α → List U} {t e : TypeId} (hu : P.underlying t = some (.slice e)) {d : Nat} {u : U} (hf : ∀ x, Typed P d e x → ∃ r, x = f r ∧ Q r) (h : Typed P (d + 1) t [u]) : ∃ l : List α, u = .sl true (l.map f) ∧ l.length < 9223372036854775808 ∧ ∀ x ∈ l, Q x := by
  obtain ⟨xs, e, hm, h⟩ := typed_slice hu h
  obtain ⟨l, hl, hq⟩ := map_of (P := fun _ => True) f (xs := xs) (fun x hx => hf x (h x hx).1)
  injection e with e
  refine ⟨l, by rw [e, hl], ?_, hq⟩
  rw [hl, List.length_map] at hm
  simp only [maxLen] at hm
  omega
end
attribute [local irreducible] Typed
theorem cells43 : Tryd.prog.cellsOf 66 = 6 := by kernel_rfl
theorem cells3 : Tryd.prog.cellsOf 3 = 1 := by kernel_rfl
theorem cells2 : Tryd.prog.cellsOf 2 = 1 := by kernel_rfl
theorem typed_insn {n : Nat} (hn : ∃ d, n = d + 3) {u : U} (h : Typed Tryd.prog n 22 [u]) : ∃ l : List Ins, u = insL true l ∧ l.length < 9223372036854775808 ∧ ∀ x ∈ l, InsR x := by
  obtain ⟨d, rfl⟩ := hn
  exact typed_sl (f := insU) Tryd.underlying22 (fun _ hx => typed_ins6 Tryd.underlying66 rfl rfl Tryd.underlying3 Tryd.underlying2 cells43 cells3 cells2 hx) h
theorem typed_intn {n : Nat} (hn : ∃ d, n = d + 1) {u : U} (h : Typed Tryd.prog n 3 [u]) : ∃ n, u = i64 n ∧ rng n := by
  obtain ⟨d, rfl⟩ := hn
  obtain ⟨n, e, hn⟩ := typed_i64 Tryd.underlying3 h
  injection e with e
  exact ⟨n, e, hn⟩
theorem law_of {f : Nat} {us : List U} (h : Cl T f us [] (.bool true) []) : ∃ n, M2.call T n f us [] = some (.bool true, []) := by
  obtain ⟨N, h⟩ := h
  exact ⟨N, h N (Nat.le_refl _)⟩
end Go.Proofs.YtbmlnfceanfbmaaDoor.M2
/- Typed arguments: cases. -/
namespace Go.Proofs.YtbmlnfceanfbmaaDoor.M2
open Go
section
variable {P : Program}
theorem typed_array {t e : TypeId} {n : Nat} (hu : P.underlying t = some (.array n e)) {d : Nat} {us : List U} (h : Typed P (d + 1) t us) : us.length = P.cellsOf t ∧ ∀ i, i < n → Typed P d e ((us.drop (i * P.cellsOf e)).take (P.cellsOf e)) := by
  simp only [Typed, hu] at h
  exact h
theorem pieces_int {Q : List U → Prop} (hQ : ∀ us, Q us → ∃ n, us = [i64 n] ∧ rng n) : ∀ (n : Nat) (us : List U), us.length = n → (∀ i, i < n → Q ((us.drop (i * 1)).take 1)) → ∃ L : List Int, us = L.map (fun v => i64 v) ∧ L.length = n
  | 0, us, h, _ => ⟨[], by simpa using h, rfl⟩
  | n + 1, us, h, hq => by
    match us, h with
    | a :: us, h =>
      obtain ⟨x, e, _⟩ := hQ _ (hq 0 (by omega))
      obtain ⟨L, k1, k2⟩ := pieces_int hQ n us (by simpa using h) (fun i hi => by
        have := hq (i + 1) (by omega)
        rwa [show (i + 1) * 1 = i * 1 + 1 by omega, List.drop_succ_cons] at this)
      have e' : [a] = [i64 x] := e
      simp only [List.cons.injEq, and_true] at e'
      exact ⟨x :: L, by rw [List.map_cons, e', k1], by simp [k2]⟩
    | [], h => simp at h
theorem typed_ints {t e : TypeId} (hu : P.underlying t = some (.slice e)) (he : P.underlying e = some (.int .i64)) {d : Nat} {us : List U} (h : Typed P (d + 2) t us) : ∃ L : List Int, us = [intsU L] ∧ L.length < 9223372036854775808 := by
  obtain ⟨xs, ex, _⟩ := typed_slice hu h
  rw [ex] at h
  obtain ⟨hp, eh, lh, _⟩ := typed_sl (Q := fun _ => True) (f := fun v => [i64 v]) hu (fun x hx => by
    obtain ⟨n, e, _⟩ := typed_i64 he hx
    exact ⟨n, e, trivial⟩) h
  exact ⟨hp, by rw [ex, eh], lh⟩
theorem typed_case {t tR t2 tH tI : TypeId} {a1 a2 a3 a4 : Field} (hu : P.underlying t = some (.struct #[a1, a2, a3, a4])) (o : [a1.offset, a2.offset, a3.offset, a4.offset] = [0, 8, 9, 10]) (ty : [a1.type, a2.type, a3.type, a4.type] = [tR, tH, tH, tI])
    (hR : P.underlying tR = some (.array 8 t2)) (h2 : P.underlying t2 = some (.int .i64)) (hH : P.underlying tH = some (.slice t2)) (hI : P.underlying tI = some (.int .i64))
    (c : P.cellsOf t = 11) (cR : P.cellsOf tR = 8) (c2 : P.cellsOf t2 = 1) (cH : P.cellsOf tH = 1) (cI : P.cellsOf tI = 1) {d : Nat} {us : List U} (h : Typed P (d + 3) t us) :
    ∃ s : Cs, us = csU s ∧ s.R.length = 8 ∧ s.h.length < 9223372036854775808 ∧ s.ans.length < 9223372036854775808 ∧ rng s.fuel := by
  obtain ⟨hl, h⟩ := typed_struct hu h
  rw [c] at hl
  simp only [List.cons.injEq, and_true] at o ty
  obtain ⟨o1, o2, o3, o4⟩ := o
  obtain ⟨y1, y2, y3, y4⟩ := ty
  have k1 := h a1 (by simp)
  have k2 := h a2 (by simp)
  have k3 := h a3 (by simp)
  have k4 := h a4 (by simp)
  simp only [o1, o2, o3, o4, y1, y2, y3, y4, cR, cH, cI, List.drop_zero] at k1 k2 k3 k4
  obtain ⟨_, k1⟩ := typed_array hR k1
  rw [c2] at k1
  obtain ⟨L, e1, l1⟩ := pieces_int (Q := Typed P (d + 1) t2) (fun us hq => typed_i64 h2 hq) 8 (us.take 8) (by rw [List.length_take]; omega) k1
  have e : us = us.take 8 ++ ((us.drop 8).take 1 ++ ((us.drop 9).take 1 ++ (us.drop 10).take 1)) := by
    have p1 : us.drop 8 = (us.drop 8).take 1 ++ us.drop 9 := by
      have := (List.take_append_drop 1 (us.drop 8)).symm
      rw [List.drop_drop] at this
      exact this
    have p2 : us.drop 9 = (us.drop 9).take 1 ++ us.drop 10 := by
      have := (List.take_append_drop 1 (us.drop 9)).symm
      rw [List.drop_drop] at this
      exact this
    have p3 : (us.drop 10).take 1 = us.drop 10 := List.take_of_length_le (by rw [List.length_drop]; omega)
    rw [p3, ← p2, ← p1, List.take_append_drop]
  obtain ⟨H, e2, lh⟩ := typed_ints hH h2 k2
  obtain ⟨A, e3, la⟩ := typed_ints hH h2 k3
  obtain ⟨n4, e4, r4⟩ := typed_i64 hI k4
  refine ⟨⟨L, H, A, n4, true⟩, ?_, l1, lh, la, r4⟩
  rw [e, e1, e2, e3, e4]
  rfl
end
attribute [local irreducible] Typed TypedA
theorem cells70 : Tryd.prog.cellsOf 70 = 11 := by kernel_rfl
theorem cells67 : Tryd.prog.cellsOf 67 = 8 := by kernel_rfl
theorem cells68 : Tryd.prog.cellsOf 68 = 1 := by kernel_rfl
theorem agg70 : aggT Tryd.prog 70 = true := by kernel_rfl
theorem agg22 : aggT Tryd.prog 22 = false := by kernel_rfl
theorem args3 {us : List U} (hl : us.length = 3) (hty : ∀ (j : Nat) t u, [22, 22, 70][j]? = some t → us[j]? = some u → TypedA Tryd.prog 8 t u) : ∃ (l g : List Ins) (c : Cs), us = [insL true l, insL true g, .agg (csU c)] ∧ c.R.length = 8 := by
  match us, hl with
  | [u, w, v], _ =>
    obtain ⟨l, rfl, _, _⟩ := typed_insn ⟨5, rfl⟩ ((hty 0 22 u rfl rfl).one agg22)
    obtain ⟨g, rfl, _, _⟩ := typed_insn ⟨5, rfl⟩ ((hty 1 22 w rfl rfl).one agg22)
    obtain ⟨cs, rfl, hc⟩ := (hty 2 70 v rfl rfl).cells agg70
    obtain ⟨c, rfl, h8, _⟩ := typed_case (d := 5) Tryd.underlying70 rfl rfl Tryd.underlying67 Tryd.underlying2 Tryd.underlying68 Tryd.underlying3 cells70 cells67 cells2 cells68 cells3 hc
    exact ⟨l, g, c, rfl, h8⟩
end Go.Proofs.YtbmlnfceanfbmaaDoor.M2
/- Plain: a run with more fuel and more answers; what is told stays. -/
namespace Go.Proofs.YtbmlnfceanfbmaaDoor.M2
open Go
theorem step_more (s : Stt) (x : Ins) (ask ext : List Int) (ha : 0 ≤ s.asked) (h : (stepAllF s x ask).how ≠ 5) : stepAllF s x (ask ++ ext) = stepAllF s x ask := by
  unfold stepAllF at h ⊢
  split
  · rfl
  · split
    · rename_i hm hu
      rw [if_neg hm, if_pos hu] at h
      unfold doAllF at h ⊢
      split
      · rfl
      · split
        · rfl
        · split
          · rename_i h13 h14 h15
            rw [if_neg h13, if_neg h14, if_pos h15] at h
            have hk : ¬ (ask.length : Int) ≤ s.asked := by
              intro hc
              rw [if_pos hc] at h
              exact h rfl
            have hl : (ask ++ ext).length = ask.length + ext.length := List.length_append
            have hk2 : ¬ ((ask ++ ext).length : Int) ≤ s.asked := by omega
            have hg : (ask ++ ext).getD s.asked.toNat 0 = ask.getD s.asked.toNat 0 := by
              rw [List.getD_eq_getElem?_getD, List.getD_eq_getElem?_getD, List.getElem?_append_left (by omega)]
            rw [if_neg hk, if_neg hk2, hg]
          · rfl
    · rfl
theorem stepAll_ev (s : Stt) (x : Ins) (ask : List Int) (h : (stepAllF s x ask).how ≠ 0) : (stepAllF s x ask).ev = none := by
  cases he : (stepAllF s x ask).ev with
  | none => rfl
  | some e =>
    exfalso
    apply h
    unfold stepAllF at he ⊢
    split
    · rfl
    · rename_i hm
      rw [if_neg hm] at he
      split
      · rename_i hu
        rw [if_pos hu] at he
        exact doAll_ev s x ask (by rw [he]; rfl)
      · rename_i hu
        rw [if_neg hu] at he
        cases he
theorem ev_grow (l : List Ins) (ask : List Int) : ∀ (n : Nat) (s : Stt) (t : TR), t.ev <+: (runLoop l ask n s t).2.ev
  | 0, s, t => List.prefix_refl _
  | n + 1, s, t => by
    rw [runLoop]
    have h1 : t.ev <+: (trStep t (l.getD s.at_.toNat default) (stepAllF s (l.getD s.at_.toNat default) ask)).ev := List.prefix_append _ _
    split
    · exact h1.trans (ev_grow l ask n _ _)
    · exact h1
theorem run_more {l : List Ins} (ask ext : List Int) : ∀ (n m : Nat) (s : Stt) (t : TR), sttF l s = true → s.L.length = 24 → n ≤ m →
    (runLoop l ask n s t).2.ev <+: (runLoop l (ask ++ ext) m s t).2.ev ∧ (haltedF (runLoop l ask n s t).2 = true → haltedF t = false → (runLoop l (ask ++ ext) m s t).2 = (runLoop l ask n s t).2) ∧
      ((runLoop l ask n s t).2.how = 0 → ∃ k, runLoop l (ask ++ ext) m s t = runLoop l (ask ++ ext) k (runLoop l ask n s t).1 (runLoop l ask n s t).2)
  | 0, m, s, t, _, _, _ => ⟨ev_grow l _ m s t, (fun (h1 : haltedF t = true) (h2 : haltedF t = false) => by
      rw [h2] at h1
      cases h1), fun _ => ⟨m, rfl⟩⟩
  | n + 1, 0, s, t, _, _, h => by omega
  | n + 1, m + 1, s, t, hs, hL, h => by
    have hs0 := hs
    unfold sttF at hs0
    simp only [Bool.and_eq_true, decide_eq_true_eq] at hs0
    have hlt : s.at_.toNat < l.length := by omega
    have hx : l[s.at_.toNat]? = some (l.getD s.at_.toNat default) := by simp [hlt]
    obtain ⟨k1, k2⟩ := stepAll_right hs hL hx ask
    by_cases h5 : (stepAllF s (l.getD s.at_.toNat default) ask).how = 5
    · have hev := stepAll_ev s (l.getD s.at_.toNat default) ask (by rw [h5]; decide)
      have h0 : ¬ (stepAllF s (l.getD s.at_.toNat default) ask).how = 0 := by rw [h5]; decide
      have ha : runLoop l ask (n + 1) s t = ((stepAllF s (l.getD s.at_.toNat default) ask).s, trStep t (l.getD s.at_.toNat default) (stepAllF s (l.getD s.at_.toNat default) ask)) := by
        rw [runLoop]
        exact if_neg h0
      rw [ha]
      refine ⟨?_, fun hh => ?_, fun hh => absurd hh h0⟩
      · have e : (trStep t (l.getD s.at_.toNat default) (stepAllF s (l.getD s.at_.toNat default) ask)).ev = t.ev := by
          simp only [trStep, hev, Option.toList, List.append_nil]
        simp only [e]
        exact ev_grow l _ (m + 1) s t
      · exfalso
        simp only [haltedF, trStep, h5] at hh
        cases hh
    · have he := step_more s (l.getD s.at_.toNat default) ask ext hs0.1.2 h5
      rw [runLoop, runLoop]
      simp only [he]
      by_cases h0 : (stepAllF s (l.getD s.at_.toNat default) ask).how = 0
      · rw [if_pos h0, if_pos h0]
        obtain ⟨q1, q2, q3⟩ := run_more ask ext n m _ (trStep t (l.getD s.at_.toNat default) (stepAllF s (l.getD s.at_.toNat default) ask)) k1 k2 (by omega)
        exact ⟨q1, fun a _ => q2 a (by simp only [haltedF, trStep, h0]; rfl), q3⟩
      · rw [if_neg h0, if_neg h0]
        exact ⟨List.prefix_refl _, fun _ _ => rfl, fun hh => absurd hh h0⟩
structure More (a b : Sd) : Prop where
  ev : a.t.ev <+: b.t.ev
  halt : haltedF a.t = true → b.t = a.t
  sil : a.silent = true → b.silent = true ∧ b.t.ev = a.t.ev ∧ haltedF b.t = false
theorem begins_iff {a b : List Evn} : begins a b = true ↔ a <+: b := by
  unfold begins
  simp only [Bool.and_eq_true, decide_eq_true_eq]
  exact ⟨fun h => List.prefix_iff_eq_take.2 h.2, fun h => ⟨h.length_le, List.prefix_iff_eq_take.1 h⟩⟩
theorem begins_not {a b : List Evn} : begins a b = false ↔ ¬ a <+: b := by
  rw [← begins_iff]
  simp
theorem tell_one {a a' : Sd} : tellF a a' = 1 ↔ (¬ a.t.ev <+: a'.t.ev ∧ ¬ a'.t.ev <+: a.t.ev) := by
  rw [tell_eq, ← begins_not, ← begins_not]
  unfold tl1
  cases begins a.t.ev a'.t.ev <;> cases begins a'.t.ev a.t.ev <;> simp <;> (repeat' split) <;> simp
theorem tell_stays {a b a' b' : Sd} (h : More a b) (k : More a' b') : tellF a a' = 0 ∨ tellF a a' = tellF b b' := by
  by_cases h1 : tellF a a' = 1
  · right
    rw [h1]
    obtain ⟨n1, n2⟩ := tell_one.1 h1
    refine (tell_one.2 ⟨fun hp => ?_, fun hp => ?_⟩).symm
    · rcases List.prefix_or_prefix_of_prefix (h.ev.trans hp) k.ev with q | q
      · exact n1 q
      · exact n2 q
    · rcases List.prefix_or_prefix_of_prefix (k.ev.trans hp) h.ev with q | q
      · exact n2 q
      · exact n1 q
  have c1 : tl1 a a' = true := by
    cases hh : tl1 a a' with
    | true => rfl
    | false => exact absurd (by rw [tell_eq, hh]; rfl) h1
  cases h2 : tl2 a a' with
  | true =>
    right
    have e1 : tellF a a' = 2 := by rw [tell_eq, c1, h2]; rfl
    rw [e1]
    unfold tl1 at c1
    unfold tl2 at h2
    simp only [Bool.or_eq_true, Bool.and_eq_true, Bool.not_eq_true'] at h2
    rcases h2 with ⟨p1, p2⟩ | ⟨p1, p2⟩
    · have hb := h.halt p1
      rw [p2, Bool.or_false] at c1
      have d1 : tl1 b b' = true := by unfold tl1; rw [hb, begins_iff.2 ((begins_iff.1 c1).trans k.ev)]; rfl
      have d2 : tl2 b b' = true := by unfold tl2; rw [hb, p1, begins_not.2 (fun q => begins_not.1 p2 (k.ev.trans q))]; rfl
      rw [tell_eq, d1, d2]
      rfl
    · have hb := k.halt p1
      rw [p2, Bool.false_or] at c1
      have d1 : tl1 b b' = true := by unfold tl1; rw [hb, begins_iff.2 ((begins_iff.1 c1).trans h.ev), Bool.or_true]
      have d2 : tl2 b b' = true := by unfold tl2; rw [hb, p1, begins_not.2 (fun q => begins_not.1 p2 (h.ev.trans q))]; simp
      rw [tell_eq, d1, d2]
      rfl
  | false =>
    cases h3 : tl3 a a' with
    | true =>
      right
      have h30 := h3
      unfold tl3 at h30
      simp only [Bool.and_eq_true] at h30
      have hb := h.halt h30.1
      have hb' := k.halt h30.2.1
      have d1 : tl1 b b' = tl1 a a' := by unfold tl1; rw [hb, hb']
      have d2 : tl2 b b' = tl2 a a' := by unfold tl2; rw [hb, hb']
      have d3 : tl3 b b' = tl3 a a' := by unfold tl3; rw [hb, hb']
      rw [tell_eq a a', tell_eq b b', d1, d2, d3, c1, h2, h3]
      rfl
    | false =>
      cases h4 : tl4 a a' with
      | true =>
        right
        have e1 : tellF a a' = 4 := by rw [tell_eq, c1, h2, h3, h4]; rfl
        rw [e1]
        unfold tl1 at c1
        unfold tl2 at h2
        unfold tl4 at h4
        simp only [Bool.or_eq_false_iff] at h2
        simp only [Bool.or_eq_true, Bool.and_eq_true] at h4
        rcases h4 with ⟨p1, p2⟩ | ⟨p1, p2⟩
        · have hb := h.halt p1
          obtain ⟨s1, s2, s3⟩ := k.sil p2
          have d1 : tl1 b b' = true := by unfold tl1; rw [hb, s2]; exact c1
          have d2 : tl2 b b' = false := by unfold tl2; rw [hb, s2, s3, h2.1]; rfl
          have d3 : tl3 b b' = false := by unfold tl3; rw [s3]; simp
          have d4 : tl4 b b' = true := by unfold tl4; rw [hb, p1, s1]; rfl
          rw [tell_eq, d1, d2, d3, d4]
          rfl
        · have hb := k.halt p1
          obtain ⟨s1, s2, s3⟩ := h.sil p2
          have d1 : tl1 b b' = true := by unfold tl1; rw [hb, s2]; exact c1
          have d2 : tl2 b b' = false := by unfold tl2; rw [hb, s2, s3, h2.2]; rfl
          have d3 : tl3 b b' = false := by unfold tl3; rw [s3]; rfl
          have d4 : tl4 b b' = true := by unfold tl4; rw [hb, p1, s1]; simp
          rw [tell_eq, d1, d2, d3, d4]
          rfl
      | false =>
        left
        rw [tell_eq, c1, h2, h3, h4]
        rfl
end Go.Proofs.YtbmlnfceanfbmaaDoor.M2
/- Plain: what is silent stays so. -/
namespace Go.Proofs.YtbmlnfceanfbmaaDoor.M2
open Go
def Ever (l : List Ins) (a : Nat) : Prop := ∃ P : Nat → Prop, P a ∧ ∀ j, P j → j < l.length ∧ movesF (l.getD j default) = true ∧ P (nextTo (l.getD j default) j)
structure CI (l : List Ins) (a : Nat) (s : PS) : Prop where
  base : PInv l s
  cl : ∀ j, s.met.getD j false = true → j < l.length ∧ movesF (l.getD j default) = true ∧ (nextTo (l.getD j default) j = s.to ∨ s.met.getD (nextTo (l.getD j default) j) false = true)
  st : s.met.getD a false = true ∨ s.to = a
theorem follow_ci {l : List Ins} (hr : rightF l = true) {a : Nat} {s : PS} (h : CI l a s) (hf : followsF l s = true) : CI l a (followF l s) := by
  have h200 := (right_facts hr).1
  have hb := (follow_inv hr h.base hf).1
  unfold followsF at hf
  simp only [Bool.and_eq_true, Bool.not_eq_true'] at hf
  have hmt : s.to < s.met.length := by have := h.base.to; have := h.base.met; omega
  have get : ∀ j, (s.met.set s.to true).getD j false = (decide (s.to = j) || s.met.getD j false) := fun j => by
    simp only [List.getD_eq_getElem?_getD, List.getElem?_set]
    by_cases e : s.to = j
    · subst e; simp [hmt]
    · simp [e]
  refine ⟨hb, fun j hj => ?_, ?_⟩
  · simp only [followF] at hj ⊢
    rw [get] at hj
    by_cases e : s.to = j
    · subst e
      exact ⟨h.base.to, hf.1, .inl rfl⟩
    · simp only [e, decide_false, Bool.false_or] at hj
      obtain ⟨h1, h2, h3⟩ := h.cl j hj
      refine ⟨h1, h2, .inr ?_⟩
      rw [get]
      rcases h3 with h3 | h3
      · rw [h3, decide_eq_true rfl, Bool.true_or]
      · rw [h3, Bool.or_true]
  · left
    simp only [followF]
    rw [get]
    rcases h.st with h1 | h1
    · rw [h1, Bool.or_true]
    · simp [h1]
theorem ci_end {l : List Ins} (hr : rightF l = true) {a : Nat} : ∀ (n : Nat) (s : PS), CI l a s → frees s.met < n → CI l a (pathRun l n s) ∧ followsF l (pathRun l n s) = false
  | 0, _, _, h => absurd h (by omega)
  | n + 1, s, h, hn => by
    rw [pathRun]
    cases hf : followsF l s with
    | false => rw [if_neg (by simp)]; exact ⟨h, hf⟩
    | true =>
      rw [if_pos rfl]
      exact ci_end hr n _ (follow_ci hr h hf) (by have := (follow_inv hr h.base hf).2; omega)
theorem ci_start {l : List Ins} {a : Nat} (ha : a < l.length) : CI l a (ps0 a) := by
  refine ⟨⟨ha, rfl, List.length_replicate, by
    show 0 + ((List.replicate 200 false).filter (!·)).length = 200
    rw [List.filter_replicate_of_pos rfl, List.length_replicate]⟩, fun j hj => ?_, .inr rfl⟩
  have : (ps0 a).met.getD j false = false := by
    show (List.replicate 200 false).getD j false = false
    rw [List.getD_eq_getElem?_getD, List.getElem?_replicate]
    split <;> rfl
  rw [this] at hj
  cases hj
theorem pathIn {l : List Ins} {P : Nat → Prop} (h : ∀ j, P j → P (nextTo (l.getD j default) j)) : ∀ (n : Nat) (s : PS), P s.to → P (pathRun l n s).to
  | 0, _, hs => hs
  | n + 1, s, hs => by
    rw [pathRun]
    split
    · exact pathIn h n _ (h _ hs)
    · exact hs
theorem from_neg {l : List Ins} (hr : rightF l = true) {a : Nat} (ha : a < l.length) : (fromF l a).1.1 < 0 ↔ (pathRun l 201 (ps0 a)).met.getD (pathRun l 201 (ps0 a)).to false = true := by
  unfold fromF
  rw [if_pos (by simp [hr, ha])]
  simp only [Int.toNat_natCast]
  split
  · rename_i h
    exact ⟨fun _ => h, fun _ => by simp⟩
  · rename_i h
    exact ⟨fun h2 => by simp only at h2; omega, fun h2 => absurd h2 h⟩
theorem ever_iff {l : List Ins} (hr : rightF l = true) {a : Nat} (ha : a < l.length) : (fromF l a).1.1 < 0 ↔ Ever l a := by
  rw [from_neg hr ha]
  obtain ⟨h, hf⟩ := ci_end hr 201 (ps0 a) (ci_start ha) (by
    have := (ci_start (l := l) ha).base.steps
    omega)
  constructor
  · intro hm
    refine ⟨fun j => (pathRun l 201 (ps0 a)).met.getD j false = true, ?_, fun j hj => ?_⟩
    · rcases h.st with h1 | h1
      · exact h1
      · rw [h1] at hm; exact hm
    · obtain ⟨h1, h2, h3⟩ := h.cl j hj
      refine ⟨h1, h2, ?_⟩
      rcases h3 with h3 | h3
      · rw [h3]; exact hm
      · exact h3
  · rintro ⟨P, p1, p2⟩
    have hp := pathIn (fun j hj => (p2 j hj).2.2) 201 (ps0 a) p1
    have hm := (p2 _ hp).2.1
    unfold followsF at hf
    rw [hm] at hf
    simpa using hf
theorem run_silent {l : List Ins} (ask : List Int) : ∀ (k : Nat) (s : Stt) (t : TR), sttF l s = true → s.L.length = 24 → Ever l s.at_.toNat → t.how = 0 →
    (runLoop l ask k s t).2.ev = t.ev ∧ (runLoop l ask k s t).2.how = 0 ∧ sttF l (runLoop l ask k s t).1 = true ∧ Ever l (runLoop l ask k s t).1.at_.toNat
  | 0, s, t, hs, hL, he, ht => ⟨rfl, ht, hs, he⟩
  | k + 1, s, t, hs, hL, he, ht => by
    obtain ⟨P, p1, p2⟩ := he
    obtain ⟨q1, q2, q3⟩ := p2 _ p1
    obtain ⟨r1, r2, r3⟩ := step_right hs hL q2
    have e : stepAllF s (l.getD s.at_.toNat default) ask = ⟨stepF l s, none, 0, 0⟩ := by
      unfold stepAllF
      rw [if_pos q2]
      rfl
    rw [runLoop]
    simp only [e, if_true]
    obtain ⟨k1, k2, k3, k4⟩ := run_silent ask k (stepF l s) (trStep t (l.getD s.at_.toNat default) ⟨stepF l s, none, 0, 0⟩) r1 r2 ⟨P, by rw [r3, Int.toNat_natCast]; exact q3, p2⟩ rfl
    exact ⟨by rw [k1]; simp [trStep], k2, k3, k4⟩
theorem more_of {l : List Ins} (hr : rightF l = true) (c : Cs) (hc : csRight c = true) (hR : c.R.length = 8) (ext : List Int) (m : Nat) (q : Bool) : More (sdF l c) (sdF l ⟨c.R, c.h, c.ans ++ ext, c.fuel + m, q⟩) := by
  obtain ⟨b1, b2⟩ := begin_right hr hc hR
  have hfu : c.fuel.toNat ≤ (c.fuel + m).toNat := by omega
  obtain ⟨q1, q2, q3⟩ := run_more c.ans ext c.fuel.toNat (c.fuel + m).toNat (beginF c) tr0 b1 b2 hfu
  have hrr := runLoop_right c.ans c.fuel.toNat (beginF c) tr0 b1 b2
  have ha : runF l c = runLoop l c.ans c.fuel.toNat (beginF c) tr0 := rfl
  have hb : runF l ⟨c.R, c.h, c.ans ++ ext, c.fuel + m, q⟩ = runLoop l (c.ans ++ ext) (c.fuel + m).toNat (beginF c) tr0 := rfl
  refine ⟨?_, fun h => ?_, fun h => ?_⟩
  · simp only [sdF, ha, hb]
    exact q1
  · simp only [sdF, ha, hb] at h ⊢
    exact q2 h rfl
  · simp only [sdF, ha, hb, Bool.and_eq_true, decide_eq_true_eq] at h ⊢
    obtain ⟨h1, h2⟩ := h
    obtain ⟨k, hk⟩ := q3 h1
    have hs0 := hrr.1
    unfold sttF at hs0
    simp only [Bool.and_eq_true, decide_eq_true_eq] at hs0
    obtain ⟨a, ea⟩ := Int.eq_ofNat_of_zero_le hs0.1.1.1.1.2
    have hal : a < l.length := by have := hs0.1.1.1.2; omega
    rw [ea] at h2
    have hev := (ever_iff hr hal).1 h2
    obtain ⟨k1, k2, k3, k4⟩ := run_silent (l := l) (c.ans ++ ext) k _ _ hrr.1 hrr.2 (by rw [ea, Int.toNat_natCast]; exact hev) h1
    rw [hk]
    unfold sttF at k3
    simp only [Bool.and_eq_true, decide_eq_true_eq] at k3
    obtain ⟨a2, ea2⟩ := Int.eq_ofNat_of_zero_le k3.1.1.1.1.2
    have hal2 : a2 < l.length := by have := k3.1.1.1.2; omega
    rw [ea2, Int.toNat_natCast] at k4
    refine ⟨⟨k2, by rw [ea2]; exact (ever_iff hr hal2).2 k4⟩, k1, by simp only [haltedF, k2]; rfl⟩
end Go.Proofs.YtbmlnfceanfbmaaDoor.M2
/- The law DifferStays in M2. -/
namespace Go.Proofs.YtbmlnfceanfbmaaDoor.M2
open Go
attribute [local simp] ev1 M2.get put A.ev ld sub part elems bin arith un opt idx fillC cellsO splice over newOb sto fillR laidOwn appTo appRow touch touchN touchM touchE touchA plainU flatU plainAs allM rowAt stoRow accM_nil accM_cons accMM_nil accMM_cons frz_int frz_bool frz_str frz_slt frz_nils frz_nilI frz_nilF frz_own frzRow_row frzRow_frow Ob.blw blw_bool blw_int blw_str blw_nils blw_nilI blw_nilF blw_nilp blw_nilm blw_sl blw_own blw_bp blw_rp blw_mp blw_it params
attribute [local simp] frz_agg frz_tup frz_iface frzS_agg frzS_iface accMS_cons frzS_int frzS_bool frzS_str frzS_slt frzS_nils frzS_nilI beq_dec bne_dec
theorem typed_u8 {P : Program} {t : TypeId} (hu : P.underlying t = some (.int .u8)) {d : Nat} {us : List U} (h : Typed P (d + 1) t us) : ∃ m : Nat, us = [.int .u8 m] ∧ m < 256 := by
  simp only [Typed, hu] at h
  obtain ⟨n, e, hw⟩ := h
  simp [Lit.wf, IntKind.min, IntKind.max, IntKind.bits, IntKind.signed] at hw
  exact ⟨n.toNat, by rw [e, Int.toNat_of_nonneg (by omega)], by omega⟩
attribute [local irreducible] Typed TypedA
theorem agg5 : aggT Tryd.prog 5 = false := by kernel_rfl
theorem agg68 : aggT Tryd.prog 68 = false := by kernel_rfl
theorem app_more (cl : Nat → List U → List Ob → Option (U × List Ob)) (e : Env) (st : List Ob) (i : Nat) (p : Bool) (g h : List Int) (hh : g.length + h.length ≤ 5000) (s x : A) (hs : s.ev e = .own i g.length) (hx : x.ev e = heapU p h) (hi : st[i]? = some (.row 2 1 false (g.map fun v => [i64 v]))) (nid : Nat) :
    ev1 cl e st nid (.append 2 1 8 false s x) = some (.own i (g.length + h.length), st.set i (.row 2 1 false ((g.map fun v => [i64 v]) ++ h.map fun v => [i64 v]))) := by
  have hall : ((h.map fun v => [i64 v]).all fun y => y.length == 1) = true := by
    rw [List.all_eq_true]
    intro y hy
    obtain ⟨b, _, rfl⟩ := List.mem_map.1 hy
    rfl
  have hlim : (g.length + (h.map fun v => [i64 v]).length) * 8 ≤ 140737488355328 := by simp; omega
  have hgl : (g.map fun v => [i64 v]).length = g.length := List.length_map _
  rw [ev1, hx]
  simp only [heapU, elems, Option.bind_some]
  rw [if_pos hall, hs]
  simp only
  unfold appTo
  simp only [hi]
  rw [acc_ints]
  simp only [Option.bind_some]
  unfold appRow
  simp only [hi]
  rw [if_pos ⟨hgl, trivial, trivial, hlim⟩]
  simp only [Option.bind_some, List.length_map]
theorem Cl.lend {f : Nat} {fn : F} (hT : T f = some fn) (hp : fn.pure = true) {as' bs : List U} {st st' : List Ob} {u : U} (hl : as'.length = bs.length) (hb : allM (brwA frzD st) as' = allM (brwA frzD st) bs) (h : Cl T f bs st u st') : Cl T f as' st u st' :=
  Evt.mono h fun n h => by
    simp only [M2.call, callF, hT, Option.bind_some, hp, if_true] at h ⊢
    rw [hl, hb]
    exact h
set_option maxHeartbeats 16000000 in
theorem law9_call (l g : List Ins) (c : Cs) (hR : c.R.length = 8) (m : Nat) (hm : m < 256) (ext : List Int) : Cl T n_joinerylaw18_DifferStays [insL true l, insL true g, .agg (csU c), .int .u8 m, intsU ext] [] (.bool true) [] := by
  have hbr := brw_cs [] c hR
  refine Wp.pure (fn := c_joinerylaw18_DifferStays) rfl rfl rfl («as» := [insL true l, insL true g, .agg (csU c), .int .u8 m, intsU ext]) (by simp [hbr, insL]; rfl) ?_
  have hg := great_call true true l g c hR
  have h1 := fair8_call true l c hR
  have h2 := fair8_call true g c hR
  have kno := knows_call
  cases hG : great8F l c || great8F g c with
  | true =>
    have hcl : (csU c).length = 11 := by simp [csU, hR]
    have hct : (csU c).take 11 = csU c := List.take_of_length_le (by omega)
    rw [hG] at hg
    repeat' (first | apply Wp.seq | apply Wp.skip | apply Wp.block | (apply Wp.op0; ((simp [M2.keep]) <;> rfl)) | ((first | (apply Wp.pickT; (exact rfl); (first | exact rfl | assumption)) | (apply Wp.pickF; (exact rfl); (first | exact rfl | assumption))); ((simp) <;> exact rfl)) | ((first | apply Wp.op | apply Wp.opN); (apply Evt.all; intro; (simp [hcl, hct]) <;> (try simp (disch := omega) only [wrap_id]) <;> first | exact ⟨rfl, rfl⟩ | exact rfl)) | (apply Wp.call; exact hg _) | (apply Wp.call; exact kno _) | (first | (apply Wp.ung; (exact rfl); (first | exact rfl | assumption)) | (apply Wp.opSt; (exact rfl); (first | exact rfl | assumption)) | (apply Wp.opSf; (exact rfl); (first | exact rfl | assumption))) | (apply Wp.opS0; (exact rfl)) | (first | (apply Wp.condT; (exact rfl); (first | exact rfl | assumption)) | (apply Wp.condF; (exact rfl); (first | exact rfl | assumption))) | ((first | apply Wp.grdT | apply Wp.grdF | apply Wp.cond); (exact rfl); (intro); rotate_left 1; (intro); rotate_right 1))
    refine Wp.ret ?_
    simp [Res, resU, res1, c_joinerylaw18_DifferStays]
  | false =>
    rw [hG] at hg
    by_cases hx : 1000 < ext.length
    · have hcl : (csU c).length = 11 := by simp [csU, hR]
      have hct : (csU c).take 11 = csU c := List.take_of_length_le (by omega)
      have dx : decide (1000 < ext.length) = true := decide_eq_true hx
      have dx2 : decide (1000 < (ext.length : Int)) = true := decide_eq_true (by omega)
      repeat' (first | apply Wp.seq | apply Wp.skip | apply Wp.block | (apply Wp.op0; ((simp [M2.keep]) <;> rfl)) | ((first | (apply Wp.pickT; (exact rfl); (first | exact rfl | assumption)) | (apply Wp.pickF; (exact rfl); (first | exact rfl | assumption))); ((simp) <;> exact rfl)) | ((first | apply Wp.op | apply Wp.opN); (apply Evt.all; intro; (simp [hcl, hct]) <;> (try simp (disch := omega) only [wrap_id]) <;> first | exact ⟨rfl, rfl⟩ | exact rfl)) | (apply Wp.call; exact hg _) | (apply Wp.call; exact kno _) | (first | (apply Wp.ung; (exact rfl); (first | exact rfl | assumption)) | (apply Wp.opSt; (exact rfl); (first | exact rfl | assumption)) | (apply Wp.opSf; (exact rfl); (first | exact rfl | assumption))) | (apply Wp.opS0; (exact rfl)) | (first | (apply Wp.condT; (exact rfl); (first | exact rfl | assumption)) | (apply Wp.condF; (exact rfl); (first | exact rfl | assumption))) | ((first | apply Wp.grdT | apply Wp.grdF | apply Wp.cond); (exact rfl); (intro); rotate_left 1; (intro); rotate_right 1))
      refine Wp.ret ?_
      simp [Res, resU, res1, c_joinerylaw18_DifferStays]
    have dx : decide (1000 < ext.length) = false := decide_eq_false hx
    have dx2 : decide (1000 < (ext.length : Int)) = false := decide_eq_false (by omega)
    cases hA : rightF l && csRight c with
    | false =>
      have hcl : (csU c).length = 11 := by simp [csU, hR]
      have hct : (csU c).take 11 = csU c := List.take_of_length_le (by omega)
      rw [hA] at h1
      repeat' (first | apply Wp.seq | apply Wp.skip | apply Wp.block | (apply Wp.op0; ((simp [M2.keep]) <;> rfl)) | ((first | (apply Wp.pickT; (exact rfl); (first | exact rfl | assumption)) | (apply Wp.pickF; (exact rfl); (first | exact rfl | assumption))); ((simp) <;> exact rfl)) | ((first | apply Wp.op | apply Wp.opN); (apply Evt.all; intro; (simp [hcl, hct]) <;> (try simp (disch := omega) only [wrap_id]) <;> first | exact ⟨rfl, rfl⟩ | exact rfl)) | (apply Wp.call; exact hg _) | (apply Wp.call; exact h1 _) | (apply Wp.call; exact kno _) | (first | (apply Wp.ung; (exact rfl); (first | exact rfl | assumption)) | (apply Wp.opSt; (exact rfl); (first | exact rfl | assumption)) | (apply Wp.opSf; (exact rfl); (first | exact rfl | assumption))) | (apply Wp.opS0; (exact rfl)) | (first | (apply Wp.condT; (exact rfl); (first | exact rfl | assumption)) | (apply Wp.condF; (exact rfl); (first | exact rfl | assumption))) | ((first | apply Wp.grdT | apply Wp.grdF | apply Wp.cond); (exact rfl); (intro); rotate_left 1; (intro); rotate_right 1))
      refine Wp.ret ?_
      simp [Res, resU, res1, c_joinerylaw18_DifferStays]
    | true =>
      rw [hA] at h1
      cases hB : rightF g && csRight c with
      | false =>
        have hcl : (csU c).length = 11 := by simp [csU, hR]
        have hct : (csU c).take 11 = csU c := List.take_of_length_le (by omega)
        rw [hB] at h2
        repeat' (first | apply Wp.seq | apply Wp.skip | apply Wp.block | (apply Wp.op0; ((simp [M2.keep]) <;> rfl)) | ((first | (apply Wp.pickT; (exact rfl); (first | exact rfl | assumption)) | (apply Wp.pickF; (exact rfl); (first | exact rfl | assumption))); ((simp) <;> exact rfl)) | ((first | apply Wp.op | apply Wp.opN); (apply Evt.all; intro; (simp [hcl, hct]) <;> (try simp (disch := omega) only [wrap_id]) <;> first | exact ⟨rfl, rfl⟩ | exact rfl)) | (apply Wp.call; exact hg _) | (apply Wp.call; exact h1 _) | (apply Wp.call; exact h2 _) | (apply Wp.call; exact kno _) | (first | (apply Wp.ung; (exact rfl); (first | exact rfl | assumption)) | (apply Wp.opSt; (exact rfl); (first | exact rfl | assumption)) | (apply Wp.opSf; (exact rfl); (first | exact rfl | assumption))) | (apply Wp.opS0; (exact rfl)) | (first | (apply Wp.condT; (exact rfl); (first | exact rfl | assumption)) | (apply Wp.condF; (exact rfl); (first | exact rfl | assumption))) | ((first | apply Wp.grdT | apply Wp.grdF | apply Wp.cond); (exact rfl); (intro); rotate_left 1; (intro); rotate_right 1))
        refine Wp.ret ?_
        simp [Res, resU, res1, c_joinerylaw18_DifferStays]
      | true =>
        rw [hB] at h2
        have hc0 := hA
        simp only [Bool.and_eq_true] at hc0
        have hgr := hB
        simp only [Bool.and_eq_true] at hgr
        have hc := hc0.2
        have hcr := hc
        simp only [Bool.and_eq_true, csRight, decide_eq_true_eq] at hcr
        have hGg := hG
        simp only [Bool.or_eq_false_iff, great8F, decide_eq_false_iff_not, Bool.and_eq_false_iff] at hGg
        have hans : c.ans.length ≤ 1000 := by omega
        have hfu : c.fuel ≤ 1000 := by
          rcases hGg.1.2.2.2 with q | q <;> omega
        have hc2 : csRight ⟨c.R, c.h, c.ans ++ ext, c.fuel + m, false⟩ = true := by
          simp only [csRight, Bool.and_eq_true, decide_eq_true_eq, List.length_append]
          omega
        have t1 := tell_call true true l g c hR (by omega) hA hB
        have t2 := tell_call true true l g ⟨c.R, c.h, c.ans ++ ext, c.fuel + m, false⟩ hR (by simp only; omega) (by rw [hc0.1, hc2]; rfl) (by rw [hgr.1, hc2]; rfl)
        have hst := tell_stays (more_of hc0.1 c hc hR ext m false) (more_of hgr.1 c hc hR ext m false)
        generalize tellF (sdF l ⟨c.R, c.h, c.ans ++ ext, c.fuel + m, false⟩) (sdF g ⟨c.R, c.h, c.ans ++ ext, c.fuel + m, false⟩) = w at *
        generalize tellF (sdF l c) (sdF g c) = v at *
        obtain ⟨R, h, ans, fuel, q⟩ := c
        obtain ⟨r0, r1, r2, r3, r4, r5, r6, r7, rfl⟩ := R8 hR
        simp only at hans hfu hcr t2
        have hap := fun cl e st s x hs hx hi nid => app_ints cl e st 1 q ans hans s x hs hx hi nid
        have hap2 := fun cl e st s x hs hx hi nid => app_more cl e st 1 true ans ext (by omega) s x hs hx hi nid
        repeat' (first | apply Wp.seq | apply Wp.skip | apply Wp.block | (apply Wp.op0; ((simp [M2.keep]) <;> rfl)) | ((first | (apply Wp.pickT; (exact rfl); (first | exact rfl | assumption)) | (apply Wp.pickF; (exact rfl); (first | exact rfl | assumption))); ((simp) <;> exact rfl)) | ((first | apply Wp.op | apply Wp.opN); (apply Evt.all; intro; (simp [csU]) <;> (try simp (disch := omega) only [wrap_id]) <;> first | exact ⟨rfl, rfl⟩ | exact rfl)) | (apply Wp.call; exact hg _) | (apply Wp.call; exact h1 _) | (apply Wp.call; exact h2 _) | (apply Wp.call; exact t1 _) | (apply Wp.call; exact kno _) | (first | (apply Wp.ung; (exact rfl); (first | exact rfl | assumption)) | (apply Wp.opSt; (exact rfl); (first | exact rfl | assumption)) | (apply Wp.opSf; (exact rfl); (first | exact rfl | assumption))) | (apply Wp.opS0; (exact rfl)) | (first | (apply Wp.condT; (exact rfl); (first | exact rfl | assumption)) | (apply Wp.condF; (exact rfl); (first | exact rfl | assumption))) | ((first | apply Wp.grdT | apply Wp.grdF | apply Wp.cond); (exact rfl); (intro); rotate_left 1; (intro); rotate_right 1))
        refine Wp.op (Evt.all fun n => hap _ _ _ _ _ rfl rfl rfl _) ?_
        repeat (first | apply Wp.seq | apply Wp.skip | apply Wp.block | (apply Wp.op0; ((simp [M2.keep]) <;> rfl)) | ((first | apply Wp.op | apply Wp.opN | (apply Wp.opG; exact rfl)); (apply Evt.all; intro; (simp []) <;> (try simp (disch := omega) only [wrap_id]) <;> first | exact ⟨rfl, rfl⟩ | exact rfl)) | (apply Wp.opS; exact rfl; decide) | (apply Wp.opS0; exact rfl))
        refine Wp.op (Evt.all fun n => hap2 _ _ _ _ _ rfl rfl rfl _) ?_
        repeat (first | apply Wp.seq | apply Wp.skip | apply Wp.block | (apply Wp.op0; ((simp [M2.keep]) <;> rfl)) | ((first | apply Wp.op | apply Wp.opN | (apply Wp.opG; exact rfl)); (apply Evt.all; intro; (simp []) <;> (try simp (disch := omega) only [wrap_id]) <;> first | exact ⟨rfl, rfl⟩ | exact rfl)) | (apply Wp.opS; exact rfl; decide) | (apply Wp.opS0; exact rfl))
        apply Wp.call
        · refine Cl.lend (fn := c_differ_Tell) rfl rfl (bs := [insL true l, insL true g, .agg (csU ⟨[r0, r1, r2, r3, r4, r5, r6, r7], h, ans ++ ext, fuel + m, false⟩)]) rfl ?_ (t2 _)
          simp [M2.allM, brwA, brw, frzD, insL, csU]
        · rcases hst with rfl | rfl
          · repeat' (first | apply Wp.seq | apply Wp.skip | apply Wp.block | (apply Wp.op0; ((simp [M2.keep]) <;> rfl)) | ((first | (apply Wp.pickT; (exact rfl); (first | exact rfl | assumption)) | (apply Wp.pickF; (exact rfl); (first | exact rfl | assumption))); ((simp) <;> exact rfl)) | ((first | apply Wp.op | apply Wp.opN); (apply Evt.all; intro; (simp []) <;> (try simp (disch := omega) only [wrap_id]) <;> first | exact ⟨rfl, rfl⟩ | exact rfl)) | (apply Wp.call; exact kno _) | (first | (apply Wp.ung; (exact rfl); (first | exact rfl | assumption)) | (apply Wp.opSt; (exact rfl); (first | exact rfl | assumption)) | (apply Wp.opSf; (exact rfl); (first | exact rfl | assumption))) | (apply Wp.opS0; (exact rfl)) | (first | (apply Wp.condT; (exact rfl); (first | exact rfl | assumption)) | (apply Wp.condF; (exact rfl); (first | exact rfl | assumption))) | ((first | apply Wp.grdT | apply Wp.grdF | apply Wp.cond); (exact rfl); (intro); rotate_left 1; (intro); rotate_right 1))
            refine Wp.ret ?_
            simp [Res, resU, res1, c_joinerylaw18_DifferStays]
          · by_cases h0 : v = 0
            · repeat' (first | apply Wp.seq | apply Wp.skip | apply Wp.block | (apply Wp.op0; ((simp [M2.keep]) <;> rfl)) | ((first | (apply Wp.pickT; (exact rfl); (first | exact rfl | assumption)) | (apply Wp.pickF; (exact rfl); (first | exact rfl | assumption))); ((simp) <;> exact rfl)) | ((first | apply Wp.op | apply Wp.opN); (apply Evt.all; intro; (simp [h0]) <;> (try simp (disch := omega) only [wrap_id]) <;> first | exact ⟨rfl, rfl⟩ | exact rfl)) | (apply Wp.call; exact kno _) | (first | (apply Wp.ung; (exact rfl); (first | exact rfl | assumption)) | (apply Wp.opSt; (exact rfl); (first | exact rfl | assumption)) | (apply Wp.opSf; (exact rfl); (first | exact rfl | assumption))) | (apply Wp.opS0; (exact rfl)) | (first | (apply Wp.condT; (exact rfl); (first | exact rfl | assumption)) | (apply Wp.condF; (exact rfl); (first | exact rfl | assumption))) | ((first | apply Wp.grdT | apply Wp.grdF | apply Wp.cond); (exact rfl); (intro); rotate_left 1; (intro); rotate_right 1))
              refine Wp.ret ?_
              simp [Res, resU, res1, c_joinerylaw18_DifferStays]
            · repeat' (first | apply Wp.seq | apply Wp.skip | apply Wp.block | (apply Wp.op0; ((simp [M2.keep]) <;> rfl)) | ((first | (apply Wp.pickT; (exact rfl); (first | exact rfl | assumption)) | (apply Wp.pickF; (exact rfl); (first | exact rfl | assumption))); ((simp) <;> exact rfl)) | ((first | apply Wp.op | apply Wp.opN); (apply Evt.all; intro; (simp [h0]) <;> (try simp (disch := omega) only [wrap_id]) <;> first | exact ⟨rfl, rfl⟩ | exact rfl)) | (apply Wp.call; exact kno _) | (first | (apply Wp.ung; (exact rfl); (first | exact rfl | assumption)) | (apply Wp.opSt; (exact rfl); (first | exact rfl | assumption)) | (apply Wp.opSf; (exact rfl); (first | exact rfl | assumption))) | (apply Wp.opS0; (exact rfl)) | (first | (apply Wp.condT; (exact rfl); (first | exact rfl | assumption)) | (apply Wp.condF; (exact rfl); (first | exact rfl | assumption))) | ((first | apply Wp.grdT | apply Wp.grdF | apply Wp.cond); (exact rfl); (intro); rotate_left 1; (intro); rotate_right 1))
              refine Wp.ret ?_
              simp [Res, resU, res1, c_joinerylaw18_DifferStays]
theorem law9_typed {us : List U} (hl : us.length = 5) (hty : ∀ (j : Nat) t u, [22, 22, 70, 5, 68][j]? = some t → us[j]? = some u → TypedA Tryd.prog 8 t u) : ∃ (l g : List Ins) (c : Cs) (m : Nat) (ext : List Int), us = [insL true l, insL true g, .agg (csU c), .int .u8 m, intsU ext] ∧ c.R.length = 8 ∧ m < 256 := by
  match us, hl with
  | [u, w, v, a, b], _ =>
    obtain ⟨l, rfl, _, _⟩ := typed_insn ⟨5, rfl⟩ ((hty 0 22 u rfl rfl).one agg22)
    obtain ⟨g, rfl, _, _⟩ := typed_insn ⟨5, rfl⟩ ((hty 1 22 w rfl rfl).one agg22)
    obtain ⟨cs, rfl, hc⟩ := (hty 2 70 v rfl rfl).cells agg70
    obtain ⟨c, rfl, h8, _⟩ := typed_case (d := 5) Tryd.underlying70 rfl rfl Tryd.underlying67 Tryd.underlying2 Tryd.underlying68 Tryd.underlying3 cells70 cells67 cells2 cells68 cells3 hc
    obtain ⟨m, e, hm⟩ := typed_u8 (d := 7) Tryd.underlying5 ((hty 3 5 a rfl rfl).one agg5)
    obtain ⟨x, e2, _⟩ := typed_ints (d := 6) Tryd.underlying68 Tryd.underlying2 ((hty 4 68 b rfl rfl).one agg68)
    injection e with e
    injection e2 with e2
    subst e e2
    exact ⟨l, g, c, m, x, rfl, h8, hm⟩
theorem params9 : Tryd.f9.params.toList = [22, 22, 70, 5, 68] := by kernel_rfl
theorem law9 : Law 9 Tryd.f9.params.toList := by
  rw [params9]
  intro us hl hty
  obtain ⟨l, g, c, m, x, rfl, h, hm⟩ := law9_typed hl hty
  exact law_of (law9_call l g c h m hm x)
end Go.Proofs.YtbmlnfceanfbmaaDoor.M2
