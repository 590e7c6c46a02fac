/- What the functions answer in M2. What two runs tell, told. -/
import Derived.Test.YtbmlnfceanfbmaaDoorCh
import Derived.Test.YtbmlnfceanfbmaaDoorCg
set_option linter.unusedSimpArgs false
set_option linter.unusedVariables false
set_option linter.unusedSectionVars false
/- What the functions answer in M2. Arithmetic; heaps; the places that an instruction needs. -/
namespace Go.Proofs.YtbmlnfceanfbmaaDoor.M2
open Go
attribute [local simp] ev1 M2.get put A.ev ld sub part elems bin arith un opt idx fillC cellsO splice over newOb sto fillR laidOwn appTo appRow touch touchN touchM touchE touchA plainU flatU plainAs allM rowAt stoRow accM_nil accM_cons accMM_nil accMM_cons frz_int frz_bool frz_str frz_slt frz_nils frz_nilI frz_nilF frz_own frzRow_row frzRow_frow Ob.blw blw_bool blw_int blw_str blw_nils blw_nilI blw_nilF blw_nilp blw_nilm blw_sl blw_own blw_bp blw_rp blw_mp blw_it params
attribute [local simp] frz_agg frz_tup frz_iface frzS_agg frzS_iface accMS_cons frzS_int frzS_bool frzS_str frzS_slt frzS_nils frzS_nilI beq_dec bne_dec
/-! Arithmetic. -/
def wrapU (n : Int) : Int := IntKind.wrap .i64 n
def deedF (op a b : Int) : Int :=
  if op = 4 then wrapU (a + b) else if op = 5 then wrapU (a - b) else if op = 6 then wrapU (a * b) else if op = 7 then wrapU (a.tdiv b)
  else if op = 8 then wrapU (BitVec.ofInt 64 a &&& BitVec.ofInt 64 b).toNat else if op = 9 then wrapU (BitVec.ofInt 64 a ||| BitVec.ofInt 64 b).toNat
  else if op = 10 then wrapU (BitVec.ofInt 64 a ^^^ BitVec.ofInt 64 b).toNat else if op = 11 then (if a < b then 1 else 0) else (if a = b then 1 else 0)
def numF (op a b : Int) : Int × Int := if op < 4 ∨ 12 < op then (0, 2) else if op = 7 ∧ b = 0 then (0, 3) else (deedF op a b, 0)
theorem flag_call (t : Bool) (st : List Ob) : Cl T n_num_flag [.bool t] st (i64 (if t then 1 else 0)) st := by
  refine Wp.pure (fn := c_num_flag) rfl rfl rfl («as» := [.bool t]) rfl ?_
  cases t
  all_goals
    repeat' (first | apply Wp.seq | apply Wp.skip | apply Wp.block | (apply Wp.op0; ((simp [M2.keep]) <;> rfl)) | ((first | (apply Wp.pickT; (exact rfl); (first | exact rfl | assumption)) | (apply Wp.pickF; (exact rfl); (first | exact rfl | assumption))); ((simp) <;> exact rfl)) | ((first | apply Wp.op | apply Wp.opN); (apply Evt.all; intro; (simp []) <;> (try simp (disch := omega) only [wrap_id]) <;> first | exact ⟨rfl, rfl⟩ | exact rfl)) | (first | (apply Wp.ung; (exact rfl); (first | exact rfl | assumption)) | (apply Wp.opSt; (exact rfl); (first | exact rfl | assumption)) | (apply Wp.opSf; (exact rfl); (first | exact rfl | assumption))) | (apply Wp.opS0; (exact rfl)) | (first | (apply Wp.condT; (exact rfl); (first | exact rfl | assumption)) | (apply Wp.condF; (exact rfl); (first | exact rfl | assumption))) | ((first | apply Wp.grdT | apply Wp.grdF | apply Wp.cond); (exact rfl); (intro); rotate_left 1; (intro); rotate_right 1))
    refine Wp.ret ?_
    simp [Res, resU, res1, c_num_flag]
theorem deed1_call (a b : Int) (st : List Ob) : Cl T n_num_deeds_1 [i64 a, i64 b] st (i64 (wrapU (a + b))) st := by
  refine Wp.pure (fn := c_num_deeds_1) rfl rfl rfl («as» := [i64 a, i64 b]) rfl ?_
  repeat' (first | apply Wp.seq | apply Wp.skip | apply Wp.block | (apply Wp.op0; ((simp [M2.keep]) <;> rfl)) | ((first | (apply Wp.pickT; (exact rfl); (first | exact rfl | assumption)) | (apply Wp.pickF; (exact rfl); (first | exact rfl | assumption))); ((simp) <;> exact rfl)) | ((first | apply Wp.op | apply Wp.opN); (apply Evt.all; intro; (simp []) <;> (try simp (disch := omega) only [wrap_id]) <;> first | exact ⟨rfl, rfl⟩ | exact rfl)) | (first | (apply Wp.ung; (exact rfl); (first | exact rfl | assumption)) | (apply Wp.opSt; (exact rfl); (first | exact rfl | assumption)) | (apply Wp.opSf; (exact rfl); (first | exact rfl | assumption))) | (apply Wp.opS0; (exact rfl)) | (first | (apply Wp.condT; (exact rfl); (first | exact rfl | assumption)) | (apply Wp.condF; (exact rfl); (first | exact rfl | assumption))) | ((first | apply Wp.grdT | apply Wp.grdF | apply Wp.cond); (exact rfl); (intro); rotate_left 1; (intro); rotate_right 1))
  exact Wp.ret rfl
theorem deed2_call (a b : Int) (st : List Ob) : Cl T n_num_deeds_2 [i64 a, i64 b] st (i64 (wrapU (a - b))) st := by
  refine Wp.pure (fn := c_num_deeds_2) rfl rfl rfl («as» := [i64 a, i64 b]) rfl ?_
  repeat' (first | apply Wp.seq | apply Wp.skip | apply Wp.block | (apply Wp.op0; ((simp [M2.keep]) <;> rfl)) | ((first | (apply Wp.pickT; (exact rfl); (first | exact rfl | assumption)) | (apply Wp.pickF; (exact rfl); (first | exact rfl | assumption))); ((simp) <;> exact rfl)) | ((first | apply Wp.op | apply Wp.opN); (apply Evt.all; intro; (simp []) <;> (try simp (disch := omega) only [wrap_id]) <;> first | exact ⟨rfl, rfl⟩ | exact rfl)) | (first | (apply Wp.ung; (exact rfl); (first | exact rfl | assumption)) | (apply Wp.opSt; (exact rfl); (first | exact rfl | assumption)) | (apply Wp.opSf; (exact rfl); (first | exact rfl | assumption))) | (apply Wp.opS0; (exact rfl)) | (first | (apply Wp.condT; (exact rfl); (first | exact rfl | assumption)) | (apply Wp.condF; (exact rfl); (first | exact rfl | assumption))) | ((first | apply Wp.grdT | apply Wp.grdF | apply Wp.cond); (exact rfl); (intro); rotate_left 1; (intro); rotate_right 1))
  exact Wp.ret rfl
theorem deed3_call (a b : Int) (st : List Ob) : Cl T n_num_deeds_3 [i64 a, i64 b] st (i64 (wrapU (a * b))) st := by
  refine Wp.pure (fn := c_num_deeds_3) rfl rfl rfl («as» := [i64 a, i64 b]) rfl ?_
  repeat' (first | apply Wp.seq | apply Wp.skip | apply Wp.block | (apply Wp.op0; ((simp [M2.keep]) <;> rfl)) | ((first | (apply Wp.pickT; (exact rfl); (first | exact rfl | assumption)) | (apply Wp.pickF; (exact rfl); (first | exact rfl | assumption))); ((simp) <;> exact rfl)) | ((first | apply Wp.op | apply Wp.opN); (apply Evt.all; intro; (simp []) <;> (try simp (disch := omega) only [wrap_id]) <;> first | exact ⟨rfl, rfl⟩ | exact rfl)) | (first | (apply Wp.ung; (exact rfl); (first | exact rfl | assumption)) | (apply Wp.opSt; (exact rfl); (first | exact rfl | assumption)) | (apply Wp.opSf; (exact rfl); (first | exact rfl | assumption))) | (apply Wp.opS0; (exact rfl)) | (first | (apply Wp.condT; (exact rfl); (first | exact rfl | assumption)) | (apply Wp.condF; (exact rfl); (first | exact rfl | assumption))) | ((first | apply Wp.grdT | apply Wp.grdF | apply Wp.cond); (exact rfl); (intro); rotate_left 1; (intro); rotate_right 1))
  exact Wp.ret rfl
theorem deed5_call (a b : Int) (st : List Ob) : Cl T n_num_deeds_5 [i64 a, i64 b] st (i64 (wrapU (BitVec.ofInt 64 a &&& BitVec.ofInt 64 b).toNat)) st := by
  refine Wp.pure (fn := c_num_deeds_5) rfl rfl rfl («as» := [i64 a, i64 b]) rfl ?_
  repeat' (first | apply Wp.seq | apply Wp.skip | apply Wp.block | (apply Wp.op0; ((simp [M2.keep]) <;> rfl)) | ((first | (apply Wp.pickT; (exact rfl); (first | exact rfl | assumption)) | (apply Wp.pickF; (exact rfl); (first | exact rfl | assumption))); ((simp) <;> exact rfl)) | ((first | apply Wp.op | apply Wp.opN); (apply Evt.all; intro; (simp []) <;> (try simp (disch := omega) only [wrap_id]) <;> first | exact ⟨rfl, rfl⟩ | exact rfl)) | (first | (apply Wp.ung; (exact rfl); (first | exact rfl | assumption)) | (apply Wp.opSt; (exact rfl); (first | exact rfl | assumption)) | (apply Wp.opSf; (exact rfl); (first | exact rfl | assumption))) | (apply Wp.opS0; (exact rfl)) | (first | (apply Wp.condT; (exact rfl); (first | exact rfl | assumption)) | (apply Wp.condF; (exact rfl); (first | exact rfl | assumption))) | ((first | apply Wp.grdT | apply Wp.grdF | apply Wp.cond); (exact rfl); (intro); rotate_left 1; (intro); rotate_right 1))
  exact Wp.ret rfl
theorem deed6_call (a b : Int) (st : List Ob) : Cl T n_num_deeds_6 [i64 a, i64 b] st (i64 (wrapU (BitVec.ofInt 64 a ||| BitVec.ofInt 64 b).toNat)) st := by
  refine Wp.pure (fn := c_num_deeds_6) rfl rfl rfl («as» := [i64 a, i64 b]) rfl ?_
  repeat' (first | apply Wp.seq | apply Wp.skip | apply Wp.block | (apply Wp.op0; ((simp [M2.keep]) <;> rfl)) | ((first | (apply Wp.pickT; (exact rfl); (first | exact rfl | assumption)) | (apply Wp.pickF; (exact rfl); (first | exact rfl | assumption))); ((simp) <;> exact rfl)) | ((first | apply Wp.op | apply Wp.opN); (apply Evt.all; intro; (simp []) <;> (try simp (disch := omega) only [wrap_id]) <;> first | exact ⟨rfl, rfl⟩ | exact rfl)) | (first | (apply Wp.ung; (exact rfl); (first | exact rfl | assumption)) | (apply Wp.opSt; (exact rfl); (first | exact rfl | assumption)) | (apply Wp.opSf; (exact rfl); (first | exact rfl | assumption))) | (apply Wp.opS0; (exact rfl)) | (first | (apply Wp.condT; (exact rfl); (first | exact rfl | assumption)) | (apply Wp.condF; (exact rfl); (first | exact rfl | assumption))) | ((first | apply Wp.grdT | apply Wp.grdF | apply Wp.cond); (exact rfl); (intro); rotate_left 1; (intro); rotate_right 1))
  exact Wp.ret rfl
theorem deed7_call (a b : Int) (st : List Ob) : Cl T n_num_deeds_7 [i64 a, i64 b] st (i64 (wrapU (BitVec.ofInt 64 a ^^^ BitVec.ofInt 64 b).toNat)) st := by
  refine Wp.pure (fn := c_num_deeds_7) rfl rfl rfl («as» := [i64 a, i64 b]) rfl ?_
  repeat' (first | apply Wp.seq | apply Wp.skip | apply Wp.block | (apply Wp.op0; ((simp [M2.keep]) <;> rfl)) | ((first | (apply Wp.pickT; (exact rfl); (first | exact rfl | assumption)) | (apply Wp.pickF; (exact rfl); (first | exact rfl | assumption))); ((simp) <;> exact rfl)) | ((first | apply Wp.op | apply Wp.opN); (apply Evt.all; intro; (simp []) <;> (try simp (disch := omega) only [wrap_id]) <;> first | exact ⟨rfl, rfl⟩ | exact rfl)) | (first | (apply Wp.ung; (exact rfl); (first | exact rfl | assumption)) | (apply Wp.opSt; (exact rfl); (first | exact rfl | assumption)) | (apply Wp.opSf; (exact rfl); (first | exact rfl | assumption))) | (apply Wp.opS0; (exact rfl)) | (first | (apply Wp.condT; (exact rfl); (first | exact rfl | assumption)) | (apply Wp.condF; (exact rfl); (first | exact rfl | assumption))) | ((first | apply Wp.grdT | apply Wp.grdF | apply Wp.cond); (exact rfl); (intro); rotate_left 1; (intro); rotate_right 1))
  exact Wp.ret rfl
theorem deed4_call (a b : Int) (hb : ¬ b = 0) (st : List Ob) : Cl T n_num_deeds_4 [i64 a, i64 b] st (i64 (wrapU (a.tdiv b))) st := by
  refine Wp.pure (fn := c_num_deeds_4) rfl rfl rfl («as» := [i64 a, i64 b]) rfl ?_
  repeat' (first | apply Wp.seq | apply Wp.skip | apply Wp.block | (apply Wp.op0; ((simp [M2.keep]) <;> rfl)) | ((first | (apply Wp.pickT; (exact rfl); (first | exact rfl | assumption)) | (apply Wp.pickF; (exact rfl); (first | exact rfl | assumption))); ((simp) <;> exact rfl)) | ((first | apply Wp.op | apply Wp.opN); (apply Evt.all; intro; (simp [hb]) <;> (try simp (disch := omega) only [wrap_id]) <;> first | exact ⟨rfl, rfl⟩ | exact rfl)) | (first | (apply Wp.ung; (exact rfl); (first | exact rfl | assumption)) | (apply Wp.opSt; (exact rfl); (first | exact rfl | assumption)) | (apply Wp.opSf; (exact rfl); (first | exact rfl | assumption))) | (apply Wp.opS0; (exact rfl)) | (first | (apply Wp.condT; (exact rfl); (first | exact rfl | assumption)) | (apply Wp.condF; (exact rfl); (first | exact rfl | assumption))) | ((first | apply Wp.grdT | apply Wp.grdF | apply Wp.cond); (exact rfl); (intro); rotate_left 1; (intro); rotate_right 1))
  exact Wp.ret rfl
theorem deed8_call (a b : Int) (st : List Ob) : Cl T n_num_deeds_8 [i64 a, i64 b] st (i64 (if a < b then 1 else 0)) st := by
  refine Wp.pure (fn := c_num_deeds_8) rfl rfl rfl («as» := [i64 a, i64 b]) rfl ?_
  have hf := flag_call (decide (a < b))
  simp only [decide_eq_true_eq] at hf
  repeat' (first | apply Wp.seq | apply Wp.skip | apply Wp.block | (apply Wp.op0; ((simp [M2.keep]) <;> rfl)) | ((first | (apply Wp.pickT; (exact rfl); (first | exact rfl | assumption)) | (apply Wp.pickF; (exact rfl); (first | exact rfl | assumption))); ((simp) <;> exact rfl)) | ((first | apply Wp.op | apply Wp.opN); (apply Evt.all; intro; (simp []) <;> (try simp (disch := omega) only [wrap_id]) <;> first | exact ⟨rfl, rfl⟩ | exact rfl)) | (apply Wp.call; exact hf _) | (first | (apply Wp.ung; (exact rfl); (first | exact rfl | assumption)) | (apply Wp.opSt; (exact rfl); (first | exact rfl | assumption)) | (apply Wp.opSf; (exact rfl); (first | exact rfl | assumption))) | (apply Wp.opS0; (exact rfl)) | (first | (apply Wp.condT; (exact rfl); (first | exact rfl | assumption)) | (apply Wp.condF; (exact rfl); (first | exact rfl | assumption))) | ((first | apply Wp.grdT | apply Wp.grdF | apply Wp.cond); (exact rfl); (intro); rotate_left 1; (intro); rotate_right 1))
  exact Wp.ret rfl
theorem deed9_call (a b : Int) (st : List Ob) : Cl T n_num_deeds_9 [i64 a, i64 b] st (i64 (if a = b then 1 else 0)) st := by
  refine Wp.pure (fn := c_num_deeds_9) rfl rfl rfl («as» := [i64 a, i64 b]) rfl ?_
  have hf := flag_call (decide (a = b))
  simp only [decide_eq_true_eq] at hf
  repeat' (first | apply Wp.seq | apply Wp.skip | apply Wp.block | (apply Wp.op0; ((simp [M2.keep]) <;> rfl)) | ((first | (apply Wp.pickT; (exact rfl); (first | exact rfl | assumption)) | (apply Wp.pickF; (exact rfl); (first | exact rfl | assumption))); ((simp) <;> exact rfl)) | ((first | apply Wp.op | apply Wp.opN); (apply Evt.all; intro; (simp []) <;> (try simp (disch := omega) only [wrap_id]) <;> first | exact ⟨rfl, rfl⟩ | exact rfl)) | (apply Wp.call; exact hf _) | (first | (apply Wp.ung; (exact rfl); (first | exact rfl | assumption)) | (apply Wp.opSt; (exact rfl); (first | exact rfl | assumption)) | (apply Wp.opSf; (exact rfl); (first | exact rfl | assumption))) | (apply Wp.opS0; (exact rfl)) | (first | (apply Wp.condT; (exact rfl); (first | exact rfl | assumption)) | (apply Wp.condF; (exact rfl); (first | exact rfl | assumption))) | ((first | apply Wp.grdT | apply Wp.grdF | apply Wp.cond); (exact rfl); (intro); rotate_left 1; (intro); rotate_right 1))
  exact Wp.ret rfl
abbrev deedsM : List (U × U) := [(i64 4, .fn n_num_deeds_1 []), (i64 5, .fn n_num_deeds_2 []), (i64 6, .fn n_num_deeds_3 []), (i64 7, .fn n_num_deeds_4 []), (i64 8, .fn n_num_deeds_5 []), (i64 9, .fn n_num_deeds_6 []), (i64 10, .fn n_num_deeds_7 []), (i64 11, .fn n_num_deeds_8 []), (i64 12, .fn n_num_deeds_9 [])]
theorem deeds_call : Cl T n_num_deeds [] [] (.mp 0) [.map deedsM] := ⟨60, fun n hn => by
  have h : M2.call T 60 n_num_deeds [] [] = some (.mp 0, [.map deedsM]) := by kernel_rfl
  exact call_mono hn h⟩
theorem look_deeds (op : Int) : look .ti (i64 op) deedsM = some (if op = 4 then some (.fn n_num_deeds_1 []) else if op = 5 then some (.fn n_num_deeds_2 []) else if op = 6 then some (.fn n_num_deeds_3 []) else if op = 7 then some (.fn n_num_deeds_4 []) else if op = 8 then some (.fn n_num_deeds_5 []) else if op = 9 then some (.fn n_num_deeds_6 []) else if op = 10 then some (.fn n_num_deeds_7 []) else if op = 11 then some (.fn n_num_deeds_8 []) else if op = 12 then some (.fn n_num_deeds_9 []) else none) := by
  have hs : ∀ k : Int, sameV .ti (i64 op) (i64 k) = some (decide (op = k)) := fun k => by simp [sameV, cellsS, sameD, same, beq_dec]
  simp only [look, hs, Option.bind_some, decide_eq_true_eq]
  by_cases h4 : op = 4
  · simp [h4]
  by_cases h5 : op = 5
  · simp [h5]
  by_cases h6 : op = 6
  · simp [h6]
  by_cases h7 : op = 7
  · simp [h7]
  by_cases h8 : op = 8
  · simp [h8]
  by_cases h9 : op = 9
  · simp [h9]
  by_cases h10 : op = 10
  · simp [h10]
  by_cases h11 : op = 11
  · simp [h11]
  by_cases h12 : op = 12
  · simp [h12]
  simp [h4, h5, h6, h7, h8, h9, h10, h11, h12]
theorem sameTi (n : Int) : sameV .ti (i64 n) (i64 n) = some true := by simp [sameV, cellsS, sameD, same]
theorem tf_fn (f : Nat) : sameV .tf (.fn f []) .nilF = some false := rfl
theorem tf_nil : sameV .tf .nilF .nilF = some true := rfl
set_option maxHeartbeats 8000000 in
theorem numDo_call (op a b : Int) (st : List Ob) : Cl T n_num_Do [i64 op, i64 a, i64 b] st (.tup [i64 (numF op a b).1, i64 (numF op a b).2]) st := by
  refine Wp.pure (fn := c_num_Do) rfl rfl rfl («as» := [i64 op, i64 a, i64 b]) rfl ?_
  have hd := deeds_call
  have hl := look_deeds op
  by_cases ho : op < 4 ∨ 12 < op
  · have hn : numF op a b = (0, 2) := by unfold numF; rw [if_pos ho]
    have e : look .ti (i64 op) deedsM = some none := by
      rw [hl]
      have : ¬ op = 4 ∧ ¬ op = 5 ∧ ¬ op = 6 ∧ ¬ op = 7 ∧ ¬ op = 8 ∧ ¬ op = 9 ∧ ¬ op = 10 ∧ ¬ op = 11 ∧ ¬ op = 12 := by omega
      simp [this]
    rw [hn]
    repeat' (first | apply Wp.seq | apply Wp.skip | apply Wp.block | (apply Wp.op0; ((simp [M2.keep]) <;> rfl)) | ((first | (apply Wp.pickT; (exact rfl); (first | exact rfl | assumption)) | (apply Wp.pickF; (exact rfl); (first | exact rfl | assumption))); ((simp) <;> exact rfl)) | ((first | apply Wp.op | apply Wp.opN); (apply Evt.all; intro; (simp [e, tf_nil, sameTi]) <;> (try simp (disch := omega) only [wrap_id]) <;> first | exact ⟨rfl, rfl⟩ | exact rfl)) | (apply Wp.call; exact hd) | (first | (apply Wp.ung; (exact rfl); (first | exact rfl | assumption)) | (apply Wp.opSt; (exact rfl); (first | exact rfl | assumption)) | (apply Wp.opSf; (exact rfl); (first | exact rfl | assumption))) | (apply Wp.opS0; (exact rfl)) | (first | (apply Wp.condT; (exact rfl); (first | exact rfl | assumption)) | (apply Wp.condF; (exact rfl); (first | exact rfl | assumption))) | ((first | apply Wp.grdT | apply Wp.grdF | apply Wp.cond); (exact rfl); (intro); rotate_left 1; (intro); rotate_right 1))
    refine Wp.ret ?_
    simp [Res, resU, res1, c_num_Do]
  have hk : op = 4 ∨ op = 5 ∨ op = 6 ∨ op = 8 ∨ op = 9 ∨ op = 10 ∨ op = 11 ∨ op = 12 ∨ op = 7 := by omega
  rcases hk with rfl | rfl | rfl | rfl | rfl | rfl | rfl | rfl | rfl
  · have hn : numF 4 a b = (deedF 4 a b, 0) := by unfold numF; simp
    have hv := deed1_call a b
    rw [hn]
    simp [deedF] at hl ⊢
    repeat' (first | apply Wp.seq | apply Wp.skip | apply Wp.block | (apply Wp.op0; ((simp [M2.keep]) <;> rfl)) | ((first | (apply Wp.pickT; (exact rfl); (first | exact rfl | assumption)) | (apply Wp.pickF; (exact rfl); (first | exact rfl | assumption))); ((simp) <;> exact rfl)) | ((first | apply Wp.op | apply Wp.opN); (apply Evt.all; intro; (simp [hl, tf_fn, sameTi]) <;> (try simp (disch := omega) only [wrap_id]) <;> first | exact ⟨rfl, rfl⟩ | exact rfl)) | (apply Wp.call; exact hd) | (apply Wp.callv; exact rfl; exact hv _) | (first | (apply Wp.ung; (exact rfl); (first | exact rfl | assumption)) | (apply Wp.opSt; (exact rfl); (first | exact rfl | assumption)) | (apply Wp.opSf; (exact rfl); (first | exact rfl | assumption))) | (apply Wp.opS0; (exact rfl)) | (first | (apply Wp.condT; (exact rfl); (first | exact rfl | assumption)) | (apply Wp.condF; (exact rfl); (first | exact rfl | assumption))) | ((first | apply Wp.grdT | apply Wp.grdF | apply Wp.cond); (exact rfl); (intro); rotate_left 1; (intro); rotate_right 1))
    refine Wp.ret ?_
    simp [Res, resU, res1, c_num_Do]
  · have hn : numF 5 a b = (deedF 5 a b, 0) := by unfold numF; simp
    have hv := deed2_call a b
    rw [hn]
    simp [deedF] at hl ⊢
    repeat' (first | apply Wp.seq | apply Wp.skip | apply Wp.block | (apply Wp.op0; ((simp [M2.keep]) <;> rfl)) | ((first | (apply Wp.pickT; (exact rfl); (first | exact rfl | assumption)) | (apply Wp.pickF; (exact rfl); (first | exact rfl | assumption))); ((simp) <;> exact rfl)) | ((first | apply Wp.op | apply Wp.opN); (apply Evt.all; intro; (simp [hl, tf_fn, sameTi]) <;> (try simp (disch := omega) only [wrap_id]) <;> first | exact ⟨rfl, rfl⟩ | exact rfl)) | (apply Wp.call; exact hd) | (apply Wp.callv; exact rfl; exact hv _) | (first | (apply Wp.ung; (exact rfl); (first | exact rfl | assumption)) | (apply Wp.opSt; (exact rfl); (first | exact rfl | assumption)) | (apply Wp.opSf; (exact rfl); (first | exact rfl | assumption))) | (apply Wp.opS0; (exact rfl)) | (first | (apply Wp.condT; (exact rfl); (first | exact rfl | assumption)) | (apply Wp.condF; (exact rfl); (first | exact rfl | assumption))) | ((first | apply Wp.grdT | apply Wp.grdF | apply Wp.cond); (exact rfl); (intro); rotate_left 1; (intro); rotate_right 1))
    refine Wp.ret ?_
    simp [Res, resU, res1, c_num_Do]
  · have hn : numF 6 a b = (deedF 6 a b, 0) := by unfold numF; simp
    have hv := deed3_call a b
    rw [hn]
    simp [deedF] at hl ⊢
    repeat' (first | apply Wp.seq | apply Wp.skip | apply Wp.block | (apply Wp.op0; ((simp [M2.keep]) <;> rfl)) | ((first | (apply Wp.pickT; (exact rfl); (first | exact rfl | assumption)) | (apply Wp.pickF; (exact rfl); (first | exact rfl | assumption))); ((simp) <;> exact rfl)) | ((first | apply Wp.op | apply Wp.opN); (apply Evt.all; intro; (simp [hl, tf_fn, sameTi]) <;> (try simp (disch := omega) only [wrap_id]) <;> first | exact ⟨rfl, rfl⟩ | exact rfl)) | (apply Wp.call; exact hd) | (apply Wp.callv; exact rfl; exact hv _) | (first | (apply Wp.ung; (exact rfl); (first | exact rfl | assumption)) | (apply Wp.opSt; (exact rfl); (first | exact rfl | assumption)) | (apply Wp.opSf; (exact rfl); (first | exact rfl | assumption))) | (apply Wp.opS0; (exact rfl)) | (first | (apply Wp.condT; (exact rfl); (first | exact rfl | assumption)) | (apply Wp.condF; (exact rfl); (first | exact rfl | assumption))) | ((first | apply Wp.grdT | apply Wp.grdF | apply Wp.cond); (exact rfl); (intro); rotate_left 1; (intro); rotate_right 1))
    refine Wp.ret ?_
    simp [Res, resU, res1, c_num_Do]
  · have hn : numF 8 a b = (deedF 8 a b, 0) := by unfold numF; simp
    have hv := deed5_call a b
    rw [hn]
    simp [deedF] at hl ⊢
    repeat' (first | apply Wp.seq | apply Wp.skip | apply Wp.block | (apply Wp.op0; ((simp [M2.keep]) <;> rfl)) | ((first | (apply Wp.pickT; (exact rfl); (first | exact rfl | assumption)) | (apply Wp.pickF; (exact rfl); (first | exact rfl | assumption))); ((simp) <;> exact rfl)) | ((first | apply Wp.op | apply Wp.opN); (apply Evt.all; intro; (simp [hl, tf_fn, sameTi]) <;> (try simp (disch := omega) only [wrap_id]) <;> first | exact ⟨rfl, rfl⟩ | exact rfl)) | (apply Wp.call; exact hd) | (apply Wp.callv; exact rfl; exact hv _) | (first | (apply Wp.ung; (exact rfl); (first | exact rfl | assumption)) | (apply Wp.opSt; (exact rfl); (first | exact rfl | assumption)) | (apply Wp.opSf; (exact rfl); (first | exact rfl | assumption))) | (apply Wp.opS0; (exact rfl)) | (first | (apply Wp.condT; (exact rfl); (first | exact rfl | assumption)) | (apply Wp.condF; (exact rfl); (first | exact rfl | assumption))) | ((first | apply Wp.grdT | apply Wp.grdF | apply Wp.cond); (exact rfl); (intro); rotate_left 1; (intro); rotate_right 1))
    refine Wp.ret ?_
    simp [Res, resU, res1, c_num_Do]
  · have hn : numF 9 a b = (deedF 9 a b, 0) := by unfold numF; simp
    have hv := deed6_call a b
    rw [hn]
    simp [deedF] at hl ⊢
    repeat' (first | apply Wp.seq | apply Wp.skip | apply Wp.block | (apply Wp.op0; ((simp [M2.keep]) <;> rfl)) | ((first | (apply Wp.pickT; (exact rfl); (first | exact rfl | assumption)) | (apply Wp.pickF; (exact rfl); (first | exact rfl | assumption))); ((simp) <;> exact rfl)) | ((first | apply Wp.op | apply Wp.opN); (apply Evt.all; intro; (simp [hl, tf_fn, sameTi]) <;> (try simp (disch := omega) only [wrap_id]) <;> first | exact ⟨rfl, rfl⟩ | exact rfl)) | (apply Wp.call; exact hd) | (apply Wp.callv; exact rfl; exact hv _) | (first | (apply Wp.ung; (exact rfl); (first | exact rfl | assumption)) | (apply Wp.opSt; (exact rfl); (first | exact rfl | assumption)) | (apply Wp.opSf; (exact rfl); (first | exact rfl | assumption))) | (apply Wp.opS0; (exact rfl)) | (first | (apply Wp.condT; (exact rfl); (first | exact rfl | assumption)) | (apply Wp.condF; (exact rfl); (first | exact rfl | assumption))) | ((first | apply Wp.grdT | apply Wp.grdF | apply Wp.cond); (exact rfl); (intro); rotate_left 1; (intro); rotate_right 1))
    refine Wp.ret ?_
    simp [Res, resU, res1, c_num_Do]
  · have hn : numF 10 a b = (deedF 10 a b, 0) := by unfold numF; simp
    have hv := deed7_call a b
    rw [hn]
    simp [deedF] at hl ⊢
    repeat' (first | apply Wp.seq | apply Wp.skip | apply Wp.block | (apply Wp.op0; ((simp [M2.keep]) <;> rfl)) | ((first | (apply Wp.pickT; (exact rfl); (first | exact rfl | assumption)) | (apply Wp.pickF; (exact rfl); (first | exact rfl | assumption))); ((simp) <;> exact rfl)) | ((first | apply Wp.op | apply Wp.opN); (apply Evt.all; intro; (simp [hl, tf_fn, sameTi]) <;> (try simp (disch := omega) only [wrap_id]) <;> first | exact ⟨rfl, rfl⟩ | exact rfl)) | (apply Wp.call; exact hd) | (apply Wp.callv; exact rfl; exact hv _) | (first | (apply Wp.ung; (exact rfl); (first | exact rfl | assumption)) | (apply Wp.opSt; (exact rfl); (first | exact rfl | assumption)) | (apply Wp.opSf; (exact rfl); (first | exact rfl | assumption))) | (apply Wp.opS0; (exact rfl)) | (first | (apply Wp.condT; (exact rfl); (first | exact rfl | assumption)) | (apply Wp.condF; (exact rfl); (first | exact rfl | assumption))) | ((first | apply Wp.grdT | apply Wp.grdF | apply Wp.cond); (exact rfl); (intro); rotate_left 1; (intro); rotate_right 1))
    refine Wp.ret ?_
    simp [Res, resU, res1, c_num_Do]
  · have hn : numF 11 a b = (deedF 11 a b, 0) := by unfold numF; simp
    have hv := deed8_call a b
    rw [hn]
    simp [deedF] at hl ⊢
    repeat' (first | apply Wp.seq | apply Wp.skip | apply Wp.block | (apply Wp.op0; ((simp [M2.keep]) <;> rfl)) | ((first | (apply Wp.pickT; (exact rfl); (first | exact rfl | assumption)) | (apply Wp.pickF; (exact rfl); (first | exact rfl | assumption))); ((simp) <;> exact rfl)) | ((first | apply Wp.op | apply Wp.opN); (apply Evt.all; intro; (simp [hl, tf_fn, sameTi]) <;> (try simp (disch := omega) only [wrap_id]) <;> first | exact ⟨rfl, rfl⟩ | exact rfl)) | (apply Wp.call; exact hd) | (apply Wp.callv; exact rfl; exact hv _) | (first | (apply Wp.ung; (exact rfl); (first | exact rfl | assumption)) | (apply Wp.opSt; (exact rfl); (first | exact rfl | assumption)) | (apply Wp.opSf; (exact rfl); (first | exact rfl | assumption))) | (apply Wp.opS0; (exact rfl)) | (first | (apply Wp.condT; (exact rfl); (first | exact rfl | assumption)) | (apply Wp.condF; (exact rfl); (first | exact rfl | assumption))) | ((first | apply Wp.grdT | apply Wp.grdF | apply Wp.cond); (exact rfl); (intro); rotate_left 1; (intro); rotate_right 1))
    refine Wp.ret ?_
    simp [Res, resU, res1, c_num_Do]
  · have hn : numF 12 a b = (deedF 12 a b, 0) := by unfold numF; simp
    have hv := deed9_call a b
    rw [hn]
    simp [deedF] at hl ⊢
    repeat' (first | apply Wp.seq | apply Wp.skip | apply Wp.block | (apply Wp.op0; ((simp [M2.keep]) <;> rfl)) | ((first | (apply Wp.pickT; (exact rfl); (first | exact rfl | assumption)) | (apply Wp.pickF; (exact rfl); (first | exact rfl | assumption))); ((simp) <;> exact rfl)) | ((first | apply Wp.op | apply Wp.opN); (apply Evt.all; intro; (simp [hl, tf_fn, sameTi]) <;> (try simp (disch := omega) only [wrap_id]) <;> first | exact ⟨rfl, rfl⟩ | exact rfl)) | (apply Wp.call; exact hd) | (apply Wp.callv; exact rfl; exact hv _) | (first | (apply Wp.ung; (exact rfl); (first | exact rfl | assumption)) | (apply Wp.opSt; (exact rfl); (first | exact rfl | assumption)) | (apply Wp.opSf; (exact rfl); (first | exact rfl | assumption))) | (apply Wp.opS0; (exact rfl)) | (first | (apply Wp.condT; (exact rfl); (first | exact rfl | assumption)) | (apply Wp.condF; (exact rfl); (first | exact rfl | assumption))) | ((first | apply Wp.grdT | apply Wp.grdF | apply Wp.cond); (exact rfl); (intro); rotate_left 1; (intro); rotate_right 1))
    refine Wp.ret ?_
    simp [Res, resU, res1, c_num_Do]
  · by_cases hb : b = 0
    · have hn : numF 7 a b = (0, 3) := by unfold numF; simp [hb]
      have db : decide (b = 0) = true := decide_eq_true hb
      rw [hn]
      simp at hl
      repeat' (first | apply Wp.seq | apply Wp.skip | apply Wp.block | (apply Wp.op0; ((simp [M2.keep]) <;> rfl)) | ((first | (apply Wp.pickT; (exact rfl); (first | exact rfl | assumption)) | (apply Wp.pickF; (exact rfl); (first | exact rfl | assumption))); ((simp) <;> exact rfl)) | ((first | apply Wp.op | apply Wp.opN); (apply Evt.all; intro; (simp [hl, tf_fn, sameTi]) <;> (try simp (disch := omega) only [wrap_id]) <;> first | exact ⟨rfl, rfl⟩ | exact rfl)) | (apply Wp.call; exact hd) | (first | (apply Wp.ung; (exact rfl); (first | exact rfl | assumption)) | (apply Wp.opSt; (exact rfl); (first | exact rfl | assumption)) | (apply Wp.opSf; (exact rfl); (first | exact rfl | assumption))) | (apply Wp.opS0; (exact rfl)) | (first | (apply Wp.condT; (exact rfl); (first | exact rfl | assumption)) | (apply Wp.condF; (exact rfl); (first | exact rfl | assumption))) | ((first | apply Wp.grdT | apply Wp.grdF | apply Wp.cond); (exact rfl); (intro); rotate_left 1; (intro); rotate_right 1))
      refine Wp.ret ?_
      simp [Res, resU, res1, c_num_Do]
    · have hn : numF 7 a b = (deedF 7 a b, 0) := by unfold numF; simp [hb]
      have db : decide (b = 0) = false := decide_eq_false hb
      have hv := deed4_call a b hb
      rw [hn]
      simp [deedF] at hl ⊢
      repeat' (first | apply Wp.seq | apply Wp.skip | apply Wp.block | (apply Wp.op0; ((simp [M2.keep]) <;> rfl)) | ((first | (apply Wp.pickT; (exact rfl); (first | exact rfl | assumption)) | (apply Wp.pickF; (exact rfl); (first | exact rfl | assumption))); ((simp) <;> exact rfl)) | ((first | apply Wp.op | apply Wp.opN); (apply Evt.all; intro; (simp [hl, tf_fn, sameTi]) <;> (try simp (disch := omega) only [wrap_id]) <;> first | exact ⟨rfl, rfl⟩ | exact rfl)) | (apply Wp.call; exact hd) | (apply Wp.callv; exact rfl; exact hv _) | (first | (apply Wp.ung; (exact rfl); (first | exact rfl | assumption)) | (apply Wp.opSt; (exact rfl); (first | exact rfl | assumption)) | (apply Wp.opSf; (exact rfl); (first | exact rfl | assumption))) | (apply Wp.opS0; (exact rfl)) | (first | (apply Wp.condT; (exact rfl); (first | exact rfl | assumption)) | (apply Wp.condF; (exact rfl); (first | exact rfl | assumption))) | ((first | apply Wp.grdT | apply Wp.grdF | apply Wp.cond); (exact rfl); (intro); rotate_left 1; (intro); rotate_right 1))
      refine Wp.ret ?_
      simp [Res, resU, res1, c_num_Do]
end Go.Proofs.YtbmlnfceanfbmaaDoor.M2
/- What the functions answer in M2. Heaps; the places that an instruction needs. -/
namespace Go.Proofs.YtbmlnfceanfbmaaDoor.M2
open Go
attribute [local simp] ev1 M2.get put A.ev ld sub part elems bin arith un opt idx fillC cellsO splice over newOb sto fillR laidOwn appTo appRow touch touchN touchM touchE touchA plainU flatU plainAs allM rowAt stoRow accM_nil accM_cons accMM_nil accMM_cons frz_int frz_bool frz_str frz_slt frz_nils frz_nilI frz_nilF frz_own frzRow_row frzRow_frow Ob.blw blw_bool blw_int blw_str blw_nils blw_nilI blw_nilF blw_nilp blw_nilm blw_sl blw_own blw_bp blw_rp blw_mp blw_it params
attribute [local simp] frz_agg frz_tup frz_iface frzS_agg frzS_iface accMS_cons frzS_int frzS_bool frzS_str frzS_slt frzS_nils frzS_nilI beq_dec bne_dec
theorem heapIn_call (h : List Int) (a : Int) (st : List Ob) : Cl T n_heap_in [heapU true h, i64 a] st (.bool (decide (h.length ≤ 16) && (decide (0 ≤ a) && decide (a < h.length)))) st := by
  refine Wp.pure (fn := c_heap_in) rfl rfl rfl («as» := [heapU true h, i64 a]) rfl ?_
  have hr := heapRight_call true h
  by_cases h1 : h.length ≤ 16
  · have d1 : decide (h.length ≤ 16) = true := decide_eq_true h1
    rw [d1] at hr ⊢
    by_cases h2 : 0 ≤ a
    · have d2 : decide (0 ≤ a) = true := decide_eq_true h2
      rw [d2]
      repeat' (first | apply Wp.seq | apply Wp.skip | apply Wp.block | (apply Wp.op0; ((simp [M2.keep]) <;> rfl)) | ((first | (apply Wp.pickT; (exact rfl); (first | exact rfl | assumption)) | (apply Wp.pickF; (exact rfl); (first | exact rfl | assumption))); ((simp) <;> exact rfl)) | ((first | apply Wp.op | apply Wp.opN); (apply Evt.all; intro; (simp [heapU]) <;> (try simp (disch := omega) only [wrap_id]) <;> first | exact ⟨rfl, rfl⟩ | exact rfl)) | (apply Wp.call; exact hr _) | (first | (apply Wp.ung; (exact rfl); (first | exact rfl | assumption)) | (apply Wp.opSt; (exact rfl); (first | exact rfl | assumption)) | (apply Wp.opSf; (exact rfl); (first | exact rfl | assumption))) | (apply Wp.opS0; (exact rfl)) | (first | (apply Wp.condT; (exact rfl); (first | exact rfl | assumption)) | (apply Wp.condF; (exact rfl); (first | exact rfl | assumption))) | ((first | apply Wp.grdT | apply Wp.grdF | apply Wp.cond); (exact rfl); (intro); rotate_left 1; (intro); rotate_right 1))
      refine Wp.ret ?_
      simp [Res, resU, res1, c_heap_in]
    · have d2 : decide (0 ≤ a) = false := decide_eq_false h2
      rw [d2]
      repeat' (first | apply Wp.seq | apply Wp.skip | apply Wp.block | (apply Wp.op0; ((simp [M2.keep]) <;> rfl)) | ((first | (apply Wp.pickT; (exact rfl); (first | exact rfl | assumption)) | (apply Wp.pickF; (exact rfl); (first | exact rfl | assumption))); ((simp) <;> exact rfl)) | ((first | apply Wp.op | apply Wp.opN); (apply Evt.all; intro; (simp [heapU]) <;> (try simp (disch := omega) only [wrap_id]) <;> first | exact ⟨rfl, rfl⟩ | exact rfl)) | (apply Wp.call; exact hr _) | (first | (apply Wp.ung; (exact rfl); (first | exact rfl | assumption)) | (apply Wp.opSt; (exact rfl); (first | exact rfl | assumption)) | (apply Wp.opSf; (exact rfl); (first | exact rfl | assumption))) | (apply Wp.opS0; (exact rfl)) | (first | (apply Wp.condT; (exact rfl); (first | exact rfl | assumption)) | (apply Wp.condF; (exact rfl); (first | exact rfl | assumption))) | ((first | apply Wp.grdT | apply Wp.grdF | apply Wp.cond); (exact rfl); (intro); rotate_left 1; (intro); rotate_right 1))
      refine Wp.ret ?_
      simp [Res, resU, res1, c_heap_in]
  · have d1 : decide (h.length ≤ 16) = false := decide_eq_false h1
    rw [d1] at hr ⊢
    repeat' (first | apply Wp.seq | apply Wp.skip | apply Wp.block | (apply Wp.op0; ((simp [M2.keep]) <;> rfl)) | ((first | (apply Wp.pickT; (exact rfl); (first | exact rfl | assumption)) | (apply Wp.pickF; (exact rfl); (first | exact rfl | assumption))); ((simp) <;> exact rfl)) | ((first | apply Wp.op | apply Wp.opN); (apply Evt.all; intro; (simp [heapU]) <;> (try simp (disch := omega) only [wrap_id]) <;> first | exact ⟨rfl, rfl⟩ | exact rfl)) | (apply Wp.call; exact hr _) | (first | (apply Wp.ung; (exact rfl); (first | exact rfl | assumption)) | (apply Wp.opSt; (exact rfl); (first | exact rfl | assumption)) | (apply Wp.opSf; (exact rfl); (first | exact rfl | assumption))) | (apply Wp.opS0; (exact rfl)) | (first | (apply Wp.condT; (exact rfl); (first | exact rfl | assumption)) | (apply Wp.condF; (exact rfl); (first | exact rfl | assumption))) | ((first | apply Wp.grdT | apply Wp.grdF | apply Wp.cond); (exact rfl); (intro); rotate_left 1; (intro); rotate_right 1))
    refine Wp.ret ?_
    simp [Res, resU, res1, c_heap_in]
def inF (h : List Int) (a : Int) : Bool := decide (h.length ≤ 16) && (decide (0 ≤ a) && decide (a < h.length))
def loadF (h : List Int) (a : Int) : Int × Int := if inF h a then (h.getD a.toNat 0, 0) else (0, 4)
def storeF (h : List Int) (a v : Int) : List Int × Int := if inF h a then (h.set a.toNat v, 0) else ([], 4)
theorem heapLoad_call (h : List Int) (a : Int) (st : List Ob) : Cl T n_heap_Load [heapU true h, i64 a] st (.tup [i64 (loadF h a).1, i64 (loadF h a).2]) st := by
  refine Wp.pure (fn := c_heap_Load) rfl rfl rfl («as» := [heapU true h, i64 a]) rfl ?_
  have hi : ∀ st, Cl T n_heap_in [heapU true h, i64 a] st (.bool (inF h a)) st := heapIn_call h a
  unfold loadF
  cases hc : inF h a with
  | false =>
    rw [hc] at hi
    repeat' (first | apply Wp.seq | apply Wp.skip | apply Wp.block | (apply Wp.op0; ((simp [M2.keep]) <;> rfl)) | ((first | (apply Wp.pickT; (exact rfl); (first | exact rfl | assumption)) | (apply Wp.pickF; (exact rfl); (first | exact rfl | assumption))); ((simp) <;> exact rfl)) | ((first | apply Wp.op | apply Wp.opN); (apply Evt.all; intro; (simp [heapU]) <;> (try simp (disch := omega) only [wrap_id]) <;> first | exact ⟨rfl, rfl⟩ | exact rfl)) | (apply Wp.call; exact hi _) | (first | (apply Wp.ung; (exact rfl); (first | exact rfl | assumption)) | (apply Wp.opSt; (exact rfl); (first | exact rfl | assumption)) | (apply Wp.opSf; (exact rfl); (first | exact rfl | assumption))) | (apply Wp.opS0; (exact rfl)) | (first | (apply Wp.condT; (exact rfl); (first | exact rfl | assumption)) | (apply Wp.condF; (exact rfl); (first | exact rfl | assumption))) | ((first | apply Wp.grdT | apply Wp.grdF | apply Wp.cond); (exact rfl); (intro); rotate_left 1; (intro); rotate_right 1))
    refine Wp.ret ?_
    simp [Res, resU, res1, c_heap_Load]
  | true =>
    rw [hc] at hi
    simp only [inF, Bool.and_eq_true, decide_eq_true_eq] at hc
    obtain ⟨A, rfl⟩ := Int.eq_ofNat_of_zero_le hc.2.1
    have hA : A < h.length := by omega
    have hA' : (A : Int) < h.length := hc.2.2
    have eg : h[A]? = some h[A] := List.getElem?_eq_getElem hA
    repeat' (first | apply Wp.seq | apply Wp.skip | apply Wp.block | (apply Wp.op0; ((simp [M2.keep]) <;> rfl)) | ((first | (apply Wp.pickT; (exact rfl); (first | exact rfl | assumption)) | (apply Wp.pickF; (exact rfl); (first | exact rfl | assumption))); ((simp) <;> exact rfl)) | ((first | apply Wp.op | apply Wp.opN); (apply Evt.all; intro; (simp [heapU, hA', eg]) <;> (try simp (disch := omega) only [wrap_id]) <;> first | exact ⟨rfl, rfl⟩ | exact rfl)) | (apply Wp.call; exact hi _) | (first | (apply Wp.ung; (exact rfl); (first | exact rfl | assumption)) | (apply Wp.opSt; (exact rfl); (first | exact rfl | assumption)) | (apply Wp.opSf; (exact rfl); (first | exact rfl | assumption))) | (apply Wp.opS0; (exact rfl)) | (first | (apply Wp.condT; (exact rfl); (first | exact rfl | assumption)) | (apply Wp.condF; (exact rfl); (first | exact rfl | assumption))) | ((first | apply Wp.grdT | apply Wp.grdF | apply Wp.cond); (exact rfl); (intro); rotate_left 1; (intro); rotate_right 1))
    refine Wp.ret ?_
    simp [Res, resU, res1, c_heap_Load, hA]
theorem copy_ints (cl : Nat → List U → List Ob → Option (U × List Ob)) (e : Env) (h : List Int) (R : List (List U)) (hR : R.length = h.length) (d x : A) (hd : d.ev e = .own 0 h.length) (hx : x.ev e = .sl true (h.map fun v => [i64 v])) (nid : Nat) :
    ev1 cl e [.row 2 1 false R] nid (.copy 1 d x) = some (i64 (h.length : Nat), [.row 2 1 false (h.map fun v => [i64 v])]) := by
  have hall : ((h.map fun v => [i64 v]).all fun y => y.length == 1) = true := by
    rw [List.all_eq_true]
    intro y hy
    obtain ⟨b, _, rfl⟩ := List.mem_map.1 hy
    rfl
  rw [ev1, hx]
  simp only [elems, Option.bind_some, hd, List.getElem?_cons_zero]
  rw [List.take_of_length_le (by simp), acc_ints]
  simp only [Option.bind_some]
  unfold cpyRow
  simp only [List.getElem?_cons_zero]
  rw [if_pos ⟨hR, trivial, by simp, hall⟩, List.drop_eq_nil_of_le (by simp [hR])]
  simp
set_option maxHeartbeats 4000000 in
theorem heapStore_call (h : List Int) (a v : Int) (st : List Ob) : Cl T n_heap_Store [heapU true h, i64 a, i64 v] st (.tup [heapU true (storeF h a v).1, i64 (storeF h a v).2]) st := by
  refine Wp.pure (fn := c_heap_Store) rfl rfl rfl («as» := [heapU true h, i64 a, i64 v]) rfl ?_
  have hi : ∀ st, Cl T n_heap_in [heapU true h, i64 a] st (.bool (inF h a)) st := heapIn_call h a
  unfold storeF
  cases hc : inF h a with
  | false =>
    rw [hc] at hi
    repeat' (first | apply Wp.seq | apply Wp.skip | apply Wp.block | (apply Wp.op0; ((simp [M2.keep]) <;> rfl)) | ((first | (apply Wp.pickT; (exact rfl); (first | exact rfl | assumption)) | (apply Wp.pickF; (exact rfl); (first | exact rfl | assumption))); ((simp) <;> exact rfl)) | ((first | apply Wp.op | apply Wp.opN); (apply Evt.all; intro; (simp [heapU]) <;> (try simp (disch := omega) only [wrap_id]) <;> first | exact ⟨rfl, rfl⟩ | exact rfl)) | (apply Wp.call; exact hi _) | (first | (apply Wp.ung; (exact rfl); (first | exact rfl | assumption)) | (apply Wp.opSt; (exact rfl); (first | exact rfl | assumption)) | (apply Wp.opSf; (exact rfl); (first | exact rfl | assumption))) | (apply Wp.opS0; (exact rfl)) | (first | (apply Wp.condT; (exact rfl); (first | exact rfl | assumption)) | (apply Wp.condF; (exact rfl); (first | exact rfl | assumption))) | ((first | apply Wp.grdT | apply Wp.grdF | apply Wp.cond); (exact rfl); (intro); rotate_left 1; (intro); rotate_right 1))
    refine Wp.ret ?_
    simp [Res, resU, res1, c_heap_Store, heapU]
  | true =>
    rw [hc] at hi
    simp only [inF, Bool.and_eq_true, decide_eq_true_eq] at hc
    obtain ⟨A, rfl⟩ := Int.eq_ofNat_of_zero_le hc.2.1
    have hA : A < h.length := by omega
    have hA' : (A : Int) < h.length := hc.2.2
    have h16 : h.length ≤ 16 := hc.1
    have eg : h[A]? = some h[A] := List.getElem?_eq_getElem hA
    have lim : (h.length : Int) * 8 ≤ limit := by
      show (h.length : Int) * 8 ≤ 140737488355328
      omega
    have hset : (h.map fun v => [i64 v]).set A [i64 v] = (h.set A v).map fun v => [i64 v] := (List.map_set ..).symm
    repeat' (first | apply Wp.seq | apply Wp.skip | apply Wp.block | (apply Wp.op0; ((simp [M2.keep]) <;> rfl)) | ((first | (apply Wp.pickT; (exact rfl); (first | exact rfl | assumption)) | (apply Wp.pickF; (exact rfl); (first | exact rfl | assumption))); ((simp) <;> exact rfl)) | ((first | apply Wp.op | apply Wp.opN); (apply Evt.all; intro; (simp [heapU, lim]) <;> (try simp (disch := omega) only [wrap_id]) <;> first | exact ⟨rfl, rfl⟩ | exact rfl)) | (apply Wp.call; exact hi _) | (first | (apply Wp.ung; (exact rfl); (first | exact rfl | assumption)) | (apply Wp.opSt; (exact rfl); (first | exact rfl | assumption)) | (apply Wp.opSf; (exact rfl); (first | exact rfl | assumption))) | (apply Wp.opS0; (exact rfl)) | (first | (apply Wp.condT; (exact rfl); (first | exact rfl | assumption)) | (apply Wp.condF; (exact rfl); (first | exact rfl | assumption))) | ((first | apply Wp.grdT | apply Wp.grdF | apply Wp.cond); (exact rfl); (intro); rotate_left 1; (intro); rotate_right 1))
    refine Wp.op (Evt.all fun n => copy_ints _ _ h _ (by simp) _ _ rfl rfl _) ?_
    repeat' (first | apply Wp.seq | apply Wp.skip | apply Wp.block | (apply Wp.op0; ((simp [M2.keep]) <;> rfl)) | ((first | (apply Wp.pickT; (exact rfl); (first | exact rfl | assumption)) | (apply Wp.pickF; (exact rfl); (first | exact rfl | assumption))); ((simp) <;> exact rfl)) | ((first | apply Wp.op | apply Wp.opN); (apply Evt.all; intro; (simp [hA', eg]) <;> (try simp (disch := omega) only [wrap_id]) <;> first | exact ⟨rfl, rfl⟩ | exact rfl)) | (first | (apply Wp.ung; (exact rfl); (first | exact rfl | assumption)) | (apply Wp.opSt; (exact rfl); (first | exact rfl | assumption)) | (apply Wp.opSf; (exact rfl); (first | exact rfl | assumption))) | (apply Wp.opS0; (exact rfl)) | (first | (apply Wp.condT; (exact rfl); (first | exact rfl | assumption)) | (apply Wp.condF; (exact rfl); (first | exact rfl | assumption))) | ((first | apply Wp.grdT | apply Wp.grdF | apply Wp.cond); (exact rfl); (intro); rotate_left 1; (intro); rotate_right 1))
    refine Wp.ret ?_
    have hz : frz 11 [.row 2 1 false ((h.map fun v => [i64 v]).set A [i64 v])] (.own 0 h.length) = some (.sl true ((h.map fun v => [i64 v]).set A [i64 v]), [.frow ((h.map fun v => [i64 v]).set A [i64 v])]) := frzS_row rfl (by simp)
    simp [Res, resU, res1, c_heap_Store, heapU, hz]
end Go.Proofs.YtbmlnfceanfbmaaDoor.M2
/- What the functions answer in M2. The places that an instruction needs. -/
namespace Go.Proofs.YtbmlnfceanfbmaaDoor.M2
open Go
attribute [local simp] ev1 M2.get put A.ev ld sub part elems bin arith un opt idx fillC cellsO splice over newOb sto fillR laidOwn appTo appRow touch touchN touchM touchE touchA plainU flatU plainAs allM rowAt stoRow accM_nil accM_cons accMM_nil accMM_cons frz_int frz_bool frz_str frz_slt frz_nils frz_nilI frz_nilF frz_own frzRow_row frzRow_frow Ob.blw blw_bool blw_int blw_str blw_nils blw_nilI blw_nilF blw_nilp blw_nilm blw_sl blw_own blw_bp blw_rp blw_mp blw_it params
attribute [local simp] frz_agg frz_tup frz_iface frzS_agg frzS_iface accMS_cons frzS_int frzS_bool frzS_str frzS_slt frzS_nils frzS_nilI beq_dec bne_dec
def usesF (x : Ins) : List Int :=
  if (4 ≤ x.op ∧ x.op ≤ 12) ∨ x.op = 14 then [x.a, x.b] else if x.op = 13 ∨ x.op = 15 ∨ x.op = 17 ∨ x.op = 18 then [x.a] else []
abbrev intsU (l : List Int) : U := .sl true (l.map fun v => [i64 v])
set_option maxHeartbeats 16000000 in
theorem uses_by (x : Ins) (w f : List UInt8) (hs : shapeU x.op = [.str w, .str f]) (hop : (decide (1 ≤ x.op) && decide (x.op ≤ 18)) = true) (hm : movesF x = false)
    (hf : f = [68, 65, 66] ∧ usesF x = [x.a, x.b] ∨ f = [65, 66] ∧ usesF x = [x.a, x.b] ∨ f = [68, 65] ∧ usesF x = [x.a] ∨ f = [68, 65, 78] ∧ usesF x = [x.a] ∨ f = [65, 84] ∧ usesF x = [x.a] ∨ f = [65] ∧ usesF x = [x.a]) (st : List Ob) :
    Cl T n_ins_Uses [.agg (insU x)] st (intsU (usesF x)) st := by
  refine Wp.pure (fn := c_ins_Uses) rfl rfl rfl («as» := [.agg (insU x)]) rfl ?_
  have hof := of_call x.op
  rw [hop, hs] at hof
  have hmv := moves_call x
  rw [hm] at hmv
  obtain ⟨op, d, a, b, n, to⟩ := x
  simp only [insU] at *
  rcases hf with ⟨rfl, hu⟩ | ⟨rfl, hu⟩ | ⟨rfl, hu⟩ | ⟨rfl, hu⟩ | ⟨rfl, hu⟩ | ⟨rfl, hu⟩
  all_goals
    rw [hu]
    repeat' (first | apply Wp.seq | apply Wp.skip | apply Wp.block | (apply Wp.op0; ((simp [M2.keep]) <;> rfl)) | ((first | (apply Wp.pickT; (exact rfl); (first | exact rfl | assumption)) | (apply Wp.pickF; (exact rfl); (first | exact rfl | assumption))); ((simp) <;> exact rfl)) | ((first | apply Wp.op | apply Wp.opN); (apply Evt.all; intro; (simp [dec_at, fieldOff]) <;> (try simp (disch := omega) only [wrap_id]) <;> first | exact ⟨rfl, rfl⟩ | exact rfl)) | (apply Wp.call; exact hof _) | (apply Wp.call; exact hmv _) | (apply Wp.call; exact field_call _ _ _) | (apply Wp.unroll) | (apply Wp.next; ((simp [trimO, trim]) <;> rfl)) | (apply Wp.exit; (first | rw [if_pos rfl] | (rw [if_neg (by decide)]; first | rw [if_pos rfl] | (rw [if_neg (by decide)]; rw [if_pos rfl])))) | (first | (apply Wp.ung; (exact rfl); (first | exact rfl | assumption)) | (apply Wp.opSt; (exact rfl); (first | exact rfl | assumption)) | (apply Wp.opSf; (exact rfl); (first | exact rfl | assumption))) | (apply Wp.opS0; (exact rfl)) | (first | (apply Wp.condT; (exact rfl); (first | exact rfl | assumption)) | (apply Wp.condF; (exact rfl); (first | exact rfl | assumption))) | ((first | apply Wp.grdT | apply Wp.grdF | apply Wp.cond); (exact rfl); (intro); rotate_left 1; (intro); rotate_right 1))
    refine Wp.ret ?_
    simp [Res, resU, res1, c_ins_Uses]
theorem uses_call (x : Ins) (h : 4 ≤ x.op ∧ x.op ≤ 18 ∧ ¬ x.op = 16) (st : List Ob) : Cl T n_ins_Uses [.agg (insU x)] st (intsU (usesF x)) st := by
  have hk : x.op = 4 ∨ x.op = 5 ∨ x.op = 6 ∨ x.op = 7 ∨ x.op = 8 ∨ x.op = 9 ∨ x.op = 10 ∨ x.op = 11 ∨ x.op = 12 ∨ x.op = 13 ∨ x.op = 14 ∨ x.op = 15 ∨ x.op = 17 ∨ x.op = 18 := by omega
  obtain ⟨op, d, a, b, n, to⟩ := x
  simp only at hk
  rcases hk with rfl | rfl | rfl | rfl | rfl | rfl | rfl | rfl | rfl | rfl | rfl | rfl | rfl | rfl
  all_goals first
    | exact uses_by _ _ [68, 65, 66] rfl rfl rfl (.inl ⟨rfl, by simp [usesF]⟩) st
    | exact uses_by _ _ [65, 66] rfl rfl rfl (.inr (.inl ⟨rfl, by simp [usesF]⟩)) st
    | exact uses_by _ _ [68, 65] rfl rfl rfl (.inr (.inr (.inl ⟨rfl, by simp [usesF]⟩))) st
    | exact uses_by _ _ [68, 65, 78] rfl rfl rfl (.inr (.inr (.inr (.inl ⟨rfl, by simp [usesF]⟩)))) st
    | exact uses_by _ _ [65, 84] rfl rfl rfl (.inr (.inr (.inr (.inr (.inl ⟨rfl, by simp [usesF]⟩))))) st
    | exact uses_by _ _ [65] rfl rfl rfl (.inr (.inr (.inr (.inr (.inr ⟨rfl, by simp [usesF]⟩))))) st
end Go.Proofs.YtbmlnfceanfbmaaDoor.M2
/- What the functions answer in M2. A step: a number is set; a call is made. -/
namespace Go.Proofs.YtbmlnfceanfbmaaDoor.M2
open Go
attribute [local simp] ev1 M2.get put A.ev ld sub part elems bin arith un opt idx fillC cellsO splice over newOb sto fillR laidOwn appTo appRow touch touchN touchM touchE touchA plainU flatU plainAs allM rowAt stoRow accM_nil accM_cons accMM_nil accMM_cons frz_int frz_bool frz_str frz_slt frz_nils frz_nilI frz_nilF frz_own frzRow_row frzRow_frow Ob.blw blw_bool blw_int blw_str blw_nils blw_nilI blw_nilF blw_nilp blw_nilm blw_sl blw_own blw_bp blw_rp blw_mp blw_it params
attribute [local simp] frz_agg frz_tup frz_iface frzS_agg frzS_iface accMS_cons frzS_int frzS_bool frzS_str frzS_slt frzS_nils frzS_nilI beq_dec bne_dec
abbrev askU (q : Bool) (l : List Int) : U := .sl q (l.map fun v => [i64 v])
def setS (s : Stt) (d : Int) (v : Int) : Stt := { s with L := s.L.set d.toNat (true, v) }
set_option maxHeartbeats 8000000 in
theorem set_call (o1 o2 o3 : Ob) (J : List Ob) (s : Stt) (x : Ins) (ak ev : U) (h0 val v how : Int) (hL : s.L.length = 24) (hd : locF 24 x.d = true) :
    Cl T n_step_work_set [.bp 3 0, i64 v, i64 how] (o1 :: o2 :: o3 :: .box (workU ⟨s, x, ak, ev, h0, val⟩) :: J) (.tup []) (o1 :: o2 :: o3 :: .box (workU ⟨if how = 0 then setS s x.d v else s, x, ak, ev, how, val⟩) :: J) := by
  refine Wp.impure (fn := c_step_work_set) rfl rfl rfl ?_
  obtain ⟨L, h, at_, asked⟩ := s
  obtain ⟨op, d, a, b, n, to⟩ := x
  simp only at hL hd
  simp only [locF, Bool.and_eq_true, decide_eq_true_eq] at hd
  obtain ⟨D, rfl⟩ := Int.eq_ofNat_of_zero_le hd.1
  have D1 : D < L.length := by omega
  have D2 : (D : Int) < 24 := by omega
  have l48 := wds48 hL
  have hle : D * 2 + 2 ≤ 61 := by omega
  have sD0 := wds_set L D D1
  have dr0 := wds_drop hL
  have sp := wds_splice hL
  simp only [setS, workU, Int.toNat_natCast]
  by_cases hh : how = 0
  · have dh : decide (how = 0) = true := decide_eq_true hh
    rw [if_pos hh]
    repeat' (first | apply Wp.seq | apply Wp.skip | apply Wp.block | (apply Wp.op0; ((simp [M2.keep]) <;> rfl)) | ((first | (apply Wp.pickT; (exact rfl); (first | exact rfl | assumption)) | (apply Wp.pickF; (exact rfl); (first | exact rfl | assumption))); ((simp) <;> exact rfl)) | ((first | apply Wp.op | apply Wp.opN); (apply Evt.all; intro; (simp [l48, dr0, sp]) <;> (try simp (disch := omega) only [wrap_id]) <;> first | exact ⟨rfl, rfl⟩ | exact rfl)) | (first | (apply Wp.ung; (exact rfl); (first | exact rfl | assumption)) | (apply Wp.opSt; (exact rfl); (first | exact rfl | assumption)) | (apply Wp.opSf; (exact rfl); (first | exact rfl | assumption))) | (apply Wp.opS0; (exact rfl)) | (first | (apply Wp.condT; (exact rfl); (first | exact rfl | assumption)) | (apply Wp.condF; (exact rfl); (first | exact rfl | assumption))) | ((first | apply Wp.grdT | apply Wp.grdF | apply Wp.cond); (exact rfl); (intro); rotate_left 1; (intro); rotate_right 1))
    refine Wp.draw (by (simp [c_step_work_set_D0, I.need]) <;> rfl) (by (simp [D2, hle, l48, dr0, sD0]) <;> rfl) (by (simp [D2, hle, l48, dr0, sD0]) <;> rfl) (by (unfold c_step_work_set_D0); (repeat (first | ((first | apply Dr.op | apply Dr.opN | (apply Dr.opG; exact rfl)); ((simp [D2, hle, l48, dr0, sD0]) <;> rfl); (apply Evt.all; intro; (simp [D2, hle, l48, dr0, sD0]) <;> (try simp (disch := omega) only [wrap_id]) <;> first | exact ⟨rfl, rfl⟩ | exact rfl); ((simp [I.need]) <;> rfl)) | ((first | (apply Dr.opS; exact rfl; decide) | (apply Dr.opS0; exact rfl)); ((simp [I.need]) <;> rfl)))); exact Dr.nil) (by first | decide +kernel | exact rfl) (by (simp [M2.keep]) <;> rfl) ?_
    exact ⟨rfl, congrArg S.st (trimO_len rfl)⟩
  · have dh : decide (how = 0) = false := decide_eq_false hh
    rw [if_neg hh]
    repeat' (first | apply Wp.seq | apply Wp.skip | apply Wp.block | (apply Wp.op0; ((simp [M2.keep]) <;> rfl)) | ((first | (apply Wp.pickT; (exact rfl); (first | exact rfl | assumption)) | (apply Wp.pickF; (exact rfl); (first | exact rfl | assumption))); ((simp) <;> exact rfl)) | ((first | apply Wp.op | apply Wp.opN); (apply Evt.all; intro; (simp [l48, dr0, sp]) <;> (try simp (disch := omega) only [wrap_id]) <;> first | exact ⟨rfl, rfl⟩ | exact rfl)) | (first | (apply Wp.ung; (exact rfl); (first | exact rfl | assumption)) | (apply Wp.opSt; (exact rfl); (first | exact rfl | assumption)) | (apply Wp.opSf; (exact rfl); (first | exact rfl | assumption))) | (apply Wp.opS0; (exact rfl)) | (first | (apply Wp.condT; (exact rfl); (first | exact rfl | assumption)) | (apply Wp.condF; (exact rfl); (first | exact rfl | assumption))) | ((first | apply Wp.grdT | apply Wp.grdF | apply Wp.cond); (exact rfl); (intro); rotate_left 1; (intro); rotate_right 1))
    exact ⟨rfl, congrArg S.st (trimO_len rfl)⟩
theorem trim_kept {L : Nat} {st : List Ob} {e : Env} {i : Nat} {o : Ob} (h : st[i]? = some o) (hi : i < L) (hb : Ob.blw L o = false) : trimO L ⟨e, st⟩ = ⟨e, st⟩ := by
  unfold trimO trim
  rw [if_neg]
  · rfl
  · intro h2
    simp only [Bool.and_eq_true] at h2
    have h3 : (st.take L)[i]? = some o := by rw [List.getElem?_take, if_pos hi]; exact h
    have := List.all_eq_true.1 h2.2 o (List.mem_of_getElem? h3)
    rw [hb] at this
    cases this
theorem work_own (s : Stt) (x : Ins) (ak : U) (how val : Int) : Ob.blw 4 (.box (workU ⟨s, x, ak, .own 4 1, how, val⟩)) = false := by
  show (workU ⟨s, x, ak, .own 4 1, how, val⟩).all (blw blwD 4) = false
  rw [workU, List.all_append, Bool.and_eq_false_iff]
  right
  simp
def evtU (n a v : Int) : List U := [i64 n, i64 a, i64 v]
set_option maxHeartbeats 8000000 in
theorem call_mute (q : Bool) (o1 o2 o3 : Ob) (s : Stt) (x : Ins) (ask : List Int) (arg : Int) (hL : s.L.length = 24) (ha : (ask.length : Int) ≤ s.asked) :
    Cl T n_step_work_call [.bp 3 0, i64 arg] [o1, o2, o3, .box (workU ⟨s, x, askU q ask, .nils, 0, 0⟩)] (.tup []) [o1, o2, o3, .box (workU ⟨s, x, askU q ask, .nils, 5, 0⟩)] := by
  refine Wp.impure (fn := c_step_work_call) rfl rfl rfl ?_
  obtain ⟨L, h, at_, asked⟩ := s
  simp only at hL ha
  have l48 := wds48 hL
  have dr0 := wds_drop hL
  have sp := wds_splice hL
  have d1 : decide ((ask.length : Int) ≤ asked) = true := decide_eq_true ha
  simp only [workU]
  repeat (first | apply Wp.seq | apply Wp.skip | apply Wp.block | (apply Wp.op0; ((simp [M2.keep]) <;> rfl)) | ((first | apply Wp.op | apply Wp.opN | (apply Wp.opG; exact rfl)); (apply Evt.all; intro; (simp []) <;> (try simp (disch := omega) only [wrap_id]) <;> first | exact ⟨rfl, rfl⟩ | exact rfl)) | (apply Wp.opS; exact rfl; decide) | (apply Wp.opS0; exact rfl))
  refine Wp.draw (by (simp [c_step_work_call_D0, I.need]) <;> rfl) (by (simp [l48, dr0]) <;> rfl) (by (simp [l48, dr0]) <;> rfl) (by (unfold c_step_work_call_D0); (repeat (first | ((first | apply Dr.op | apply Dr.opN | (apply Dr.opG; exact rfl)); ((simp [l48, dr0]) <;> rfl); (apply Evt.all; intro; (simp [l48, dr0]) <;> (try simp (disch := omega) only [wrap_id]) <;> first | exact ⟨rfl, rfl⟩ | exact rfl); ((simp [I.need]) <;> rfl)) | ((first | (apply Dr.opS; exact rfl; decide) | (apply Dr.opS0; exact rfl)); ((simp [I.need]) <;> rfl)))); exact Dr.nil) (by first | decide +kernel | exact rfl) (by (simp [M2.keep]) <;> rfl) ?_
  repeat' (first | apply Wp.seq | apply Wp.skip | apply Wp.block | (apply Wp.op0; ((simp [M2.keep]) <;> rfl)) | ((first | (apply Wp.pickT; (exact rfl); (first | exact rfl | assumption)) | (apply Wp.pickF; (exact rfl); (first | exact rfl | assumption))); ((simp) <;> exact rfl)) | ((first | apply Wp.op | apply Wp.opN); (apply Evt.all; intro; (simp [l48, dr0, sp]) <;> (try simp (disch := omega) only [wrap_id]) <;> first | exact ⟨rfl, rfl⟩ | exact rfl)) | (first | (apply Wp.ung; (exact rfl); (first | exact rfl | assumption)) | (apply Wp.opSt; (exact rfl); (first | exact rfl | assumption)) | (apply Wp.opSf; (exact rfl); (first | exact rfl | assumption))) | (apply Wp.opS0; (exact rfl)) | (first | (apply Wp.condT; (exact rfl); (first | exact rfl | assumption)) | (apply Wp.condF; (exact rfl); (first | exact rfl | assumption))) | ((first | apply Wp.grdT | apply Wp.grdF | apply Wp.cond); (exact rfl); (intro); rotate_left 1; (intro); rotate_right 1))
  exact Wp.ret ⟨rfl, congrArg S.st (trimO_len rfl)⟩
set_option maxHeartbeats 16000000 in
theorem call_told (q : Bool) (o1 o2 o3 : Ob) (s : Stt) (x : Ins) (ask : List Int) (arg : Int) (hL : s.L.length = 24) (hd : locF 24 x.d = true) (k : Nat) (hk : s.asked = k) (ha : k < ask.length) (hl : ask.length ≤ 100000) :
    Cl T n_step_work_call [.bp 3 0, i64 arg] [o1, o2, o3, .box (workU ⟨s, x, askU q ask, .nils, 0, 0⟩)] (.tup [])
      [o1, o2, o3, .box (workU ⟨{ setS s x.d (ask.getD k 0) with asked := k + 1 }, x, askU q ask, .own 4 1, 0, 0⟩), .row 140 3 false [evtU x.n arg (ask.getD k 0)]] := by
  refine Wp.impure (fn := c_step_work_call) rfl rfl rfl ?_
  obtain ⟨L, h, at_, asked⟩ := s
  simp only at hL hk
  subst hk
  have l48 := wds48 hL
  have dr0 := wds_drop hL
  have sp := wds_splice hL
  have ha' : (k : Int) < ask.length := by omega
  have d1 : decide ((ask.length : Int) ≤ k) = false := decide_eq_false (by omega)
  have d2 : decide (ask.length ≤ k) = false := decide_eq_false (by omega)
  have eg : ask[k]? = some ask[k] := List.getElem?_eq_getElem ha
  have egd : ask.getD k 0 = ask[k] := by simp [ha]
  rw [egd]
  generalize ask[k] = v at *
  have hset := set_call o1 o2 o3 [.row 140 3 false [evtU x.n arg v]] ⟨L, h, at_, k + 1⟩ x (askU q ask) (.own 4 1) 0 0 v 0 hL hd
  simp only [if_true, setS, workU, evtU] at hset ⊢
  repeat (first | apply Wp.seq | apply Wp.skip | apply Wp.block | (apply Wp.op0; ((simp [M2.keep]) <;> rfl)) | ((first | apply Wp.op | apply Wp.opN | (apply Wp.opG; exact rfl)); (apply Evt.all; intro; (simp []) <;> (try simp (disch := omega) only [wrap_id]) <;> first | exact ⟨rfl, rfl⟩ | exact rfl)) | (apply Wp.opS; exact rfl; decide) | (apply Wp.opS0; exact rfl))
  refine Wp.draw (by (simp [c_step_work_call_D0, I.need]) <;> rfl) (by (simp [l48, dr0]) <;> rfl) (by (simp [l48, dr0]) <;> rfl) (by (unfold c_step_work_call_D0); (repeat (first | ((first | apply Dr.op | apply Dr.opN | (apply Dr.opG; exact rfl)); ((simp [l48, dr0]) <;> rfl); (apply Evt.all; intro; (simp [l48, dr0]) <;> (try simp (disch := omega) only [wrap_id]) <;> first | exact ⟨rfl, rfl⟩ | exact rfl); ((simp [I.need]) <;> rfl)) | ((first | (apply Dr.opS; exact rfl; decide) | (apply Dr.opS0; exact rfl)); ((simp [I.need]) <;> rfl)))); exact Dr.nil) (by first | decide +kernel | exact rfl) (by (simp [M2.keep]) <;> rfl) ?_
  repeat' (first | apply Wp.seq | apply Wp.skip | apply Wp.block | (apply Wp.op0; ((simp [M2.keep]) <;> rfl)) | ((first | (apply Wp.pickT; (exact rfl); (first | exact rfl | assumption)) | (apply Wp.pickF; (exact rfl); (first | exact rfl | assumption))); ((simp) <;> exact rfl)) | ((first | apply Wp.op | apply Wp.opN); (apply Evt.all; intro; (simp [l48, dr0, sp]) <;> (try simp (disch := omega) only [wrap_id]) <;> first | exact ⟨rfl, rfl⟩ | exact rfl)) | (first | (apply Wp.ung; (exact rfl); (first | exact rfl | assumption)) | (apply Wp.opSt; (exact rfl); (first | exact rfl | assumption)) | (apply Wp.opSf; (exact rfl); (first | exact rfl | assumption))) | (apply Wp.opS0; (exact rfl)) | (first | (apply Wp.condT; (exact rfl); (first | exact rfl | assumption)) | (apply Wp.condF; (exact rfl); (first | exact rfl | assumption))) | ((first | apply Wp.grdT | apply Wp.grdF | apply Wp.cond); (exact rfl); (intro); rotate_left 1; (intro); rotate_right 1))
  refine Wp.draw (by (simp [c_step_work_call_D1, I.need]) <;> rfl) (by (simp [l48, dr0, ha', eg]) <;> rfl) (by (simp [l48, dr0, ha', eg]) <;> rfl) (by (unfold c_step_work_call_D1); (repeat (first | ((first | apply Dr.op | apply Dr.opN | (apply Dr.opG; exact rfl)); ((simp [l48, dr0, ha', eg]) <;> rfl); (apply Evt.all; intro; (simp [l48, dr0, ha', eg]) <;> (try simp (disch := omega) only [wrap_id]) <;> first | exact ⟨rfl, rfl⟩ | exact rfl); ((simp [I.need]) <;> rfl)) | ((first | (apply Dr.opS; exact rfl; decide) | (apply Dr.opS0; exact rfl)); ((simp [I.need]) <;> rfl)))); exact Dr.nil) (by first | decide +kernel | exact rfl) (by (simp [M2.keep]) <;> rfl) ?_
  repeat' (first | apply Wp.seq | apply Wp.skip | apply Wp.block | (apply Wp.op0; ((simp [M2.keep]) <;> rfl)) | ((first | (apply Wp.pickT; (exact rfl); (first | exact rfl | assumption)) | (apply Wp.pickF; (exact rfl); (first | exact rfl | assumption))); ((simp) <;> exact rfl)) | ((first | apply Wp.op | apply Wp.opN); (apply Evt.all; intro; (simp [l48, dr0, sp, wrap_id]) <;> (try simp (disch := omega) only [wrap_id]) <;> first | exact ⟨rfl, rfl⟩ | exact rfl)) | (apply Wp.call; exact hset) | (first | (apply Wp.ung; (exact rfl); (first | exact rfl | assumption)) | (apply Wp.opSt; (exact rfl); (first | exact rfl | assumption)) | (apply Wp.opSf; (exact rfl); (first | exact rfl | assumption))) | (apply Wp.opS0; (exact rfl)) | (first | (apply Wp.condT; (exact rfl); (first | exact rfl | assumption)) | (apply Wp.condF; (exact rfl); (first | exact rfl | assumption))) | ((first | apply Wp.grdT | apply Wp.grdF | apply Wp.cond); (exact rfl); (intro); rotate_left 1; (intro); rotate_right 1))
  exact ⟨rfl, congrArg S.st (trim_kept (i := 3) rfl (by simp) (work_own ⟨L.set x.d.toNat (true, v), h, at_, k + 1⟩ x (askU q ask) 0 0))⟩
end Go.Proofs.YtbmlnfceanfbmaaDoor.M2
/- What the functions answer in M2. A step: what is done. -/
namespace Go.Proofs.YtbmlnfceanfbmaaDoor.M2
open Go
attribute [local simp] ev1 M2.get put A.ev ld sub part elems bin arith un opt idx fillC cellsO splice over newOb sto fillR laidOwn appTo appRow touch touchN touchM touchE touchA plainU flatU plainAs allM rowAt stoRow accM_nil accM_cons accMM_nil accMM_cons frz_int frz_bool frz_str frz_slt frz_nils frz_nilI frz_nilF frz_own frzRow_row frzRow_frow Ob.blw blw_bool blw_int blw_str blw_nils blw_nilI blw_nilF blw_nilp blw_nilm blw_sl blw_own blw_bp blw_rp blw_mp blw_it params
attribute [local simp] frz_agg frz_tup frz_iface frzS_agg frzS_iface accMS_cons frzS_int frzS_bool frzS_str frzS_slt frzS_nils frzS_nilI beq_dec bne_dec
abbrev numV (s : Stt) (i : Int) : Int := (s.L.getD i.toNat (false, 0)).2
set_option maxHeartbeats 16000000 in
theorem do_load (q : Bool) (o1 o2 o3 : Ob) (s : Stt) (x : Ins) (ask : List Int) (hL : s.L.length = 24) (hd : locF 24 x.d = true) (ha : locF 24 x.a = true) (hb : locF 24 x.b = true) (hat : 0 ≤ s.at_ ∧ s.at_ ≤ 1000) (hop : x.op = 13) :
    Cl T n_step_work_do [.bp 3 0] [o1, o2, o3, .box (workU ⟨s, x, askU q ask, .nils, 0, 0⟩)] (.tup []) [o1, o2, o3, .box (workU ⟨if (loadF s.h (numV s x.a)).2 = 0 then { setS s x.d (loadF s.h (numV s x.a)).1 with at_ := s.at_ + 1 } else s, x, askU q ask, .nils, (loadF s.h (numV s x.a)).2, 0⟩)] := by
  refine Wp.impure (fn := c_step_work_do) rfl rfl rfl ?_
  have hnum := fun D hD => number_call q o1 o2 o3 s x (ask.map fun v => [i64 v]) 0 0 hL D hD
  have wplain := wds_plain s.L
  have hmv := moves_call x
  have hm : movesF x = false := by simp [movesF]; omega
  rw [hm] at hmv
  obtain ⟨L, h, at_, asked⟩ := s
  obtain ⟨op, d, a, b, n, to⟩ := x
  simp only at *
  have hd0 := hd
  simp only [locF, Bool.and_eq_true, decide_eq_true_eq] at hd ha hb
  obtain ⟨A, rfl⟩ := Int.eq_ofNat_of_zero_le ha.1
  obtain ⟨B, rfl⟩ := Int.eq_ofNat_of_zero_le hb.1
  have hA := hnum A (by omega)
  have hB := hnum B (by omega)
  have l48 := wds48 hL
  have dr := wds_drop hL
  have sp := wds_splice hL
  have tk := wds_takeMore hL
  subst hop
  have hld := heapLoad_call h (L.getD A (false, 0)).2
  have hset := fun v how => set_call o1 o2 o3 [] ⟨L, h, at_, asked⟩ ⟨13, d, A, B, n, to⟩ (askU q ask) .nils 0 0 v how hL hd0
  simp only [numV, Int.toNat_natCast, workU, insU] at hA hB hmv hset ⊢
  generalize (L.getD A (false, 0)).2 = va at *
  generalize (L.getD B (false, 0)).2 = vb at *
  generalize loadF h va = r at *
  obtain ⟨v, how⟩ := r
  simp only at hld ⊢
  have hset := hset v how
  repeat (first | apply Wp.seq | apply Wp.skip | apply Wp.block | (apply Wp.op0; ((simp [M2.keep]) <;> rfl)) | ((first | apply Wp.op | apply Wp.opN | (apply Wp.opG; exact rfl)); (apply Evt.all; intro; (simp []) <;> (try simp (disch := omega) only [wrap_id]) <;> first | exact ⟨rfl, rfl⟩ | exact rfl)) | (apply Wp.opS; exact rfl; decide) | (apply Wp.opS0; exact rfl))
  refine Wp.draw (by (simp [c_step_work_do_D0, I.need]) <;> rfl) (by (simp [l48, dr, pf69, wplain]) <;> rfl) (by (simp [l48, dr, pf69, wplain]) <;> rfl) (by (unfold c_step_work_do_D0); (repeat (first | ((first | apply Dr.op | apply Dr.opN | (apply Dr.opG; exact rfl)); ((simp [l48, dr, pf69, wplain]) <;> rfl); (apply Evt.all; intro; (simp [l48, dr, pf69, wplain]) <;> (try simp (disch := omega) only [wrap_id]) <;> first | exact ⟨rfl, rfl⟩ | exact rfl); ((simp [I.need]) <;> rfl)) | ((first | (apply Dr.opS; exact rfl; decide) | (apply Dr.opS0; exact rfl)); ((simp [I.need]) <;> rfl)) | (apply Dr.call; ((simp [l48, dr, pf69, wplain]) <;> rfl); exact hA) | (apply Dr.callG; (exact rfl); ((simp [l48, dr, pf69, wplain]) <;> rfl); exact hA) | (apply Dr.call; ((simp [l48, dr, pf69, wplain]) <;> rfl); exact hB) | (apply Dr.callG; (exact rfl); ((simp [l48, dr, pf69, wplain]) <;> rfl); exact hB))); exact Dr.nil) (by first | decide +kernel | exact rfl) (by (simp [M2.keep]) <;> rfl) ?_
  by_cases hh : how = 0
  · have dh : decide (how = 0) = true := decide_eq_true hh
    have hL2 : (setS ⟨L, h, at_, asked⟩ d v).L.length = 24 := by simp [setS, hL]
    have l48' := wds48 hL2
    have dr' := wds_drop hL2
    have sp' := wds_splice hL2
    simp only [hh, if_true, setS] at hset dr' sp' l48' hld ⊢
    repeat' (first | apply Wp.seq | apply Wp.skip | apply Wp.block | (apply Wp.op0; ((simp [M2.keep]) <;> rfl)) | ((first | (apply Wp.pickT; (exact rfl); (first | exact rfl | assumption)) | (apply Wp.pickF; (exact rfl); (first | exact rfl | assumption))); ((simp) <;> exact rfl)) | ((first | apply Wp.op | apply Wp.opN); (apply Evt.all; intro; (simp [l48, dr, l48', dr', sp', wrap_id]) <;> (try simp (disch := omega) only [wrap_id]) <;> first | exact ⟨rfl, rfl⟩ | exact rfl)) | (apply Wp.call; exact hmv _) | (apply Wp.call; exact hld _) | (apply Wp.call; exact hset) | (apply Wp.exit; repeat (first | rw [if_pos rfl] | rw [if_neg (by decide)])) | (first | (apply Wp.ung; (exact rfl); (first | exact rfl | assumption)) | (apply Wp.opSt; (exact rfl); (first | exact rfl | assumption)) | (apply Wp.opSf; (exact rfl); (first | exact rfl | assumption))) | (apply Wp.opS0; (exact rfl)) | (first | (apply Wp.condT; (exact rfl); (first | exact rfl | assumption)) | (apply Wp.condF; (exact rfl); (first | exact rfl | assumption))) | ((first | apply Wp.grdT | apply Wp.grdF | apply Wp.cond); (exact rfl); (intro); rotate_left 1; (intro); rotate_right 1))
    exact ⟨rfl, congrArg S.st (trimO_len rfl)⟩
  · have dh : decide (how = 0) = false := decide_eq_false hh
    rw [if_neg hh] at hset ⊢
    repeat' (first | apply Wp.seq | apply Wp.skip | apply Wp.block | (apply Wp.op0; ((simp [M2.keep]) <;> rfl)) | ((first | (apply Wp.pickT; (exact rfl); (first | exact rfl | assumption)) | (apply Wp.pickF; (exact rfl); (first | exact rfl | assumption))); ((simp) <;> exact rfl)) | ((first | apply Wp.op | apply Wp.opN); (apply Evt.all; intro; (simp [l48, dr, sp, wrap_id]) <;> (try simp (disch := omega) only [wrap_id]) <;> first | exact ⟨rfl, rfl⟩ | exact rfl)) | (apply Wp.call; exact hmv _) | (apply Wp.call; exact hld _) | (apply Wp.call; exact hset) | (apply Wp.exit; repeat (first | rw [if_pos rfl] | rw [if_neg (by decide)])) | (first | (apply Wp.ung; (exact rfl); (first | exact rfl | assumption)) | (apply Wp.opSt; (exact rfl); (first | exact rfl | assumption)) | (apply Wp.opSf; (exact rfl); (first | exact rfl | assumption))) | (apply Wp.opS0; (exact rfl)) | (first | (apply Wp.condT; (exact rfl); (first | exact rfl | assumption)) | (apply Wp.condF; (exact rfl); (first | exact rfl | assumption))) | ((first | apply Wp.grdT | apply Wp.grdF | apply Wp.cond); (exact rfl); (intro); rotate_left 1; (intro); rotate_right 1))
    exact ⟨rfl, congrArg S.st (trimO_len rfl)⟩
set_option maxHeartbeats 16000000 in
theorem do_num (q : Bool) (o1 o2 o3 : Ob) (s : Stt) (x : Ins) (ask : List Int) (hL : s.L.length = 24) (hd : locF 24 x.d = true) (ha : locF 24 x.a = true) (hb : locF 24 x.b = true) (hat : 0 ≤ s.at_ ∧ s.at_ ≤ 1000) (hop : 4 ≤ x.op ∧ x.op ≤ 12) :
    Cl T n_step_work_do [.bp 3 0] [o1, o2, o3, .box (workU ⟨s, x, askU q ask, .nils, 0, 0⟩)] (.tup []) [o1, o2, o3, .box (workU ⟨if (numF x.op (numV s x.a) (numV s x.b)).2 = 0 then { setS s x.d (numF x.op (numV s x.a) (numV s x.b)).1 with at_ := s.at_ + 1 } else s, x, askU q ask, .nils, (numF x.op (numV s x.a) (numV s x.b)).2, 0⟩)] := by
  refine Wp.impure (fn := c_step_work_do) rfl rfl rfl ?_
  have hnum := fun D hD => number_call q o1 o2 o3 s x (ask.map fun v => [i64 v]) 0 0 hL D hD
  have wplain := wds_plain s.L
  have hmv := moves_call x
  have hm : movesF x = false := by simp [movesF]; omega
  rw [hm] at hmv
  obtain ⟨L, h, at_, asked⟩ := s
  obtain ⟨op, d, a, b, n, to⟩ := x
  simp only at *
  have hd0 := hd
  simp only [locF, Bool.and_eq_true, decide_eq_true_eq] at hd ha hb
  obtain ⟨A, rfl⟩ := Int.eq_ofNat_of_zero_le ha.1
  obtain ⟨B, rfl⟩ := Int.eq_ofNat_of_zero_le hb.1
  have hA := hnum A (by omega)
  have hB := hnum B (by omega)
  have l48 := wds48 hL
  have dr := wds_drop hL
  have sp := wds_splice hL
  have tk := wds_takeMore hL
  have e1 : ¬ op = 13 ∧ ¬ op = 14 ∧ ¬ op = 15 ∧ ¬ op = 18 ∧ ¬ op = 17 ∧ ¬ op = 16 := by omega
  have e13 : decide (op = 13) = false := decide_eq_false e1.1
  have e14 : decide (op = 14) = false := decide_eq_false e1.2.1
  have e15 : decide (op = 15) = false := decide_eq_false e1.2.2.1
  have e18 : decide (op = 18) = false := decide_eq_false e1.2.2.2.1
  have e17 : decide (op = 17) = false := decide_eq_false e1.2.2.2.2.1
  have e16 : decide (op = 16) = false := decide_eq_false e1.2.2.2.2.2
  have hld := numDo_call op (L.getD A (false, 0)).2 (L.getD B (false, 0)).2
  have hset := fun v how => set_call o1 o2 o3 [] ⟨L, h, at_, asked⟩ ⟨op, d, A, B, n, to⟩ (askU q ask) .nils 0 0 v how hL hd0
  simp only [numV, Int.toNat_natCast, workU, insU] at hA hB hmv hset ⊢
  generalize (L.getD A (false, 0)).2 = va at *
  generalize (L.getD B (false, 0)).2 = vb at *
  generalize numF op va vb = r at *
  obtain ⟨v, how⟩ := r
  simp only at hld ⊢
  have hset := hset v how
  repeat (first | apply Wp.seq | apply Wp.skip | apply Wp.block | (apply Wp.op0; ((simp [M2.keep]) <;> rfl)) | ((first | apply Wp.op | apply Wp.opN | (apply Wp.opG; exact rfl)); (apply Evt.all; intro; (simp []) <;> (try simp (disch := omega) only [wrap_id]) <;> first | exact ⟨rfl, rfl⟩ | exact rfl)) | (apply Wp.opS; exact rfl; decide) | (apply Wp.opS0; exact rfl))
  refine Wp.draw (by (simp [c_step_work_do_D0, I.need]) <;> rfl) (by (simp [l48, dr, pf69, wplain]) <;> rfl) (by (simp [l48, dr, pf69, wplain]) <;> rfl) (by (unfold c_step_work_do_D0); (repeat (first | ((first | apply Dr.op | apply Dr.opN | (apply Dr.opG; exact rfl)); ((simp [l48, dr, pf69, wplain]) <;> rfl); (apply Evt.all; intro; (simp [l48, dr, pf69, wplain]) <;> (try simp (disch := omega) only [wrap_id]) <;> first | exact ⟨rfl, rfl⟩ | exact rfl); ((simp [I.need]) <;> rfl)) | ((first | (apply Dr.opS; exact rfl; decide) | (apply Dr.opS0; exact rfl)); ((simp [I.need]) <;> rfl)) | (apply Dr.call; ((simp [l48, dr, pf69, wplain]) <;> rfl); exact hA) | (apply Dr.callG; (exact rfl); ((simp [l48, dr, pf69, wplain]) <;> rfl); exact hA) | (apply Dr.call; ((simp [l48, dr, pf69, wplain]) <;> rfl); exact hB) | (apply Dr.callG; (exact rfl); ((simp [l48, dr, pf69, wplain]) <;> rfl); exact hB))); exact Dr.nil) (by first | decide +kernel | exact rfl) (by (simp [M2.keep]) <;> rfl) ?_
  by_cases hh : how = 0
  · have dh : decide (how = 0) = true := decide_eq_true hh
    have hL2 : (setS ⟨L, h, at_, asked⟩ d v).L.length = 24 := by simp [setS, hL]
    have l48' := wds48 hL2
    have dr' := wds_drop hL2
    have sp' := wds_splice hL2
    simp only [hh, if_true, setS] at hset dr' sp' l48' hld ⊢
    repeat' (first | apply Wp.seq | apply Wp.skip | apply Wp.block | (apply Wp.op0; ((simp [M2.keep]) <;> rfl)) | ((first | (apply Wp.pickT; (exact rfl); (first | exact rfl | assumption)) | (apply Wp.pickF; (exact rfl); (first | exact rfl | assumption))); ((simp) <;> exact rfl)) | ((first | apply Wp.op | apply Wp.opN); (apply Evt.all; intro; (simp [l48, dr, l48', dr', sp', wrap_id]) <;> (try simp (disch := omega) only [wrap_id]) <;> first | exact ⟨rfl, rfl⟩ | exact rfl)) | (apply Wp.call; exact hmv _) | (apply Wp.call; exact hld _) | (apply Wp.call; exact hset) | (apply Wp.exit; repeat (first | rw [if_pos rfl] | rw [if_neg (by decide)])) | (first | (apply Wp.ung; (exact rfl); (first | exact rfl | assumption)) | (apply Wp.opSt; (exact rfl); (first | exact rfl | assumption)) | (apply Wp.opSf; (exact rfl); (first | exact rfl | assumption))) | (apply Wp.opS0; (exact rfl)) | (first | (apply Wp.condT; (exact rfl); (first | exact rfl | assumption)) | (apply Wp.condF; (exact rfl); (first | exact rfl | assumption))) | ((first | apply Wp.grdT | apply Wp.grdF | apply Wp.cond); (exact rfl); (intro); rotate_left 1; (intro); rotate_right 1))
    exact ⟨rfl, congrArg S.st (trimO_len rfl)⟩
  · have dh : decide (how = 0) = false := decide_eq_false hh
    rw [if_neg hh] at hset ⊢
    repeat' (first | apply Wp.seq | apply Wp.skip | apply Wp.block | (apply Wp.op0; ((simp [M2.keep]) <;> rfl)) | ((first | (apply Wp.pickT; (exact rfl); (first | exact rfl | assumption)) | (apply Wp.pickF; (exact rfl); (first | exact rfl | assumption))); ((simp) <;> exact rfl)) | ((first | apply Wp.op | apply Wp.opN); (apply Evt.all; intro; (simp [l48, dr, sp, wrap_id]) <;> (try simp (disch := omega) only [wrap_id]) <;> first | exact ⟨rfl, rfl⟩ | exact rfl)) | (apply Wp.call; exact hmv _) | (apply Wp.call; exact hld _) | (apply Wp.call; exact hset) | (apply Wp.exit; repeat (first | rw [if_pos rfl] | rw [if_neg (by decide)])) | (first | (apply Wp.ung; (exact rfl); (first | exact rfl | assumption)) | (apply Wp.opSt; (exact rfl); (first | exact rfl | assumption)) | (apply Wp.opSf; (exact rfl); (first | exact rfl | assumption))) | (apply Wp.opS0; (exact rfl)) | (first | (apply Wp.condT; (exact rfl); (first | exact rfl | assumption)) | (apply Wp.condF; (exact rfl); (first | exact rfl | assumption))) | ((first | apply Wp.grdT | apply Wp.grdF | apply Wp.cond); (exact rfl); (intro); rotate_left 1; (intro); rotate_right 1))
    exact ⟨rfl, congrArg S.st (trimO_len rfl)⟩
end Go.Proofs.YtbmlnfceanfbmaaDoor.M2
/- What the functions answer in M2. A step: what is done, the rest. -/
namespace Go.Proofs.YtbmlnfceanfbmaaDoor.M2
open Go
attribute [local simp] ev1 M2.get put A.ev ld sub part elems bin arith un opt idx fillC cellsO splice over newOb sto fillR laidOwn appTo appRow touch touchN touchM touchE touchA plainU flatU plainAs allM rowAt stoRow accM_nil accM_cons accMM_nil accMM_cons frz_int frz_bool frz_str frz_slt frz_nils frz_nilI frz_nilF frz_own frzRow_row frzRow_frow Ob.blw blw_bool blw_int blw_str blw_nils blw_nilI blw_nilF blw_nilp blw_nilm blw_sl blw_own blw_bp blw_rp blw_mp blw_it params
attribute [local simp] frz_agg frz_tup frz_iface frzS_agg frzS_iface accMS_cons frzS_int frzS_bool frzS_str frzS_slt frzS_nils frzS_nilI beq_dec bne_dec
set_option maxHeartbeats 16000000 in
theorem do_store (q : Bool) (o1 o2 o3 : Ob) (s : Stt) (x : Ins) (ask : List Int) (hL : s.L.length = 24) (hd : locF 24 x.d = true) (ha : locF 24 x.a = true) (hb : locF 24 x.b = true) (hat : 0 ≤ s.at_ ∧ s.at_ ≤ 1000) (hop : x.op = 14) :
    Cl T n_step_work_do [.bp 3 0] [o1, o2, o3, .box (workU ⟨s, x, askU q ask, .nils, 0, 0⟩)] (.tup []) [o1, o2, o3, .box (workU ⟨if (storeF s.h (numV s x.a) (numV s x.b)).2 = 0 then { s with h := (storeF s.h (numV s x.a) (numV s x.b)).1, at_ := s.at_ + 1 } else s, x, askU q ask, .nils, (storeF s.h (numV s x.a) (numV s x.b)).2, 0⟩)] := by
  refine Wp.impure (fn := c_step_work_do) rfl rfl rfl ?_
  have hnum := fun D hD => number_call q o1 o2 o3 s x (ask.map fun v => [i64 v]) 0 0 hL D hD
  have wplain := wds_plain s.L
  have hmv := moves_call x
  have hm : movesF x = false := by simp [movesF]; omega
  rw [hm] at hmv
  obtain ⟨L, h, at_, asked⟩ := s
  obtain ⟨op, d, a, b, n, to⟩ := x
  simp only at *
  have hd0 := hd
  simp only [locF, Bool.and_eq_true, decide_eq_true_eq] at hd ha hb
  obtain ⟨A, rfl⟩ := Int.eq_ofNat_of_zero_le ha.1
  obtain ⟨B, rfl⟩ := Int.eq_ofNat_of_zero_le hb.1
  have hA := hnum A (by omega)
  have hB := hnum B (by omega)
  have l48 := wds48 hL
  have dr := wds_drop hL
  have sp := wds_splice hL
  have tk := wds_takeMore hL
  subst hop
  have hld := heapStore_call h (L.getD A (false, 0)).2 (L.getD B (false, 0)).2
  simp only [numV, Int.toNat_natCast, workU, insU] at hA hB hmv ⊢
  generalize (L.getD A (false, 0)).2 = va at *
  generalize (L.getD B (false, 0)).2 = vb at *
  generalize storeF h va vb = r at *
  obtain ⟨h', how⟩ := r
  simp only at hld ⊢
  repeat (first | apply Wp.seq | apply Wp.skip | apply Wp.block | (apply Wp.op0; ((simp [M2.keep]) <;> rfl)) | ((first | apply Wp.op | apply Wp.opN | (apply Wp.opG; exact rfl)); (apply Evt.all; intro; (simp []) <;> (try simp (disch := omega) only [wrap_id]) <;> first | exact ⟨rfl, rfl⟩ | exact rfl)) | (apply Wp.opS; exact rfl; decide) | (apply Wp.opS0; exact rfl))
  refine Wp.draw (by (simp [c_step_work_do_D0, I.need]) <;> rfl) (by (simp [l48, dr, pf69, wplain]) <;> rfl) (by (simp [l48, dr, pf69, wplain]) <;> rfl) (by (unfold c_step_work_do_D0); (repeat (first | ((first | apply Dr.op | apply Dr.opN | (apply Dr.opG; exact rfl)); ((simp [l48, dr, pf69, wplain]) <;> rfl); (apply Evt.all; intro; (simp [l48, dr, pf69, wplain]) <;> (try simp (disch := omega) only [wrap_id]) <;> first | exact ⟨rfl, rfl⟩ | exact rfl); ((simp [I.need]) <;> rfl)) | ((first | (apply Dr.opS; exact rfl; decide) | (apply Dr.opS0; exact rfl)); ((simp [I.need]) <;> rfl)) | (apply Dr.call; ((simp [l48, dr, pf69, wplain]) <;> rfl); exact hA) | (apply Dr.callG; (exact rfl); ((simp [l48, dr, pf69, wplain]) <;> rfl); exact hA) | (apply Dr.call; ((simp [l48, dr, pf69, wplain]) <;> rfl); exact hB) | (apply Dr.callG; (exact rfl); ((simp [l48, dr, pf69, wplain]) <;> rfl); exact hB))); exact Dr.nil) (by first | decide +kernel | exact rfl) (by (simp [M2.keep]) <;> rfl) ?_
  by_cases hh : how = 0
  · have dh : decide (how = 0) = true := decide_eq_true hh
    simp only [hh, if_true] at hld ⊢
    repeat' (first | apply Wp.seq | apply Wp.skip | apply Wp.block | (apply Wp.op0; ((simp [M2.keep]) <;> rfl)) | ((first | (apply Wp.pickT; (exact rfl); (first | exact rfl | assumption)) | (apply Wp.pickF; (exact rfl); (first | exact rfl | assumption))); ((simp) <;> exact rfl)) | ((first | apply Wp.op | apply Wp.opN); (apply Evt.all; intro; (simp [l48, dr, sp, wrap_id]) <;> (try simp (disch := omega) only [wrap_id]) <;> first | exact ⟨rfl, rfl⟩ | exact rfl)) | (apply Wp.call; exact hld _) | (apply Wp.exit; repeat (first | rw [if_pos rfl] | rw [if_neg (by decide)])) | (first | (apply Wp.ung; (exact rfl); (first | exact rfl | assumption)) | (apply Wp.opSt; (exact rfl); (first | exact rfl | assumption)) | (apply Wp.opSf; (exact rfl); (first | exact rfl | assumption))) | (apply Wp.opS0; (exact rfl)) | (first | (apply Wp.condT; (exact rfl); (first | exact rfl | assumption)) | (apply Wp.condF; (exact rfl); (first | exact rfl | assumption))) | ((first | apply Wp.grdT | apply Wp.grdF | apply Wp.cond); (exact rfl); (intro); rotate_left 1; (intro); rotate_right 1))
    exact ⟨rfl, congrArg S.st (trimO_len rfl)⟩
  · have dh : decide (how = 0) = false := decide_eq_false hh
    rw [if_neg hh]
    repeat' (first | apply Wp.seq | apply Wp.skip | apply Wp.block | (apply Wp.op0; ((simp [M2.keep]) <;> rfl)) | ((first | (apply Wp.pickT; (exact rfl); (first | exact rfl | assumption)) | (apply Wp.pickF; (exact rfl); (first | exact rfl | assumption))); ((simp) <;> exact rfl)) | ((first | apply Wp.op | apply Wp.opN); (apply Evt.all; intro; (simp [l48, dr, sp, wrap_id]) <;> (try simp (disch := omega) only [wrap_id]) <;> first | exact ⟨rfl, rfl⟩ | exact rfl)) | (apply Wp.call; exact hld _) | (apply Wp.exit; repeat (first | rw [if_pos rfl] | rw [if_neg (by decide)])) | (first | (apply Wp.ung; (exact rfl); (first | exact rfl | assumption)) | (apply Wp.opSt; (exact rfl); (first | exact rfl | assumption)) | (apply Wp.opSf; (exact rfl); (first | exact rfl | assumption))) | (apply Wp.opS0; (exact rfl)) | (first | (apply Wp.condT; (exact rfl); (first | exact rfl | assumption)) | (apply Wp.condF; (exact rfl); (first | exact rfl | assumption))) | ((first | apply Wp.grdT | apply Wp.grdF | apply Wp.cond); (exact rfl); (intro); rotate_left 1; (intro); rotate_right 1))
    exact ⟨rfl, congrArg S.st (trimO_len rfl)⟩
set_option maxHeartbeats 16000000 in
theorem do_ret (q : Bool) (o1 o2 o3 : Ob) (s : Stt) (x : Ins) (ask : List Int) (hL : s.L.length = 24) (hd : locF 24 x.d = true) (ha : locF 24 x.a = true) (hb : locF 24 x.b = true) (hat : 0 ≤ s.at_ ∧ s.at_ ≤ 1000) (hop : x.op = 18) :
    Cl T n_step_work_do [.bp 3 0] [o1, o2, o3, .box (workU ⟨s, x, askU q ask, .nils, 0, 0⟩)] (.tup []) [o1, o2, o3, .box (workU ⟨s, x, askU q ask, .nils, 1, numV s x.a⟩)] := by
  refine Wp.impure (fn := c_step_work_do) rfl rfl rfl ?_
  have hnum := fun D hD => number_call q o1 o2 o3 s x (ask.map fun v => [i64 v]) 0 0 hL D hD
  have wplain := wds_plain s.L
  have hmv := moves_call x
  have hm : movesF x = false := by simp [movesF]; omega
  rw [hm] at hmv
  obtain ⟨L, h, at_, asked⟩ := s
  obtain ⟨op, d, a, b, n, to⟩ := x
  simp only at *
  have hd0 := hd
  simp only [locF, Bool.and_eq_true, decide_eq_true_eq] at hd ha hb
  obtain ⟨A, rfl⟩ := Int.eq_ofNat_of_zero_le ha.1
  obtain ⟨B, rfl⟩ := Int.eq_ofNat_of_zero_le hb.1
  have hA := hnum A (by omega)
  have hB := hnum B (by omega)
  have l48 := wds48 hL
  have dr := wds_drop hL
  have sp := wds_splice hL
  have tk := wds_takeMore hL
  subst hop
  simp only [numV, Int.toNat_natCast, workU, insU] at hA hB hmv ⊢
  generalize (L.getD A (false, 0)).2 = va at *
  generalize (L.getD B (false, 0)).2 = vb at *
  repeat (first | apply Wp.seq | apply Wp.skip | apply Wp.block | (apply Wp.op0; ((simp [M2.keep]) <;> rfl)) | ((first | apply Wp.op | apply Wp.opN | (apply Wp.opG; exact rfl)); (apply Evt.all; intro; (simp []) <;> (try simp (disch := omega) only [wrap_id]) <;> first | exact ⟨rfl, rfl⟩ | exact rfl)) | (apply Wp.opS; exact rfl; decide) | (apply Wp.opS0; exact rfl))
  refine Wp.draw (by (simp [c_step_work_do_D0, I.need]) <;> rfl) (by (simp [l48, dr, pf69, wplain]) <;> rfl) (by (simp [l48, dr, pf69, wplain]) <;> rfl) (by (unfold c_step_work_do_D0); (repeat (first | ((first | apply Dr.op | apply Dr.opN | (apply Dr.opG; exact rfl)); ((simp [l48, dr, pf69, wplain]) <;> rfl); (apply Evt.all; intro; (simp [l48, dr, pf69, wplain]) <;> (try simp (disch := omega) only [wrap_id]) <;> first | exact ⟨rfl, rfl⟩ | exact rfl); ((simp [I.need]) <;> rfl)) | ((first | (apply Dr.opS; exact rfl; decide) | (apply Dr.opS0; exact rfl)); ((simp [I.need]) <;> rfl)) | (apply Dr.call; ((simp [l48, dr, pf69, wplain]) <;> rfl); exact hA) | (apply Dr.callG; (exact rfl); ((simp [l48, dr, pf69, wplain]) <;> rfl); exact hA) | (apply Dr.call; ((simp [l48, dr, pf69, wplain]) <;> rfl); exact hB) | (apply Dr.callG; (exact rfl); ((simp [l48, dr, pf69, wplain]) <;> rfl); exact hB))); exact Dr.nil) (by first | decide +kernel | exact rfl) (by (simp [M2.keep]) <;> rfl) ?_
  repeat' (first | apply Wp.seq | apply Wp.skip | apply Wp.block | (apply Wp.op0; ((simp [M2.keep]) <;> rfl)) | ((first | (apply Wp.pickT; (exact rfl); (first | exact rfl | assumption)) | (apply Wp.pickF; (exact rfl); (first | exact rfl | assumption))); ((simp) <;> exact rfl)) | ((first | apply Wp.op | apply Wp.opN); (apply Evt.all; intro; (simp [l48, dr, sp, wrap_id]) <;> (try simp (disch := omega) only [wrap_id]) <;> first | exact ⟨rfl, rfl⟩ | exact rfl)) | (apply Wp.exit; repeat (first | rw [if_pos rfl] | rw [if_neg (by decide)])) | (first | (apply Wp.ung; (exact rfl); (first | exact rfl | assumption)) | (apply Wp.opSt; (exact rfl); (first | exact rfl | assumption)) | (apply Wp.opSf; (exact rfl); (first | exact rfl | assumption))) | (apply Wp.opS0; (exact rfl)) | (first | (apply Wp.condT; (exact rfl); (first | exact rfl | assumption)) | (apply Wp.condF; (exact rfl); (first | exact rfl | assumption))) | ((first | apply Wp.grdT | apply Wp.grdF | apply Wp.cond); (exact rfl); (intro); rotate_left 1; (intro); rotate_right 1))
  exact ⟨rfl, congrArg S.st (trimO_len rfl)⟩
set_option maxHeartbeats 16000000 in
theorem do_zero (q : Bool) (o1 o2 o3 : Ob) (s : Stt) (x : Ins) (ask : List Int) (hL : s.L.length = 24) (hd : locF 24 x.d = true) (ha : locF 24 x.a = true) (hb : locF 24 x.b = true) (hat : 0 ≤ s.at_ ∧ s.at_ ≤ 1000) (hop : x.op = 17) :
    Cl T n_step_work_do [.bp 3 0] [o1, o2, o3, .box (workU ⟨s, x, askU q ask, .nils, 0, 0⟩)] (.tup []) [o1, o2, o3, .box (workU ⟨{ s with at_ := if numV s x.a = 0 then x.to else s.at_ + 1 }, x, askU q ask, .nils, 0, 0⟩)] := by
  refine Wp.impure (fn := c_step_work_do) rfl rfl rfl ?_
  have hnum := fun D hD => number_call q o1 o2 o3 s x (ask.map fun v => [i64 v]) 0 0 hL D hD
  have wplain := wds_plain s.L
  have hmv := moves_call x
  have hm : movesF x = false := by simp [movesF]; omega
  rw [hm] at hmv
  obtain ⟨L, h, at_, asked⟩ := s
  obtain ⟨op, d, a, b, n, to⟩ := x
  simp only at *
  have hd0 := hd
  simp only [locF, Bool.and_eq_true, decide_eq_true_eq] at hd ha hb
  obtain ⟨A, rfl⟩ := Int.eq_ofNat_of_zero_le ha.1
  obtain ⟨B, rfl⟩ := Int.eq_ofNat_of_zero_le hb.1
  have hA := hnum A (by omega)
  have hB := hnum B (by omega)
  have l48 := wds48 hL
  have dr := wds_drop hL
  have sp := wds_splice hL
  have tk := wds_takeMore hL
  subst hop
  simp only [numV, Int.toNat_natCast, workU, insU] at hA hB hmv ⊢
  by_cases hh : (L.getD A (false, 0)).2 = 0
  · rw [if_pos hh]
    generalize (L.getD A (false, 0)).2 = va at *
    generalize (L.getD B (false, 0)).2 = vb at *
    have dh : (!decide (va = 0)) = false := by simp [hh]
    repeat (first | apply Wp.seq | apply Wp.skip | apply Wp.block | (apply Wp.op0; ((simp [M2.keep]) <;> rfl)) | ((first | apply Wp.op | apply Wp.opN | (apply Wp.opG; exact rfl)); (apply Evt.all; intro; (simp []) <;> (try simp (disch := omega) only [wrap_id]) <;> first | exact ⟨rfl, rfl⟩ | exact rfl)) | (apply Wp.opS; exact rfl; decide) | (apply Wp.opS0; exact rfl))
    refine Wp.draw (by (simp [c_step_work_do_D0, I.need]) <;> rfl) (by (simp [l48, dr, pf69, wplain]) <;> rfl) (by (simp [l48, dr, pf69, wplain]) <;> rfl) (by (unfold c_step_work_do_D0); (repeat (first | ((first | apply Dr.op | apply Dr.opN | (apply Dr.opG; exact rfl)); ((simp [l48, dr, pf69, wplain]) <;> rfl); (apply Evt.all; intro; (simp [l48, dr, pf69, wplain]) <;> (try simp (disch := omega) only [wrap_id]) <;> first | exact ⟨rfl, rfl⟩ | exact rfl); ((simp [I.need]) <;> rfl)) | ((first | (apply Dr.opS; exact rfl; decide) | (apply Dr.opS0; exact rfl)); ((simp [I.need]) <;> rfl)) | (apply Dr.call; ((simp [l48, dr, pf69, wplain]) <;> rfl); exact hA) | (apply Dr.callG; (exact rfl); ((simp [l48, dr, pf69, wplain]) <;> rfl); exact hA) | (apply Dr.call; ((simp [l48, dr, pf69, wplain]) <;> rfl); exact hB) | (apply Dr.callG; (exact rfl); ((simp [l48, dr, pf69, wplain]) <;> rfl); exact hB))); exact Dr.nil) (by first | decide +kernel | exact rfl) (by (simp [M2.keep]) <;> rfl) ?_
    repeat' (first | apply Wp.seq | apply Wp.skip | apply Wp.block | (apply Wp.op0; ((simp [M2.keep]) <;> rfl)) | ((first | (apply Wp.pickT; (exact rfl); (first | exact rfl | assumption)) | (apply Wp.pickF; (exact rfl); (first | exact rfl | assumption))); ((simp) <;> exact rfl)) | ((first | apply Wp.op | apply Wp.opN); (apply Evt.all; intro; (simp [l48, dr, sp, wrap_id]) <;> (try simp (disch := omega) only [wrap_id]) <;> first | exact ⟨rfl, rfl⟩ | exact rfl)) | (apply Wp.exit; repeat (first | rw [if_pos rfl] | rw [if_neg (by decide)])) | (first | (apply Wp.ung; (exact rfl); (first | exact rfl | assumption)) | (apply Wp.opSt; (exact rfl); (first | exact rfl | assumption)) | (apply Wp.opSf; (exact rfl); (first | exact rfl | assumption))) | (apply Wp.opS0; (exact rfl)) | (first | (apply Wp.condT; (exact rfl); (first | exact rfl | assumption)) | (apply Wp.condF; (exact rfl); (first | exact rfl | assumption))) | ((first | apply Wp.grdT | apply Wp.grdF | apply Wp.cond); (exact rfl); (intro); rotate_left 1; (intro); rotate_right 1))
    exact ⟨rfl, congrArg S.st (trimO_len rfl)⟩
  · rw [if_neg hh]
    generalize (L.getD A (false, 0)).2 = va at *
    generalize (L.getD B (false, 0)).2 = vb at *
    have dh : (!decide (va = 0)) = true := by simp [hh]
    repeat (first | apply Wp.seq | apply Wp.skip | apply Wp.block | (apply Wp.op0; ((simp [M2.keep]) <;> rfl)) | ((first | apply Wp.op | apply Wp.opN | (apply Wp.opG; exact rfl)); (apply Evt.all; intro; (simp []) <;> (try simp (disch := omega) only [wrap_id]) <;> first | exact ⟨rfl, rfl⟩ | exact rfl)) | (apply Wp.opS; exact rfl; decide) | (apply Wp.opS0; exact rfl))
    refine Wp.draw (by (simp [c_step_work_do_D0, I.need]) <;> rfl) (by (simp [l48, dr, pf69, wplain]) <;> rfl) (by (simp [l48, dr, pf69, wplain]) <;> rfl) (by (unfold c_step_work_do_D0); (repeat (first | ((first | apply Dr.op | apply Dr.opN | (apply Dr.opG; exact rfl)); ((simp [l48, dr, pf69, wplain]) <;> rfl); (apply Evt.all; intro; (simp [l48, dr, pf69, wplain]) <;> (try simp (disch := omega) only [wrap_id]) <;> first | exact ⟨rfl, rfl⟩ | exact rfl); ((simp [I.need]) <;> rfl)) | ((first | (apply Dr.opS; exact rfl; decide) | (apply Dr.opS0; exact rfl)); ((simp [I.need]) <;> rfl)) | (apply Dr.call; ((simp [l48, dr, pf69, wplain]) <;> rfl); exact hA) | (apply Dr.callG; (exact rfl); ((simp [l48, dr, pf69, wplain]) <;> rfl); exact hA) | (apply Dr.call; ((simp [l48, dr, pf69, wplain]) <;> rfl); exact hB) | (apply Dr.callG; (exact rfl); ((simp [l48, dr, pf69, wplain]) <;> rfl); exact hB))); exact Dr.nil) (by first | decide +kernel | exact rfl) (by (simp [M2.keep]) <;> rfl) ?_
    repeat' (first | apply Wp.seq | apply Wp.skip | apply Wp.block | (apply Wp.op0; ((simp [M2.keep]) <;> rfl)) | ((first | (apply Wp.pickT; (exact rfl); (first | exact rfl | assumption)) | (apply Wp.pickF; (exact rfl); (first | exact rfl | assumption))); ((simp) <;> exact rfl)) | ((first | apply Wp.op | apply Wp.opN); (apply Evt.all; intro; (simp [l48, dr, sp, wrap_id]) <;> (try simp (disch := omega) only [wrap_id]) <;> first | exact ⟨rfl, rfl⟩ | exact rfl)) | (apply Wp.exit; repeat (first | rw [if_pos rfl] | rw [if_neg (by decide)])) | (first | (apply Wp.ung; (exact rfl); (first | exact rfl | assumption)) | (apply Wp.opSt; (exact rfl); (first | exact rfl | assumption)) | (apply Wp.opSf; (exact rfl); (first | exact rfl | assumption))) | (apply Wp.opS0; (exact rfl)) | (first | (apply Wp.condT; (exact rfl); (first | exact rfl | assumption)) | (apply Wp.condF; (exact rfl); (first | exact rfl | assumption))) | ((first | apply Wp.grdT | apply Wp.grdF | apply Wp.cond); (exact rfl); (intro); rotate_left 1; (intro); rotate_right 1))
    exact ⟨rfl, congrArg S.st (trimO_len rfl)⟩
set_option maxHeartbeats 16000000 in
theorem do_mute (q : Bool) (o1 o2 o3 : Ob) (s : Stt) (x : Ins) (ask : List Int) (hL : s.L.length = 24) (hd : locF 24 x.d = true) (ha : locF 24 x.a = true) (hb : locF 24 x.b = true) (hat : 0 ≤ s.at_ ∧ s.at_ ≤ 1000) (hop : x.op = 15) (hask : (ask.length : Int) ≤ s.asked) :
    Cl T n_step_work_do [.bp 3 0] [o1, o2, o3, .box (workU ⟨s, x, askU q ask, .nils, 0, 0⟩)] (.tup []) [o1, o2, o3, .box (workU ⟨s, x, askU q ask, .nils, 5, 0⟩)] := by
  refine Wp.impure (fn := c_step_work_do) rfl rfl rfl ?_
  have hnum := fun D hD => number_call q o1 o2 o3 s x (ask.map fun v => [i64 v]) 0 0 hL D hD
  have wplain := wds_plain s.L
  have hmv := moves_call x
  have hm : movesF x = false := by simp [movesF]; omega
  rw [hm] at hmv
  obtain ⟨L, h, at_, asked⟩ := s
  obtain ⟨op, d, a, b, n, to⟩ := x
  simp only at *
  have hd0 := hd
  simp only [locF, Bool.and_eq_true, decide_eq_true_eq] at hd ha hb
  obtain ⟨A, rfl⟩ := Int.eq_ofNat_of_zero_le ha.1
  obtain ⟨B, rfl⟩ := Int.eq_ofNat_of_zero_le hb.1
  have hA := hnum A (by omega)
  have hB := hnum B (by omega)
  have l48 := wds48 hL
  have dr := wds_drop hL
  have sp := wds_splice hL
  have tk := wds_takeMore hL
  subst hop
  have hcl := fun arg => call_mute q o1 o2 o3 ⟨L, h, at_, asked⟩ ⟨15, d, A, B, n, to⟩ ask arg hL hask
  simp only [numV, Int.toNat_natCast, workU, insU] at hA hB hmv hcl ⊢
  generalize (L.getD A (false, 0)).2 = va at *
  generalize (L.getD B (false, 0)).2 = vb at *
  have hcl := hcl va
  repeat (first | apply Wp.seq | apply Wp.skip | apply Wp.block | (apply Wp.op0; ((simp [M2.keep]) <;> rfl)) | ((first | apply Wp.op | apply Wp.opN | (apply Wp.opG; exact rfl)); (apply Evt.all; intro; (simp []) <;> (try simp (disch := omega) only [wrap_id]) <;> first | exact ⟨rfl, rfl⟩ | exact rfl)) | (apply Wp.opS; exact rfl; decide) | (apply Wp.opS0; exact rfl))
  refine Wp.draw (by (simp [c_step_work_do_D0, I.need]) <;> rfl) (by (simp [l48, dr, pf69, wplain]) <;> rfl) (by (simp [l48, dr, pf69, wplain]) <;> rfl) (by (unfold c_step_work_do_D0); (repeat (first | ((first | apply Dr.op | apply Dr.opN | (apply Dr.opG; exact rfl)); ((simp [l48, dr, pf69, wplain]) <;> rfl); (apply Evt.all; intro; (simp [l48, dr, pf69, wplain]) <;> (try simp (disch := omega) only [wrap_id]) <;> first | exact ⟨rfl, rfl⟩ | exact rfl); ((simp [I.need]) <;> rfl)) | ((first | (apply Dr.opS; exact rfl; decide) | (apply Dr.opS0; exact rfl)); ((simp [I.need]) <;> rfl)) | (apply Dr.call; ((simp [l48, dr, pf69, wplain]) <;> rfl); exact hA) | (apply Dr.callG; (exact rfl); ((simp [l48, dr, pf69, wplain]) <;> rfl); exact hA) | (apply Dr.call; ((simp [l48, dr, pf69, wplain]) <;> rfl); exact hB) | (apply Dr.callG; (exact rfl); ((simp [l48, dr, pf69, wplain]) <;> rfl); exact hB))); exact Dr.nil) (by first | decide +kernel | exact rfl) (by (simp [M2.keep]) <;> rfl) ?_
  repeat' (first | apply Wp.seq | apply Wp.skip | apply Wp.block | (apply Wp.op0; ((simp [M2.keep]) <;> rfl)) | ((first | (apply Wp.pickT; (exact rfl); (first | exact rfl | assumption)) | (apply Wp.pickF; (exact rfl); (first | exact rfl | assumption))); ((simp) <;> exact rfl)) | ((first | apply Wp.op | apply Wp.opN); (apply Evt.all; intro; (simp [l48, dr, sp, wrap_id]) <;> (try simp (disch := omega) only [wrap_id]) <;> first | exact ⟨rfl, rfl⟩ | exact rfl)) | (apply Wp.call; exact hcl) | (apply Wp.exit; repeat (first | rw [if_pos rfl] | rw [if_neg (by decide)])) | (first | (apply Wp.ung; (exact rfl); (first | exact rfl | assumption)) | (apply Wp.opSt; (exact rfl); (first | exact rfl | assumption)) | (apply Wp.opSf; (exact rfl); (first | exact rfl | assumption))) | (apply Wp.opS0; (exact rfl)) | (first | (apply Wp.condT; (exact rfl); (first | exact rfl | assumption)) | (apply Wp.condF; (exact rfl); (first | exact rfl | assumption))) | ((first | apply Wp.grdT | apply Wp.grdF | apply Wp.cond); (exact rfl); (intro); rotate_left 1; (intro); rotate_right 1))
  exact ⟨rfl, congrArg S.st (trimO_len rfl)⟩
set_option maxHeartbeats 16000000 in
theorem do_told (q : Bool) (o1 o2 o3 : Ob) (s : Stt) (x : Ins) (ask : List Int) (hL : s.L.length = 24) (hd : locF 24 x.d = true) (ha : locF 24 x.a = true) (hb : locF 24 x.b = true) (hat : 0 ≤ s.at_ ∧ s.at_ ≤ 1000) (hop : x.op = 15) (k : Nat) (hk : s.asked = k) (hask : k < ask.length) (hlen : ask.length ≤ 100000) :
    Cl T n_step_work_do [.bp 3 0] [o1, o2, o3, .box (workU ⟨s, x, askU q ask, .nils, 0, 0⟩)] (.tup []) [o1, o2, o3, .box (workU ⟨{ setS s x.d (ask.getD k 0) with asked := k + 1, at_ := s.at_ + 1 }, x, askU q ask, .own 4 1, 0, 0⟩), .row 140 3 false [evtU x.n (numV s x.a) (ask.getD k 0)]] := by
  refine Wp.impure (fn := c_step_work_do) rfl rfl rfl ?_
  have hnum := fun D hD => number_call q o1 o2 o3 s x (ask.map fun v => [i64 v]) 0 0 hL D hD
  have wplain := wds_plain s.L
  have hmv := moves_call x
  have hm : movesF x = false := by simp [movesF]; omega
  rw [hm] at hmv
  obtain ⟨L, h, at_, asked⟩ := s
  obtain ⟨op, d, a, b, n, to⟩ := x
  simp only at *
  have hd0 := hd
  simp only [locF, Bool.and_eq_true, decide_eq_true_eq] at hd ha hb
  obtain ⟨A, rfl⟩ := Int.eq_ofNat_of_zero_le ha.1
  obtain ⟨B, rfl⟩ := Int.eq_ofNat_of_zero_le hb.1
  have hA := hnum A (by omega)
  have hB := hnum B (by omega)
  have l48 := wds48 hL
  have dr := wds_drop hL
  have sp := wds_splice hL
  have tk := wds_takeMore hL
  subst hop
  have hcl := fun arg => call_told q o1 o2 o3 ⟨L, h, at_, asked⟩ ⟨15, d, A, B, n, to⟩ ask arg hL hd0 k hk hask hlen
  have hL2 : (setS ⟨L, h, at_, asked⟩ d (ask.getD k 0)).L.length = 24 := by simp [setS, hL]
  have l48' := wds48 hL2
  have dr' := wds_drop hL2
  have sp' := wds_splice hL2
  have hkept := fun va => trim_kept (st := [o1, o2, o3, .box (workU ⟨{ setS ⟨L, h, at_, asked⟩ d (ask.getD k 0) with asked := k + 1, at_ := at_ + 1 }, ⟨15, d, A, B, n, to⟩, askU q ask, .own 4 1, 0, 0⟩), .row 140 3 false [evtU n va (ask.getD k 0)]]) (e := [(0, .tup [])]) (i := 3) (L := 4) rfl (by simp) (work_own _ _ _ _ _)
  simp only [numV, Int.toNat_natCast, workU, insU, setS] at hA hB hmv hcl l48' dr' sp' hkept ⊢
  generalize (L.getD A (false, 0)).2 = va at *
  generalize (L.getD B (false, 0)).2 = vb at *
  have hcl := hcl va
  have hkept := hkept va
  generalize ask.getD k 0 = v at *
  repeat (first | apply Wp.seq | apply Wp.skip | apply Wp.block | (apply Wp.op0; ((simp [M2.keep]) <;> rfl)) | ((first | apply Wp.op | apply Wp.opN | (apply Wp.opG; exact rfl)); (apply Evt.all; intro; (simp []) <;> (try simp (disch := omega) only [wrap_id]) <;> first | exact ⟨rfl, rfl⟩ | exact rfl)) | (apply Wp.opS; exact rfl; decide) | (apply Wp.opS0; exact rfl))
  refine Wp.draw (by (simp [c_step_work_do_D0, I.need]) <;> rfl) (by (simp [l48, dr, pf69, wplain]) <;> rfl) (by (simp [l48, dr, pf69, wplain]) <;> rfl) (by (unfold c_step_work_do_D0); (repeat (first | ((first | apply Dr.op | apply Dr.opN | (apply Dr.opG; exact rfl)); ((simp [l48, dr, pf69, wplain]) <;> rfl); (apply Evt.all; intro; (simp [l48, dr, pf69, wplain]) <;> (try simp (disch := omega) only [wrap_id]) <;> first | exact ⟨rfl, rfl⟩ | exact rfl); ((simp [I.need]) <;> rfl)) | ((first | (apply Dr.opS; exact rfl; decide) | (apply Dr.opS0; exact rfl)); ((simp [I.need]) <;> rfl)) | (apply Dr.call; ((simp [l48, dr, pf69, wplain]) <;> rfl); exact hA) | (apply Dr.callG; (exact rfl); ((simp [l48, dr, pf69, wplain]) <;> rfl); exact hA) | (apply Dr.call; ((simp [l48, dr, pf69, wplain]) <;> rfl); exact hB) | (apply Dr.callG; (exact rfl); ((simp [l48, dr, pf69, wplain]) <;> rfl); exact hB))); exact Dr.nil) (by first | decide +kernel | exact rfl) (by (simp [M2.keep]) <;> rfl) ?_
  repeat' (first | apply Wp.seq | apply Wp.skip | apply Wp.block | (apply Wp.op0; ((simp [M2.keep]) <;> rfl)) | ((first | (apply Wp.pickT; (exact rfl); (first | exact rfl | assumption)) | (apply Wp.pickF; (exact rfl); (first | exact rfl | assumption))); ((simp) <;> exact rfl)) | ((first | apply Wp.op | apply Wp.opN); (apply Evt.all; intro; (simp [l48, dr, l48', dr', sp', wrap_id]) <;> (try simp (disch := omega) only [wrap_id]) <;> first | exact ⟨rfl, rfl⟩ | exact rfl)) | (apply Wp.call; exact hcl) | (apply Wp.exit; repeat (first | rw [if_pos rfl] | rw [if_neg (by decide)])) | (first | (apply Wp.ung; (exact rfl); (first | exact rfl | assumption)) | (apply Wp.opSt; (exact rfl); (first | exact rfl | assumption)) | (apply Wp.opSf; (exact rfl); (first | exact rfl | assumption))) | (apply Wp.opS0; (exact rfl)) | (first | (apply Wp.condT; (exact rfl); (first | exact rfl | assumption)) | (apply Wp.condF; (exact rfl); (first | exact rfl | assumption))) | ((first | apply Wp.grdT | apply Wp.grdF | apply Wp.cond); (exact rfl); (intro); rotate_left 1; (intro); rotate_right 1))
  exact ⟨rfl, congrArg S.st hkept⟩
end Go.Proofs.YtbmlnfceanfbmaaDoor.M2
/- What the functions answer in M2. A step, done: what it comes to. -/
namespace Go.Proofs.YtbmlnfceanfbmaaDoor.M2
open Go
attribute [local simp] ev1 M2.get put A.ev ld sub part elems bin arith un opt idx fillC cellsO splice over newOb sto fillR laidOwn appTo appRow touch touchN touchM touchE touchA plainU flatU plainAs allM rowAt stoRow accM_nil accM_cons accMM_nil accMM_cons frz_int frz_bool frz_str frz_slt frz_nils frz_nilI frz_nilF frz_own frzRow_row frzRow_frow Ob.blw blw_bool blw_int blw_str blw_nils blw_nilI blw_nilF blw_nilp blw_nilm blw_sl blw_own blw_bp blw_rp blw_mp blw_it params
attribute [local simp] frz_agg frz_tup frz_iface frzS_agg frzS_iface accMS_cons frzS_int frzS_bool frzS_str frzS_slt frzS_nils frzS_nilI beq_dec bne_dec
structure StepR where
  s : Stt
  ev : Option (Int × Int × Int)
  how : Int
  val : Int
def useOK (L : List Wd) (us : List Int) : Bool := us.all fun u => (L.getD u.toNat (false, 0)).1
def doAllF (s : Stt) (x : Ins) (ask : List Int) : StepR :=
  if x.op = 13 then (if (loadF s.h (numV s x.a)).2 = 0 then ⟨{ setS s x.d (loadF s.h (numV s x.a)).1 with at_ := s.at_ + 1 }, none, 0, 0⟩ else ⟨s, none, (loadF s.h (numV s x.a)).2, 0⟩)
  else if x.op = 14 then (if (storeF s.h (numV s x.a) (numV s x.b)).2 = 0 then ⟨{ s with h := (storeF s.h (numV s x.a) (numV s x.b)).1, at_ := s.at_ + 1 }, none, 0, 0⟩ else ⟨s, none, (storeF s.h (numV s x.a) (numV s x.b)).2, 0⟩)
  else if x.op = 15 then (if (ask.length : Int) ≤ s.asked then ⟨s, none, 5, 0⟩ else ⟨{ setS s x.d (ask.getD s.asked.toNat 0) with asked := s.asked + 1, at_ := s.at_ + 1 }, some (x.n, numV s x.a, ask.getD s.asked.toNat 0), 0, 0⟩)
  else if x.op = 18 then ⟨s, none, 1, numV s x.a⟩
  else if x.op = 17 then ⟨{ s with at_ := if numV s x.a = 0 then x.to else s.at_ + 1 }, none, 0, 0⟩
  else if (numF x.op (numV s x.a) (numV s x.b)).2 = 0 then ⟨{ setS s x.d (numF x.op (numV s x.a) (numV s x.b)).1 with at_ := s.at_ + 1 }, none, 0, 0⟩ else ⟨s, none, (numF x.op (numV s x.a) (numV s x.b)).2, 0⟩
theorem doAll_len (s : Stt) (x : Ins) (ask : List Int) (hL : s.L.length = 24) : (doAllF s x ask).s.L.length = 24 := by
  unfold doAllF
  split
  · split <;> simp [setS, hL]
  · split
    · split <;> simp [hL]
    · split
      · split <;> simp [setS, hL]
      · split
        · simp [hL]
        · split
          · simp [hL]
          · split <;> simp [setS, hL]
def evRow : Option (Int × Int × Int) → List Ob
  | none => []
  | some e => [.row 140 3 false [evtU e.1 e.2.1 e.2.2]]
def evCell : Option (Int × Int × Int) → U
  | none => .nils
  | some _ => .own 4 1
theorem do_call (q : Bool) (o1 o2 o3 : Ob) (s : Stt) (x : Ins) (ask : List Int) (hL : s.L.length = 24) (hd : locF 24 x.d = true) (ha : locF 24 x.a = true) (hb : locF 24 x.b = true) (hat : 0 ≤ s.at_ ∧ s.at_ ≤ 1000) (hop : 4 ≤ x.op ∧ x.op ≤ 18 ∧ ¬ x.op = 16) (hask : 0 ≤ s.asked) (hlen : ask.length ≤ 100000) :
    Cl T n_step_work_do [.bp 3 0] [o1, o2, o3, .box (workU ⟨s, x, askU q ask, .nils, 0, 0⟩)] (.tup []) (o1 :: o2 :: o3 :: .box (workU ⟨(doAllF s x ask).s, x, askU q ask, evCell (doAllF s x ask).ev, (doAllF s x ask).how, (doAllF s x ask).val⟩) :: evRow (doAllF s x ask).ev) := by
  unfold doAllF
  by_cases h13 : x.op = 13
  · have := do_load q o1 o2 o3 s x ask hL hd ha hb hat h13
    rw [if_pos h13]
    split
    · rename_i h; rw [if_pos h, h] at this; exact this
    · rename_i h; rw [if_neg h] at this; exact this
  rw [if_neg h13]
  by_cases h14 : x.op = 14
  · have := do_store q o1 o2 o3 s x ask hL hd ha hb hat h14
    rw [if_pos h14]
    split
    · rename_i h; rw [if_pos h, h] at this; exact this
    · rename_i h; rw [if_neg h] at this; exact this
  rw [if_neg h14]
  by_cases h15 : x.op = 15
  · rw [if_pos h15]
    split
    · rename_i h
      exact do_mute q o1 o2 o3 s x ask hL hd ha hb hat h15 h
    · rename_i h
      obtain ⟨k, hk⟩ := Int.eq_ofNat_of_zero_le hask
      have := do_told q o1 o2 o3 s x ask hL hd ha hb hat h15 k hk (by omega) hlen
      have e1 : s.asked.toNat = k := by omega
      rw [e1, hk]
      exact this
  rw [if_neg h15]
  by_cases h18 : x.op = 18
  · rw [if_pos h18]
    exact do_ret q o1 o2 o3 s x ask hL hd ha hb hat h18
  rw [if_neg h18]
  by_cases h17 : x.op = 17
  · rw [if_pos h17]
    exact do_zero q o1 o2 o3 s x ask hL hd ha hb hat h17
  rw [if_neg h17]
  have := do_num q o1 o2 o3 s x ask hL hd ha hb hat (by omega)
  split
  · rename_i h; rw [if_pos h, h] at this; exact this
  · rename_i h; rw [if_neg h] at this; exact this
def doneU (r : StepR) : U := .tup [.agg (stU true r.s), .sl true (r.ev.toList.map fun e => evtU e.1 e.2.1 e.2.2), .agg [i64 r.how, i64 r.val, heapU true (if r.how = 1 then r.s.h else [])], i64 0]
def Z51 : List U := wdsU Z24 ++ [.nils, i64 0, i64 0]
def ulS (s : Stt) (w : Work) (us : List Int) (i : Nat) : S := ⟨[(4, .bp 0 0), (6, .bp 1 0), (8, .bp 2 0), (10, .bp 3 0), (34, intsU us), (35, i64 (us.length : Nat)), (36, i64 i)], [.box (stU true s), .box Z51, .box [i64 0, i64 0, .nils], .box (workU w)]⟩
theorem useOK_drop {L : List Wd} {us : List Int} {i : Nat} (hi : i < us.length) : useOK L (us.drop i) = ((L.getD us[i].toNat (false, 0)).1 && useOK L (us.drop (i + 1))) := by
  rw [List.drop_eq_getElem_cons hi]
  rfl
theorem accStt (st : List Ob) (s : Stt) : accM (frz 10) st (wdsU s.L ++ [heapU true s.h, i64 s.at_, i64 s.asked]) = some (wdsU s.L ++ [heapU true s.h, i64 s.at_, i64 s.asked], st) := accWds 9 st _ _ _ rfl s.L
set_option maxHeartbeats 16000000 in
theorem uses_loop (q : Bool) (s : Stt) (hL : s.L.length = 24) (x : Ins) (ask : List Int) (us : List Int) (hus : ∀ u ∈ us, locF 24 u = true) (hlen : us.length ≤ 100) :
    Wp T (.loop c_step_Do_L1) (ulS s ⟨s, x, askU q ask, .nils, 0, 0⟩ us 0) (fun _ => False) (fun s' => useOK s.L us = false ∧ Res c_step_Do (doneU ⟨s, none, 2, 0⟩) s')
      (fun b s' => b = 0 ∧ useOK s.L us = true ∧ s' = ⟨[(4, .bp 0 0), (6, .bp 1 0), (8, .bp 2 0), (10, .bp 3 0), (34, intsU us), (35, i64 (us.length : Nat)), (36, i64 (us.length : Nat)), (37, .bool false)], [.box (stU true s), .box Z51, .box [i64 0, i64 0, .nils], .box (workU ⟨s, x, askU q ask, .nils, 0, 0⟩)]⟩) := by
  refine Wp.count us.length (fun i => ulS s ⟨s, x, askU q ask, .nils, 0, 0⟩ us i) (fun i => useOK s.L us = useOK s.L (us.drop i)) (fun i hi hP => ?_) (fun hP => ?_) 0 (by omega) rfl
  · have hi' : (i : Int) < us.length := by omega
    have eg : us[i]? = some us[i] := List.getElem?_eq_getElem hi
    rw [useOK_drop hi] at hP
    have hu := hus _ (List.getElem_mem hi)
    generalize us[i] = u at *
    simp only [locF, Bool.and_eq_true, decide_eq_true_eq] at hu
    obtain ⟨D, rfl⟩ := Int.eq_ofNat_of_zero_le hu.1
    simp only [Int.toNat_natCast] at hP
    have hD : D < s.L.length := by omega
    have hD' : (D : Int) < 24 := hu.2
    have l48 := wds48 hL
    have g0 := wds_get0 s.L D hD
    have gd : s.L.getD D (false, 0) = s.L[D] := by simp [hD]
    rw [gd] at hP
    have hle : D * 2 + 1 ≤ 51 := by omega
    have hle2 : D * 2 ≤ 50 := by omega
    have dr := wds_drop hL
    have tk := wds_takeMore hL
    have lz : Z51.length = 51 := rfl
    have hz := accStt
    obtain ⟨L, h, at_, asked⟩ := s
    simp only at *
    generalize L[D] = w at *
    obtain ⟨b, v⟩ := w
    simp only [ulS, stU, workU]
    repeat (first | apply Wp.seq | apply Wp.skip | apply Wp.block | (apply Wp.op0; ((simp [M2.keep]) <;> rfl)) | ((first | apply Wp.op | apply Wp.opN | (apply Wp.opG; exact rfl)); (apply Evt.all; intro; (simp [hi']) <;> (try simp (disch := omega) only [wrap_id]) <;> first | exact ⟨rfl, rfl⟩ | exact rfl)) | (apply Wp.opS; exact rfl; decide) | (apply Wp.opS0; exact rfl))
    refine Wp.cond (by first | rfl | (simp; rfl)) (fun h1 => ?_) (fun h1 => ?_)
    · cases b with
      | true =>
        repeat' (first | apply Wp.seq | apply Wp.skip | apply Wp.block | (apply Wp.op0; ((simp [M2.keep]) <;> rfl)) | ((first | (apply Wp.pickT; (exact rfl); (first | exact rfl | assumption)) | (apply Wp.pickF; (exact rfl); (first | exact rfl | assumption))); ((simp) <;> exact rfl)) | ((first | apply Wp.op | apply Wp.opN); (apply Evt.all; intro; (simp [hi', eg, hD', l48, g0, hle, hle2]) <;> (try simp (disch := omega) only [wrap_id]) <;> first | exact ⟨rfl, rfl⟩ | exact rfl)) | (first | (apply Wp.ung; (exact rfl); (first | exact rfl | assumption)) | (apply Wp.opSt; (exact rfl); (first | exact rfl | assumption)) | (apply Wp.opSf; (exact rfl); (first | exact rfl | assumption))) | (apply Wp.opS0; (exact rfl)) | (first | (apply Wp.condT; (exact rfl); (first | exact rfl | assumption)) | (apply Wp.condF; (exact rfl); (first | exact rfl | assumption))) | ((first | apply Wp.grdT | apply Wp.grdF | apply Wp.cond); (exact rfl); (intro); rotate_left 1; (intro); rotate_right 1))
        repeat (first | apply Wp.seq | apply Wp.skip | apply Wp.block | (apply Wp.op0; ((simp [M2.keep]) <;> rfl)) | ((first | apply Wp.op | apply Wp.opN | (apply Wp.opG; exact rfl)); (apply Evt.all; intro; (simp [wrap_id]) <;> (try simp (disch := omega) only [wrap_id]) <;> first | exact ⟨rfl, rfl⟩ | exact rfl)) | (apply Wp.opS; exact rfl; decide) | (apply Wp.opS0; exact rfl))
        refine ⟨trimO_len rfl, ?_⟩
        simpa using hP
      | false =>
        repeat' (first | apply Wp.seq | apply Wp.skip | apply Wp.block | (apply Wp.op0; ((simp [M2.keep]) <;> rfl)) | ((first | (apply Wp.pickT; (exact rfl); (first | exact rfl | assumption)) | (apply Wp.pickF; (exact rfl); (first | exact rfl | assumption))); ((simp) <;> exact rfl)) | ((first | apply Wp.op | apply Wp.opN); (apply Evt.all; intro; (simp [hi', eg, hD', l48, g0, hle, hle2, dr, tk, lz, over_full]) <;> (try simp (disch := omega) only [wrap_id]) <;> first | exact ⟨rfl, rfl⟩ | exact rfl)) | (first | (apply Wp.ung; (exact rfl); (first | exact rfl | assumption)) | (apply Wp.opSt; (exact rfl); (first | exact rfl | assumption)) | (apply Wp.opSf; (exact rfl); (first | exact rfl | assumption))) | (apply Wp.opS0; (exact rfl)) | (first | (apply Wp.condT; (exact rfl); (first | exact rfl | assumption)) | (apply Wp.condF; (exact rfl); (first | exact rfl | assumption))) | ((first | apply Wp.grdT | apply Wp.grdF | apply Wp.cond); (exact rfl); (intro); rotate_left 1; (intro); rotate_right 1))
        refine Wp.ret ⟨by simpa using hP, ?_⟩
        have hz2 := fun st => hz st ⟨L, h, at_, asked⟩
        simp only [heapU] at hz2
        simp [Res, resU, res1, c_step_Do, l48, tk, hz2, doneU, stU, heapU]
    · cases h1
  · simp only [ulS]
    repeat (first | apply Wp.seq | apply Wp.skip | apply Wp.block | (apply Wp.op0; ((simp [M2.keep]) <;> rfl)) | ((first | apply Wp.op | apply Wp.opN | (apply Wp.opG; exact rfl)); (apply Evt.all; intro; (simp []) <;> (try simp (disch := omega) only [wrap_id]) <;> first | exact ⟨rfl, rfl⟩ | exact rfl)) | (apply Wp.opS; exact rfl; decide) | (apply Wp.opS0; exact rfl))
    refine Wp.cond (by first | rfl | (simp; rfl)) (fun h1 => ?_) (fun h1 => ?_)
    · simp at h1
    · refine Wp.exit ⟨rfl, ?_, rfl⟩
      rw [hP, List.drop_eq_nil_of_le (Nat.le_refl _)]
      rfl
end Go.Proofs.YtbmlnfceanfbmaaDoor.M2
/- What the functions answer in M2. A step. -/
namespace Go.Proofs.YtbmlnfceanfbmaaDoor.M2
open Go
attribute [local simp] ev1 M2.get put A.ev ld sub part elems bin arith un opt idx fillC cellsO splice over newOb sto fillR laidOwn appTo appRow touch touchN touchM touchE touchA plainU flatU plainAs allM rowAt stoRow accM_nil accM_cons accMM_nil accMM_cons frz_int frz_bool frz_str frz_slt frz_nils frz_nilI frz_nilF frz_own frzRow_row frzRow_frow Ob.blw blw_bool blw_int blw_str blw_nils blw_nilI blw_nilF blw_nilp blw_nilm blw_sl blw_own blw_bp blw_rp blw_mp blw_it params
attribute [local simp] frz_agg frz_tup frz_iface frzS_agg frzS_iface accMS_cons frzS_int frzS_bool frzS_str frzS_slt frzS_nils frzS_nilI beq_dec bne_dec
set_option maxHeartbeats 32000000 in
theorem step_gen (q : Bool) (p : Bool) (l : List Ins) (s : Stt) (hL : s.L.length = 24) (hs : sttF l s = true) (x : Ins) (hx : l[s.at_.toNat]? = some x) (ask : List Int) (us : List Int) (hus : ∀ st, Cl T n_ins_Uses [.agg (insU x)] st (intsU us) st) (hloc : ∀ u ∈ us, locF 24 u = true) (hul : us.length ≤ 100) (r : StepR)
    (hdo : useOK s.L us = true → ∀ o1 o2 o3, Cl T n_step_work_do [.bp 3 0] [o1, o2, o3, .box (workU ⟨s, x, askU q ask, .nils, 0, 0⟩)] (.tup []) (o1 :: o2 :: o3 :: .box (workU ⟨r.s, x, askU q ask, evCell r.ev, r.how, r.val⟩) :: evRow r.ev))
    (hrL : r.s.L.length = 24) (hrh : r.s.h.length ≤ 1000) (hev : r.ev.isSome = true → r.how = 0) (AK : U) (st : List Ob) (hAK : brw frzD st AK = some (askU q ask)) :
    Cl T n_step_Do [insL p l, .agg (stU true s), AK] st (doneU (if useOK s.L us then r else ⟨s, none, 2, 0⟩)) st := by
  have hbr := brw_stt st true s
  refine Wp.pure (fn := c_step_Do) rfl rfl rfl («as» := [insL p l, .agg (stU true s), askU q ask]) (by simp [hbr, hAK, insL]; rfl) ?_
  have hsr := stepRight_call p true l s hL
  rw [hs] at hsr
  have hown := own_call true s hL (by simp [sttF] at hs; omega)
  have hat : 0 ≤ s.at_ ∧ s.at_ < l.length := by simp [sttF] at hs; omega
  have hlp := uses_loop q s hL x ask us hloc hul
  obtain ⟨L, h, at_, asked⟩ := s
  obtain ⟨xop, xd, xa, xb, xn, xto⟩ := x
  obtain ⟨⟨L', h', at', asked'⟩, ev, how, val⟩ := r
  simp only at *
  obtain ⟨a, rfl⟩ := Int.eq_ofNat_of_zero_le hat.1
  simp only [Int.toNat_natCast] at hx
  have ha' : (a : Int) < l.length := hat.2
  have l48 := wds48 hL
  have dr := wds_drop hL
  have sp := wds_splice hL
  have tk := wds_takeMore hL
  have l48' := wds48 hrL
  have dr' := wds_drop hrL
  have sp' := wds_splice hrL
  have tk' := wds_takeMore hrL
  have op := fun (r cs : List U) (hc : 48 + r.length ≤ cs.length) => over_part (wdsU L ++ r) cs (by rw [List.length_append, l48]; exact hc)
  have hpl := plain_stt L h (a : Int) asked
  have hzs := fun st => accStt st ⟨L', h', at', asked'⟩
  simp only at hzs
  simp only [workU, stU] at hdo hsr hown ⊢
  repeat' (first | apply Wp.seq | apply Wp.skip | apply Wp.block | (apply Wp.op0; ((simp [M2.keep]) <;> rfl)) | ((first | (apply Wp.pickT; (exact rfl); (first | exact rfl | assumption)) | (apply Wp.pickF; (exact rfl); (first | exact rfl | assumption))); ((simp) <;> exact rfl)) | ((first | apply Wp.op | apply Wp.opN); (apply Evt.all; intro; (simp [l48, dr, tk]) <;> (try simp (disch := omega) only [wrap_id]) <;> first | exact ⟨rfl, rfl⟩ | exact rfl)) | (apply Wp.call; exact hsr _) | (first | (apply Wp.ung; (exact rfl); (first | exact rfl | assumption)) | (apply Wp.opSt; (exact rfl); (first | exact rfl | assumption)) | (apply Wp.opSf; (exact rfl); (first | exact rfl | assumption))) | (apply Wp.opS0; (exact rfl)) | (first | (apply Wp.condT; (exact rfl); (first | exact rfl | assumption)) | (apply Wp.condF; (exact rfl); (first | exact rfl | assumption))) | ((first | apply Wp.grdT | apply Wp.grdF | apply Wp.cond); (exact rfl); (intro); rotate_left 1; (intro); rotate_right 1))
  refine Wp.draw (by (simp [c_step_Do_D0, I.need]) <;> rfl) (by (simp [l48, dr, tk, insL, ha', hx, insU, op, sp, pf55, -plainU, hpl]) <;> rfl) (by (simp [l48, dr, tk, insL, ha', hx, insU, op, sp, pf55, -plainU, hpl]) <;> rfl) (by (unfold c_step_Do_D0); (repeat (first | ((first | apply Dr.op | apply Dr.opN | (apply Dr.opG; exact rfl)); ((simp [l48, dr, tk, insL, ha', hx, insU, op, sp, pf55, -plainU, hpl]) <;> rfl); (apply Evt.all; intro; (simp [l48, dr, tk, insL, ha', hx, insU, op, sp, pf55, -plainU, hpl]) <;> (try simp (disch := omega) only [wrap_id]) <;> first | exact ⟨rfl, rfl⟩ | exact rfl); ((simp [I.need]) <;> rfl)) | ((first | (apply Dr.opS; exact rfl; decide) | (apply Dr.opS0; exact rfl)); ((simp [I.need]) <;> rfl)) | (apply Dr.call; ((simp [l48, dr, tk, insL, ha', hx, insU, op, sp, pf55, -plainU, hpl]) <;> rfl); exact hown _) | (apply Dr.callG; (exact rfl); ((simp [l48, dr, tk, insL, ha', hx, insU, op, sp, pf55, -plainU, hpl]) <;> rfl); exact hown _))); exact Dr.nil) (by first | decide +kernel | exact rfl) (by (simp [M2.keep]) <;> rfl) ?_
  repeat' (first | apply Wp.seq | apply Wp.skip | apply Wp.block | (apply Wp.op0; ((simp [M2.keep]) <;> rfl)) | ((first | (apply Wp.pickT; (exact rfl); (first | exact rfl | assumption)) | (apply Wp.pickF; (exact rfl); (first | exact rfl | assumption))); ((simp) <;> exact rfl)) | ((first | apply Wp.op | apply Wp.opN); (apply Evt.all; intro; (simp [l48, dr]) <;> (try simp (disch := omega) only [wrap_id]) <;> first | exact ⟨rfl, rfl⟩ | exact rfl)) | (apply Wp.call; exact hus _) | (first | (apply Wp.ung; (exact rfl); (first | exact rfl | assumption)) | (apply Wp.opSt; (exact rfl); (first | exact rfl | assumption)) | (apply Wp.opSf; (exact rfl); (first | exact rfl | assumption))) | (apply Wp.opS0; (exact rfl)) | (first | (apply Wp.condT; (exact rfl); (first | exact rfl | assumption)) | (apply Wp.condF; (exact rfl); (first | exact rfl | assumption))) | ((first | apply Wp.grdT | apply Wp.grdF | apply Wp.cond); (exact rfl); (intro); rotate_left 1; (intro); rotate_right 1))
  refine (show Wp T (.loop c_step_Do_L1) (ulS ⟨L, h, a, asked⟩ ⟨⟨L, h, a, asked⟩, ⟨xop, xd, xa, xb, xn, xto⟩, askU q ask, .nils, 0, 0⟩ us 0) _ _ _ from hlp.imp (fun _ h => h.elim) ?_ ?_)
  · rintro s2 ⟨e, hR⟩
    rw [e]
    exact hR
  rintro b s2 ⟨rfl, e, rfl⟩
  rw [if_pos rfl, e]
  have hdo := hdo e
  have lz : Z51.length = 51 := rfl
  simp only [if_true, doneU, workU, stU]
  cases ev with
  | none =>
    simp only [evCell, evRow] at hdo
    repeat' (first | apply Wp.seq | apply Wp.skip | apply Wp.block | (apply Wp.op0; ((simp [M2.keep]) <;> rfl)) | ((first | (apply Wp.pickT; (exact rfl); (first | exact rfl | assumption)) | (apply Wp.pickF; (exact rfl); (first | exact rfl | assumption))); ((simp) <;> exact rfl)) | ((first | apply Wp.op | apply Wp.opN); (apply Evt.all; intro; (simp []) <;> (try simp (disch := omega) only [wrap_id]) <;> first | exact ⟨rfl, rfl⟩ | exact rfl)) | (apply Wp.call; exact hdo _ _ _) | (first | (apply Wp.ung; (exact rfl); (first | exact rfl | assumption)) | (apply Wp.opSt; (exact rfl); (first | exact rfl | assumption)) | (apply Wp.opSf; (exact rfl); (first | exact rfl | assumption))) | (apply Wp.opS0; (exact rfl)) | (first | (apply Wp.condT; (exact rfl); (first | exact rfl | assumption)) | (apply Wp.condF; (exact rfl); (first | exact rfl | assumption))) | ((first | apply Wp.grdT | apply Wp.grdF | apply Wp.cond); (exact rfl); (intro); rotate_left 1; (intro); rotate_right 1))
    refine Wp.draw (by (simp [c_step_Do_D2, I.need]) <;> rfl) (by (simp [l48', dr', over_full]) <;> rfl) (by (simp [l48', dr', over_full]) <;> rfl) (by (unfold c_step_Do_D2); (repeat (first | ((first | apply Dr.op | apply Dr.opN | (apply Dr.opG; exact rfl)); ((simp [l48', dr', over_full]) <;> rfl); (apply Evt.all; intro; (simp [l48', dr', over_full]) <;> (try simp (disch := omega) only [wrap_id]) <;> first | exact ⟨rfl, rfl⟩ | exact rfl); ((simp [I.need]) <;> rfl)) | ((first | (apply Dr.opS; exact rfl; decide) | (apply Dr.opS0; exact rfl)); ((simp [I.need]) <;> rfl)))); exact Dr.nil) (by first | decide +kernel | exact rfl) (by (simp [M2.keep]) <;> rfl) ?_
    by_cases hh : how = 1
    · have dh : decide (how = 1) = true := decide_eq_true hh
      rw [if_pos hh]
      repeat' (first | apply Wp.seq | apply Wp.skip | apply Wp.block | (apply Wp.op0; ((simp [M2.keep]) <;> rfl)) | ((first | (apply Wp.pickT; (exact rfl); (first | exact rfl | assumption)) | (apply Wp.pickF; (exact rfl); (first | exact rfl | assumption))); ((simp) <;> exact rfl)) | ((first | apply Wp.op | apply Wp.opN); (apply Evt.all; intro; (simp [l48', dr']) <;> (try simp (disch := omega) only [wrap_id]) <;> first | exact ⟨rfl, rfl⟩ | exact rfl)) | (first | (apply Wp.ung; (exact rfl); (first | exact rfl | assumption)) | (apply Wp.opSt; (exact rfl); (first | exact rfl | assumption)) | (apply Wp.opSf; (exact rfl); (first | exact rfl | assumption))) | (apply Wp.opS0; (exact rfl)) | (first | (apply Wp.condT; (exact rfl); (first | exact rfl | assumption)) | (apply Wp.condF; (exact rfl); (first | exact rfl | assumption))) | ((first | apply Wp.grdT | apply Wp.grdF | apply Wp.cond); (exact rfl); (intro); rotate_left 1; (intro); rotate_right 1))
      refine Wp.op (Evt.all fun n => app_ints _ _ _ 5 true h' hrh _ _ rfl rfl rfl _) ?_
      repeat' (first | apply Wp.seq | apply Wp.skip | apply Wp.block | (apply Wp.op0; ((simp [M2.keep]) <;> rfl)) | ((first | (apply Wp.pickT; (exact rfl); (first | exact rfl | assumption)) | (apply Wp.pickF; (exact rfl); (first | exact rfl | assumption))); ((simp) <;> exact rfl)) | ((first | apply Wp.op | apply Wp.opN); (apply Evt.all; intro; (simp [l48', dr']) <;> (try simp (disch := omega) only [wrap_id]) <;> first | exact ⟨rfl, rfl⟩ | exact rfl)) | (first | (apply Wp.ung; (exact rfl); (first | exact rfl | assumption)) | (apply Wp.opSt; (exact rfl); (first | exact rfl | assumption)) | (apply Wp.opSf; (exact rfl); (first | exact rfl | assumption))) | (apply Wp.opS0; (exact rfl)) | (first | (apply Wp.condT; (exact rfl); (first | exact rfl | assumption)) | (apply Wp.condF; (exact rfl); (first | exact rfl | assumption))) | ((first | apply Wp.grdT | apply Wp.grdF | apply Wp.cond); (exact rfl); (intro); rotate_left 1; (intro); rotate_right 1))
      refine Wp.draw (by (simp [c_step_Do_D3, I.need]) <;> rfl) (by (simp [l48', dr', tk', lz, over_full]) <;> rfl) (by (simp [l48', dr', tk', lz, over_full]) <;> rfl) (by (unfold c_step_Do_D3); (repeat (first | ((first | apply Dr.op | apply Dr.opN | (apply Dr.opG; exact rfl)); ((simp [l48', dr', tk', lz, over_full]) <;> rfl); (apply Evt.all; intro; (simp [l48', dr', tk', lz, over_full]) <;> (try simp (disch := omega) only [wrap_id]) <;> first | exact ⟨rfl, rfl⟩ | exact rfl); ((simp [I.need]) <;> rfl)) | ((first | (apply Dr.opS; exact rfl; decide) | (apply Dr.opS0; exact rfl)); ((simp [I.need]) <;> rfl)))); exact Dr.nil) (by first | decide +kernel | exact rfl) (by (simp [M2.keep]) <;> rfl) ?_
      repeat' (first | apply Wp.seq | apply Wp.skip | apply Wp.block | (apply Wp.op0; ((simp [M2.keep]) <;> rfl)) | ((first | (apply Wp.pickT; (exact rfl); (first | exact rfl | assumption)) | (apply Wp.pickF; (exact rfl); (first | exact rfl | assumption))); ((simp) <;> exact rfl)) | ((first | apply Wp.op | apply Wp.opN); (apply Evt.all; intro; (simp []) <;> (try simp (disch := omega) only [wrap_id]) <;> first | exact ⟨rfl, rfl⟩ | exact rfl)) | (first | (apply Wp.ung; (exact rfl); (first | exact rfl | assumption)) | (apply Wp.opSt; (exact rfl); (first | exact rfl | assumption)) | (apply Wp.opSf; (exact rfl); (first | exact rfl | assumption))) | (apply Wp.opS0; (exact rfl)) | (first | (apply Wp.condT; (exact rfl); (first | exact rfl | assumption)) | (apply Wp.condF; (exact rfl); (first | exact rfl | assumption))) | ((first | apply Wp.grdT | apply Wp.grdF | apply Wp.cond); (exact rfl); (intro); rotate_left 1; (intro); rotate_right 1))
      refine Wp.ret ?_
      have hz : ∀ A B C D E, frz 10 [A, B, C, D, E, .row 2 1 false (h'.map fun v => [i64 v])] (.own 5 h'.length) = some (.sl true (h'.map fun v => [i64 v]), [A, B, C, D, E, .frow (h'.map fun v => [i64 v])]) := fun A B C D E => frzS_row rfl (by simp)
      simp [Res, resU, res1, c_step_Do, l48', tk', hzs, hz]
      simp [heapU]
    · have dh : decide (how = 1) = false := decide_eq_false hh
      rw [if_neg hh]
      repeat' (first | apply Wp.seq | apply Wp.skip | apply Wp.block | (apply Wp.op0; ((simp [M2.keep]) <;> rfl)) | ((first | (apply Wp.pickT; (exact rfl); (first | exact rfl | assumption)) | (apply Wp.pickF; (exact rfl); (first | exact rfl | assumption))); ((simp) <;> exact rfl)) | ((first | apply Wp.op | apply Wp.opN); (apply Evt.all; intro; (simp [l48', dr']) <;> (try simp (disch := omega) only [wrap_id]) <;> first | exact ⟨rfl, rfl⟩ | exact rfl)) | (first | (apply Wp.ung; (exact rfl); (first | exact rfl | assumption)) | (apply Wp.opSt; (exact rfl); (first | exact rfl | assumption)) | (apply Wp.opSf; (exact rfl); (first | exact rfl | assumption))) | (apply Wp.opS0; (exact rfl)) | (first | (apply Wp.condT; (exact rfl); (first | exact rfl | assumption)) | (apply Wp.condF; (exact rfl); (first | exact rfl | assumption))) | ((first | apply Wp.grdT | apply Wp.grdF | apply Wp.cond); (exact rfl); (intro); rotate_left 1; (intro); rotate_right 1))
      refine Wp.draw (by (simp [c_step_Do_D3, I.need]) <;> rfl) (by (simp [l48', dr', tk', lz, over_full]) <;> rfl) (by (simp [l48', dr', tk', lz, over_full]) <;> rfl) (by (unfold c_step_Do_D3); (repeat (first | ((first | apply Dr.op | apply Dr.opN | (apply Dr.opG; exact rfl)); ((simp [l48', dr', tk', lz, over_full]) <;> rfl); (apply Evt.all; intro; (simp [l48', dr', tk', lz, over_full]) <;> (try simp (disch := omega) only [wrap_id]) <;> first | exact ⟨rfl, rfl⟩ | exact rfl); ((simp [I.need]) <;> rfl)) | ((first | (apply Dr.opS; exact rfl; decide) | (apply Dr.opS0; exact rfl)); ((simp [I.need]) <;> rfl)))); exact Dr.nil) (by first | decide +kernel | exact rfl) (by (simp [M2.keep]) <;> rfl) ?_
      repeat' (first | apply Wp.seq | apply Wp.skip | apply Wp.block | (apply Wp.op0; ((simp [M2.keep]) <;> rfl)) | ((first | (apply Wp.pickT; (exact rfl); (first | exact rfl | assumption)) | (apply Wp.pickF; (exact rfl); (first | exact rfl | assumption))); ((simp) <;> exact rfl)) | ((first | apply Wp.op | apply Wp.opN); (apply Evt.all; intro; (simp []) <;> (try simp (disch := omega) only [wrap_id]) <;> first | exact ⟨rfl, rfl⟩ | exact rfl)) | (first | (apply Wp.ung; (exact rfl); (first | exact rfl | assumption)) | (apply Wp.opSt; (exact rfl); (first | exact rfl | assumption)) | (apply Wp.opSf; (exact rfl); (first | exact rfl | assumption))) | (apply Wp.opS0; (exact rfl)) | (first | (apply Wp.condT; (exact rfl); (first | exact rfl | assumption)) | (apply Wp.condF; (exact rfl); (first | exact rfl | assumption))) | ((first | apply Wp.grdT | apply Wp.grdF | apply Wp.cond); (exact rfl); (intro); rotate_left 1; (intro); rotate_right 1))
      refine Wp.ret ?_
      simp [Res, resU, res1, c_step_Do, l48', tk', hzs]
      simp [heapU]
  | some ev =>
    have hh : how = 0 := hev rfl
    subst hh
    simp only [evCell, evRow] at hdo
    repeat' (first | apply Wp.seq | apply Wp.skip | apply Wp.block | (apply Wp.op0; ((simp [M2.keep]) <;> rfl)) | ((first | (apply Wp.pickT; (exact rfl); (first | exact rfl | assumption)) | (apply Wp.pickF; (exact rfl); (first | exact rfl | assumption))); ((simp) <;> exact rfl)) | ((first | apply Wp.op | apply Wp.opN); (apply Evt.all; intro; (simp []) <;> (try simp (disch := omega) only [wrap_id]) <;> first | exact ⟨rfl, rfl⟩ | exact rfl)) | (apply Wp.call; exact hdo _ _ _) | (first | (apply Wp.ung; (exact rfl); (first | exact rfl | assumption)) | (apply Wp.opSt; (exact rfl); (first | exact rfl | assumption)) | (apply Wp.opSf; (exact rfl); (first | exact rfl | assumption))) | (apply Wp.opS0; (exact rfl)) | (first | (apply Wp.condT; (exact rfl); (first | exact rfl | assumption)) | (apply Wp.condF; (exact rfl); (first | exact rfl | assumption))) | ((first | apply Wp.grdT | apply Wp.grdF | apply Wp.cond); (exact rfl); (intro); rotate_left 1; (intro); rotate_right 1))
    refine Wp.draw (by (simp [c_step_Do_D2, I.need]) <;> rfl) (by (simp [l48', dr', over_full]) <;> rfl) (by (simp [l48', dr', over_full]) <;> rfl) (by (unfold c_step_Do_D2); (repeat (first | ((first | apply Dr.op | apply Dr.opN | (apply Dr.opG; exact rfl)); ((simp [l48', dr', over_full]) <;> rfl); (apply Evt.all; intro; (simp [l48', dr', over_full]) <;> (try simp (disch := omega) only [wrap_id]) <;> first | exact ⟨rfl, rfl⟩ | exact rfl); ((simp [I.need]) <;> rfl)) | ((first | (apply Dr.opS; exact rfl; decide) | (apply Dr.opS0; exact rfl)); ((simp [I.need]) <;> rfl)))); exact Dr.nil) (by first | decide +kernel | exact rfl) (by (simp [M2.keep]) <;> rfl) ?_
    repeat' (first | apply Wp.seq | apply Wp.skip | apply Wp.block | (apply Wp.op0; ((simp [M2.keep]) <;> rfl)) | ((first | (apply Wp.pickT; (exact rfl); (first | exact rfl | assumption)) | (apply Wp.pickF; (exact rfl); (first | exact rfl | assumption))); ((simp) <;> exact rfl)) | ((first | apply Wp.op | apply Wp.opN); (apply Evt.all; intro; (simp [l48', dr']) <;> (try simp (disch := omega) only [wrap_id]) <;> first | exact ⟨rfl, rfl⟩ | exact rfl)) | (first | (apply Wp.ung; (exact rfl); (first | exact rfl | assumption)) | (apply Wp.opSt; (exact rfl); (first | exact rfl | assumption)) | (apply Wp.opSf; (exact rfl); (first | exact rfl | assumption))) | (apply Wp.opS0; (exact rfl)) | (first | (apply Wp.condT; (exact rfl); (first | exact rfl | assumption)) | (apply Wp.condF; (exact rfl); (first | exact rfl | assumption))) | ((first | apply Wp.grdT | apply Wp.grdF | apply Wp.cond); (exact rfl); (intro); rotate_left 1; (intro); rotate_right 1))
    refine Wp.draw (by (simp [c_step_Do_D3, I.need]) <;> rfl) (by (simp [l48', dr', tk', lz, over_full]) <;> rfl) (by (simp [l48', dr', tk', lz, over_full]) <;> rfl) (by (unfold c_step_Do_D3); (repeat (first | ((first | apply Dr.op | apply Dr.opN | (apply Dr.opG; exact rfl)); ((simp [l48', dr', tk', lz, over_full]) <;> rfl); (apply Evt.all; intro; (simp [l48', dr', tk', lz, over_full]) <;> (try simp (disch := omega) only [wrap_id]) <;> first | exact ⟨rfl, rfl⟩ | exact rfl); ((simp [I.need]) <;> rfl)) | ((first | (apply Dr.opS; exact rfl; decide) | (apply Dr.opS0; exact rfl)); ((simp [I.need]) <;> rfl)))); exact Dr.nil) (by first | decide +kernel | exact rfl) (by (simp [M2.keep]) <;> rfl) ?_
    repeat' (first | apply Wp.seq | apply Wp.skip | apply Wp.block | (apply Wp.op0; ((simp [M2.keep]) <;> rfl)) | ((first | (apply Wp.pickT; (exact rfl); (first | exact rfl | assumption)) | (apply Wp.pickF; (exact rfl); (first | exact rfl | assumption))); ((simp) <;> exact rfl)) | ((first | apply Wp.op | apply Wp.opN); (apply Evt.all; intro; (simp []) <;> (try simp (disch := omega) only [wrap_id]) <;> first | exact ⟨rfl, rfl⟩ | exact rfl)) | (first | (apply Wp.ung; (exact rfl); (first | exact rfl | assumption)) | (apply Wp.opSt; (exact rfl); (first | exact rfl | assumption)) | (apply Wp.opSf; (exact rfl); (first | exact rfl | assumption))) | (apply Wp.opS0; (exact rfl)) | (first | (apply Wp.condT; (exact rfl); (first | exact rfl | assumption)) | (apply Wp.condF; (exact rfl); (first | exact rfl | assumption))) | ((first | apply Wp.grdT | apply Wp.grdF | apply Wp.cond); (exact rfl); (intro); rotate_left 1; (intro); rotate_right 1))
    refine Wp.ret ?_
    have hz : ∀ A B C D E, frz 11 [A, B, C, D, .row 140 3 false [evtU ev.1 ev.2.1 ev.2.2], E] (.own 4 1) = some (.sl true [evtU ev.1 ev.2.1 ev.2.2], [A, B, C, D, .frow [evtU ev.1 ev.2.1 ev.2.2], E]) := fun A B C D E => frzS_row rfl rfl
    simp [Res, resU, res1, c_step_Do, l48', tk', hzs, hz]
    simp [heapU]
end Go.Proofs.YtbmlnfceanfbmaaDoor.M2
/- What the functions answer in M2. A step of a function that is right. -/
namespace Go.Proofs.YtbmlnfceanfbmaaDoor.M2
open Go
theorem loc_le {m n x : Int} (h : locF m x = true) (hm : m ≤ n) : locF n x = true := by
  simp only [locF, Bool.and_eq_true, decide_eq_true_eq] at h ⊢
  omega
theorem ins_facts {l : List Ins} (hr : rightF l = true) {i : Nat} {x : Ins} (hx : l[i]? = some x) : (1 ≤ x.op ∧ x.op ≤ 18) ∧ locF 24 x.d = true ∧ locF 24 x.a = true ∧ locF 24 x.b = true ∧ ((x.op = 16 ∨ x.op = 17) → 0 ≤ x.to ∧ x.to < l.length) ∧ (x.op = 16 ∨ x.op = 18 ∨ i + 1 < l.length) := by
  obtain ⟨h1, h2, h3, h4⟩ := right_facts hr
  obtain ⟨hi, rfl⟩ := List.getElem?_eq_some_iff.1 hx
  have hc := h3 l[i] (List.getElem_mem hi)
  have hlast : i + 1 < l.length ∨ l[i].op = lastOp l := by
    by_cases h : i + 1 < l.length
    · exact .inl h
    · right
      have : i = l.length - 1 := by omega
      subst this
      simp [lastOp, List.getD_eq_getElem?_getD, hi]
  generalize l[i] = x at *
  unfold checkF at hc
  split at hc
  · cases hc
  rename_i g1
  split at hc
  · cases hc
  rename_i g6
  split at hc
  · cases hc
  rename_i g4
  unfold bad1 at g1
  unfold bad6 at g6
  unfold bad4 at g4
  have hop : 1 ≤ x.op ∧ x.op ≤ 18 := by omega
  have ho : onlyF x = x := by
    by_cases h : onlyF x = x
    · exact h
    · exact absurd (.inr (.inr (.inl h))) g1
  refine ⟨hop, ?_⟩
  have hto : (x.op = 16 ∨ x.op = 17) → 0 ≤ x.to ∧ x.to < l.length := fun h => by omega
  have hend : x.op = 16 ∨ x.op = 18 ∨ i + 1 < l.length := by omega
  by_cases h3 : x.op ≤ 3
  · rw [if_pos h3] at g6
    simp only [Bool.and_eq_false_iff, not_or, Bool.not_eq_false] at g6
    refine ⟨g6.1, g6.2, ?_, hto, hend⟩
    obtain ⟨op, d, a, b, n, to⟩ := x
    simp only [onlyF, Ins.mk.injEq] at ho h3 hop ⊢
    have hb : b = 0 := by
      have := ho.2.2.2.1
      split at this
      · omega
      · exact this.symm
    rw [hb]
    rfl
  · rw [if_neg h3] at g6
    simp only [Bool.and_eq_false_iff, not_or, Bool.not_eq_false] at g6
    exact ⟨loc_le g6.1.1 (by omega), loc_le g6.1.2 (by omega), loc_le g6.2 (by omega), hto, hend⟩
def stepAllF (s : Stt) (x : Ins) (ask : List Int) : StepR :=
  if movesF x then ⟨doneF s x, none, 0, 0⟩ else if useOK s.L (usesF x) then doAllF s x ask else ⟨s, none, 2, 0⟩
theorem doAll_heap (s : Stt) (x : Ins) (ask : List Int) (h : s.h.length ≤ 16) : (doAllF s x ask).s.h.length ≤ 1000 := by
  unfold doAllF
  split
  · split <;> simp only [setS] <;> omega
  · split
    · split
      · rename_i h0
        simp only
        unfold storeF at h0 ⊢
        split
        · simp only [List.length_set]; omega
        · simp
      · simp only; omega
    · split
      · split <;> simp only [setS] <;> omega
      · split
        · simp only; omega
        · split
          · simp only; omega
          · split <;> simp only [setS] <;> omega
theorem doAll_ev (s : Stt) (x : Ins) (ask : List Int) : (doAllF s x ask).ev.isSome = true → (doAllF s x ask).how = 0 := by
  unfold doAllF
  split
  · split <;> simp
  · split
    · split <;> simp
    · split
      · split <;> simp
      · split
        · simp
        · split
          · simp
          · split <;> simp
theorem uses_loc {x : Ins} (ha : locF 24 x.a = true) (hb : locF 24 x.b = true) : ∀ u ∈ usesF x, locF 24 u = true := by
  intro u hu
  unfold usesF at hu
  split at hu
  · simp only [List.mem_cons, List.not_mem_nil, or_false] at hu
    rcases hu with rfl | rfl
    · exact ha
    · exact hb
  · split at hu
    · simp only [List.mem_cons, List.not_mem_nil, or_false] at hu
      rw [hu]; exact ha
    · cases hu
theorem uses_len (x : Ins) : (usesF x).length ≤ 100 := by
  unfold usesF
  split
  · simp
  · split <;> simp
theorem step_call (q : Bool) (p : Bool) (l : List Ins) (s : Stt) (hL : s.L.length = 24) (hs : sttF l s = true) (x : Ins) (hx : l[s.at_.toNat]? = some x) (ask : List Int) (hlen : ask.length ≤ 100000) (AK : U) (st : List Ob) (hAK : brw frzD st AK = some (askU q ask)) :
    Cl T n_step_Do [insL p l, .agg (stU true s), AK] st (doneU (stepAllF s x ask)) st := by
  have hs0 := hs
  unfold sttF at hs0
  simp only [Bool.and_eq_true, decide_eq_true_eq] at hs0
  obtain ⟨⟨⟨⟨⟨hr, h2⟩, h3⟩, h4⟩, h5⟩, h6⟩ := hs0
  have h200 := (right_facts hr).1
  obtain ⟨hop, hd, ha, hb, _, _⟩ := ins_facts hr hx
  unfold stepAllF
  cases hm : movesF x with
  | true =>
    obtain ⟨hi, rfl⟩ := List.getElem?_eq_some_iff.1 hx
    have hx' : l.getD s.at_.toNat default = l[s.at_.toNat] := by simp [hi]
    obtain ⟨_, _, hb0⟩ := moves_facts hr hi (by rw [hx']; exact hm)
    rw [hx'] at hb0
    have := step_gen q p l s hL hs _ hx ask [] (fun st => uses_moves _ hm st) (by simp) (by simp) ⟨doneF s l[s.at_.toNat], none, 0, 0⟩ (fun _ o1 o2 o3 => do_moves q o1 o2 o3 s _ _ hL hm hd ha hb0 ⟨h2, by omega⟩) (by simp [doneF, moveF_len, hL]) (by simp only [doneF]; omega) (by simp) AK st hAK
    simpa [useOK] using this
  | false =>
    have hop4 : 4 ≤ x.op ∧ x.op ≤ 18 ∧ ¬ x.op = 16 := by
      simp [movesF] at hm
      omega
    exact step_gen q p l s hL hs x hx ask (usesF x) (fun st => uses_call x hop4 st) (uses_loc ha hb) (uses_len x) (doAllF s x ask) (fun _ o1 o2 o3 => do_call q o1 o2 o3 s x ask hL hd ha hb ⟨h2, by omega⟩ hop4 h5 hlen) (doAll_len s x ask hL) (doAll_heap s x ask h4) (doAll_ev s x ask) AK st hAK
end Go.Proofs.YtbmlnfceanfbmaaDoor.M2
/- Plain: runs. -/
namespace Go.Proofs.YtbmlnfceanfbmaaDoor.M2
open Go
theorem stepAll_right {l : List Ins} {s : Stt} (hs : sttF l s = true) (hL : s.L.length = 24) {x : Ins} (hx : l[s.at_.toNat]? = some x) (ask : List Int) : sttF l (stepAllF s x ask).s = true ∧ (stepAllF s x ask).s.L.length = 24 := by
  have hs0 := hs
  unfold sttF at hs0
  simp only [Bool.and_eq_true, decide_eq_true_eq] at hs0
  obtain ⟨⟨⟨⟨⟨hr, h2⟩, h3⟩, h4⟩, h5⟩, h6⟩ := hs0
  obtain ⟨hop, hd, ha, hb, hto, hend⟩ := ins_facts hr hx
  have mk : ∀ (L : List Wd) (h : List Int) (at_ asked : Int), L.length = 24 → okW L = true → h.length ≤ 16 → 0 ≤ at_ → at_ < l.length → 0 ≤ asked → sttF l ⟨L, h, at_, asked⟩ = true ∧ L.length = 24 := fun L h at_ asked k1 k2 k3 k4 k5 k6 => by
    refine ⟨?_, k1⟩
    unfold sttF
    simp only [Bool.and_eq_true, decide_eq_true_eq]
    exact ⟨⟨⟨⟨⟨hr, k4⟩, k5⟩, k3⟩, k6⟩, k2⟩
  unfold stepAllF
  cases hm : movesF x with
  | true =>
    obtain ⟨hi, rfl⟩ := List.getElem?_eq_some_iff.1 hx
    have hx' : l.getD s.at_.toNat default = l[s.at_.toNat] := by simp [hi]
    obtain ⟨k1, k2, _⟩ := step_right hs hL (by rw [hx']; exact hm)
    rw [stepF, hx'] at k1 k2
    exact ⟨k1, k2⟩
  | false =>
    simp only [Bool.false_eq_true, if_false]
    split
    · unfold doAllF
      have hset : ∀ v, okW (s.L.set x.d.toNat (true, v)) = true := fun v => okW_set h6 _ rfl
      have hlen : ∀ v, (s.L.set x.d.toNat (true, v)).length = 24 := fun v => by rw [List.length_set]; exact hL
      have hat : ¬ x.op = 18 → s.at_ + 1 < l.length := fun h => by
        have : ¬ x.op = 16 := fun h16 => by rw [movesF, h16] at hm; simp at hm
        omega
      split
      · split
        · exact mk _ _ _ _ (hlen _) (hset _) h4 (by omega) (hat (by omega)) h5
        · exact ⟨hs, hL⟩
      · split
        · split
          · rename_i h0
            refine mk _ _ _ _ hL h6 ?_ (by omega) (hat (by omega)) h5
            unfold storeF
            split
            · simp only [List.length_set]; exact h4
            · simp
          · exact ⟨hs, hL⟩
        · split
          · split
            · exact ⟨hs, hL⟩
            · exact mk _ _ _ _ (hlen _) (hset _) h4 (by omega) (hat (by omega)) (by omega)
          · split
            · exact ⟨hs, hL⟩
            · split
              · refine mk _ _ _ _ hL h6 h4 ?_ ?_ h5
                · split
                  · exact (hto (.inr (by assumption))).1
                  · omega
                · split
                  · exact (hto (.inr (by assumption))).2
                  · exact hat (by omega)
              · split
                · exact mk _ _ _ _ (hlen _) (hset _) h4 (by omega) (hat (by omega)) h5
                · exact ⟨hs, hL⟩
    · exact ⟨hs, hL⟩
abbrev Evn := Int × Int × Int
structure TR where
  ev : List Evn
  how : Int
  val : Int
  out : List Int
  steps : Int
  work : Int
  deriving DecidableEq
def tr0 : TR := ⟨[], 0, 0, [], 0, 0⟩
def trStep (t : TR) (x : Ins) (r : StepR) : TR := ⟨t.ev ++ r.ev.toList, r.how, r.val, if r.how = 1 then r.s.h else [], t.steps + 1, if movesF x then t.work else t.work + 1⟩
def runLoop (l : List Ins) (ask : List Int) : Nat → Stt → TR → Stt × TR
  | 0, s, t => (s, t)
  | n + 1, s, t =>
    let x := l.getD s.at_.toNat default
    let r := stepAllF s x ask
    if r.how = 0 then runLoop l ask n r.s (trStep t x r) else (r.s, trStep t x r)
structure Cs where
  R : List Int
  h : List Int
  ans : List Int
  fuel : Int
  q : Bool
def beginF (c : Cs) : Stt := ⟨c.R.map (fun v => (true, v)) ++ List.replicate 16 (false, 0), c.h, 0, 0⟩
def csRight (c : Cs) : Bool := decide (c.h.length ≤ 16) && (decide (c.ans.length ≤ 5000) && (decide (0 ≤ c.fuel) && decide (c.fuel ≤ 5000)))
def runF (l : List Ins) (c : Cs) : Stt × TR := runLoop l c.ans c.fuel.toNat (beginF c) tr0
theorem runLoop_right {l : List Ins} (ask : List Int) : ∀ (n : Nat) (s : Stt) (t : TR), sttF l s = true → s.L.length = 24 → sttF l (runLoop l ask n s t).1 = true ∧ (runLoop l ask n s t).1.L.length = 24
  | 0, s, t, hs, hL => ⟨hs, hL⟩
  | n + 1, s, t, hs, hL => by
    have hlt : s.at_.toNat < l.length := by unfold sttF at hs; simp only [Bool.and_eq_true, decide_eq_true_eq] at hs; omega
    have hx : l[s.at_.toNat]? = some (l.getD s.at_.toNat default) := by simp [hlt]
    obtain ⟨k1, k2⟩ := stepAll_right hs hL hx ask
    rw [runLoop]
    split
    · exact runLoop_right ask n _ _ k1 k2
    · exact ⟨k1, k2⟩
theorem begin_right {l : List Ins} (hr : rightF l = true) {c : Cs} (hc : csRight c = true) (hR : c.R.length = 8) : sttF l (beginF c) = true ∧ (beginF c).L.length = 24 := by
  have := (right_facts hr).2.1
  unfold csRight at hc
  simp only [Bool.and_eq_true, decide_eq_true_eq] at hc
  refine ⟨?_, by simp [beginF, hR]⟩
  unfold sttF
  simp only [Bool.and_eq_true, decide_eq_true_eq]
  refine ⟨⟨⟨⟨⟨hr, by simp [beginF]⟩, by simp [beginF]; omega⟩, hc.1⟩, by simp [beginF]⟩, ?_⟩
  unfold okW beginF
  rw [List.all_append, Bool.and_eq_true]
  refine ⟨?_, by simp⟩
  rw [List.all_eq_true]
  intro w hw
  obtain ⟨v, _, rfl⟩ := List.mem_map.1 hw
  rfl
/-! What two runs tell. -/
def begins (a b : List Evn) : Bool := decide (a.length ≤ b.length) && decide (a = b.take a.length)
def haltedF (t : TR) : Bool := decide (1 ≤ t.how) && decide (t.how ≤ 4)
structure Sd where
  t : TR
  silent : Bool
def tellF (a b : Sd) : Int :=
  if (!(begins a.t.ev b.t.ev || begins b.t.ev a.t.ev)) = true then 1
  else if ((haltedF a.t && !begins b.t.ev a.t.ev) || (haltedF b.t && !begins a.t.ev b.t.ev)) = true then 2
  else if (haltedF a.t && (haltedF b.t && (!decide (a.t.how = b.t.how) || (!decide (a.t.val = b.t.val) || !decide (a.t.out = b.t.out))))) = true then 3
  else if ((haltedF a.t && b.silent) || (haltedF b.t && a.silent)) = true then 4
  else 0
theorem begins_refl (a : List Evn) : begins a a = true := by simp [begins]
theorem tell_swap (a b : Sd) : tellF a b = tellF b a := by
  unfold tellF
  have e1 : (begins a.t.ev b.t.ev || begins b.t.ev a.t.ev) = (begins b.t.ev a.t.ev || begins a.t.ev b.t.ev) := Bool.or_comm _ _
  have e2 : ((haltedF a.t && !begins b.t.ev a.t.ev) || (haltedF b.t && !begins a.t.ev b.t.ev)) = ((haltedF b.t && !begins a.t.ev b.t.ev) || (haltedF a.t && !begins b.t.ev a.t.ev)) := Bool.or_comm _ _
  have e3 : (haltedF a.t && (haltedF b.t && (!decide (a.t.how = b.t.how) || (!decide (a.t.val = b.t.val) || !decide (a.t.out = b.t.out))))) = (haltedF b.t && (haltedF a.t && (!decide (b.t.how = a.t.how) || (!decide (b.t.val = a.t.val) || !decide (b.t.out = a.t.out))))) := by
    rw [← Bool.and_assoc, ← Bool.and_assoc, Bool.and_comm (haltedF a.t)]
    congr 1
    rw [decide_eq_decide.2 (eq_comm (a := a.t.how)), decide_eq_decide.2 (eq_comm (a := a.t.val)), decide_eq_decide.2 (eq_comm (a := a.t.out))]
  have e4 : ((haltedF a.t && b.silent) || (haltedF b.t && a.silent)) = ((haltedF b.t && a.silent) || (haltedF a.t && b.silent)) := Bool.or_comm _ _
  rw [e1, e2, e3, e4]
theorem tell_self (a : Sd) (h : a.silent = true → a.t.how = 0) : tellF a a = 0 := by
  unfold tellF
  simp only [begins_refl, Bool.or_self, Bool.not_true, Bool.and_false, Bool.false_eq_true, if_false, decide_true]
  rw [if_neg]
  intro hh
  simp only [Bool.and_eq_true, haltedF, decide_eq_true_eq] at hh
  have := h hh.2
  omega
end Go.Proofs.YtbmlnfceanfbmaaDoor.M2
/- What the functions answer in M2. Cases, and what a run begins with. -/
namespace Go.Proofs.YtbmlnfceanfbmaaDoor.M2
open Go
attribute [local simp] ev1 M2.get put A.ev ld sub part elems bin arith un opt idx fillC cellsO splice over newOb sto fillR laidOwn appTo appRow touch touchN touchM touchE touchA plainU flatU plainAs allM rowAt stoRow accM_nil accM_cons accMM_nil accMM_cons frz_int frz_bool frz_str frz_slt frz_nils frz_nilI frz_nilF frz_own frzRow_row frzRow_frow Ob.blw blw_bool blw_int blw_str blw_nils blw_nilI blw_nilF blw_nilp blw_nilm blw_sl blw_own blw_bp blw_rp blw_mp blw_it params
attribute [local simp] frz_agg frz_tup frz_iface frzS_agg frzS_iface accMS_cons frzS_int frzS_bool frzS_str frzS_slt frzS_nils frzS_nilI beq_dec bne_dec
def csU (c : Cs) : List U := c.R.map (fun v => i64 v) ++ [intsU c.h, askU c.q c.ans, i64 c.fuel]
theorem R8 {R : List Int} (h : R.length = 8) : ∃ a b c d e f g k, R = [a, b, c, d, e, f, g, k] := by
  match R, h with
  | [a, b, c, d, e, f, g, k], _ => exact ⟨a, b, c, d, e, f, g, k, rfl⟩
set_option maxHeartbeats 4000000 in
theorem csRight_call (c : Cs) (hR : c.R.length = 8) (st : List Ob) : Cl T n_run_Right [.agg (csU c)] st (.bool (csRight c)) st := by
  obtain ⟨R, h, ans, fuel, q⟩ := c
  obtain ⟨r0, r1, r2, r3, r4, r5, r6, r7, rfl⟩ := R8 hR
  refine Wp.pure (fn := c_run_Right) rfl rfl rfl («as» := [.agg (csU ⟨[r0, r1, r2, r3, r4, r5, r6, r7], h, ans, fuel, q⟩)]) rfl ?_
  have hr : ∀ st, Cl T n_heap_Right [intsU h] st (.bool (decide (h.length ≤ 16))) st := heapRight_call true h
  unfold csRight
  simp only
  have e1 : decide ((ans.length : Int) ≤ 5000) = decide (ans.length ≤ 5000) := decide_eq_decide.2 (by omega)
  by_cases h1 : h.length ≤ 16
  · have d1 : decide (h.length ≤ 16) = true := decide_eq_true h1
    rw [d1] at hr ⊢
    by_cases h2 : ans.length ≤ 5000
    · have d2 : decide (ans.length ≤ 5000) = true := decide_eq_true h2
      rw [d2] at e1 ⊢
      by_cases h3 : 0 ≤ fuel
      · have d3 : decide (0 ≤ fuel) = true := decide_eq_true h3
        rw [d3]
        repeat' (first | apply Wp.seq | apply Wp.skip | apply Wp.block | (apply Wp.op0; ((simp [M2.keep]) <;> rfl)) | ((first | (apply Wp.pickT; (exact rfl); (first | exact rfl | assumption)) | (apply Wp.pickF; (exact rfl); (first | exact rfl | assumption))); ((simp) <;> exact rfl)) | ((first | apply Wp.op | apply Wp.opN); (apply Evt.all; intro; (simp [csU]) <;> (try simp (disch := omega) only [wrap_id]) <;> first | exact ⟨rfl, rfl⟩ | exact rfl)) | (apply Wp.call; exact hr _) | (first | (apply Wp.ung; (exact rfl); (first | exact rfl | assumption)) | (apply Wp.opSt; (exact rfl); (first | exact rfl | assumption)) | (apply Wp.opSf; (exact rfl); (first | exact rfl | assumption))) | (apply Wp.opS0; (exact rfl)) | (first | (apply Wp.condT; (exact rfl); (first | exact rfl | assumption)) | (apply Wp.condF; (exact rfl); (first | exact rfl | assumption))) | ((first | apply Wp.grdT | apply Wp.grdF | apply Wp.cond); (exact rfl); (intro); rotate_left 1; (intro); rotate_right 1))
        refine Wp.ret ?_
        simp [Res, resU, res1, c_run_Right]
      · have d3 : decide (0 ≤ fuel) = false := decide_eq_false h3
        rw [d3]
        repeat' (first | apply Wp.seq | apply Wp.skip | apply Wp.block | (apply Wp.op0; ((simp [M2.keep]) <;> rfl)) | ((first | (apply Wp.pickT; (exact rfl); (first | exact rfl | assumption)) | (apply Wp.pickF; (exact rfl); (first | exact rfl | assumption))); ((simp) <;> exact rfl)) | ((first | apply Wp.op | apply Wp.opN); (apply Evt.all; intro; (simp [csU]) <;> (try simp (disch := omega) only [wrap_id]) <;> first | exact ⟨rfl, rfl⟩ | exact rfl)) | (apply Wp.call; exact hr _) | (first | (apply Wp.ung; (exact rfl); (first | exact rfl | assumption)) | (apply Wp.opSt; (exact rfl); (first | exact rfl | assumption)) | (apply Wp.opSf; (exact rfl); (first | exact rfl | assumption))) | (apply Wp.opS0; (exact rfl)) | (first | (apply Wp.condT; (exact rfl); (first | exact rfl | assumption)) | (apply Wp.condF; (exact rfl); (first | exact rfl | assumption))) | ((first | apply Wp.grdT | apply Wp.grdF | apply Wp.cond); (exact rfl); (intro); rotate_left 1; (intro); rotate_right 1))
        refine Wp.ret ?_
        simp [Res, resU, res1, c_run_Right]
    · have d2 : decide (ans.length ≤ 5000) = false := decide_eq_false h2
      rw [d2] at e1 ⊢
      repeat' (first | apply Wp.seq | apply Wp.skip | apply Wp.block | (apply Wp.op0; ((simp [M2.keep]) <;> rfl)) | ((first | (apply Wp.pickT; (exact rfl); (first | exact rfl | assumption)) | (apply Wp.pickF; (exact rfl); (first | exact rfl | assumption))); ((simp) <;> exact rfl)) | ((first | apply Wp.op | apply Wp.opN); (apply Evt.all; intro; (simp [csU]) <;> (try simp (disch := omega) only [wrap_id]) <;> first | exact ⟨rfl, rfl⟩ | exact rfl)) | (apply Wp.call; exact hr _) | (first | (apply Wp.ung; (exact rfl); (first | exact rfl | assumption)) | (apply Wp.opSt; (exact rfl); (first | exact rfl | assumption)) | (apply Wp.opSf; (exact rfl); (first | exact rfl | assumption))) | (apply Wp.opS0; (exact rfl)) | (first | (apply Wp.condT; (exact rfl); (first | exact rfl | assumption)) | (apply Wp.condF; (exact rfl); (first | exact rfl | assumption))) | ((first | apply Wp.grdT | apply Wp.grdF | apply Wp.cond); (exact rfl); (intro); rotate_left 1; (intro); rotate_right 1))
      refine Wp.ret ?_
      simp [Res, resU, res1, c_run_Right]
  · have d1 : decide (h.length ≤ 16) = false := decide_eq_false h1
    rw [d1] at hr ⊢
    repeat' (first | apply Wp.seq | apply Wp.skip | apply Wp.block | (apply Wp.op0; ((simp [M2.keep]) <;> rfl)) | ((first | (apply Wp.pickT; (exact rfl); (first | exact rfl | assumption)) | (apply Wp.pickF; (exact rfl); (first | exact rfl | assumption))); ((simp) <;> exact rfl)) | ((first | apply Wp.op | apply Wp.opN); (apply Evt.all; intro; (simp [csU]) <;> (try simp (disch := omega) only [wrap_id]) <;> first | exact ⟨rfl, rfl⟩ | exact rfl)) | (apply Wp.call; exact hr _) | (first | (apply Wp.ung; (exact rfl); (first | exact rfl | assumption)) | (apply Wp.opSt; (exact rfl); (first | exact rfl | assumption)) | (apply Wp.opSf; (exact rfl); (first | exact rfl | assumption))) | (apply Wp.opS0; (exact rfl)) | (first | (apply Wp.condT; (exact rfl); (first | exact rfl | assumption)) | (apply Wp.condF; (exact rfl); (first | exact rfl | assumption))) | ((first | apply Wp.grdT | apply Wp.grdF | apply Wp.cond); (exact rfl); (intro); rotate_left 1; (intro); rotate_right 1))
    refine Wp.ret ?_
    simp [Res, resU, res1, c_run_Right]
set_option maxHeartbeats 16000000 in
theorem begin_call (c : Cs) (hR : c.R.length = 8) (hh : c.h.length ≤ 1000) (st : List Ob) : Cl T n_run_Begin [.agg (csU c)] st (.agg (stU true (beginF c))) st := by
  obtain ⟨R, h, ans, fuel, q⟩ := c
  obtain ⟨r0, r1, r2, r3, r4, r5, r6, r7, rfl⟩ := R8 hR
  refine Wp.pure (fn := c_run_Begin) rfl rfl rfl («as» := [.agg (csU ⟨[r0, r1, r2, r3, r4, r5, r6, r7], h, ans, fuel, q⟩)]) rfl ?_
  repeat' (first | apply Wp.seq | apply Wp.skip | apply Wp.block | (apply Wp.op0; ((simp [M2.keep]) <;> rfl)) | ((first | (apply Wp.pickT; (exact rfl); (first | exact rfl | assumption)) | (apply Wp.pickF; (exact rfl); (first | exact rfl | assumption))); ((simp) <;> exact rfl)) | ((first | apply Wp.op | apply Wp.opN); (apply Evt.all; intro; (simp [csU]) <;> (try simp (disch := omega) only [wrap_id]) <;> first | exact ⟨rfl, rfl⟩ | exact rfl)) | (first | (apply Wp.ung; (exact rfl); (first | exact rfl | assumption)) | (apply Wp.opSt; (exact rfl); (first | exact rfl | assumption)) | (apply Wp.opSf; (exact rfl); (first | exact rfl | assumption))) | (apply Wp.opS0; (exact rfl)) | (first | (apply Wp.condT; (exact rfl); (first | exact rfl | assumption)) | (apply Wp.condF; (exact rfl); (first | exact rfl | assumption))) | ((first | apply Wp.grdT | apply Wp.grdF | apply Wp.cond); (exact rfl); (intro); rotate_left 1; (intro); rotate_right 1))
  refine Wp.op (Evt.all fun n => app_ints _ _ _ 2 true h hh _ _ rfl rfl rfl _) ?_
  repeat' (first | apply Wp.seq | apply Wp.skip | apply Wp.block | (apply Wp.op0; ((simp [M2.keep]) <;> rfl)) | ((first | (apply Wp.pickT; (exact rfl); (first | exact rfl | assumption)) | (apply Wp.pickF; (exact rfl); (first | exact rfl | assumption))); ((simp) <;> exact rfl)) | ((first | apply Wp.op | apply Wp.opN); (apply Evt.all; intro; (simp []) <;> (try simp (disch := omega) only [wrap_id]) <;> first | exact ⟨rfl, rfl⟩ | exact rfl)) | (apply Wp.unroll) | (apply Wp.next; ((simp [trimO, trim]) <;> rfl)) | (apply Wp.exit; (first | rw [if_pos rfl] | (rw [if_neg (by decide)]; first | rw [if_pos rfl] | (rw [if_neg (by decide)]; rw [if_pos rfl])))) | (first | (apply Wp.ung; (exact rfl); (first | exact rfl | assumption)) | (apply Wp.opSt; (exact rfl); (first | exact rfl | assumption)) | (apply Wp.opSf; (exact rfl); (first | exact rfl | assumption))) | (apply Wp.opS0; (exact rfl)) | (first | (apply Wp.condT; (exact rfl); (first | exact rfl | assumption)) | (apply Wp.condF; (exact rfl); (first | exact rfl | assumption))) | ((first | apply Wp.grdT | apply Wp.grdF | apply Wp.cond); (exact rfl); (intro); rotate_left 1; (intro); rotate_right 1))
  refine Wp.ret ?_
  have hz : ∀ A B D, frz 11 [A, B, .row 2 1 false (h.map fun v => [i64 v]), D] (.own 2 h.length) = some (.sl true (h.map fun v => [i64 v]), [A, B, .frow (h.map fun v => [i64 v]), D]) := fun A B D => frzS_row rfl (by simp)
  simp [Res, resU, res1, c_run_Begin, hz]
  rfl
end Go.Proofs.YtbmlnfceanfbmaaDoor.M2
/- What the functions answer in M2. A run. -/
namespace Go.Proofs.YtbmlnfceanfbmaaDoor.M2
open Go
attribute [local simp] ev1 M2.get put A.ev ld sub part elems bin arith un opt idx fillC cellsO splice over newOb sto fillR laidOwn appTo appRow touch touchN touchM touchE touchA plainU flatU plainAs allM rowAt stoRow accM_nil accM_cons accMM_nil accMM_cons frz_int frz_bool frz_str frz_slt frz_nils frz_nilI frz_nilF frz_own frzRow_row frzRow_frow Ob.blw blw_bool blw_int blw_str blw_nils blw_nilI blw_nilF blw_nilp blw_nilm blw_sl blw_own blw_bp blw_rp blw_mp blw_it params
attribute [local simp] frz_agg frz_tup frz_iface frzS_agg frzS_iface accMS_cons frzS_int frzS_bool frzS_str frzS_slt frzS_nils frzS_nilI beq_dec bne_dec
def evU (e : Evn) : List U := evtU e.1 e.2.1 e.2.2
def evsU (p : Bool) (l : List Evn) : U := .sl p (l.map evU)
def trU (t : TR) : List U := [evsU true t.ev, i64 t.how, i64 t.val, intsU t.out, i64 t.steps, i64 t.work]
def trO (t : TR) (o : U) : List U := [.own 3 t.ev.length, i64 t.how, i64 t.val, o, i64 t.steps, i64 t.work]
theorem acc_evs (st : List Ob) : ∀ l : List Evn, accM (accM (frz frzD)) st (l.map evU) = some (l.map evU, st)
  | [] => rfl
  | v :: h => by
    have ih := acc_evs st h
    simp only [List.map_cons]
    rw [accMM_cons]
    have h1 : accM (frz frzD) st (evU v) = some (evU v, st) := rfl
    simp only [h1, ih, Option.bind_some]
theorem app_evs (cl : Nat → List U → List Ob → Option (U × List Ob)) (e : Env) (st : List Ob) (i : Nat) (a b : List Evn) (hl : a.length + b.length ≤ 100000) (s x : A) (hs : s.ev e = .own i a.length) (hx : x.ev e = .sl true (b.map evU)) (hi : st[i]? = some (.row 140 3 false (a.map evU))) (nid : Nat) :
    ev1 cl e st nid (.append 140 3 24 false s x) = some (.own i (a ++ b).length, st.set i (.row 140 3 false ((a ++ b).map evU))) := by
  have hall : ((b.map evU).all fun y => y.length == 3) = true := by
    rw [List.all_eq_true]
    intro y hy
    obtain ⟨b, _, rfl⟩ := List.mem_map.1 hy
    rfl
  have hlim : (a.length + (b.map evU).length) * 24 ≤ 140737488355328 := by simp; omega
  rw [ev1, hx]
  simp only [elems, Option.bind_some]
  rw [if_pos hall, hs]
  simp only
  unfold appTo
  simp only [hi]
  rw [acc_evs]
  simp only [Option.bind_some]
  unfold appRow
  simp only [hi]
  rw [if_pos ⟨by simp, trivial, trivial, hlim⟩]
  simp only [Option.bind_some, List.length_map, List.map_append, List.length_append]
def Z6 : List U := [.nils, i64 0, i64 0, .nils, i64 0, i64 0]
def rnB (c : Cs) (s : Stt) (t : TR) (o : U) : List Ob := [.box (csU c), .box Z6, .box Z51, .row 140 3 false (t.ev.map evU), .box (trO t o), .box (stU true s)]
def rnS (p : Bool) (l : List Ins) (c : Cs) (x : Nat × Stt × TR × U) : S := ⟨[(0, insL p l), (3, .bp 0 0), (4, .bp 1 0), (5, .bp 2 0), (7, .bp 4 0), (8, .bp 5 0), (26, i64 c.fuel), (27, i64 x.1)], rnB c x.2.1 x.2.2.1 x.2.2.2⟩
def OutOK (o : U) (out : List Int) : Prop := o = intsU out ∨ (o = .nils ∧ out = [])
theorem rn_blw (c : Cs) (hR : c.R.length = 8) (s : Stt) (t : TR) (o : U) (ho : OutOK o t.out) : (rnB c s t o).all (Ob.blw 6) = true := by
  obtain ⟨R, h, ans, fuel, q⟩ := c
  obtain ⟨r0, r1, r2, r3, r4, r5, r6, r7, rfl⟩ := R8 hR
  have h2 := stU_blw 6 true s
  rcases ho with rfl | ⟨rfl, _⟩
  all_goals
    show (true && (true && (true && (true && (true && (Ob.blw 6 (.box (stU true s)) && true)))))) = true
    rw [h2]
    rfl
structure RInv (l : List Ins) (c : Cs) (x : Nat × Stt × TR × U) : Prop where
  le : x.1 ≤ c.fuel.toNat
  ok : sttF l x.2.1 = true
  len : x.2.1.L.length = 24
  ev : x.2.2.1.ev.length ≤ x.1
  st : 0 ≤ x.2.2.1.steps ∧ x.2.2.1.steps ≤ x.1
  wk : 0 ≤ x.2.2.1.work ∧ x.2.2.1.work ≤ x.1
  run : runLoop l c.ans (c.fuel.toNat - x.1) x.2.1 x.2.2.1 = runF l c
  out : OutOK x.2.2.2 x.2.2.1.out
set_option maxHeartbeats 32000000 in
theorem run_loop (p : Bool) (l : List Ins) (c : Cs) (hR : c.R.length = 8) (hf : 0 ≤ c.fuel ∧ c.fuel ≤ 5000) (ha : c.ans.length ≤ 100000) (x : Nat × Stt × TR × U) (hx : RInv l c x) :
    Wp T (.loop c_run_Run_L1) (rnS p l c x) (fun _ => False) (fun _ => False) (fun b s' => b = 0 ∧ ∃ e J o, s' = ⟨e, rnB c (runF l c).1 (runF l c).2 o ++ J⟩ ∧ OutOK o (runF l c).2.out ∧ M2.get e 4 = .bp 1 0 ∧ M2.get e 5 = .bp 2 0 ∧ M2.get e 7 = .bp 4 0 ∧ M2.get e 8 = .bp 5 0) := by
  refine Wp.loop (α := Nat × Stt × TR × U) (fun a => c.fuel.toNat - a.1) (fun a => rnS p l c a) (RInv l c) (fun a ha => ?_) x hx
  obtain ⟨i, s, t, o⟩ := a
  obtain ⟨k1, k2, k3, k4, k5, k6, k7, k8⟩ := ha
  simp only at k1 k2 k3 k4 k5 k6 k7 k8
  have hat : 0 ≤ s.at_ ∧ s.at_ < l.length := by unfold sttF at k2; simp only [Bool.and_eq_true, decide_eq_true_eq] at k2; omega
  obtain ⟨A, hA⟩ := Int.eq_ofNat_of_zero_le hat.1
  have hAl : A < l.length := by omega
  have hA' : (A : Int) < l.length := by omega
  have hxx : l[A]? = some (l.getD A default) := by simp [hAl]
  have hx0 : l[s.at_.toNat]? = some (l.getD A default) := by rw [hA]; exact hxx
  by_cases hi : i < c.fuel.toNat
  · have hi' : (i : Int) < c.fuel := by omega
    have hrn : runLoop l c.ans (c.fuel.toNat - i) s t = if (stepAllF s (l.getD A default) c.ans).how = 0 then runLoop l c.ans (c.fuel.toNat - (i + 1)) (stepAllF s (l.getD A default) c.ans).s (trStep t (l.getD A default) (stepAllF s (l.getD A default) c.ans)) else ((stepAllF s (l.getD A default) c.ans).s, trStep t (l.getD A default) (stepAllF s (l.getD A default) c.ans)) := by
      rw [show c.fuel.toNat - i = (c.fuel.toNat - (i + 1)) + 1 by omega, runLoop, hA, Int.toNat_natCast]
    rw [hrn] at k7
    obtain ⟨q1, q2⟩ := stepAll_right k2 k3 hx0 c.ans
    have hst := fun st => step_call c.q p l s k3 k2 _ hx0 c.ans ha (askU c.q c.ans) st rfl
    have hmv := moves_call (l.getD A default)
    have hevl : (stepAllF s (l.getD A default) c.ans).ev.toList.length ≤ 1 := by cases (stepAllF s (l.getD A default) c.ans).ev <;> simp
    have hd49 : (stU true s).drop 49 = [i64 A, i64 s.asked] := by rw [stU, wds_drop k3 49 (by omega), hA]; rfl
    have hl1 := stU_len (p := true) k3
    have hl2 := stU_len (p := true) q2
    have t1 : (stU true s).take 51 = stU true s := List.take_of_length_le (by omega)
    have t2 : (stU true (stepAllF s (l.getD A default) c.ans).s).take 51 = stU true (stepAllF s (l.getD A default) c.ans).s := List.take_of_length_le (by omega)
    generalize hr : stepAllF s (l.getD A default) c.ans = r at *
    generalize hix : l.getD A default = ix at *
    obtain ⟨R, h, ans, fuel, q⟩ := c
    obtain ⟨r0, r1, r2, r3, r4, r5, r6, r7, rfl⟩ := R8 hR
    obtain ⟨ev, how, val, out, steps, work⟩ := t
    simp only at *
    have w1 : IntKind.wrap .i64 (work + 1) = work + 1 := wrap_id (by omega) (by omega)
    have w2 : IntKind.wrap .i64 (steps + 1) = steps + 1 := wrap_id (by omega) (by omega)
    have hel : ev.length + r.ev.toList.length = (ev ++ r.ev.toList).length := by simp
    have hem : ev.map evU ++ r.ev.toList.map evU = (ev ++ r.ev.toList).map evU := by simp
    have w3 : IntKind.wrap .i64 ((i : Int) + 1) = (i : Int) + 1 := wrap_id (by omega) (by omega)
    simp only [rnS, rnB, trO, doneU] at hst ⊢
    repeat (first | apply Wp.seq | apply Wp.skip | apply Wp.block | (apply Wp.op0; ((simp [M2.keep]) <;> rfl)) | ((first | apply Wp.op | apply Wp.opN | (apply Wp.opG; exact rfl)); (apply Evt.all; intro; (simp [hi']) <;> (try simp (disch := omega) only [wrap_id]) <;> first | exact ⟨rfl, rfl⟩ | exact rfl)) | (apply Wp.opS; exact rfl; decide) | (apply Wp.opS0; exact rfl))
    refine Wp.cond (by first | rfl | (simp; rfl)) (fun h1 => ?_) (fun h1 => ?_)
    · cases hm : movesF ix with
      | true =>
        rw [hm] at hmv
        have hts : trStep ⟨ev, how, val, out, steps, work⟩ ix r = ⟨ev ++ r.ev.toList, r.how, r.val, if r.how = 1 then r.s.h else [], steps + 1, work⟩ := by unfold trStep; rw [hm]; rfl
        rw [hts] at k7
        repeat' (first | apply Wp.seq | apply Wp.skip | apply Wp.block | (apply Wp.op0; ((simp [M2.keep]) <;> rfl)) | ((first | (apply Wp.pickT; (exact rfl); (first | exact rfl | assumption)) | (apply Wp.pickF; (exact rfl); (first | exact rfl | assumption))); ((simp) <;> exact rfl)) | ((first | apply Wp.op | apply Wp.opN); (apply Evt.all; intro; (simp [insL, hA', hxx, insU_len, insU_take, hd49, w1, w2, hl1, hl2, t1, t2, over_full]) <;> (try simp (disch := omega) only [wrap_id]) <;> first | exact ⟨rfl, rfl⟩ | exact rfl)) | (apply Wp.call; exact hmv _) | (apply Wp.call; exact hst _) | (first | (apply Wp.ung; (exact rfl); (first | exact rfl | assumption)) | (apply Wp.opSt; (exact rfl); (first | exact rfl | assumption)) | (apply Wp.opSf; (exact rfl); (first | exact rfl | assumption))) | (apply Wp.opS0; (exact rfl)) | (first | (apply Wp.condT; (exact rfl); (first | exact rfl | assumption)) | (apply Wp.condF; (exact rfl); (first | exact rfl | assumption))) | ((first | apply Wp.grdT | apply Wp.grdF | apply Wp.cond); (exact rfl); (intro); rotate_left 1; (intro); rotate_right 1))
        refine Wp.op (Evt.all fun n => app_evs _ _ _ 3 ev r.ev.toList (by omega) _ _ rfl rfl rfl _) ?_
        repeat' (first | apply Wp.seq | apply Wp.skip | apply Wp.block | (apply Wp.op0; ((simp [M2.keep]) <;> rfl)) | ((first | (apply Wp.pickT; (exact rfl); (first | exact rfl | assumption)) | (apply Wp.pickF; (exact rfl); (first | exact rfl | assumption))); ((simp) <;> exact rfl)) | ((first | apply Wp.op | apply Wp.opN); (apply Evt.all; intro; (simp [insL]) <;> (try simp (disch := omega) only [wrap_id]) <;> first | exact ⟨rfl, rfl⟩ | exact rfl)) | (first | (apply Wp.ung; (exact rfl); (first | exact rfl | assumption)) | (apply Wp.opSt; (exact rfl); (first | exact rfl | assumption)) | (apply Wp.opSf; (exact rfl); (first | exact rfl | assumption))) | (apply Wp.opS0; (exact rfl)) | (first | (apply Wp.condT; (exact rfl); (first | exact rfl | assumption)) | (apply Wp.condF; (exact rfl); (first | exact rfl | assumption))) | ((first | apply Wp.grdT | apply Wp.grdF | apply Wp.cond); (exact rfl); (intro); rotate_left 1; (intro); rotate_right 1))
        refine Wp.draw (by (simp [c_run_Run_D0, I.need]) <;> rfl) (by (simp [hl1, hl2, t2, over_full]) <;> rfl) (by (simp [hl1, hl2, t2, over_full]) <;> rfl) (by (unfold c_run_Run_D0); (repeat (first | ((first | apply Dr.op | apply Dr.opN | (apply Dr.opG; exact rfl)); ((simp [hl1, hl2, t2, over_full]) <;> rfl); (apply Evt.all; intro; (simp [hl1, hl2, t2, over_full]) <;> (try simp (disch := omega) only [wrap_id]) <;> first | exact ⟨rfl, rfl⟩ | exact rfl); ((simp [I.need]) <;> rfl)) | ((first | (apply Dr.opS; exact rfl; decide) | (apply Dr.opS0; exact rfl)); ((simp [I.need]) <;> rfl)))); exact Dr.nil) (by first | decide +kernel | exact rfl) (by (simp [M2.keep]) <;> rfl) ?_
        by_cases hh : r.how = 0
        · have dh : (!decide (r.how = 0)) = false := by simp [hh]
          rw [if_pos hh] at k7
          repeat' (first | apply Wp.seq | apply Wp.skip | apply Wp.block | (apply Wp.op0; ((simp [M2.keep]) <;> rfl)) | ((first | (apply Wp.pickT; (exact rfl); (first | exact rfl | assumption)) | (apply Wp.pickF; (exact rfl); (first | exact rfl | assumption))); ((simp) <;> exact rfl)) | ((first | apply Wp.op | apply Wp.opN); (apply Evt.all; intro; (simp [w3]) <;> (try simp (disch := omega) only [wrap_id]) <;> first | exact ⟨rfl, rfl⟩ | exact rfl)) | (first | (apply Wp.ung; (exact rfl); (first | exact rfl | assumption)) | (apply Wp.opSt; (exact rfl); (first | exact rfl | assumption)) | (apply Wp.opSf; (exact rfl); (first | exact rfl | assumption))) | (apply Wp.opS0; (exact rfl)) | (first | (apply Wp.condT; (exact rfl); (first | exact rfl | assumption)) | (apply Wp.condF; (exact rfl); (first | exact rfl | assumption))) | ((first | apply Wp.grdT | apply Wp.grdF | apply Wp.cond); (exact rfl); (intro); rotate_left 1; (intro); rotate_right 1))
          refine ⟨(i + 1, r.s, ⟨ev ++ r.ev.toList, r.how, r.val, if r.how = 1 then r.s.h else [], steps + 1, work⟩, intsU (if r.how = 1 then r.s.h else [])), ?_, by simp only; omega, ⟨by simp only; omega, q1, q2, by simp only [List.length_append]; omega, by simp only; omega, by simp only; omega, k7, .inl rfl⟩⟩
          have hbl := rn_blw ⟨[r0, r1, r2, r3, r4, r5, r6, r7], h, ans, fuel, q⟩ rfl r.s ⟨ev ++ r.ev.toList, r.how, r.val, if r.how = 1 then r.s.h else [], steps + 1, work⟩ (intsU (if r.how = 1 then r.s.h else [])) (.inl rfl)
          rw [hel, hem]
          refine trim_list (st := rnB ⟨[r0, r1, r2, r3, r4, r5, r6, r7], h, ans, fuel, q⟩ r.s ⟨ev ++ r.ev.toList, r.how, r.val, if r.how = 1 then r.s.h else [], steps + 1, work⟩ (intsU (if r.how = 1 then r.s.h else []))) (l := [_, _]) ?_ hbl
          simp [insL, rnB]
        · have dh : (!decide (r.how = 0)) = true := by simp [hh]
          rw [if_neg hh] at k7
          repeat' (first | apply Wp.seq | apply Wp.skip | apply Wp.block | (apply Wp.op0; ((simp [M2.keep]) <;> rfl)) | ((first | (apply Wp.pickT; (exact rfl); (first | exact rfl | assumption)) | (apply Wp.pickF; (exact rfl); (first | exact rfl | assumption))); ((simp) <;> exact rfl)) | ((first | apply Wp.op | apply Wp.opN); (apply Evt.all; intro; (simp []) <;> (try simp (disch := omega) only [wrap_id]) <;> first | exact ⟨rfl, rfl⟩ | exact rfl)) | (first | (apply Wp.ung; (exact rfl); (first | exact rfl | assumption)) | (apply Wp.opSt; (exact rfl); (first | exact rfl | assumption)) | (apply Wp.opSf; (exact rfl); (first | exact rfl | assumption))) | (apply Wp.opS0; (exact rfl)) | (first | (apply Wp.condT; (exact rfl); (first | exact rfl | assumption)) | (apply Wp.condF; (exact rfl); (first | exact rfl | assumption))) | ((first | apply Wp.grdT | apply Wp.grdF | apply Wp.cond); (exact rfl); (intro); rotate_left 1; (intro); rotate_right 1))
          refine Wp.exit ?_
          rw [if_neg (by decide)]
          rw [← k7, hel, hem]
          refine ⟨rfl, _, [_, _], intsU (if r.how = 1 then r.s.h else []), rfl, .inl rfl, ?_⟩
          exact ⟨rfl, rfl, rfl, rfl⟩
      | false =>
        rw [hm] at hmv
        have hts : trStep ⟨ev, how, val, out, steps, work⟩ ix r = ⟨ev ++ r.ev.toList, r.how, r.val, if r.how = 1 then r.s.h else [], steps + 1, work + 1⟩ := by unfold trStep; rw [hm]; rfl
        rw [hts] at k7
        repeat' (first | apply Wp.seq | apply Wp.skip | apply Wp.block | (apply Wp.op0; ((simp [M2.keep]) <;> rfl)) | ((first | (apply Wp.pickT; (exact rfl); (first | exact rfl | assumption)) | (apply Wp.pickF; (exact rfl); (first | exact rfl | assumption))); ((simp) <;> exact rfl)) | ((first | apply Wp.op | apply Wp.opN); (apply Evt.all; intro; (simp [insL, hA', hxx, insU_len, insU_take, hd49, w1, w2, hl1, hl2, t1, t2, over_full]) <;> (try simp (disch := omega) only [wrap_id]) <;> first | exact ⟨rfl, rfl⟩ | exact rfl)) | (apply Wp.call; exact hmv _) | (apply Wp.call; exact hst _) | (first | (apply Wp.ung; (exact rfl); (first | exact rfl | assumption)) | (apply Wp.opSt; (exact rfl); (first | exact rfl | assumption)) | (apply Wp.opSf; (exact rfl); (first | exact rfl | assumption))) | (apply Wp.opS0; (exact rfl)) | (first | (apply Wp.condT; (exact rfl); (first | exact rfl | assumption)) | (apply Wp.condF; (exact rfl); (first | exact rfl | assumption))) | ((first | apply Wp.grdT | apply Wp.grdF | apply Wp.cond); (exact rfl); (intro); rotate_left 1; (intro); rotate_right 1))
        refine Wp.op (Evt.all fun n => app_evs _ _ _ 3 ev r.ev.toList (by omega) _ _ rfl rfl rfl _) ?_
        repeat' (first | apply Wp.seq | apply Wp.skip | apply Wp.block | (apply Wp.op0; ((simp [M2.keep]) <;> rfl)) | ((first | (apply Wp.pickT; (exact rfl); (first | exact rfl | assumption)) | (apply Wp.pickF; (exact rfl); (first | exact rfl | assumption))); ((simp) <;> exact rfl)) | ((first | apply Wp.op | apply Wp.opN); (apply Evt.all; intro; (simp [insL]) <;> (try simp (disch := omega) only [wrap_id]) <;> first | exact ⟨rfl, rfl⟩ | exact rfl)) | (first | (apply Wp.ung; (exact rfl); (first | exact rfl | assumption)) | (apply Wp.opSt; (exact rfl); (first | exact rfl | assumption)) | (apply Wp.opSf; (exact rfl); (first | exact rfl | assumption))) | (apply Wp.opS0; (exact rfl)) | (first | (apply Wp.condT; (exact rfl); (first | exact rfl | assumption)) | (apply Wp.condF; (exact rfl); (first | exact rfl | assumption))) | ((first | apply Wp.grdT | apply Wp.grdF | apply Wp.cond); (exact rfl); (intro); rotate_left 1; (intro); rotate_right 1))
        refine Wp.draw (by (simp [c_run_Run_D0, I.need]) <;> rfl) (by (simp [hl1, hl2, t2, over_full]) <;> rfl) (by (simp [hl1, hl2, t2, over_full]) <;> rfl) (by (unfold c_run_Run_D0); (repeat (first | ((first | apply Dr.op | apply Dr.opN | (apply Dr.opG; exact rfl)); ((simp [hl1, hl2, t2, over_full]) <;> rfl); (apply Evt.all; intro; (simp [hl1, hl2, t2, over_full]) <;> (try simp (disch := omega) only [wrap_id]) <;> first | exact ⟨rfl, rfl⟩ | exact rfl); ((simp [I.need]) <;> rfl)) | ((first | (apply Dr.opS; exact rfl; decide) | (apply Dr.opS0; exact rfl)); ((simp [I.need]) <;> rfl)))); exact Dr.nil) (by first | decide +kernel | exact rfl) (by (simp [M2.keep]) <;> rfl) ?_
        by_cases hh : r.how = 0
        · have dh : (!decide (r.how = 0)) = false := by simp [hh]
          rw [if_pos hh] at k7
          repeat' (first | apply Wp.seq | apply Wp.skip | apply Wp.block | (apply Wp.op0; ((simp [M2.keep]) <;> rfl)) | ((first | (apply Wp.pickT; (exact rfl); (first | exact rfl | assumption)) | (apply Wp.pickF; (exact rfl); (first | exact rfl | assumption))); ((simp) <;> exact rfl)) | ((first | apply Wp.op | apply Wp.opN); (apply Evt.all; intro; (simp [w3]) <;> (try simp (disch := omega) only [wrap_id]) <;> first | exact ⟨rfl, rfl⟩ | exact rfl)) | (first | (apply Wp.ung; (exact rfl); (first | exact rfl | assumption)) | (apply Wp.opSt; (exact rfl); (first | exact rfl | assumption)) | (apply Wp.opSf; (exact rfl); (first | exact rfl | assumption))) | (apply Wp.opS0; (exact rfl)) | (first | (apply Wp.condT; (exact rfl); (first | exact rfl | assumption)) | (apply Wp.condF; (exact rfl); (first | exact rfl | assumption))) | ((first | apply Wp.grdT | apply Wp.grdF | apply Wp.cond); (exact rfl); (intro); rotate_left 1; (intro); rotate_right 1))
          refine ⟨(i + 1, r.s, ⟨ev ++ r.ev.toList, r.how, r.val, if r.how = 1 then r.s.h else [], steps + 1, work + 1⟩, intsU (if r.how = 1 then r.s.h else [])), ?_, by simp only; omega, ⟨by simp only; omega, q1, q2, by simp only [List.length_append]; omega, by simp only; omega, by simp only; omega, k7, .inl rfl⟩⟩
          have hbl := rn_blw ⟨[r0, r1, r2, r3, r4, r5, r6, r7], h, ans, fuel, q⟩ rfl r.s ⟨ev ++ r.ev.toList, r.how, r.val, if r.how = 1 then r.s.h else [], steps + 1, work + 1⟩ (intsU (if r.how = 1 then r.s.h else [])) (.inl rfl)
          rw [hel, hem]
          refine trim_list (st := rnB ⟨[r0, r1, r2, r3, r4, r5, r6, r7], h, ans, fuel, q⟩ r.s ⟨ev ++ r.ev.toList, r.how, r.val, if r.how = 1 then r.s.h else [], steps + 1, work + 1⟩ (intsU (if r.how = 1 then r.s.h else []))) (l := [_, _]) ?_ hbl
          simp [insL, rnB]
        · have dh : (!decide (r.how = 0)) = true := by simp [hh]
          rw [if_neg hh] at k7
          repeat' (first | apply Wp.seq | apply Wp.skip | apply Wp.block | (apply Wp.op0; ((simp [M2.keep]) <;> rfl)) | ((first | (apply Wp.pickT; (exact rfl); (first | exact rfl | assumption)) | (apply Wp.pickF; (exact rfl); (first | exact rfl | assumption))); ((simp) <;> exact rfl)) | ((first | apply Wp.op | apply Wp.opN); (apply Evt.all; intro; (simp []) <;> (try simp (disch := omega) only [wrap_id]) <;> first | exact ⟨rfl, rfl⟩ | exact rfl)) | (first | (apply Wp.ung; (exact rfl); (first | exact rfl | assumption)) | (apply Wp.opSt; (exact rfl); (first | exact rfl | assumption)) | (apply Wp.opSf; (exact rfl); (first | exact rfl | assumption))) | (apply Wp.opS0; (exact rfl)) | (first | (apply Wp.condT; (exact rfl); (first | exact rfl | assumption)) | (apply Wp.condF; (exact rfl); (first | exact rfl | assumption))) | ((first | apply Wp.grdT | apply Wp.grdF | apply Wp.cond); (exact rfl); (intro); rotate_left 1; (intro); rotate_right 1))
          refine Wp.exit ?_
          rw [if_neg (by decide)]
          rw [← k7, hel, hem]
          refine ⟨rfl, _, [_, _], intsU (if r.how = 1 then r.s.h else []), rfl, .inl rfl, ?_⟩
          exact ⟨rfl, rfl, rfl, rfl⟩
    · cases h1
  · have hi2 : i = c.fuel.toNat := by omega
    subst hi2
    rw [Nat.sub_self, runLoop] at k7
    simp only [rnS]
    repeat (first | apply Wp.seq | apply Wp.skip | apply Wp.block | (apply Wp.op0; ((simp [M2.keep]) <;> rfl)) | ((first | apply Wp.op | apply Wp.opN | (apply Wp.opG; exact rfl)); (apply Evt.all; intro; (simp []) <;> (try simp (disch := omega) only [wrap_id]) <;> first | exact ⟨rfl, rfl⟩ | exact rfl)) | (apply Wp.opS; exact rfl; decide) | (apply Wp.opS0; exact rfl))
    refine Wp.cond (by first | rfl | (simp; rfl)) (fun h1 => ?_) (fun h1 => ?_)
    · simp at h1; omega
    · refine Wp.exit ?_
      rw [← k7]
      refine ⟨rfl, _, [], o, (by rw [List.append_nil]), k8, ?_⟩
      exact ⟨rfl, rfl, rfl, rfl⟩
end Go.Proofs.YtbmlnfceanfbmaaDoor.M2
/- What the functions answer in M2. What two runs tell: the parts. -/
namespace Go.Proofs.YtbmlnfceanfbmaaDoor.M2
open Go
attribute [local simp] ev1 M2.get put A.ev ld sub part elems bin arith un opt idx fillC cellsO splice over newOb sto fillR laidOwn appTo appRow touch touchN touchM touchE touchA plainU flatU plainAs allM rowAt stoRow accM_nil accM_cons accMM_nil accMM_cons frz_int frz_bool frz_str frz_slt frz_nils frz_nilI frz_nilF frz_own frzRow_row frzRow_frow Ob.blw blw_bool blw_int blw_str blw_nils blw_nilI blw_nilF blw_nilp blw_nilm blw_sl blw_own blw_bp blw_rp blw_mp blw_it params
attribute [local simp] frz_agg frz_tup frz_iface frzS_agg frzS_iface accMS_cons frzS_int frzS_bool frzS_str frzS_slt frzS_nils frzS_nilI beq_dec bne_dec
/-! Two rows, place by place. -/
theorem ne_at {α : Type} {a b : List α} {i : Nat} {x y : α} (h1 : a[i]? = some x) (h2 : b[i]? = some y) (hn : ¬ x = y) : ¬ a = b := by
  rintro rfl
  rw [h1] at h2
  injection h2 with h2
  exact hn h2
theorem eq_all {α : Type} {a b : List α} (hl : a.length = b.length) (h : ∀ j, j < a.length → a[j]? = b[j]?) : a = b := by
  refine List.ext_getElem? fun j => ?_
  rcases Nat.lt_or_ge j a.length with hj | hj
  · exact h j hj
  · rw [List.getElem?_eq_none hj, List.getElem?_eq_none (by omega)]
def hsS (a b : List Int) (i : Nat) : S := ⟨[(0, intsU a), (1, intsU b), (12, i64 (a.length : Nat)), (13, i64 i)], []⟩
set_option maxHeartbeats 4000000 in
theorem heapSame_call (a b : List Int) (ha : a.length ≤ 100000) (st : List Ob) : Cl T n_heap_Same [intsU a, intsU b] st (.bool (decide (a = b))) st := by
  refine Wp.pure (fn := c_heap_Same) rfl rfl rfl («as» := [intsU a, intsU b]) rfl ?_
  by_cases hl : ¬ a.length = b.length
  · have hne : ¬ a = b := fun e => hl (by rw [e])
    have hl' : ¬ (a.length : Int) = b.length := by omega
    have dl : (!decide ((a.length : Int) = b.length)) = true := by simp; omega
    have dl2 : (!decide (a.length = b.length)) = true := by simp [hl]
    rw [decide_eq_false hne]
    repeat' (first | apply Wp.seq | apply Wp.skip | apply Wp.block | (apply Wp.op0; ((simp [M2.keep]) <;> rfl)) | ((first | (apply Wp.pickT; (exact rfl); (first | exact rfl | assumption)) | (apply Wp.pickF; (exact rfl); (first | exact rfl | assumption))); ((simp) <;> exact rfl)) | ((first | apply Wp.op | apply Wp.opN); (apply Evt.all; intro; (simp []) <;> (try simp (disch := omega) only [wrap_id]) <;> first | exact ⟨rfl, rfl⟩ | exact rfl)) | (first | (apply Wp.ung; (exact rfl); (first | exact rfl | assumption)) | (apply Wp.opSt; (exact rfl); (first | exact rfl | assumption)) | (apply Wp.opSf; (exact rfl); (first | exact rfl | assumption))) | (apply Wp.opS0; (exact rfl)) | (first | (apply Wp.condT; (exact rfl); (first | exact rfl | assumption)) | (apply Wp.condF; (exact rfl); (first | exact rfl | assumption))) | ((first | apply Wp.grdT | apply Wp.grdF | apply Wp.cond); (exact rfl); (intro); rotate_left 1; (intro); rotate_right 1))
    refine Wp.ret ?_
    simp [Res, resU, res1, c_heap_Same]
  have hl : a.length = b.length := by omega
  have dl : (!decide ((a.length : Int) = b.length)) = false := by simp; omega
  have dl2 : (!decide (a.length = b.length)) = false := by simp [hl]
  repeat' (first | apply Wp.seq | apply Wp.skip | apply Wp.block | (apply Wp.op0; ((simp [M2.keep]) <;> rfl)) | ((first | (apply Wp.pickT; (exact rfl); (first | exact rfl | assumption)) | (apply Wp.pickF; (exact rfl); (first | exact rfl | assumption))); ((simp) <;> exact rfl)) | ((first | apply Wp.op | apply Wp.opN); (apply Evt.all; intro; (simp []) <;> (try simp (disch := omega) only [wrap_id]) <;> first | exact ⟨rfl, rfl⟩ | exact rfl)) | (first | (apply Wp.ung; (exact rfl); (first | exact rfl | assumption)) | (apply Wp.opSt; (exact rfl); (first | exact rfl | assumption)) | (apply Wp.opSf; (exact rfl); (first | exact rfl | assumption))) | (apply Wp.opS0; (exact rfl)) | (first | (apply Wp.condT; (exact rfl); (first | exact rfl | assumption)) | (apply Wp.condF; (exact rfl); (first | exact rfl | assumption))) | ((first | apply Wp.grdT | apply Wp.grdF | apply Wp.cond); (exact rfl); (intro); rotate_left 1; (intro); rotate_right 1))
  refine (show Wp T (.loop c_heap_Same_L1) (hsS a b 0) _ _ _ from Wp.count a.length (fun i => hsS a b i) (fun i => ∀ j, j < i → a[j]? = b[j]?) (fun i hi hP => ?_) (fun hP => ?_) 0 (by omega) (fun j hj => by omega))
  · have hi' : (i : Int) < a.length := by omega
    have hib : (i : Int) < b.length := by omega
    have ea : a[i]? = some a[i] := List.getElem?_eq_getElem hi
    have eb : b[i]? = some (b[i]'(by omega)) := List.getElem?_eq_getElem (by omega)
    simp only [hsS]
    generalize a[i] = x at *
    generalize b[i]'(by omega) = y at *
    repeat (first | apply Wp.seq | apply Wp.skip | apply Wp.block | (apply Wp.op0; ((simp [M2.keep]) <;> rfl)) | ((first | apply Wp.op | apply Wp.opN | (apply Wp.opG; exact rfl)); (apply Evt.all; intro; (simp [hi']) <;> (try simp (disch := omega) only [wrap_id]) <;> first | exact ⟨rfl, rfl⟩ | exact rfl)) | (apply Wp.opS; exact rfl; decide) | (apply Wp.opS0; exact rfl))
    refine Wp.cond (by first | rfl | (simp; rfl)) (fun h1 => ?_) (fun h1 => ?_)
    · repeat (first | apply Wp.seq | apply Wp.skip | apply Wp.block | (apply Wp.op0; ((simp [M2.keep]) <;> rfl)) | ((first | apply Wp.op | apply Wp.opN | (apply Wp.opG; exact rfl)); (apply Evt.all; intro; (simp []) <;> (try simp (disch := omega) only [wrap_id]) <;> first | exact ⟨rfl, rfl⟩ | exact rfl)) | (apply Wp.opS; exact rfl; decide) | (apply Wp.opS0; exact rfl))
      by_cases hxy : x = y
      · have dx : (!decide (x = y)) = false := by simp [hxy]
        refine Wp.draw (by (simp [c_heap_Same_D0, I.need]) <;> rfl) (by (simp [hi', hib, ea, eb]) <;> rfl) (by (simp [hi', hib, ea, eb]) <;> rfl) (by (unfold c_heap_Same_D0); (repeat (first | ((first | apply Dr.op | apply Dr.opN | (apply Dr.opG; exact rfl)); ((simp [hi', hib, ea, eb]) <;> rfl); (apply Evt.all; intro; (simp [hi', hib, ea, eb]) <;> (try simp (disch := omega) only [wrap_id]) <;> first | exact ⟨rfl, rfl⟩ | exact rfl); ((simp [I.need]) <;> rfl)) | ((first | (apply Dr.opS; exact rfl; decide) | (apply Dr.opS0; exact rfl)); ((simp [I.need]) <;> rfl)))); exact Dr.nil) (by first | decide +kernel | exact rfl) (by (simp [M2.keep]) <;> rfl) ?_
        repeat' (first | apply Wp.seq | apply Wp.skip | apply Wp.block | (apply Wp.op0; ((simp [M2.keep]) <;> rfl)) | ((first | (apply Wp.pickT; (exact rfl); (first | exact rfl | assumption)) | (apply Wp.pickF; (exact rfl); (first | exact rfl | assumption))); ((simp) <;> exact rfl)) | ((first | apply Wp.op | apply Wp.opN); (apply Evt.all; intro; (simp []) <;> (try simp (disch := omega) only [wrap_id]) <;> first | exact ⟨rfl, rfl⟩ | exact rfl)) | (first | (apply Wp.ung; (exact rfl); (first | exact rfl | assumption)) | (apply Wp.opSt; (exact rfl); (first | exact rfl | assumption)) | (apply Wp.opSf; (exact rfl); (first | exact rfl | assumption))) | (apply Wp.opS0; (exact rfl)) | (first | (apply Wp.condT; (exact rfl); (first | exact rfl | assumption)) | (apply Wp.condF; (exact rfl); (first | exact rfl | assumption))) | ((first | apply Wp.grdT | apply Wp.grdF | apply Wp.cond); (exact rfl); (intro); rotate_left 1; (intro); rotate_right 1))
        repeat (first | apply Wp.seq | apply Wp.skip | apply Wp.block | (apply Wp.op0; ((simp [M2.keep]) <;> rfl)) | ((first | apply Wp.op | apply Wp.opN | (apply Wp.opG; exact rfl)); (apply Evt.all; intro; (simp [wrap_id]) <;> (try simp (disch := omega) only [wrap_id]) <;> first | exact ⟨rfl, rfl⟩ | exact rfl)) | (apply Wp.opS; exact rfl; decide) | (apply Wp.opS0; exact rfl))
        refine ⟨trimO_len rfl, fun j hj => ?_⟩
        rcases Nat.lt_or_ge j i with h | h
        · exact hP j h
        · have : j = i := by omega
          subst this
          rw [ea, eb, hxy]
      · have dx : (!decide (x = y)) = true := by simp [hxy]
        rw [decide_eq_false (ne_at ea eb hxy)]
        refine Wp.draw (by (simp [c_heap_Same_D0, I.need]) <;> rfl) (by (simp [hi', hib, ea, eb]) <;> rfl) (by (simp [hi', hib, ea, eb]) <;> rfl) (by (unfold c_heap_Same_D0); (repeat (first | ((first | apply Dr.op | apply Dr.opN | (apply Dr.opG; exact rfl)); ((simp [hi', hib, ea, eb]) <;> rfl); (apply Evt.all; intro; (simp [hi', hib, ea, eb]) <;> (try simp (disch := omega) only [wrap_id]) <;> first | exact ⟨rfl, rfl⟩ | exact rfl); ((simp [I.need]) <;> rfl)) | ((first | (apply Dr.opS; exact rfl; decide) | (apply Dr.opS0; exact rfl)); ((simp [I.need]) <;> rfl)))); exact Dr.nil) (by first | decide +kernel | exact rfl) (by (simp [M2.keep]) <;> rfl) ?_
        repeat' (first | apply Wp.seq | apply Wp.skip | apply Wp.block | (apply Wp.op0; ((simp [M2.keep]) <;> rfl)) | ((first | (apply Wp.pickT; (exact rfl); (first | exact rfl | assumption)) | (apply Wp.pickF; (exact rfl); (first | exact rfl | assumption))); ((simp) <;> exact rfl)) | ((first | apply Wp.op | apply Wp.opN); (apply Evt.all; intro; (simp []) <;> (try simp (disch := omega) only [wrap_id]) <;> first | exact ⟨rfl, rfl⟩ | exact rfl)) | (first | (apply Wp.ung; (exact rfl); (first | exact rfl | assumption)) | (apply Wp.opSt; (exact rfl); (first | exact rfl | assumption)) | (apply Wp.opSf; (exact rfl); (first | exact rfl | assumption))) | (apply Wp.opS0; (exact rfl)) | (first | (apply Wp.condT; (exact rfl); (first | exact rfl | assumption)) | (apply Wp.condF; (exact rfl); (first | exact rfl | assumption))) | ((first | apply Wp.grdT | apply Wp.grdF | apply Wp.cond); (exact rfl); (intro); rotate_left 1; (intro); rotate_right 1))
        refine Wp.ret ?_
        simp [Res, resU, res1, c_heap_Same]
    · cases h1
  · simp only [hsS]
    repeat (first | apply Wp.seq | apply Wp.skip | apply Wp.block | (apply Wp.op0; ((simp [M2.keep]) <;> rfl)) | ((first | apply Wp.op | apply Wp.opN | (apply Wp.opG; exact rfl)); (apply Evt.all; intro; (simp []) <;> (try simp (disch := omega) only [wrap_id]) <;> first | exact ⟨rfl, rfl⟩ | exact rfl)) | (apply Wp.opS; exact rfl; decide) | (apply Wp.opS0; exact rfl))
    refine Wp.cond (by first | rfl | (simp; rfl)) (fun h1 => ?_) (fun h1 => ?_)
    · simp at h1
    · refine Wp.exit ?_
      rw [if_pos rfl, decide_eq_true (eq_all hl hP)]
      repeat (first | apply Wp.seq | apply Wp.skip | apply Wp.block | (apply Wp.op0; ((simp [M2.keep]) <;> rfl)) | ((first | apply Wp.op | apply Wp.opN | (apply Wp.opG; exact rfl)); (apply Evt.all; intro; (simp []) <;> (try simp (disch := omega) only [wrap_id]) <;> first | exact ⟨rfl, rfl⟩ | exact rfl)) | (apply Wp.opS; exact rfl; decide) | (apply Wp.opS0; exact rfl))
      refine Wp.ret ?_
      simp [Res, resU, res1, c_heap_Same]
theorem evt_same (a b : Evn) : sameV (.tst [(1, .ti), (1, .ti), (1, .ti)]) (.agg (evU a)) (.agg (evU b)) = some (decide (a = b)) := by
  obtain ⟨a1, a2, a3⟩ := a
  obtain ⟨b1, b2, b3⟩ := b
  simp only [sameV, cellsS, Option.bind_some, evU, evtU, sameD, same, same.fields, List.length_cons, List.length_nil, List.take, List.drop, i64, Prod.mk.injEq]
  by_cases h1 : a1 = b1
  · by_cases h2 : a2 = b2
    · by_cases h3 : a3 = b3 <;> simp [h1, h2, h3]
    · simp [h1, h2]
  · simp [h1]
theorem begins_at {a b : List Evn} {i : Nat} {x y : Evn} (h1 : a[i]? = some x) (h2 : b[i]? = some y) (hn : ¬ x = y) : begins a b = false := by
  unfold begins
  rw [Bool.and_eq_false_iff]
  right
  rw [decide_eq_false_iff_not]
  refine ne_at h1 (y := y) ?_ hn
  rw [List.getElem?_take, if_pos (List.getElem?_eq_some_iff.1 h1).1]
  exact h2
theorem begins_all {a b : List Evn} (hl : a.length ≤ b.length) (h : ∀ j, j < a.length → a[j]? = b[j]?) : begins a b = true := by
  unfold begins
  rw [decide_eq_true hl, Bool.true_and, decide_eq_true_eq]
  refine eq_all (by rw [List.length_take]; omega) fun j hj => ?_
  rw [List.getElem?_take, if_pos hj]
  exact h j hj
def bgS (p q : Bool) (a b : List Evn) (i : Nat) : S := ⟨[(1, evsU q b), (12, evsU p a), (13, i64 (a.length : Nat)), (14, i64 i)], []⟩
set_option maxHeartbeats 4000000 in
theorem begins_call (p q : Bool) (a b : List Evn) (ha : a.length ≤ 100000) (st : List Ob) : Cl T n_differ_Begins [evsU p a, evsU q b] st (.bool (begins a b)) st := by
  refine Wp.pure (fn := c_differ_Begins) rfl rfl rfl («as» := [evsU p a, evsU q b]) rfl ?_
  by_cases hl : b.length < a.length
  · have hb : begins a b = false := by unfold begins; rw [decide_eq_false (by omega)]; rfl
    have d1 : decide ((b.length : Int) < a.length) = true := decide_eq_true (by omega)
    have d2 : decide (b.length < a.length) = true := decide_eq_true hl
    rw [hb]
    repeat' (first | apply Wp.seq | apply Wp.skip | apply Wp.block | (apply Wp.op0; ((simp [M2.keep]) <;> rfl)) | ((first | (apply Wp.pickT; (exact rfl); (first | exact rfl | assumption)) | (apply Wp.pickF; (exact rfl); (first | exact rfl | assumption))); ((simp) <;> exact rfl)) | ((first | apply Wp.op | apply Wp.opN); (apply Evt.all; intro; (simp [evsU]) <;> (try simp (disch := omega) only [wrap_id]) <;> first | exact ⟨rfl, rfl⟩ | exact rfl)) | (first | (apply Wp.ung; (exact rfl); (first | exact rfl | assumption)) | (apply Wp.opSt; (exact rfl); (first | exact rfl | assumption)) | (apply Wp.opSf; (exact rfl); (first | exact rfl | assumption))) | (apply Wp.opS0; (exact rfl)) | (first | (apply Wp.condT; (exact rfl); (first | exact rfl | assumption)) | (apply Wp.condF; (exact rfl); (first | exact rfl | assumption))) | ((first | apply Wp.grdT | apply Wp.grdF | apply Wp.cond); (exact rfl); (intro); rotate_left 1; (intro); rotate_right 1))
    refine Wp.ret ?_
    simp [Res, resU, res1, c_differ_Begins]
  have d1 : decide ((b.length : Int) < a.length) = false := decide_eq_false (by omega)
  have d2 : decide (b.length < a.length) = false := decide_eq_false hl
  repeat' (first | apply Wp.seq | apply Wp.skip | apply Wp.block | (apply Wp.op0; ((simp [M2.keep]) <;> rfl)) | ((first | (apply Wp.pickT; (exact rfl); (first | exact rfl | assumption)) | (apply Wp.pickF; (exact rfl); (first | exact rfl | assumption))); ((simp) <;> exact rfl)) | ((first | apply Wp.op | apply Wp.opN); (apply Evt.all; intro; (simp [evsU]) <;> (try simp (disch := omega) only [wrap_id]) <;> first | exact ⟨rfl, rfl⟩ | exact rfl)) | (first | (apply Wp.ung; (exact rfl); (first | exact rfl | assumption)) | (apply Wp.opSt; (exact rfl); (first | exact rfl | assumption)) | (apply Wp.opSf; (exact rfl); (first | exact rfl | assumption))) | (apply Wp.opS0; (exact rfl)) | (first | (apply Wp.condT; (exact rfl); (first | exact rfl | assumption)) | (apply Wp.condF; (exact rfl); (first | exact rfl | assumption))) | ((first | apply Wp.grdT | apply Wp.grdF | apply Wp.cond); (exact rfl); (intro); rotate_left 1; (intro); rotate_right 1))
  refine (show Wp T (.loop c_differ_Begins_L1) (bgS p q a b 0) _ _ _ from Wp.count a.length (fun i => bgS p q a b i) (fun i => ∀ j, j < i → a[j]? = b[j]?) (fun i hi hP => ?_) (fun hP => ?_) 0 (by omega) (fun j hj => by omega))
  · have hi' : (i : Int) < a.length := by omega
    have hib : (i : Int) < b.length := by omega
    have ea : a[i]? = some a[i] := List.getElem?_eq_getElem hi
    have eb : b[i]? = some (b[i]'(by omega)) := List.getElem?_eq_getElem (by omega)
    simp only [bgS]
    generalize a[i] = x at *
    generalize b[i]'(by omega) = y at *
    have hs := evt_same x y
    repeat (first | apply Wp.seq | apply Wp.skip | apply Wp.block | (apply Wp.op0; ((simp [M2.keep]) <;> rfl)) | ((first | apply Wp.op | apply Wp.opN | (apply Wp.opG; exact rfl)); (apply Evt.all; intro; (simp [hi', evsU]) <;> (try simp (disch := omega) only [wrap_id]) <;> first | exact ⟨rfl, rfl⟩ | exact rfl)) | (apply Wp.opS; exact rfl; decide) | (apply Wp.opS0; exact rfl))
    refine Wp.cond (by first | rfl | (simp; rfl)) (fun h1 => ?_) (fun h1 => ?_)
    · repeat (first | apply Wp.seq | apply Wp.skip | apply Wp.block | (apply Wp.op0; ((simp [M2.keep]) <;> rfl)) | ((first | apply Wp.op | apply Wp.opN | (apply Wp.opG; exact rfl)); (apply Evt.all; intro; (simp [hi', ea, evU, evtU, evsU]) <;> (try simp (disch := omega) only [wrap_id]) <;> first | exact ⟨rfl, rfl⟩ | exact rfl)) | (apply Wp.opS; exact rfl; decide) | (apply Wp.opS0; exact rfl))
      by_cases hxy : x = y
      · rw [decide_eq_true hxy] at hs
        simp only [evU, evtU] at hs
        refine Wp.draw (by (simp [c_differ_Begins_D0, I.need]) <;> rfl) (by (simp [hi', hib, ea, eb, evU, evtU, hs, evsU]) <;> rfl) (by (simp [hi', hib, ea, eb, evU, evtU, hs, evsU]) <;> rfl) (by (unfold c_differ_Begins_D0); (repeat (first | ((first | apply Dr.op | apply Dr.opN | (apply Dr.opG; exact rfl)); ((simp [hi', hib, ea, eb, evU, evtU, hs, evsU]) <;> rfl); (apply Evt.all; intro; (simp [hi', hib, ea, eb, evU, evtU, hs, evsU]) <;> (try simp (disch := omega) only [wrap_id]) <;> first | exact ⟨rfl, rfl⟩ | exact rfl); ((simp [I.need]) <;> rfl)) | ((first | (apply Dr.opS; exact rfl; decide) | (apply Dr.opS0; exact rfl)); ((simp [I.need]) <;> rfl)))); exact Dr.nil) (by first | decide +kernel | exact rfl) (by (simp [M2.keep]) <;> rfl) ?_
        repeat' (first | apply Wp.seq | apply Wp.skip | apply Wp.block | (apply Wp.op0; ((simp [M2.keep]) <;> rfl)) | ((first | (apply Wp.pickT; (exact rfl); (first | exact rfl | assumption)) | (apply Wp.pickF; (exact rfl); (first | exact rfl | assumption))); ((simp) <;> exact rfl)) | ((first | apply Wp.op | apply Wp.opN); (apply Evt.all; intro; (simp []) <;> (try simp (disch := omega) only [wrap_id]) <;> first | exact ⟨rfl, rfl⟩ | exact rfl)) | (first | (apply Wp.ung; (exact rfl); (first | exact rfl | assumption)) | (apply Wp.opSt; (exact rfl); (first | exact rfl | assumption)) | (apply Wp.opSf; (exact rfl); (first | exact rfl | assumption))) | (apply Wp.opS0; (exact rfl)) | (first | (apply Wp.condT; (exact rfl); (first | exact rfl | assumption)) | (apply Wp.condF; (exact rfl); (first | exact rfl | assumption))) | ((first | apply Wp.grdT | apply Wp.grdF | apply Wp.cond); (exact rfl); (intro); rotate_left 1; (intro); rotate_right 1))
        repeat (first | apply Wp.seq | apply Wp.skip | apply Wp.block | (apply Wp.op0; ((simp [M2.keep]) <;> rfl)) | ((first | apply Wp.op | apply Wp.opN | (apply Wp.opG; exact rfl)); (apply Evt.all; intro; (simp [wrap_id]) <;> (try simp (disch := omega) only [wrap_id]) <;> first | exact ⟨rfl, rfl⟩ | exact rfl)) | (apply Wp.opS; exact rfl; decide) | (apply Wp.opS0; exact rfl))
        refine ⟨by simp [trimO, trim, evsU], fun j hj => ?_⟩
        rcases Nat.lt_or_ge j i with h | h
        · exact hP j h
        · have : j = i := by omega
          subst this
          rw [ea, eb, hxy]
      · rw [decide_eq_false hxy] at hs
        simp only [evU, evtU] at hs
        rw [begins_at ea eb hxy]
        refine Wp.draw (by (simp [c_differ_Begins_D0, I.need]) <;> rfl) (by (simp [hi', hib, ea, eb, evU, evtU, hs, evsU]) <;> rfl) (by (simp [hi', hib, ea, eb, evU, evtU, hs, evsU]) <;> rfl) (by (unfold c_differ_Begins_D0); (repeat (first | ((first | apply Dr.op | apply Dr.opN | (apply Dr.opG; exact rfl)); ((simp [hi', hib, ea, eb, evU, evtU, hs, evsU]) <;> rfl); (apply Evt.all; intro; (simp [hi', hib, ea, eb, evU, evtU, hs, evsU]) <;> (try simp (disch := omega) only [wrap_id]) <;> first | exact ⟨rfl, rfl⟩ | exact rfl); ((simp [I.need]) <;> rfl)) | ((first | (apply Dr.opS; exact rfl; decide) | (apply Dr.opS0; exact rfl)); ((simp [I.need]) <;> rfl)))); exact Dr.nil) (by first | decide +kernel | exact rfl) (by (simp [M2.keep]) <;> rfl) ?_
        repeat' (first | apply Wp.seq | apply Wp.skip | apply Wp.block | (apply Wp.op0; ((simp [M2.keep]) <;> rfl)) | ((first | (apply Wp.pickT; (exact rfl); (first | exact rfl | assumption)) | (apply Wp.pickF; (exact rfl); (first | exact rfl | assumption))); ((simp) <;> exact rfl)) | ((first | apply Wp.op | apply Wp.opN); (apply Evt.all; intro; (simp []) <;> (try simp (disch := omega) only [wrap_id]) <;> first | exact ⟨rfl, rfl⟩ | exact rfl)) | (first | (apply Wp.ung; (exact rfl); (first | exact rfl | assumption)) | (apply Wp.opSt; (exact rfl); (first | exact rfl | assumption)) | (apply Wp.opSf; (exact rfl); (first | exact rfl | assumption))) | (apply Wp.opS0; (exact rfl)) | (first | (apply Wp.condT; (exact rfl); (first | exact rfl | assumption)) | (apply Wp.condF; (exact rfl); (first | exact rfl | assumption))) | ((first | apply Wp.grdT | apply Wp.grdF | apply Wp.cond); (exact rfl); (intro); rotate_left 1; (intro); rotate_right 1))
        refine Wp.ret ?_
        simp [Res, resU, res1, c_differ_Begins]
    · cases h1
  · simp only [bgS]
    repeat (first | apply Wp.seq | apply Wp.skip | apply Wp.block | (apply Wp.op0; ((simp [M2.keep]) <;> rfl)) | ((first | apply Wp.op | apply Wp.opN | (apply Wp.opG; exact rfl)); (apply Evt.all; intro; (simp []) <;> (try simp (disch := omega) only [wrap_id]) <;> first | exact ⟨rfl, rfl⟩ | exact rfl)) | (apply Wp.opS; exact rfl; decide) | (apply Wp.opS0; exact rfl))
    refine Wp.cond (by first | rfl | (simp; rfl)) (fun h1 => ?_) (fun h1 => ?_)
    · simp at h1
    · refine Wp.exit ?_
      rw [if_pos rfl, begins_all (by omega) hP]
      repeat (first | apply Wp.seq | apply Wp.skip | apply Wp.block | (apply Wp.op0; ((simp [M2.keep]) <;> rfl)) | ((first | apply Wp.op | apply Wp.opN | (apply Wp.opG; exact rfl)); (apply Evt.all; intro; (simp []) <;> (try simp (disch := omega) only [wrap_id]) <;> first | exact ⟨rfl, rfl⟩ | exact rfl)) | (apply Wp.opS; exact rfl; decide) | (apply Wp.opS0; exact rfl))
      refine Wp.ret ?_
      simp [Res, resU, res1, c_differ_Begins]
theorem halted_call (t : TR) (st : List Ob) : Cl T n_differ_Halted [.agg (trU t)] st (.bool (haltedF t)) st := by
  refine Wp.pure (fn := c_differ_Halted) rfl rfl rfl («as» := [.agg (trU t)]) rfl ?_
  obtain ⟨ev, how, val, out, steps, work⟩ := t
  by_cases h1 : how = 1
  · subst h1
    repeat' (first | apply Wp.seq | apply Wp.skip | apply Wp.block | (apply Wp.op0; ((simp [M2.keep]) <;> rfl)) | ((first | (apply Wp.pickT; (exact rfl); (first | exact rfl | assumption)) | (apply Wp.pickF; (exact rfl); (first | exact rfl | assumption))); ((simp) <;> exact rfl)) | ((first | apply Wp.op | apply Wp.opN); (apply Evt.all; intro; (simp [trU, evsU]) <;> (try simp (disch := omega) only [wrap_id]) <;> first | exact ⟨rfl, rfl⟩ | exact rfl)) | (apply Wp.unroll) | (apply Wp.next; ((simp [trimO, trim]) <;> rfl)) | (apply Wp.exit; (first | rw [if_pos rfl] | (rw [if_neg (by decide)]; first | rw [if_pos rfl] | (rw [if_neg (by decide)]; rw [if_pos rfl])))) | (first | (apply Wp.ung; (exact rfl); (first | exact rfl | assumption)) | (apply Wp.opSt; (exact rfl); (first | exact rfl | assumption)) | (apply Wp.opSf; (exact rfl); (first | exact rfl | assumption))) | (apply Wp.opS0; (exact rfl)) | (first | (apply Wp.condT; (exact rfl); (first | exact rfl | assumption)) | (apply Wp.condF; (exact rfl); (first | exact rfl | assumption))) | ((first | apply Wp.grdT | apply Wp.grdF | apply Wp.cond); (exact rfl); (intro); rotate_left 1; (intro); rotate_right 1))
    refine Wp.ret ?_
    simp [Res, resU, res1, c_differ_Halted, haltedF]
  by_cases h2 : how = 2
  · subst h2
    repeat' (first | apply Wp.seq | apply Wp.skip | apply Wp.block | (apply Wp.op0; ((simp [M2.keep]) <;> rfl)) | ((first | (apply Wp.pickT; (exact rfl); (first | exact rfl | assumption)) | (apply Wp.pickF; (exact rfl); (first | exact rfl | assumption))); ((simp) <;> exact rfl)) | ((first | apply Wp.op | apply Wp.opN); (apply Evt.all; intro; (simp [trU, evsU]) <;> (try simp (disch := omega) only [wrap_id]) <;> first | exact ⟨rfl, rfl⟩ | exact rfl)) | (apply Wp.unroll) | (apply Wp.next; ((simp [trimO, trim]) <;> rfl)) | (apply Wp.exit; (first | rw [if_pos rfl] | (rw [if_neg (by decide)]; first | rw [if_pos rfl] | (rw [if_neg (by decide)]; rw [if_pos rfl])))) | (first | (apply Wp.ung; (exact rfl); (first | exact rfl | assumption)) | (apply Wp.opSt; (exact rfl); (first | exact rfl | assumption)) | (apply Wp.opSf; (exact rfl); (first | exact rfl | assumption))) | (apply Wp.opS0; (exact rfl)) | (first | (apply Wp.condT; (exact rfl); (first | exact rfl | assumption)) | (apply Wp.condF; (exact rfl); (first | exact rfl | assumption))) | ((first | apply Wp.grdT | apply Wp.grdF | apply Wp.cond); (exact rfl); (intro); rotate_left 1; (intro); rotate_right 1))
    refine Wp.ret ?_
    simp [Res, resU, res1, c_differ_Halted, haltedF]
  by_cases h3 : how = 3
  · subst h3
    repeat' (first | apply Wp.seq | apply Wp.skip | apply Wp.block | (apply Wp.op0; ((simp [M2.keep]) <;> rfl)) | ((first | (apply Wp.pickT; (exact rfl); (first | exact rfl | assumption)) | (apply Wp.pickF; (exact rfl); (first | exact rfl | assumption))); ((simp) <;> exact rfl)) | ((first | apply Wp.op | apply Wp.opN); (apply Evt.all; intro; (simp [trU, evsU]) <;> (try simp (disch := omega) only [wrap_id]) <;> first | exact ⟨rfl, rfl⟩ | exact rfl)) | (apply Wp.unroll) | (apply Wp.next; ((simp [trimO, trim]) <;> rfl)) | (apply Wp.exit; (first | rw [if_pos rfl] | (rw [if_neg (by decide)]; first | rw [if_pos rfl] | (rw [if_neg (by decide)]; rw [if_pos rfl])))) | (first | (apply Wp.ung; (exact rfl); (first | exact rfl | assumption)) | (apply Wp.opSt; (exact rfl); (first | exact rfl | assumption)) | (apply Wp.opSf; (exact rfl); (first | exact rfl | assumption))) | (apply Wp.opS0; (exact rfl)) | (first | (apply Wp.condT; (exact rfl); (first | exact rfl | assumption)) | (apply Wp.condF; (exact rfl); (first | exact rfl | assumption))) | ((first | apply Wp.grdT | apply Wp.grdF | apply Wp.cond); (exact rfl); (intro); rotate_left 1; (intro); rotate_right 1))
    refine Wp.ret ?_
    simp [Res, resU, res1, c_differ_Halted, haltedF]
  by_cases h4 : how = 4
  · subst h4
    repeat' (first | apply Wp.seq | apply Wp.skip | apply Wp.block | (apply Wp.op0; ((simp [M2.keep]) <;> rfl)) | ((first | (apply Wp.pickT; (exact rfl); (first | exact rfl | assumption)) | (apply Wp.pickF; (exact rfl); (first | exact rfl | assumption))); ((simp) <;> exact rfl)) | ((first | apply Wp.op | apply Wp.opN); (apply Evt.all; intro; (simp [trU, evsU]) <;> (try simp (disch := omega) only [wrap_id]) <;> first | exact ⟨rfl, rfl⟩ | exact rfl)) | (apply Wp.unroll) | (apply Wp.next; ((simp [trimO, trim]) <;> rfl)) | (apply Wp.exit; (first | rw [if_pos rfl] | (rw [if_neg (by decide)]; first | rw [if_pos rfl] | (rw [if_neg (by decide)]; rw [if_pos rfl])))) | (first | (apply Wp.ung; (exact rfl); (first | exact rfl | assumption)) | (apply Wp.opSt; (exact rfl); (first | exact rfl | assumption)) | (apply Wp.opSf; (exact rfl); (first | exact rfl | assumption))) | (apply Wp.opS0; (exact rfl)) | (first | (apply Wp.condT; (exact rfl); (first | exact rfl | assumption)) | (apply Wp.condF; (exact rfl); (first | exact rfl | assumption))) | ((first | apply Wp.grdT | apply Wp.grdF | apply Wp.cond); (exact rfl); (intro); rotate_left 1; (intro); rotate_right 1))
    refine Wp.ret ?_
    simp [Res, resU, res1, c_differ_Halted, haltedF]
  have hh : haltedF ⟨ev, how, val, out, steps, work⟩ = false := by
    unfold haltedF
    simp
    omega
  rw [hh]
  repeat' (first | apply Wp.seq | apply Wp.skip | apply Wp.block | (apply Wp.op0; ((simp [M2.keep]) <;> rfl)) | ((first | (apply Wp.pickT; (exact rfl); (first | exact rfl | assumption)) | (apply Wp.pickF; (exact rfl); (first | exact rfl | assumption))); ((simp) <;> exact rfl)) | ((first | apply Wp.op | apply Wp.opN); (apply Evt.all; intro; (simp [trU, evsU, h1, h2, h3, h4]) <;> (try simp (disch := omega) only [wrap_id]) <;> first | exact ⟨rfl, rfl⟩ | exact rfl)) | (apply Wp.unroll) | (apply Wp.next; ((simp [trimO, trim]) <;> rfl)) | (apply Wp.exit; (first | rw [if_pos rfl] | (rw [if_neg (by decide)]; first | rw [if_pos rfl] | (rw [if_neg (by decide)]; rw [if_pos rfl])))) | (first | (apply Wp.ung; (exact rfl); (first | exact rfl | assumption)) | (apply Wp.opSt; (exact rfl); (first | exact rfl | assumption)) | (apply Wp.opSf; (exact rfl); (first | exact rfl | assumption))) | (apply Wp.opS0; (exact rfl)) | (first | (apply Wp.condT; (exact rfl); (first | exact rfl | assumption)) | (apply Wp.condF; (exact rfl); (first | exact rfl | assumption))) | ((first | apply Wp.grdT | apply Wp.grdF | apply Wp.cond); (exact rfl); (intro); rotate_left 1; (intro); rotate_right 1))
  refine Wp.ret ?_
  simp [Res, resU, res1, c_differ_Halted]
end Go.Proofs.YtbmlnfceanfbmaaDoor.M2
/- What the functions answer in M2. A run, told. -/
namespace Go.Proofs.YtbmlnfceanfbmaaDoor.M2
open Go
attribute [local simp] ev1 M2.get put A.ev ld sub part elems bin arith un opt idx fillC cellsO splice over newOb sto fillR laidOwn appTo appRow touch touchN touchM touchE touchA plainU flatU plainAs allM rowAt stoRow accM_nil accM_cons accMM_nil accMM_cons frz_int frz_bool frz_str frz_slt frz_nils frz_nilI frz_nilF frz_own frzRow_row frzRow_frow Ob.blw blw_bool blw_int blw_str blw_nils blw_nilI blw_nilF blw_nilp blw_nilm blw_sl blw_own blw_bp blw_rp blw_mp blw_it params
attribute [local simp] frz_agg frz_tup frz_iface frzS_agg frzS_iface accMS_cons frzS_int frzS_bool frzS_str frzS_slt frzS_nils frzS_nilI beq_dec bne_dec
theorem brw_cs (st : List Ob) (c : Cs) (hR : c.R.length = 8) : brw frzD st (.agg (csU c)) = some (.agg (csU c)) := by
  obtain ⟨R, h, ans, fuel, q⟩ := c
  obtain ⟨r0, r1, r2, r3, r4, r5, r6, r7, rfl⟩ := R8 hR
  rfl
theorem runLoop_ev (l : List Ins) (ask : List Int) : ∀ (n : Nat) (s : Stt) (t : TR), (runLoop l ask n s t).2.ev.length ≤ t.ev.length + n
  | 0, s, t => by simp [runLoop]
  | n + 1, s, t => by
    rw [runLoop]
    have h1 : (stepAllF s (l.getD s.at_.toNat default) ask).ev.toList.length ≤ 1 := by cases (stepAllF s (l.getD s.at_.toNat default) ask).ev <;> simp
    split
    · have := runLoop_ev l ask n (stepAllF s (l.getD s.at_.toNat default) ask).s (trStep t (l.getD s.at_.toNat default) (stepAllF s (l.getD s.at_.toNat default) ask))
      simp only [trStep, List.length_append] at this
      simp only [trStep]
      omega
    · simp only [trStep, List.length_append]
      omega
def zStt : Stt := ⟨Z24, [], 0, 0⟩
set_option maxHeartbeats 16000000 in
theorem run_call (p : Bool) (l : List Ins) (c : Cs) (hR : c.R.length = 8) (hh : c.h.length ≤ 1000) (st : List Ob) :
    Cl T n_run_Run [insL p l, .agg (csU c)] st (if (rightF l && csRight c) = true then .tup [.agg (trU (runF l c).2), .agg (stU true (runF l c).1), i64 0] else .tup [.agg (trU tr0), .agg (stU true zStt), i64 1]) st := by
  have hbr := brw_cs st c hR
  refine Wp.pure (fn := c_run_Run) rfl rfl rfl («as» := [insL p l, .agg (csU c)]) (by simp [hbr, insL]; rfl) ?_
  have hri := fun st => asmRight_call p l st (insL p l) rfl
  have hcr := csRight_call c hR
  have hbg := begin_call c hR hh
  have hcl : (csU c).length = 11 := by simp [csU, hR]
  have hct : (csU c).take 11 = csU c := List.take_of_length_le (by omega)
  have lz : Z51.length = 51 := rfl
  cases h1 : rightF l with
  | false =>
    rw [h1] at hri
    repeat' (first | apply Wp.seq | apply Wp.skip | apply Wp.block | (apply Wp.op0; ((simp [M2.keep]) <;> rfl)) | ((first | (apply Wp.pickT; (exact rfl); (first | exact rfl | assumption)) | (apply Wp.pickF; (exact rfl); (first | exact rfl | assumption))); ((simp) <;> exact rfl)) | ((first | apply Wp.op | apply Wp.opN); (apply Evt.all; intro; (simp []) <;> (try simp (disch := omega) only [wrap_id]) <;> first | exact ⟨rfl, rfl⟩ | exact rfl)) | (apply Wp.call; exact hri _) | (first | (apply Wp.ung; (exact rfl); (first | exact rfl | assumption)) | (apply Wp.opSt; (exact rfl); (first | exact rfl | assumption)) | (apply Wp.opSf; (exact rfl); (first | exact rfl | assumption))) | (apply Wp.opS0; (exact rfl)) | (first | (apply Wp.condT; (exact rfl); (first | exact rfl | assumption)) | (apply Wp.condF; (exact rfl); (first | exact rfl | assumption))) | ((first | apply Wp.grdT | apply Wp.grdF | apply Wp.cond); (exact rfl); (intro); rotate_left 1; (intro); rotate_right 1))
    refine Wp.ret ?_
    simp [Res, resU, res1, c_run_Run]
    exact ⟨rfl, rfl⟩
  | true =>
    rw [h1] at hri
    cases h2 : csRight c with
    | false =>
      rw [h2] at hcr
      repeat' (first | apply Wp.seq | apply Wp.skip | apply Wp.block | (apply Wp.op0; ((simp [M2.keep]) <;> rfl)) | ((first | (apply Wp.pickT; (exact rfl); (first | exact rfl | assumption)) | (apply Wp.pickF; (exact rfl); (first | exact rfl | assumption))); ((simp) <;> exact rfl)) | ((first | apply Wp.op | apply Wp.opN); (apply Evt.all; intro; (simp [hcl, hct]) <;> (try simp (disch := omega) only [wrap_id]) <;> first | exact ⟨rfl, rfl⟩ | exact rfl)) | (apply Wp.call; exact hri _) | (apply Wp.call; exact hcr _) | (first | (apply Wp.ung; (exact rfl); (first | exact rfl | assumption)) | (apply Wp.opSt; (exact rfl); (first | exact rfl | assumption)) | (apply Wp.opSf; (exact rfl); (first | exact rfl | assumption))) | (apply Wp.opS0; (exact rfl)) | (first | (apply Wp.condT; (exact rfl); (first | exact rfl | assumption)) | (apply Wp.condF; (exact rfl); (first | exact rfl | assumption))) | ((first | apply Wp.grdT | apply Wp.grdF | apply Wp.cond); (exact rfl); (intro); rotate_left 1; (intro); rotate_right 1))
      refine Wp.ret ?_
      simp [Res, resU, res1, c_run_Run]
      exact ⟨rfl, rfl⟩
    | true =>
      rw [h2] at hcr
      obtain ⟨q1, q2⟩ := begin_right h1 h2 hR
      have hc := h2
      unfold csRight at hc
      simp only [Bool.and_eq_true, decide_eq_true_eq] at hc
      have hl1 := stU_len (p := true) q2
      have hx : RInv l c (0, beginF c, tr0, .nils) := ⟨Nat.zero_le _, q1, q2, by simp [tr0], by simp [tr0], by simp [tr0], rfl, .inr ⟨rfl, rfl⟩⟩
      have hlp := run_loop p l c hR ⟨hc.2.2.1, hc.2.2.2⟩ (by omega) _ hx
      have hfl : (csU c).drop 10 = [i64 c.fuel] := by
        obtain ⟨R, h, ans, fuel, q⟩ := c
        obtain ⟨r0, r1, r2, r3, r4, r5, r6, r7, rfl⟩ := R8 hR
        rfl
      simp only [rnS, rnB] at hlp
      simp only [Bool.and_self, if_true]
      repeat' (first | apply Wp.seq | apply Wp.skip | apply Wp.block | (apply Wp.op0; ((simp [M2.keep]) <;> rfl)) | ((first | (apply Wp.pickT; (exact rfl); (first | exact rfl | assumption)) | (apply Wp.pickF; (exact rfl); (first | exact rfl | assumption))); ((simp) <;> exact rfl)) | ((first | apply Wp.op | apply Wp.opN); (apply Evt.all; intro; (simp [hcl, hct, hl1, hfl, over_full]) <;> (try simp (disch := omega) only [wrap_id]) <;> first | exact ⟨rfl, rfl⟩ | exact rfl)) | (apply Wp.call; exact hri _) | (apply Wp.call; exact hcr _) | (apply Wp.call; exact hbg _) | (first | (apply Wp.ung; (exact rfl); (first | exact rfl | assumption)) | (apply Wp.opSt; (exact rfl); (first | exact rfl | assumption)) | (apply Wp.opSf; (exact rfl); (first | exact rfl | assumption))) | (apply Wp.opS0; (exact rfl)) | (first | (apply Wp.condT; (exact rfl); (first | exact rfl | assumption)) | (apply Wp.condF; (exact rfl); (first | exact rfl | assumption))) | ((first | apply Wp.grdT | apply Wp.grdF | apply Wp.cond); (exact rfl); (intro); rotate_left 1; (intro); rotate_right 1))
      refine (hlp.imp (fun _ h => h.elim) (fun _ h => h.elim) ?_)
      rintro b s2 ⟨rfl, e, J, o, rfl, ho, e4, e5, e7, e8⟩
      rw [if_pos rfl]
      have hrr := runLoop_right c.ans c.fuel.toNat (beginF c) tr0 q1 q2
      have hl2 : (stU true (runF l c).1).length = 51 := stU_len hrr.2
      have t2 : (stU true (runF l c).1).take 51 = stU true (runF l c).1 := List.take_of_length_le (by omega)
      have hz := fun st => accStt st (runF l c).1
      generalize (runF l c).1 = S1 at *
      generalize (runF l c).2 = T1 at *
      simp only [rnB, trO, Z6, List.cons_append, List.nil_append]
      repeat (first | apply Wp.seq | apply Wp.skip | apply Wp.block | (apply Wp.op0; ((simp [M2.keep]) <;> rfl)) | ((first | apply Wp.op | apply Wp.opN | (apply Wp.opG; exact rfl)); (apply Evt.all; intro; (simp []) <;> (try simp (disch := omega) only [wrap_id]) <;> first | exact ⟨rfl, rfl⟩ | exact rfl)) | (apply Wp.opS; exact rfl; decide) | (apply Wp.opS0; exact rfl))
      refine Wp.draw (by (simp [c_run_Run_D2, I.need]) <;> rfl) (by (simp [e4, e5, e7, e8, hl2, t2, lz, over_full]) <;> rfl) (by (simp [e4, e5, e7, e8, hl2, t2, lz, over_full]) <;> rfl) (by (unfold c_run_Run_D2); (repeat (first | ((first | apply Dr.op | apply Dr.opN | (apply Dr.opG; exact rfl)); ((simp [e4, e5, e7, e8, hl2, t2, lz, over_full]) <;> rfl); (apply Evt.all; intro; (simp [e4, e5, e7, e8, hl2, t2, lz, over_full]) <;> (try simp (disch := omega) only [wrap_id]) <;> first | exact ⟨rfl, rfl⟩ | exact rfl); ((simp [I.need]) <;> rfl)) | ((first | (apply Dr.opS; exact rfl; decide) | (apply Dr.opS0; exact rfl)); ((simp [I.need]) <;> rfl)))); exact Dr.nil) (by first | decide +kernel | exact rfl) (by (simp [M2.keep]) <;> rfl) ?_
      refine Wp.ret ?_
      have hz10 : ∀ A B C, frz 10 (A :: B :: C :: .row 140 3 false (T1.ev.map evU) :: J) (.own 3 T1.ev.length) = some (.sl true (T1.ev.map evU), A :: B :: C :: .frow (T1.ev.map evU) :: J) := fun A B C => frzS_row rfl (by simp)
      have hz10' : ∀ A B C D, frz 10 (A :: B :: C :: .row 140 3 false (T1.ev.map evU) :: D :: J) (.own 3 T1.ev.length) = some (.sl true (T1.ev.map evU), A :: B :: C :: .frow (T1.ev.map evU) :: D :: J) := fun A B C D => frzS_row rfl (by simp)
      have hz10'' : ∀ A B C D E, frz 10 (A :: B :: C :: .row 140 3 false (T1.ev.map evU) :: D :: E :: J) (.own 3 T1.ev.length) = some (.sl true (T1.ev.map evU), A :: B :: C :: .frow (T1.ev.map evU) :: D :: E :: J) := fun A B C D E => frzS_row rfl (by simp)
      have hza : ∀ st, frz 11 st (.agg (stU true S1)) = some (.agg (stU true S1), st) := fun st => by rw [frzS_agg, stU, hz]; rfl
      generalize stU true S1 = X1 at *
      have ho2 : ∀ st, frz 10 st o = some (intsU T1.out, st) := fun st => by
        rcases ho with rfl | ⟨rfl, hout⟩
        · rfl
        · rw [hout]; rfl
      have hzT : ∀ A B C D E, frz 11 (A :: B :: C :: .row 140 3 false (T1.ev.map evU) :: D :: E :: J) (.agg [.own 3 T1.ev.length, i64 T1.how, i64 T1.val, o, i64 T1.steps, i64 T1.work]) = some (.agg (trU T1), A :: B :: C :: .frow (T1.ev.map evU) :: D :: E :: J) := fun A B C D E => by
        rw [frzS_agg, accMS_cons, hz10'', Option.bind_some, accMS_cons, frzS_int, Option.bind_some, accMS_cons, frzS_int, Option.bind_some, accMS_cons, ho2]
        rfl
      unfold Res
      simp only [resU, res1, c_run_Run, M2.allM, M2.get, e4, e5, if_true, if_false, ld, List.getElem?_cons_succ, List.getElem?_cons_zero]
      simp only [sub, List.length_cons, List.length_nil, hl2, List.drop_zero, t2]
      simp [hl2, t2, accMS_cons, hzT, hza, -frzS_agg, -frz_agg]
end Go.Proofs.YtbmlnfceanfbmaaDoor.M2
/- What the functions answer in M2. A run, and whether it is silent; what two runs tell. -/
namespace Go.Proofs.YtbmlnfceanfbmaaDoor.M2
open Go
attribute [local simp] ev1 M2.get put A.ev ld sub part elems bin arith un opt idx fillC cellsO splice over newOb sto fillR laidOwn appTo appRow touch touchN touchM touchE touchA plainU flatU plainAs allM rowAt stoRow accM_nil accM_cons accMM_nil accMM_cons frz_int frz_bool frz_str frz_slt frz_nils frz_nilI frz_nilF frz_own frzRow_row frzRow_frow Ob.blw blw_bool blw_int blw_str blw_nils blw_nilI blw_nilF blw_nilp blw_nilm blw_sl blw_own blw_bp blw_rp blw_mp blw_it params
attribute [local simp] frz_agg frz_tup frz_iface frzS_agg frzS_iface accMS_cons frzS_int frzS_bool frzS_str frzS_slt frzS_nils frzS_nilI beq_dec bne_dec
theorem pathRun_t (l : List Ins) : ∀ (n : Nat) (s : PS), s.t.length = 24 → (pathRun l n s).t.length = 24
  | 0, s, h => h
  | n + 1, s, h => by
    rw [pathRun]
    split
    · exact pathRun_t l n _ (afterF_len h _)
    · exact h
theorem fromF_len (l : List Ins) (at_ : Int) : (fromF l at_).1.2.1.length = 24 := by
  unfold fromF
  split
  · simp only
    split
    · rfl
    · exact pathRun_t l 201 _ rfl
  · rfl
def sdU (a : Sd) : List U := trU a.t ++ [.bool a.silent]
def sdF (l : List Ins) (c : Cs) : Sd := ⟨(runF l c).2, decide ((runF l c).2.how = 0) && decide ((fromF l (runF l c).1.at_).1.1 < 0)⟩
theorem trU_len (t : TR) : (trU t).length = 6 := rfl
set_option maxHeartbeats 16000000 in
theorem side_call (p : Bool) (l : List Ins) (c : Cs) (hR : c.R.length = 8) (hh : c.h.length ≤ 1000) (st : List Ob) :
    Cl T n_differ_of [insL p l, .agg (csU c)] st (if (rightF l && csRight c) = true then .tup [.agg (sdU (sdF l c)), i64 0] else .tup [.agg (sdU ⟨tr0, false⟩), i64 1]) st := by
  have hbr := brw_cs st c hR
  refine Wp.pure (fn := c_differ_of) rfl rfl rfl («as» := [insL p l, .agg (csU c)]) (by simp [hbr, insL]; rfl) ?_
  have hrn := run_call p l c hR hh
  have hcl : (csU c).length = 11 := by simp [csU, hR]
  have hct : (csU c).take 11 = csU c := List.take_of_length_le (by omega)
  cases hok : rightF l && csRight c with
  | false =>
    rw [hok] at hrn
    simp only [Bool.false_eq_true, if_false] at hrn ⊢
    have hl2 : (stU true zStt).length = 51 := rfl
    repeat' (first | apply Wp.seq | apply Wp.skip | apply Wp.block | (apply Wp.op0; ((simp [M2.keep]) <;> rfl)) | ((first | (apply Wp.pickT; (exact rfl); (first | exact rfl | assumption)) | (apply Wp.pickF; (exact rfl); (first | exact rfl | assumption))); ((simp) <;> exact rfl)) | ((first | apply Wp.op | apply Wp.opN); (apply Evt.all; intro; (simp [hcl, hct, trU_len, hl2, over_full]) <;> (try simp (disch := omega) only [wrap_id]) <;> first | exact ⟨rfl, rfl⟩ | exact rfl)) | (apply Wp.call; exact hrn _) | (first | (apply Wp.ung; (exact rfl); (first | exact rfl | assumption)) | (apply Wp.opSt; (exact rfl); (first | exact rfl | assumption)) | (apply Wp.opSf; (exact rfl); (first | exact rfl | assumption))) | (apply Wp.opS0; (exact rfl)) | (first | (apply Wp.condT; (exact rfl); (first | exact rfl | assumption)) | (apply Wp.condF; (exact rfl); (first | exact rfl | assumption))) | ((first | apply Wp.grdT | apply Wp.grdF | apply Wp.cond); (exact rfl); (intro); rotate_left 1; (intro); rotate_right 1))
    refine Wp.ret ?_
    simp [Res, resU, res1, c_differ_of]
    rfl
  | true =>
    rw [hok] at hrn
    simp only [Bool.and_eq_true] at hok
    obtain ⟨q1, q2⟩ := begin_right hok.1 hok.2 hR
    have hrr : sttF l (runF l c).1 = true ∧ (runF l c).1.L.length = 24 := runLoop_right c.ans c.fuel.toNat (beginF c) tr0 q1 q2
    have hl2 : (stU true (runF l c).1).length = 51 := stU_len hrr.2
    have hd49 : (stU true (runF l c).1).drop 49 = [i64 (runF l c).1.at_, i64 (runF l c).1.asked] := by rw [stU, wds_drop hrr.2 49 (by omega)]; rfl
    have hfr := from_call p l (runF l c).1.at_
    have hfl := fromF_len l (runF l c).1.at_
    simp only [if_true, sdF] at hrn ⊢
    generalize (runF l c).2 = T1 at *
    generalize stU true (runF l c).1 = X1 at *
    generalize fromF l (runF l c).1.at_ = Q at *
    obtain ⟨⟨to, t, k⟩, err⟩ := Q
    simp only at hfl hfr ⊢
    obtain ⟨ev, how, val, out, steps, work⟩ := T1
    by_cases hh0 : how = 0
    · have dh : decide (how = 0) = true := decide_eq_true hh0
      simp only [dh, Bool.true_and]
      repeat' (first | apply Wp.seq | apply Wp.skip | apply Wp.block | (apply Wp.op0; ((simp [M2.keep]) <;> rfl)) | ((first | (apply Wp.pickT; (exact rfl); (first | exact rfl | assumption)) | (apply Wp.pickF; (exact rfl); (first | exact rfl | assumption))); ((simp) <;> exact rfl)) | ((first | apply Wp.op | apply Wp.opN); (apply Evt.all; intro; (simp [hcl, hct, trU, hl2, hd49, over_full, pathU, pU_take1, pU_take26, pU_over, pU_len, hfl]) <;> (try simp (disch := omega) only [wrap_id]) <;> first | exact ⟨rfl, rfl⟩ | exact rfl)) | (apply Wp.call; exact hrn _) | (apply Wp.call; exact hfr _) | (first | (apply Wp.ung; (exact rfl); (first | exact rfl | assumption)) | (apply Wp.opSt; (exact rfl); (first | exact rfl | assumption)) | (apply Wp.opSf; (exact rfl); (first | exact rfl | assumption))) | (apply Wp.opS0; (exact rfl)) | (first | (apply Wp.condT; (exact rfl); (first | exact rfl | assumption)) | (apply Wp.condF; (exact rfl); (first | exact rfl | assumption))) | ((first | apply Wp.grdT | apply Wp.grdF | apply Wp.cond); (exact rfl); (intro); rotate_left 1; (intro); rotate_right 1))
      refine Wp.ret ?_
      simp [Res, resU, res1, c_differ_of, sdU, trU, evsU, fillC]
    · have dh : decide (how = 0) = false := decide_eq_false hh0
      simp only [dh, Bool.false_and]
      repeat' (first | apply Wp.seq | apply Wp.skip | apply Wp.block | (apply Wp.op0; ((simp [M2.keep]) <;> rfl)) | ((first | (apply Wp.pickT; (exact rfl); (first | exact rfl | assumption)) | (apply Wp.pickF; (exact rfl); (first | exact rfl | assumption))); ((simp) <;> exact rfl)) | ((first | apply Wp.op | apply Wp.opN); (apply Evt.all; intro; (simp [hcl, hct, trU, hl2, hd49, over_full, pathU, pU_take1, pU_take26, pU_over, pU_len, hfl]) <;> (try simp (disch := omega) only [wrap_id]) <;> first | exact ⟨rfl, rfl⟩ | exact rfl)) | (apply Wp.call; exact hrn _) | (apply Wp.call; exact hfr _) | (first | (apply Wp.ung; (exact rfl); (first | exact rfl | assumption)) | (apply Wp.opSt; (exact rfl); (first | exact rfl | assumption)) | (apply Wp.opSf; (exact rfl); (first | exact rfl | assumption))) | (apply Wp.opS0; (exact rfl)) | (first | (apply Wp.condT; (exact rfl); (first | exact rfl | assumption)) | (apply Wp.condF; (exact rfl); (first | exact rfl | assumption))) | ((first | apply Wp.grdT | apply Wp.grdF | apply Wp.cond); (exact rfl); (intro); rotate_left 1; (intro); rotate_right 1))
      refine Wp.ret ?_
      simp [Res, resU, res1, c_differ_of, sdU, trU, evsU, fillC]
theorem sdU_len (a : Sd) : (sdU a).length = 7 := rfl
theorem sdU_take6 (a : Sd) : (sdU a).take 6 = trU a.t := rfl
theorem sdU_take7 (a : Sd) : (sdU a).take 7 = sdU a := rfl
theorem sdU_take1 (a : Sd) : (sdU a).take 1 = [evsU true a.t.ev] := rfl
theorem tell1_call (a b : Sd) (ha : a.t.ev.length ≤ 100000) (st : List Ob) : Cl T n_differ_Tell_1 [.agg (sdU a), .agg (sdU b)] st (.bool (begins a.t.ev b.t.ev)) st := by
  refine Wp.pure (fn := c_differ_Tell_1) rfl rfl rfl («as» := [.agg (sdU a), .agg (sdU b)]) rfl ?_
  have hb := begins_call true true a.t.ev b.t.ev ha
  repeat' (first | apply Wp.seq | apply Wp.skip | apply Wp.block | (apply Wp.op0; ((simp [M2.keep]) <;> rfl)) | ((first | (apply Wp.pickT; (exact rfl); (first | exact rfl | assumption)) | (apply Wp.pickF; (exact rfl); (first | exact rfl | assumption))); ((simp) <;> exact rfl)) | ((first | apply Wp.op | apply Wp.opN); (apply Evt.all; intro; (simp [sdU_len, sdU_take1]) <;> (try simp (disch := omega) only [wrap_id]) <;> first | exact ⟨rfl, rfl⟩ | exact rfl)) | (apply Wp.call; exact hb _) | (first | (apply Wp.ung; (exact rfl); (first | exact rfl | assumption)) | (apply Wp.opSt; (exact rfl); (first | exact rfl | assumption)) | (apply Wp.opSf; (exact rfl); (first | exact rfl | assumption))) | (apply Wp.opS0; (exact rfl)) | (first | (apply Wp.condT; (exact rfl); (first | exact rfl | assumption)) | (apply Wp.condF; (exact rfl); (first | exact rfl | assumption))) | ((first | apply Wp.grdT | apply Wp.grdF | apply Wp.cond); (exact rfl); (intro); rotate_left 1; (intro); rotate_right 1))
  refine Wp.ret ?_
  simp [Res, resU, res1, c_differ_Tell_1]
theorem tell2_call (a b : Sd) (hb : b.t.ev.length ≤ 100000) (st : List Ob) : Cl T n_differ_Tell_2 [.agg (sdU a), .agg (sdU b)] st (.bool (haltedF a.t && !begins b.t.ev a.t.ev)) st := by
  refine Wp.pure (fn := c_differ_Tell_2) rfl rfl rfl («as» := [.agg (sdU a), .agg (sdU b)]) rfl ?_
  have hb := begins_call true true b.t.ev a.t.ev hb
  have hh := halted_call a.t
  cases h : haltedF a.t with
  | true =>
    rw [h] at hh
    repeat' (first | apply Wp.seq | apply Wp.skip | apply Wp.block | (apply Wp.op0; ((simp [M2.keep]) <;> rfl)) | ((first | (apply Wp.pickT; (exact rfl); (first | exact rfl | assumption)) | (apply Wp.pickF; (exact rfl); (first | exact rfl | assumption))); ((simp) <;> exact rfl)) | ((first | apply Wp.op | apply Wp.opN); (apply Evt.all; intro; (simp [sdU_len, sdU_take1, sdU_take6]) <;> (try simp (disch := omega) only [wrap_id]) <;> first | exact ⟨rfl, rfl⟩ | exact rfl)) | (apply Wp.call; exact hh _) | (apply Wp.call; exact hb _) | (first | (apply Wp.ung; (exact rfl); (first | exact rfl | assumption)) | (apply Wp.opSt; (exact rfl); (first | exact rfl | assumption)) | (apply Wp.opSf; (exact rfl); (first | exact rfl | assumption))) | (apply Wp.opS0; (exact rfl)) | (first | (apply Wp.condT; (exact rfl); (first | exact rfl | assumption)) | (apply Wp.condF; (exact rfl); (first | exact rfl | assumption))) | ((first | apply Wp.grdT | apply Wp.grdF | apply Wp.cond); (exact rfl); (intro); rotate_left 1; (intro); rotate_right 1))
    refine Wp.ret ?_
    simp [Res, resU, res1, c_differ_Tell_2]
  | false =>
    rw [h] at hh
    repeat' (first | apply Wp.seq | apply Wp.skip | apply Wp.block | (apply Wp.op0; ((simp [M2.keep]) <;> rfl)) | ((first | (apply Wp.pickT; (exact rfl); (first | exact rfl | assumption)) | (apply Wp.pickF; (exact rfl); (first | exact rfl | assumption))); ((simp) <;> exact rfl)) | ((first | apply Wp.op | apply Wp.opN); (apply Evt.all; intro; (simp [sdU_len, sdU_take1, sdU_take6]) <;> (try simp (disch := omega) only [wrap_id]) <;> first | exact ⟨rfl, rfl⟩ | exact rfl)) | (apply Wp.call; exact hh _) | (apply Wp.call; exact hb _) | (first | (apply Wp.ung; (exact rfl); (first | exact rfl | assumption)) | (apply Wp.opSt; (exact rfl); (first | exact rfl | assumption)) | (apply Wp.opSf; (exact rfl); (first | exact rfl | assumption))) | (apply Wp.opS0; (exact rfl)) | (first | (apply Wp.condT; (exact rfl); (first | exact rfl | assumption)) | (apply Wp.condF; (exact rfl); (first | exact rfl | assumption))) | ((first | apply Wp.grdT | apply Wp.grdF | apply Wp.cond); (exact rfl); (intro); rotate_left 1; (intro); rotate_right 1))
    refine Wp.ret ?_
    simp [Res, resU, res1, c_differ_Tell_2]
theorem sdU_d6 (a : Sd) : (sdU a).drop 6 = [.bool a.silent] := rfl
theorem tell3_call (a b : Sd) (st : List Ob) : Cl T n_differ_Tell_3 [.agg (sdU a), .agg (sdU b)] st (.bool (haltedF a.t && b.silent)) st := by
  refine Wp.pure (fn := c_differ_Tell_3) rfl rfl rfl («as» := [.agg (sdU a), .agg (sdU b)]) rfl ?_
  have hh := halted_call a.t
  cases h : haltedF a.t with
  | true =>
    rw [h] at hh
    repeat' (first | apply Wp.seq | apply Wp.skip | apply Wp.block | (apply Wp.op0; ((simp [M2.keep]) <;> rfl)) | ((first | (apply Wp.pickT; (exact rfl); (first | exact rfl | assumption)) | (apply Wp.pickF; (exact rfl); (first | exact rfl | assumption))); ((simp) <;> exact rfl)) | ((first | apply Wp.op | apply Wp.opN); (apply Evt.all; intro; (simp [sdU_len, sdU_take6, sdU_d6]) <;> (try simp (disch := omega) only [wrap_id]) <;> first | exact ⟨rfl, rfl⟩ | exact rfl)) | (apply Wp.call; exact hh _) | (first | (apply Wp.ung; (exact rfl); (first | exact rfl | assumption)) | (apply Wp.opSt; (exact rfl); (first | exact rfl | assumption)) | (apply Wp.opSf; (exact rfl); (first | exact rfl | assumption))) | (apply Wp.opS0; (exact rfl)) | (first | (apply Wp.condT; (exact rfl); (first | exact rfl | assumption)) | (apply Wp.condF; (exact rfl); (first | exact rfl | assumption))) | ((first | apply Wp.grdT | apply Wp.grdF | apply Wp.cond); (exact rfl); (intro); rotate_left 1; (intro); rotate_right 1))
    refine Wp.ret ?_
    simp [Res, resU, res1, c_differ_Tell_3]
  | false =>
    rw [h] at hh
    repeat' (first | apply Wp.seq | apply Wp.skip | apply Wp.block | (apply Wp.op0; ((simp [M2.keep]) <;> rfl)) | ((first | (apply Wp.pickT; (exact rfl); (first | exact rfl | assumption)) | (apply Wp.pickF; (exact rfl); (first | exact rfl | assumption))); ((simp) <;> exact rfl)) | ((first | apply Wp.op | apply Wp.opN); (apply Evt.all; intro; (simp [sdU_len, sdU_take6, sdU_d6]) <;> (try simp (disch := omega) only [wrap_id]) <;> first | exact ⟨rfl, rfl⟩ | exact rfl)) | (apply Wp.call; exact hh _) | (first | (apply Wp.ung; (exact rfl); (first | exact rfl | assumption)) | (apply Wp.opSt; (exact rfl); (first | exact rfl | assumption)) | (apply Wp.opSf; (exact rfl); (first | exact rfl | assumption))) | (apply Wp.opS0; (exact rfl)) | (first | (apply Wp.condT; (exact rfl); (first | exact rfl | assumption)) | (apply Wp.condF; (exact rfl); (first | exact rfl | assumption))) | ((first | apply Wp.grdT | apply Wp.grdF | apply Wp.cond); (exact rfl); (intro); rotate_left 1; (intro); rotate_right 1))
    refine Wp.ret ?_
    simp [Res, resU, res1, c_differ_Tell_3]
theorem either_call (f : Nat) (a b : Sd) (u v : Bool) (h1 : ∀ st, Cl T f [.agg (sdU a), .agg (sdU b)] st (.bool u) st) (h2 : ∀ st, Cl T f [.agg (sdU b), .agg (sdU a)] st (.bool v) st) (st : List Ob) : Cl T n_differ_either [.agg (sdU a), .agg (sdU b), .fn f []] st (.bool (u || v)) st := by
  refine Wp.pure (fn := c_differ_either) rfl rfl rfl («as» := [.agg (sdU a), .agg (sdU b), .fn f []]) rfl ?_
  cases u with
  | true =>
    repeat' (first | apply Wp.seq | apply Wp.skip | apply Wp.block | (apply Wp.op0; ((simp [M2.keep]) <;> rfl)) | ((first | (apply Wp.pickT; (exact rfl); (first | exact rfl | assumption)) | (apply Wp.pickF; (exact rfl); (first | exact rfl | assumption))); ((simp) <;> exact rfl)) | ((first | apply Wp.op | apply Wp.opN); (apply Evt.all; intro; (simp [sdU_len, sdU_take7]) <;> (try simp (disch := omega) only [wrap_id]) <;> first | exact ⟨rfl, rfl⟩ | exact rfl)) | (apply Wp.callv; exact rfl; exact h1 _) | (first | (apply Wp.ung; (exact rfl); (first | exact rfl | assumption)) | (apply Wp.opSt; (exact rfl); (first | exact rfl | assumption)) | (apply Wp.opSf; (exact rfl); (first | exact rfl | assumption))) | (apply Wp.opS0; (exact rfl)) | (first | (apply Wp.condT; (exact rfl); (first | exact rfl | assumption)) | (apply Wp.condF; (exact rfl); (first | exact rfl | assumption))) | ((first | apply Wp.grdT | apply Wp.grdF | apply Wp.cond); (exact rfl); (intro); rotate_left 1; (intro); rotate_right 1))
    refine Wp.ret ?_
    simp [Res, resU, res1, c_differ_either]
  | false =>
    repeat (first | apply Wp.seq | apply Wp.skip | apply Wp.block | (apply Wp.op0; ((simp [M2.keep]) <;> rfl)) | ((first | apply Wp.op | apply Wp.opN | (apply Wp.opG; exact rfl)); (apply Evt.all; intro; (simp [sdU_len, sdU_take7]) <;> (try simp (disch := omega) only [wrap_id]) <;> first | exact ⟨rfl, rfl⟩ | exact rfl)) | (apply Wp.opS; exact rfl; decide) | (apply Wp.opS0; exact rfl))
    apply Wp.callv
    · exact rfl
    · exact h1 _
    repeat' (first | apply Wp.seq | apply Wp.skip | apply Wp.block | (apply Wp.op0; ((simp [M2.keep]) <;> rfl)) | ((first | (apply Wp.pickT; (exact rfl); (first | exact rfl | assumption)) | (apply Wp.pickF; (exact rfl); (first | exact rfl | assumption))); ((simp) <;> exact rfl)) | ((first | apply Wp.op | apply Wp.opN); (apply Evt.all; intro; (simp [sdU_len, sdU_take7]) <;> (try simp (disch := omega) only [wrap_id]) <;> first | exact ⟨rfl, rfl⟩ | exact rfl)) | (apply Wp.callv; exact rfl; exact h2 _) | (first | (apply Wp.ung; (exact rfl); (first | exact rfl | assumption)) | (apply Wp.opSt; (exact rfl); (first | exact rfl | assumption)) | (apply Wp.opSf; (exact rfl); (first | exact rfl | assumption))) | (apply Wp.opS0; (exact rfl)) | (first | (apply Wp.condT; (exact rfl); (first | exact rfl | assumption)) | (apply Wp.condF; (exact rfl); (first | exact rfl | assumption))) | ((first | apply Wp.grdT | apply Wp.grdF | apply Wp.cond); (exact rfl); (intro); rotate_left 1; (intro); rotate_right 1))
    refine Wp.ret ?_
    simp [Res, resU, res1, c_differ_either]
end Go.Proofs.YtbmlnfceanfbmaaDoor.M2
/- What the functions answer in M2. What two runs tell. -/
namespace Go.Proofs.YtbmlnfceanfbmaaDoor.M2
open Go
attribute [local simp] ev1 M2.get put A.ev ld sub part elems bin arith un opt idx fillC cellsO splice over newOb sto fillR laidOwn appTo appRow touch touchN touchM touchE touchA plainU flatU plainAs allM rowAt stoRow accM_nil accM_cons accMM_nil accMM_cons frz_int frz_bool frz_str frz_slt frz_nils frz_nilI frz_nilF frz_own frzRow_row frzRow_frow Ob.blw blw_bool blw_int blw_str blw_nils blw_nilI blw_nilF blw_nilp blw_nilm blw_sl blw_own blw_bp blw_rp blw_mp blw_it params
attribute [local simp] frz_agg frz_tup frz_iface frzS_agg frzS_iface accMS_cons frzS_int frzS_bool frzS_str frzS_slt frzS_nils frzS_nilI beq_dec bne_dec
theorem plain_sd (a : Sd) : plainU (.agg (sdU a)) = true := rfl
theorem plain_tr (t : TR) : plainU (.agg (trU t)) = true := rfl
theorem plain_fn (f : Nat) : plainU (.fn f []) = true := rfl
theorem pfE : pfT T n_differ_either = true := rfl
theorem pfH : pfT T n_differ_Halted = true := rfl
theorem pfS : pfT T n_heap_Same = true := rfl
def tl1 (a b : Sd) : Bool := begins a.t.ev b.t.ev || begins b.t.ev a.t.ev
def tl2 (a b : Sd) : Bool := (haltedF a.t && !begins b.t.ev a.t.ev) || (haltedF b.t && !begins a.t.ev b.t.ev)
def tl3 (a b : Sd) : Bool := haltedF a.t && (haltedF b.t && (!decide (a.t.how = b.t.how) || (!decide (a.t.val = b.t.val) || !decide (a.t.out = b.t.out))))
def tl4 (a b : Sd) : Bool := (haltedF a.t && b.silent) || (haltedF b.t && a.silent)
theorem tell_eq (a b : Sd) : tellF a b = if (!tl1 a b) = true then 1 else if tl2 a b = true then 2 else if tl3 a b = true then 3 else if tl4 a b = true then 4 else 0 := rfl
abbrev tellsU (a b c d : Bool) : List (List U) := [[.bool false], [.bool a], [.bool b], [.bool c], [.bool d]]
theorem sdU_d1 (a : Sd) : (sdU a).tail.take 1 = [i64 a.t.how] := rfl
theorem sdU_d2 (a : Sd) : ((sdU a).drop 2).take 1 = [i64 a.t.val] := rfl
theorem sdU_d3 (a : Sd) : ((sdU a).drop 3).take 1 = [intsU a.t.out] := rfl
theorem first_true (u1 u2 u3 u4 : Bool) (o0 o1 o2 : Ob) : Wp T (.loop c_differ_Tell_L1) ⟨[(86, .own 3 5), (87, i64 5), (88, i64 0)], [o0, o1, o2, .row 4 1 false (tellsU u1 u2 u3 u4)]⟩ (fun _ => False)
    (Res c_differ_Tell (.tup [i64 (if u1 = true then 1 else if u2 = true then 2 else if u3 = true then 3 else if u4 = true then 4 else 0), i64 0])) (fun b s' => b = 0 ∧ u1 = false ∧ u2 = false ∧ u3 = false ∧ u4 = false) := by
  cases u1 with
  | true =>
    repeat' (first | apply Wp.seq | apply Wp.skip | apply Wp.block | (apply Wp.op0; ((simp [M2.keep]) <;> rfl)) | ((first | (apply Wp.pickT; (exact rfl); (first | exact rfl | assumption)) | (apply Wp.pickF; (exact rfl); (first | exact rfl | assumption))); ((simp) <;> exact rfl)) | ((first | apply Wp.op | apply Wp.opN); (apply Evt.all; intro; (simp []) <;> (try simp (disch := omega) only [wrap_id]) <;> first | exact ⟨rfl, rfl⟩ | exact rfl)) | (apply Wp.next; exact trimO_len rfl) | (apply Wp.unroll) | (apply Wp.next; ((simp [trimO, trim]) <;> rfl)) | (apply Wp.exit; (first | rw [if_pos rfl] | (rw [if_neg (by decide)]; first | rw [if_pos rfl] | (rw [if_neg (by decide)]; rw [if_pos rfl])))) | (first | (apply Wp.ung; (exact rfl); (first | exact rfl | assumption)) | (apply Wp.opSt; (exact rfl); (first | exact rfl | assumption)) | (apply Wp.opSf; (exact rfl); (first | exact rfl | assumption))) | (apply Wp.opS0; (exact rfl)) | (first | (apply Wp.condT; (exact rfl); (first | exact rfl | assumption)) | (apply Wp.condF; (exact rfl); (first | exact rfl | assumption))) | ((first | apply Wp.grdT | apply Wp.grdF | apply Wp.cond); (exact rfl); (intro); rotate_left 1; (intro); rotate_right 1))
    refine Wp.ret ?_
    simp [Res, resU, res1, c_differ_Tell]
  | false => cases u2 with
    | true =>
      repeat' (first | apply Wp.seq | apply Wp.skip | apply Wp.block | (apply Wp.op0; ((simp [M2.keep]) <;> rfl)) | ((first | (apply Wp.pickT; (exact rfl); (first | exact rfl | assumption)) | (apply Wp.pickF; (exact rfl); (first | exact rfl | assumption))); ((simp) <;> exact rfl)) | ((first | apply Wp.op | apply Wp.opN); (apply Evt.all; intro; (simp []) <;> (try simp (disch := omega) only [wrap_id]) <;> first | exact ⟨rfl, rfl⟩ | exact rfl)) | (apply Wp.next; exact trimO_len rfl) | (apply Wp.unroll) | (apply Wp.next; ((simp [trimO, trim]) <;> rfl)) | (apply Wp.exit; (first | rw [if_pos rfl] | (rw [if_neg (by decide)]; first | rw [if_pos rfl] | (rw [if_neg (by decide)]; rw [if_pos rfl])))) | (first | (apply Wp.ung; (exact rfl); (first | exact rfl | assumption)) | (apply Wp.opSt; (exact rfl); (first | exact rfl | assumption)) | (apply Wp.opSf; (exact rfl); (first | exact rfl | assumption))) | (apply Wp.opS0; (exact rfl)) | (first | (apply Wp.condT; (exact rfl); (first | exact rfl | assumption)) | (apply Wp.condF; (exact rfl); (first | exact rfl | assumption))) | ((first | apply Wp.grdT | apply Wp.grdF | apply Wp.cond); (exact rfl); (intro); rotate_left 1; (intro); rotate_right 1))
      refine Wp.ret ?_
      simp [Res, resU, res1, c_differ_Tell]
    | false => cases u3 with
      | true =>
        repeat' (first | apply Wp.seq | apply Wp.skip | apply Wp.block | (apply Wp.op0; ((simp [M2.keep]) <;> rfl)) | ((first | (apply Wp.pickT; (exact rfl); (first | exact rfl | assumption)) | (apply Wp.pickF; (exact rfl); (first | exact rfl | assumption))); ((simp) <;> exact rfl)) | ((first | apply Wp.op | apply Wp.opN); (apply Evt.all; intro; (simp []) <;> (try simp (disch := omega) only [wrap_id]) <;> first | exact ⟨rfl, rfl⟩ | exact rfl)) | (apply Wp.next; exact trimO_len rfl) | (apply Wp.unroll) | (apply Wp.next; ((simp [trimO, trim]) <;> rfl)) | (apply Wp.exit; (first | rw [if_pos rfl] | (rw [if_neg (by decide)]; first | rw [if_pos rfl] | (rw [if_neg (by decide)]; rw [if_pos rfl])))) | (first | (apply Wp.ung; (exact rfl); (first | exact rfl | assumption)) | (apply Wp.opSt; (exact rfl); (first | exact rfl | assumption)) | (apply Wp.opSf; (exact rfl); (first | exact rfl | assumption))) | (apply Wp.opS0; (exact rfl)) | (first | (apply Wp.condT; (exact rfl); (first | exact rfl | assumption)) | (apply Wp.condF; (exact rfl); (first | exact rfl | assumption))) | ((first | apply Wp.grdT | apply Wp.grdF | apply Wp.cond); (exact rfl); (intro); rotate_left 1; (intro); rotate_right 1))
        refine Wp.ret ?_
        simp [Res, resU, res1, c_differ_Tell]
      | false => cases u4 with
        | true =>
          repeat' (first | apply Wp.seq | apply Wp.skip | apply Wp.block | (apply Wp.op0; ((simp [M2.keep]) <;> rfl)) | ((first | (apply Wp.pickT; (exact rfl); (first | exact rfl | assumption)) | (apply Wp.pickF; (exact rfl); (first | exact rfl | assumption))); ((simp) <;> exact rfl)) | ((first | apply Wp.op | apply Wp.opN); (apply Evt.all; intro; (simp []) <;> (try simp (disch := omega) only [wrap_id]) <;> first | exact ⟨rfl, rfl⟩ | exact rfl)) | (apply Wp.next; exact trimO_len rfl) | (apply Wp.unroll) | (apply Wp.next; ((simp [trimO, trim]) <;> rfl)) | (apply Wp.exit; (first | rw [if_pos rfl] | (rw [if_neg (by decide)]; first | rw [if_pos rfl] | (rw [if_neg (by decide)]; rw [if_pos rfl])))) | (first | (apply Wp.ung; (exact rfl); (first | exact rfl | assumption)) | (apply Wp.opSt; (exact rfl); (first | exact rfl | assumption)) | (apply Wp.opSf; (exact rfl); (first | exact rfl | assumption))) | (apply Wp.opS0; (exact rfl)) | (first | (apply Wp.condT; (exact rfl); (first | exact rfl | assumption)) | (apply Wp.condF; (exact rfl); (first | exact rfl | assumption))) | ((first | apply Wp.grdT | apply Wp.grdF | apply Wp.cond); (exact rfl); (intro); rotate_left 1; (intro); rotate_right 1))
          refine Wp.ret ?_
          simp [Res, resU, res1, c_differ_Tell]
        | false =>
          repeat' (first | apply Wp.seq | apply Wp.skip | apply Wp.block | (apply Wp.op0; ((simp [M2.keep]) <;> rfl)) | ((first | (apply Wp.pickT; (exact rfl); (first | exact rfl | assumption)) | (apply Wp.pickF; (exact rfl); (first | exact rfl | assumption))); ((simp) <;> exact rfl)) | ((first | apply Wp.op | apply Wp.opN); (apply Evt.all; intro; (simp []) <;> (try simp (disch := omega) only [wrap_id]) <;> first | exact ⟨rfl, rfl⟩ | exact rfl)) | (apply Wp.next; exact trimO_len rfl) | (apply Wp.unroll) | (apply Wp.next; ((simp [trimO, trim]) <;> rfl)) | (apply Wp.exit; (first | rw [if_pos rfl] | (rw [if_neg (by decide)]; first | rw [if_pos rfl] | (rw [if_neg (by decide)]; rw [if_pos rfl])))) | (first | (apply Wp.ung; (exact rfl); (first | exact rfl | assumption)) | (apply Wp.opSt; (exact rfl); (first | exact rfl | assumption)) | (apply Wp.opSf; (exact rfl); (first | exact rfl | assumption))) | (apply Wp.opS0; (exact rfl)) | (first | (apply Wp.condT; (exact rfl); (first | exact rfl | assumption)) | (apply Wp.condF; (exact rfl); (first | exact rfl | assumption))) | ((first | apply Wp.grdT | apply Wp.grdF | apply Wp.cond); (exact rfl); (intro); rotate_left 1; (intro); rotate_right 1))
          exact Wp.exit ⟨rfl, rfl, rfl, rfl, rfl⟩
end Go.Proofs.YtbmlnfceanfbmaaDoor.M2
/- What the functions answer in M2. What two runs tell, told. -/
namespace Go.Proofs.YtbmlnfceanfbmaaDoor.M2
open Go
attribute [local simp] ev1 M2.get put A.ev ld sub part elems bin arith un opt idx fillC cellsO splice over newOb sto fillR laidOwn appTo appRow touch touchN touchM touchE touchA plainU flatU plainAs allM rowAt stoRow accM_nil accM_cons accMM_nil accMM_cons frz_int frz_bool frz_str frz_slt frz_nils frz_nilI frz_nilF frz_own frzRow_row frzRow_frow Ob.blw blw_bool blw_int blw_str blw_nils blw_nilI blw_nilF blw_nilp blw_nilm blw_sl blw_own blw_bp blw_rp blw_mp blw_it params
attribute [local simp] frz_agg frz_tup frz_iface frzS_agg frzS_iface accMS_cons frzS_int frzS_bool frzS_str frzS_slt frzS_nils frzS_nilI beq_dec bne_dec
theorem tell_end {K R : S → Prop} {B : Nat → S → Prop} (u1 u2 u3 u4 : Bool) (o0 o1 o2 : Ob) (v : Int) (hv : v = if u1 = true then 1 else if u2 = true then 2 else if u3 = true then 3 else if u4 = true then 4 else 0) (hR : ∀ s, Res c_differ_Tell (.tup [i64 v, i64 0]) s → R s) (hB : v = 0 → ∀ s', B 0 s') :
    Wp T (.loop c_differ_Tell_L1) ⟨[(86, .own 3 5), (87, i64 5), (88, i64 0)], [o0, o1, o2, .row 4 1 false (tellsU u1 u2 u3 u4)]⟩ K R B := by
  refine (first_true u1 u2 u3 u4 o0 o1 o2).imp (fun _ h => h.elim) (fun s h => hR s (by rw [hv]; exact h)) ?_
  rintro b s' ⟨rfl, rfl, rfl, rfl, rfl⟩
  exact hB (by rw [hv]; rfl) s'
theorem sdU_over (a : Sd) (u1 u2 u3 u4 u5 u6 u7 : U) : over (sdU a) [u1, u2, u3, u4, u5, u6, u7] = sdU a := rfl
theorem runLoop_out (l : List Ins) (ask : List Int) : ∀ (n : Nat) (s : Stt) (t : TR), t.out = [] → (runLoop l ask n s t).2.out.length ≤ (runLoop l ask n s t).1.h.length
  | 0, s, t, h => by simp [runLoop, h]
  | n + 1, s, t, h => by
    rw [runLoop]
    split
    · rename_i h0
      exact runLoop_out l ask n _ _ (if_neg (by rw [h0]; decide))
    · simp only [trStep]
      split <;> simp
def sideF (l : List Ins) (c : Cs) : Sd := if (rightF l && csRight c) = true then sdF l c else ⟨tr0, false⟩
set_option maxHeartbeats 64000000 in
theorem tell_call (p q : Bool) (l g : List Ins) (c : Cs) (hR : c.R.length = 8) (hh : c.h.length ≤ 1000) (h1 : (rightF l && csRight c) = true) (h2 : (rightF g && csRight c) = true) (st : List Ob) :
    Cl T n_differ_Tell [insL p l, insL q g, .agg (csU c)] st (.tup [i64 (tellF (sdF l c) (sdF g c)), i64 0]) st := by
  have hbr := brw_cs st c hR
  refine Wp.pure (fn := c_differ_Tell) rfl rfl rfl («as» := [insL p l, insL q g, .agg (csU c)]) (by simp [hbr, insL]; rfl) ?_
  have hf := side_call p l c hR hh
  have hg := side_call q g c hR hh
  rw [h1] at hf
  rw [h2] at hg
  simp only [if_true] at hf hg
  have hcl : (csU c).length = 11 := by simp [csU, hR]
  have hct : (csU c).take 11 = csU c := List.take_of_length_le (by omega)
  have hfuel : c.fuel.toNat ≤ 5000 := by
    simp only [Bool.and_eq_true, csRight, decide_eq_true_eq] at h1
    omega
  have la : (sdF l c).t.ev.length ≤ 100000 := by
    have := runLoop_ev l c.ans c.fuel.toNat (beginF c) tr0
    have h0 : tr0.ev.length = 0 := rfl
    simp only [sdF, runF]
    omega
  have lb : (sdF g c).t.ev.length ≤ 100000 := by
    have := runLoop_ev g c.ans c.fuel.toNat (beginF c) tr0
    have h0 : tr0.ev.length = 0 := rfl
    simp only [sdF, runF]
    omega
  have lo : (sdF l c).t.out.length ≤ 100000 := by
    simp only [Bool.and_eq_true] at h1
    obtain ⟨q1, q2⟩ := begin_right h1.1 h1.2 hR
    have hrr := (runLoop_right c.ans c.fuel.toNat (beginF c) tr0 q1 q2).1
    have h0 := runLoop_out l c.ans c.fuel.toNat (beginF c) tr0 rfl
    unfold sttF at hrr
    simp only [Bool.and_eq_true, decide_eq_true_eq] at hrr
    simp only [sdF, runF]
    omega
  generalize sdF l c = a at *
  generalize sdF g c = b at *
  have e1 : ∀ st, Cl T n_differ_either [.agg (sdU a), .agg (sdU b), .fn n_differ_Tell_1 []] st (.bool (tl1 a b)) st := either_call n_differ_Tell_1 a b _ _ (tell1_call a b la) (tell1_call b a lb)
  have e2 : ∀ st, Cl T n_differ_either [.agg (sdU a), .agg (sdU b), .fn n_differ_Tell_2 []] st (.bool (tl2 a b)) st := either_call n_differ_Tell_2 a b _ _ (tell2_call a b lb) (tell2_call b a la)
  have e4 : ∀ st, Cl T n_differ_either [.agg (sdU a), .agg (sdU b), .fn n_differ_Tell_3 []] st (.bool (tl4 a b)) st := either_call n_differ_Tell_3 a b _ _ (tell3_call a b) (tell3_call b a)
  have hA := halted_call a.t
  have hB := halted_call b.t
  have hS := heapSame_call a.t.out b.t.out lo
  repeat' (first | apply Wp.seq | apply Wp.skip | apply Wp.block | (apply Wp.op0; ((simp [M2.keep]) <;> rfl)) | ((first | (apply Wp.pickT; (exact rfl); (first | exact rfl | assumption)) | (apply Wp.pickF; (exact rfl); (first | exact rfl | assumption))); ((simp) <;> exact rfl)) | ((first | apply Wp.op | apply Wp.opN); (apply Evt.all; intro; (simp [hcl, hct, sdU_len, sdU_over]) <;> (try simp (disch := omega) only [wrap_id]) <;> first | exact ⟨rfl, rfl⟩ | exact rfl)) | (apply Wp.call; exact hf _) | (apply Wp.call; exact hg _) | (first | (apply Wp.ung; (exact rfl); (first | exact rfl | assumption)) | (apply Wp.opSt; (exact rfl); (first | exact rfl | assumption)) | (apply Wp.opSf; (exact rfl); (first | exact rfl | assumption))) | (apply Wp.opS0; (exact rfl)) | (first | (apply Wp.condT; (exact rfl); (first | exact rfl | assumption)) | (apply Wp.condF; (exact rfl); (first | exact rfl | assumption))) | ((first | apply Wp.grdT | apply Wp.grdF | apply Wp.cond); (exact rfl); (intro); rotate_left 1; (intro); rotate_right 1))
  cases ca : haltedF a.t with
  | false =>
    rw [ca] at hA
    have h3 : tl3 a b = false := by unfold tl3; rw [ca]; rfl
    refine Wp.draw (by (simp [c_differ_Tell_D0, I.need]) <;> rfl) (by (simp [sdU_len, sdU_take6, sdU_take7, sdU_d1, sdU_d2, sdU_d3, pfE, pfH, pfS, -plainU, plain_sd, plain_tr, plain_fn]) <;> rfl) (by (simp [sdU_len, sdU_take6, sdU_take7, sdU_d1, sdU_d2, sdU_d3, pfE, pfH, pfS, -plainU, plain_sd, plain_tr, plain_fn]) <;> rfl) (by (unfold c_differ_Tell_D0); (repeat (first | ((first | apply Dr.op | apply Dr.opN | (apply Dr.opG; exact rfl)); ((simp [sdU_len, sdU_take6, sdU_take7, sdU_d1, sdU_d2, sdU_d3, pfE, pfH, pfS, -plainU, plain_sd, plain_tr, plain_fn]) <;> rfl); (apply Evt.all; intro; (simp [sdU_len, sdU_take6, sdU_take7, sdU_d1, sdU_d2, sdU_d3, pfE, pfH, pfS, -plainU, plain_sd, plain_tr, plain_fn]) <;> (try simp (disch := omega) only [wrap_id]) <;> first | exact ⟨rfl, rfl⟩ | exact rfl); ((simp [I.need]) <;> rfl)) | ((first | (apply Dr.opS; exact rfl; decide) | (apply Dr.opS0; exact rfl)); ((simp [I.need]) <;> rfl)) | (apply Dr.call; ((simp [sdU_len, sdU_take6, sdU_take7, sdU_d1, sdU_d2, sdU_d3, pfE, pfH, pfS, -plainU, plain_sd, plain_tr, plain_fn]) <;> rfl); exact e1 _) | (apply Dr.callG; (exact rfl); ((simp [sdU_len, sdU_take6, sdU_take7, sdU_d1, sdU_d2, sdU_d3, pfE, pfH, pfS, -plainU, plain_sd, plain_tr, plain_fn]) <;> rfl); exact e1 _) | (apply Dr.call; ((simp [sdU_len, sdU_take6, sdU_take7, sdU_d1, sdU_d2, sdU_d3, pfE, pfH, pfS, -plainU, plain_sd, plain_tr, plain_fn]) <;> rfl); exact e2 _) | (apply Dr.callG; (exact rfl); ((simp [sdU_len, sdU_take6, sdU_take7, sdU_d1, sdU_d2, sdU_d3, pfE, pfH, pfS, -plainU, plain_sd, plain_tr, plain_fn]) <;> rfl); exact e2 _) | (apply Dr.call; ((simp [sdU_len, sdU_take6, sdU_take7, sdU_d1, sdU_d2, sdU_d3, pfE, pfH, pfS, -plainU, plain_sd, plain_tr, plain_fn]) <;> rfl); exact e4 _) | (apply Dr.callG; (exact rfl); ((simp [sdU_len, sdU_take6, sdU_take7, sdU_d1, sdU_d2, sdU_d3, pfE, pfH, pfS, -plainU, plain_sd, plain_tr, plain_fn]) <;> rfl); exact e4 _) | (apply Dr.call; ((simp [sdU_len, sdU_take6, sdU_take7, sdU_d1, sdU_d2, sdU_d3, pfE, pfH, pfS, -plainU, plain_sd, plain_tr, plain_fn]) <;> rfl); exact hA _) | (apply Dr.callG; (exact rfl); ((simp [sdU_len, sdU_take6, sdU_take7, sdU_d1, sdU_d2, sdU_d3, pfE, pfH, pfS, -plainU, plain_sd, plain_tr, plain_fn]) <;> rfl); exact hA _) | (apply Dr.call; ((simp [sdU_len, sdU_take6, sdU_take7, sdU_d1, sdU_d2, sdU_d3, pfE, pfH, pfS, -plainU, plain_sd, plain_tr, plain_fn]) <;> rfl); exact hB _) | (apply Dr.callG; (exact rfl); ((simp [sdU_len, sdU_take6, sdU_take7, sdU_d1, sdU_d2, sdU_d3, pfE, pfH, pfS, -plainU, plain_sd, plain_tr, plain_fn]) <;> rfl); exact hB _) | (apply Dr.call; ((simp [sdU_len, sdU_take6, sdU_take7, sdU_d1, sdU_d2, sdU_d3, pfE, pfH, pfS, -plainU, plain_sd, plain_tr, plain_fn]) <;> rfl); exact hS _) | (apply Dr.callG; (exact rfl); ((simp [sdU_len, sdU_take6, sdU_take7, sdU_d1, sdU_d2, sdU_d3, pfE, pfH, pfS, -plainU, plain_sd, plain_tr, plain_fn]) <;> rfl); exact hS _))); exact Dr.nil) (by first | decide +kernel | exact rfl) (by (simp [M2.keep]) <;> rfl) ?_
    repeat' (first | apply Wp.seq | apply Wp.skip | apply Wp.block | (apply Wp.op0; ((simp [M2.keep]) <;> rfl)) | ((first | (apply Wp.pickT; (exact rfl); (first | exact rfl | assumption)) | (apply Wp.pickF; (exact rfl); (first | exact rfl | assumption))); ((simp) <;> exact rfl)) | ((first | apply Wp.op | apply Wp.opN); (apply Evt.all; intro; (simp []) <;> (try simp (disch := omega) only [wrap_id]) <;> first | exact ⟨rfl, rfl⟩ | exact rfl)) | (first | (apply Wp.ung; (exact rfl); (first | exact rfl | assumption)) | (apply Wp.opSt; (exact rfl); (first | exact rfl | assumption)) | (apply Wp.opSf; (exact rfl); (first | exact rfl | assumption))) | (apply Wp.opS0; (exact rfl)) | (first | (apply Wp.condT; (exact rfl); (first | exact rfl | assumption)) | (apply Wp.condF; (exact rfl); (first | exact rfl | assumption))) | ((first | apply Wp.grdT | apply Wp.grdF | apply Wp.cond); (exact rfl); (intro); rotate_left 1; (intro); rotate_right 1))
    refine tell_end (!tl1 a b) (tl2 a b) false (tl4 a b) _ _ _ (tellF a b) (by rw [tell_eq, h3]) (fun s h => h) (fun hv s' => ?_)
    obtain ⟨e, st⟩ := s'
    rw [if_pos rfl]
    repeat (first | apply Wp.seq | apply Wp.skip | apply Wp.block | (apply Wp.op0; ((simp [M2.keep]) <;> rfl)) | ((first | apply Wp.op | apply Wp.opN | (apply Wp.opG; exact rfl)); (apply Evt.all; intro; (simp []) <;> (try simp (disch := omega) only [wrap_id]) <;> first | exact ⟨rfl, rfl⟩ | exact rfl)) | (apply Wp.opS; exact rfl; decide) | (apply Wp.opS0; exact rfl))
    refine Wp.ret ?_
    simp [Res, resU, res1, c_differ_Tell, hv]
  | true =>
    rw [ca] at hA
    cases cb : haltedF b.t with
    | false =>
      rw [cb] at hB
      have h3 : tl3 a b = false := by unfold tl3; rw [ca, cb]; rfl
      refine Wp.draw (by (simp [c_differ_Tell_D0, I.need]) <;> rfl) (by (simp [sdU_len, sdU_take6, sdU_take7, sdU_d1, sdU_d2, sdU_d3, pfE, pfH, pfS, -plainU, plain_sd, plain_tr, plain_fn]) <;> rfl) (by (simp [sdU_len, sdU_take6, sdU_take7, sdU_d1, sdU_d2, sdU_d3, pfE, pfH, pfS, -plainU, plain_sd, plain_tr, plain_fn]) <;> rfl) (by (unfold c_differ_Tell_D0); (repeat (first | ((first | apply Dr.op | apply Dr.opN | (apply Dr.opG; exact rfl)); ((simp [sdU_len, sdU_take6, sdU_take7, sdU_d1, sdU_d2, sdU_d3, pfE, pfH, pfS, -plainU, plain_sd, plain_tr, plain_fn]) <;> rfl); (apply Evt.all; intro; (simp [sdU_len, sdU_take6, sdU_take7, sdU_d1, sdU_d2, sdU_d3, pfE, pfH, pfS, -plainU, plain_sd, plain_tr, plain_fn]) <;> (try simp (disch := omega) only [wrap_id]) <;> first | exact ⟨rfl, rfl⟩ | exact rfl); ((simp [I.need]) <;> rfl)) | ((first | (apply Dr.opS; exact rfl; decide) | (apply Dr.opS0; exact rfl)); ((simp [I.need]) <;> rfl)) | (apply Dr.call; ((simp [sdU_len, sdU_take6, sdU_take7, sdU_d1, sdU_d2, sdU_d3, pfE, pfH, pfS, -plainU, plain_sd, plain_tr, plain_fn]) <;> rfl); exact e1 _) | (apply Dr.callG; (exact rfl); ((simp [sdU_len, sdU_take6, sdU_take7, sdU_d1, sdU_d2, sdU_d3, pfE, pfH, pfS, -plainU, plain_sd, plain_tr, plain_fn]) <;> rfl); exact e1 _) | (apply Dr.call; ((simp [sdU_len, sdU_take6, sdU_take7, sdU_d1, sdU_d2, sdU_d3, pfE, pfH, pfS, -plainU, plain_sd, plain_tr, plain_fn]) <;> rfl); exact e2 _) | (apply Dr.callG; (exact rfl); ((simp [sdU_len, sdU_take6, sdU_take7, sdU_d1, sdU_d2, sdU_d3, pfE, pfH, pfS, -plainU, plain_sd, plain_tr, plain_fn]) <;> rfl); exact e2 _) | (apply Dr.call; ((simp [sdU_len, sdU_take6, sdU_take7, sdU_d1, sdU_d2, sdU_d3, pfE, pfH, pfS, -plainU, plain_sd, plain_tr, plain_fn]) <;> rfl); exact e4 _) | (apply Dr.callG; (exact rfl); ((simp [sdU_len, sdU_take6, sdU_take7, sdU_d1, sdU_d2, sdU_d3, pfE, pfH, pfS, -plainU, plain_sd, plain_tr, plain_fn]) <;> rfl); exact e4 _) | (apply Dr.call; ((simp [sdU_len, sdU_take6, sdU_take7, sdU_d1, sdU_d2, sdU_d3, pfE, pfH, pfS, -plainU, plain_sd, plain_tr, plain_fn]) <;> rfl); exact hA _) | (apply Dr.callG; (exact rfl); ((simp [sdU_len, sdU_take6, sdU_take7, sdU_d1, sdU_d2, sdU_d3, pfE, pfH, pfS, -plainU, plain_sd, plain_tr, plain_fn]) <;> rfl); exact hA _) | (apply Dr.call; ((simp [sdU_len, sdU_take6, sdU_take7, sdU_d1, sdU_d2, sdU_d3, pfE, pfH, pfS, -plainU, plain_sd, plain_tr, plain_fn]) <;> rfl); exact hB _) | (apply Dr.callG; (exact rfl); ((simp [sdU_len, sdU_take6, sdU_take7, sdU_d1, sdU_d2, sdU_d3, pfE, pfH, pfS, -plainU, plain_sd, plain_tr, plain_fn]) <;> rfl); exact hB _) | (apply Dr.call; ((simp [sdU_len, sdU_take6, sdU_take7, sdU_d1, sdU_d2, sdU_d3, pfE, pfH, pfS, -plainU, plain_sd, plain_tr, plain_fn]) <;> rfl); exact hS _) | (apply Dr.callG; (exact rfl); ((simp [sdU_len, sdU_take6, sdU_take7, sdU_d1, sdU_d2, sdU_d3, pfE, pfH, pfS, -plainU, plain_sd, plain_tr, plain_fn]) <;> rfl); exact hS _))); exact Dr.nil) (by first | decide +kernel | exact rfl) (by (simp [M2.keep]) <;> rfl) ?_
      repeat' (first | apply Wp.seq | apply Wp.skip | apply Wp.block | (apply Wp.op0; ((simp [M2.keep]) <;> rfl)) | ((first | (apply Wp.pickT; (exact rfl); (first | exact rfl | assumption)) | (apply Wp.pickF; (exact rfl); (first | exact rfl | assumption))); ((simp) <;> exact rfl)) | ((first | apply Wp.op | apply Wp.opN); (apply Evt.all; intro; (simp []) <;> (try simp (disch := omega) only [wrap_id]) <;> first | exact ⟨rfl, rfl⟩ | exact rfl)) | (first | (apply Wp.ung; (exact rfl); (first | exact rfl | assumption)) | (apply Wp.opSt; (exact rfl); (first | exact rfl | assumption)) | (apply Wp.opSf; (exact rfl); (first | exact rfl | assumption))) | (apply Wp.opS0; (exact rfl)) | (first | (apply Wp.condT; (exact rfl); (first | exact rfl | assumption)) | (apply Wp.condF; (exact rfl); (first | exact rfl | assumption))) | ((first | apply Wp.grdT | apply Wp.grdF | apply Wp.cond); (exact rfl); (intro); rotate_left 1; (intro); rotate_right 1))
      refine tell_end (!tl1 a b) (tl2 a b) false (tl4 a b) _ _ _ (tellF a b) (by rw [tell_eq, h3]) (fun s h => h) (fun hv s' => ?_)
      obtain ⟨e, st⟩ := s'
      rw [if_pos rfl]
      repeat (first | apply Wp.seq | apply Wp.skip | apply Wp.block | (apply Wp.op0; ((simp [M2.keep]) <;> rfl)) | ((first | apply Wp.op | apply Wp.opN | (apply Wp.opG; exact rfl)); (apply Evt.all; intro; (simp []) <;> (try simp (disch := omega) only [wrap_id]) <;> first | exact ⟨rfl, rfl⟩ | exact rfl)) | (apply Wp.opS; exact rfl; decide) | (apply Wp.opS0; exact rfl))
      refine Wp.ret ?_
      simp [Res, resU, res1, c_differ_Tell, hv]
    | true =>
      rw [cb] at hB
      by_cases k1 : a.t.how = b.t.how
      · by_cases k2 : a.t.val = b.t.val
        · have h3 : tl3 a b = !decide (a.t.out = b.t.out) := by unfold tl3; rw [ca, cb]; simp [k1, k2]
          refine Wp.draw (by (simp [c_differ_Tell_D0, I.need]) <;> rfl) (by (simp [sdU_len, sdU_take6, sdU_take7, sdU_d1, sdU_d2, sdU_d3, pfE, pfH, pfS, -plainU, plain_sd, plain_tr, plain_fn, k1, k2]) <;> rfl) (by (simp [sdU_len, sdU_take6, sdU_take7, sdU_d1, sdU_d2, sdU_d3, pfE, pfH, pfS, -plainU, plain_sd, plain_tr, plain_fn, k1, k2]) <;> rfl) (by (unfold c_differ_Tell_D0); (repeat (first | ((first | apply Dr.op | apply Dr.opN | (apply Dr.opG; exact rfl)); ((simp [sdU_len, sdU_take6, sdU_take7, sdU_d1, sdU_d2, sdU_d3, pfE, pfH, pfS, -plainU, plain_sd, plain_tr, plain_fn, k1, k2]) <;> rfl); (apply Evt.all; intro; (simp [sdU_len, sdU_take6, sdU_take7, sdU_d1, sdU_d2, sdU_d3, pfE, pfH, pfS, -plainU, plain_sd, plain_tr, plain_fn, k1, k2]) <;> (try simp (disch := omega) only [wrap_id]) <;> first | exact ⟨rfl, rfl⟩ | exact rfl); ((simp [I.need]) <;> rfl)) | ((first | (apply Dr.opS; exact rfl; decide) | (apply Dr.opS0; exact rfl)); ((simp [I.need]) <;> rfl)) | (apply Dr.call; ((simp [sdU_len, sdU_take6, sdU_take7, sdU_d1, sdU_d2, sdU_d3, pfE, pfH, pfS, -plainU, plain_sd, plain_tr, plain_fn, k1, k2]) <;> rfl); exact e1 _) | (apply Dr.callG; (exact rfl); ((simp [sdU_len, sdU_take6, sdU_take7, sdU_d1, sdU_d2, sdU_d3, pfE, pfH, pfS, -plainU, plain_sd, plain_tr, plain_fn, k1, k2]) <;> rfl); exact e1 _) | (apply Dr.call; ((simp [sdU_len, sdU_take6, sdU_take7, sdU_d1, sdU_d2, sdU_d3, pfE, pfH, pfS, -plainU, plain_sd, plain_tr, plain_fn, k1, k2]) <;> rfl); exact e2 _) | (apply Dr.callG; (exact rfl); ((simp [sdU_len, sdU_take6, sdU_take7, sdU_d1, sdU_d2, sdU_d3, pfE, pfH, pfS, -plainU, plain_sd, plain_tr, plain_fn, k1, k2]) <;> rfl); exact e2 _) | (apply Dr.call; ((simp [sdU_len, sdU_take6, sdU_take7, sdU_d1, sdU_d2, sdU_d3, pfE, pfH, pfS, -plainU, plain_sd, plain_tr, plain_fn, k1, k2]) <;> rfl); exact e4 _) | (apply Dr.callG; (exact rfl); ((simp [sdU_len, sdU_take6, sdU_take7, sdU_d1, sdU_d2, sdU_d3, pfE, pfH, pfS, -plainU, plain_sd, plain_tr, plain_fn, k1, k2]) <;> rfl); exact e4 _) | (apply Dr.call; ((simp [sdU_len, sdU_take6, sdU_take7, sdU_d1, sdU_d2, sdU_d3, pfE, pfH, pfS, -plainU, plain_sd, plain_tr, plain_fn, k1, k2]) <;> rfl); exact hA _) | (apply Dr.callG; (exact rfl); ((simp [sdU_len, sdU_take6, sdU_take7, sdU_d1, sdU_d2, sdU_d3, pfE, pfH, pfS, -plainU, plain_sd, plain_tr, plain_fn, k1, k2]) <;> rfl); exact hA _) | (apply Dr.call; ((simp [sdU_len, sdU_take6, sdU_take7, sdU_d1, sdU_d2, sdU_d3, pfE, pfH, pfS, -plainU, plain_sd, plain_tr, plain_fn, k1, k2]) <;> rfl); exact hB _) | (apply Dr.callG; (exact rfl); ((simp [sdU_len, sdU_take6, sdU_take7, sdU_d1, sdU_d2, sdU_d3, pfE, pfH, pfS, -plainU, plain_sd, plain_tr, plain_fn, k1, k2]) <;> rfl); exact hB _) | (apply Dr.call; ((simp [sdU_len, sdU_take6, sdU_take7, sdU_d1, sdU_d2, sdU_d3, pfE, pfH, pfS, -plainU, plain_sd, plain_tr, plain_fn, k1, k2]) <;> rfl); exact hS _) | (apply Dr.callG; (exact rfl); ((simp [sdU_len, sdU_take6, sdU_take7, sdU_d1, sdU_d2, sdU_d3, pfE, pfH, pfS, -plainU, plain_sd, plain_tr, plain_fn, k1, k2]) <;> rfl); exact hS _))); exact Dr.nil) (by first | decide +kernel | exact rfl) (by (simp [M2.keep]) <;> rfl) ?_
          repeat' (first | apply Wp.seq | apply Wp.skip | apply Wp.block | (apply Wp.op0; ((simp [M2.keep]) <;> rfl)) | ((first | (apply Wp.pickT; (exact rfl); (first | exact rfl | assumption)) | (apply Wp.pickF; (exact rfl); (first | exact rfl | assumption))); ((simp) <;> exact rfl)) | ((first | apply Wp.op | apply Wp.opN); (apply Evt.all; intro; (simp []) <;> (try simp (disch := omega) only [wrap_id]) <;> first | exact ⟨rfl, rfl⟩ | exact rfl)) | (first | (apply Wp.ung; (exact rfl); (first | exact rfl | assumption)) | (apply Wp.opSt; (exact rfl); (first | exact rfl | assumption)) | (apply Wp.opSf; (exact rfl); (first | exact rfl | assumption))) | (apply Wp.opS0; (exact rfl)) | (first | (apply Wp.condT; (exact rfl); (first | exact rfl | assumption)) | (apply Wp.condF; (exact rfl); (first | exact rfl | assumption))) | ((first | apply Wp.grdT | apply Wp.grdF | apply Wp.cond); (exact rfl); (intro); rotate_left 1; (intro); rotate_right 1))
          refine tell_end (!tl1 a b) (tl2 a b) (!decide (a.t.out = b.t.out)) (tl4 a b) _ _ _ (tellF a b) (by rw [tell_eq, h3]) (fun s h => h) (fun hv s' => ?_)
          obtain ⟨e, st⟩ := s'
          rw [if_pos rfl]
          repeat (first | apply Wp.seq | apply Wp.skip | apply Wp.block | (apply Wp.op0; ((simp [M2.keep]) <;> rfl)) | ((first | apply Wp.op | apply Wp.opN | (apply Wp.opG; exact rfl)); (apply Evt.all; intro; (simp []) <;> (try simp (disch := omega) only [wrap_id]) <;> first | exact ⟨rfl, rfl⟩ | exact rfl)) | (apply Wp.opS; exact rfl; decide) | (apply Wp.opS0; exact rfl))
          refine Wp.ret ?_
          simp [Res, resU, res1, c_differ_Tell, hv]
        · have h3 : tl3 a b = true := by unfold tl3; rw [ca, cb]; simp [k2]
          refine Wp.draw (by (simp [c_differ_Tell_D0, I.need]) <;> rfl) (by (simp [sdU_len, sdU_take6, sdU_take7, sdU_d1, sdU_d2, sdU_d3, pfE, pfH, pfS, -plainU, plain_sd, plain_tr, plain_fn, k1, k2]) <;> rfl) (by (simp [sdU_len, sdU_take6, sdU_take7, sdU_d1, sdU_d2, sdU_d3, pfE, pfH, pfS, -plainU, plain_sd, plain_tr, plain_fn, k1, k2]) <;> rfl) (by (unfold c_differ_Tell_D0); (repeat (first | ((first | apply Dr.op | apply Dr.opN | (apply Dr.opG; exact rfl)); ((simp [sdU_len, sdU_take6, sdU_take7, sdU_d1, sdU_d2, sdU_d3, pfE, pfH, pfS, -plainU, plain_sd, plain_tr, plain_fn, k1, k2]) <;> rfl); (apply Evt.all; intro; (simp [sdU_len, sdU_take6, sdU_take7, sdU_d1, sdU_d2, sdU_d3, pfE, pfH, pfS, -plainU, plain_sd, plain_tr, plain_fn, k1, k2]) <;> (try simp (disch := omega) only [wrap_id]) <;> first | exact ⟨rfl, rfl⟩ | exact rfl); ((simp [I.need]) <;> rfl)) | ((first | (apply Dr.opS; exact rfl; decide) | (apply Dr.opS0; exact rfl)); ((simp [I.need]) <;> rfl)) | (apply Dr.call; ((simp [sdU_len, sdU_take6, sdU_take7, sdU_d1, sdU_d2, sdU_d3, pfE, pfH, pfS, -plainU, plain_sd, plain_tr, plain_fn, k1, k2]) <;> rfl); exact e1 _) | (apply Dr.callG; (exact rfl); ((simp [sdU_len, sdU_take6, sdU_take7, sdU_d1, sdU_d2, sdU_d3, pfE, pfH, pfS, -plainU, plain_sd, plain_tr, plain_fn, k1, k2]) <;> rfl); exact e1 _) | (apply Dr.call; ((simp [sdU_len, sdU_take6, sdU_take7, sdU_d1, sdU_d2, sdU_d3, pfE, pfH, pfS, -plainU, plain_sd, plain_tr, plain_fn, k1, k2]) <;> rfl); exact e2 _) | (apply Dr.callG; (exact rfl); ((simp [sdU_len, sdU_take6, sdU_take7, sdU_d1, sdU_d2, sdU_d3, pfE, pfH, pfS, -plainU, plain_sd, plain_tr, plain_fn, k1, k2]) <;> rfl); exact e2 _) | (apply Dr.call; ((simp [sdU_len, sdU_take6, sdU_take7, sdU_d1, sdU_d2, sdU_d3, pfE, pfH, pfS, -plainU, plain_sd, plain_tr, plain_fn, k1, k2]) <;> rfl); exact e4 _) | (apply Dr.callG; (exact rfl); ((simp [sdU_len, sdU_take6, sdU_take7, sdU_d1, sdU_d2, sdU_d3, pfE, pfH, pfS, -plainU, plain_sd, plain_tr, plain_fn, k1, k2]) <;> rfl); exact e4 _) | (apply Dr.call; ((simp [sdU_len, sdU_take6, sdU_take7, sdU_d1, sdU_d2, sdU_d3, pfE, pfH, pfS, -plainU, plain_sd, plain_tr, plain_fn, k1, k2]) <;> rfl); exact hA _) | (apply Dr.callG; (exact rfl); ((simp [sdU_len, sdU_take6, sdU_take7, sdU_d1, sdU_d2, sdU_d3, pfE, pfH, pfS, -plainU, plain_sd, plain_tr, plain_fn, k1, k2]) <;> rfl); exact hA _) | (apply Dr.call; ((simp [sdU_len, sdU_take6, sdU_take7, sdU_d1, sdU_d2, sdU_d3, pfE, pfH, pfS, -plainU, plain_sd, plain_tr, plain_fn, k1, k2]) <;> rfl); exact hB _) | (apply Dr.callG; (exact rfl); ((simp [sdU_len, sdU_take6, sdU_take7, sdU_d1, sdU_d2, sdU_d3, pfE, pfH, pfS, -plainU, plain_sd, plain_tr, plain_fn, k1, k2]) <;> rfl); exact hB _) | (apply Dr.call; ((simp [sdU_len, sdU_take6, sdU_take7, sdU_d1, sdU_d2, sdU_d3, pfE, pfH, pfS, -plainU, plain_sd, plain_tr, plain_fn, k1, k2]) <;> rfl); exact hS _) | (apply Dr.callG; (exact rfl); ((simp [sdU_len, sdU_take6, sdU_take7, sdU_d1, sdU_d2, sdU_d3, pfE, pfH, pfS, -plainU, plain_sd, plain_tr, plain_fn, k1, k2]) <;> rfl); exact hS _))); exact Dr.nil) (by first | decide +kernel | exact rfl) (by (simp [M2.keep]) <;> rfl) ?_
          repeat' (first | apply Wp.seq | apply Wp.skip | apply Wp.block | (apply Wp.op0; ((simp [M2.keep]) <;> rfl)) | ((first | (apply Wp.pickT; (exact rfl); (first | exact rfl | assumption)) | (apply Wp.pickF; (exact rfl); (first | exact rfl | assumption))); ((simp) <;> exact rfl)) | ((first | apply Wp.op | apply Wp.opN); (apply Evt.all; intro; (simp []) <;> (try simp (disch := omega) only [wrap_id]) <;> first | exact ⟨rfl, rfl⟩ | exact rfl)) | (first | (apply Wp.ung; (exact rfl); (first | exact rfl | assumption)) | (apply Wp.opSt; (exact rfl); (first | exact rfl | assumption)) | (apply Wp.opSf; (exact rfl); (first | exact rfl | assumption))) | (apply Wp.opS0; (exact rfl)) | (first | (apply Wp.condT; (exact rfl); (first | exact rfl | assumption)) | (apply Wp.condF; (exact rfl); (first | exact rfl | assumption))) | ((first | apply Wp.grdT | apply Wp.grdF | apply Wp.cond); (exact rfl); (intro); rotate_left 1; (intro); rotate_right 1))
          refine tell_end (!tl1 a b) (tl2 a b) true (tl4 a b) _ _ _ (tellF a b) (by rw [tell_eq, h3]) (fun s h => h) (fun hv s' => ?_)
          obtain ⟨e, st⟩ := s'
          rw [if_pos rfl]
          repeat (first | apply Wp.seq | apply Wp.skip | apply Wp.block | (apply Wp.op0; ((simp [M2.keep]) <;> rfl)) | ((first | apply Wp.op | apply Wp.opN | (apply Wp.opG; exact rfl)); (apply Evt.all; intro; (simp []) <;> (try simp (disch := omega) only [wrap_id]) <;> first | exact ⟨rfl, rfl⟩ | exact rfl)) | (apply Wp.opS; exact rfl; decide) | (apply Wp.opS0; exact rfl))
          refine Wp.ret ?_
          simp [Res, resU, res1, c_differ_Tell, hv]
      · have h3 : tl3 a b = true := by unfold tl3; rw [ca, cb]; simp [k1]
        refine Wp.draw (by (simp [c_differ_Tell_D0, I.need]) <;> rfl) (by (simp [sdU_len, sdU_take6, sdU_take7, sdU_d1, sdU_d2, sdU_d3, pfE, pfH, pfS, -plainU, plain_sd, plain_tr, plain_fn, k1]) <;> rfl) (by (simp [sdU_len, sdU_take6, sdU_take7, sdU_d1, sdU_d2, sdU_d3, pfE, pfH, pfS, -plainU, plain_sd, plain_tr, plain_fn, k1]) <;> rfl) (by (unfold c_differ_Tell_D0); (repeat (first | ((first | apply Dr.op | apply Dr.opN | (apply Dr.opG; exact rfl)); ((simp [sdU_len, sdU_take6, sdU_take7, sdU_d1, sdU_d2, sdU_d3, pfE, pfH, pfS, -plainU, plain_sd, plain_tr, plain_fn, k1]) <;> rfl); (apply Evt.all; intro; (simp [sdU_len, sdU_take6, sdU_take7, sdU_d1, sdU_d2, sdU_d3, pfE, pfH, pfS, -plainU, plain_sd, plain_tr, plain_fn, k1]) <;> (try simp (disch := omega) only [wrap_id]) <;> first | exact ⟨rfl, rfl⟩ | exact rfl); ((simp [I.need]) <;> rfl)) | ((first | (apply Dr.opS; exact rfl; decide) | (apply Dr.opS0; exact rfl)); ((simp [I.need]) <;> rfl)) | (apply Dr.call; ((simp [sdU_len, sdU_take6, sdU_take7, sdU_d1, sdU_d2, sdU_d3, pfE, pfH, pfS, -plainU, plain_sd, plain_tr, plain_fn, k1]) <;> rfl); exact e1 _) | (apply Dr.callG; (exact rfl); ((simp [sdU_len, sdU_take6, sdU_take7, sdU_d1, sdU_d2, sdU_d3, pfE, pfH, pfS, -plainU, plain_sd, plain_tr, plain_fn, k1]) <;> rfl); exact e1 _) | (apply Dr.call; ((simp [sdU_len, sdU_take6, sdU_take7, sdU_d1, sdU_d2, sdU_d3, pfE, pfH, pfS, -plainU, plain_sd, plain_tr, plain_fn, k1]) <;> rfl); exact e2 _) | (apply Dr.callG; (exact rfl); ((simp [sdU_len, sdU_take6, sdU_take7, sdU_d1, sdU_d2, sdU_d3, pfE, pfH, pfS, -plainU, plain_sd, plain_tr, plain_fn, k1]) <;> rfl); exact e2 _) | (apply Dr.call; ((simp [sdU_len, sdU_take6, sdU_take7, sdU_d1, sdU_d2, sdU_d3, pfE, pfH, pfS, -plainU, plain_sd, plain_tr, plain_fn, k1]) <;> rfl); exact e4 _) | (apply Dr.callG; (exact rfl); ((simp [sdU_len, sdU_take6, sdU_take7, sdU_d1, sdU_d2, sdU_d3, pfE, pfH, pfS, -plainU, plain_sd, plain_tr, plain_fn, k1]) <;> rfl); exact e4 _) | (apply Dr.call; ((simp [sdU_len, sdU_take6, sdU_take7, sdU_d1, sdU_d2, sdU_d3, pfE, pfH, pfS, -plainU, plain_sd, plain_tr, plain_fn, k1]) <;> rfl); exact hA _) | (apply Dr.callG; (exact rfl); ((simp [sdU_len, sdU_take6, sdU_take7, sdU_d1, sdU_d2, sdU_d3, pfE, pfH, pfS, -plainU, plain_sd, plain_tr, plain_fn, k1]) <;> rfl); exact hA _) | (apply Dr.call; ((simp [sdU_len, sdU_take6, sdU_take7, sdU_d1, sdU_d2, sdU_d3, pfE, pfH, pfS, -plainU, plain_sd, plain_tr, plain_fn, k1]) <;> rfl); exact hB _) | (apply Dr.callG; (exact rfl); ((simp [sdU_len, sdU_take6, sdU_take7, sdU_d1, sdU_d2, sdU_d3, pfE, pfH, pfS, -plainU, plain_sd, plain_tr, plain_fn, k1]) <;> rfl); exact hB _) | (apply Dr.call; ((simp [sdU_len, sdU_take6, sdU_take7, sdU_d1, sdU_d2, sdU_d3, pfE, pfH, pfS, -plainU, plain_sd, plain_tr, plain_fn, k1]) <;> rfl); exact hS _) | (apply Dr.callG; (exact rfl); ((simp [sdU_len, sdU_take6, sdU_take7, sdU_d1, sdU_d2, sdU_d3, pfE, pfH, pfS, -plainU, plain_sd, plain_tr, plain_fn, k1]) <;> rfl); exact hS _))); exact Dr.nil) (by first | decide +kernel | exact rfl) (by (simp [M2.keep]) <;> rfl) ?_
        repeat' (first | apply Wp.seq | apply Wp.skip | apply Wp.block | (apply Wp.op0; ((simp [M2.keep]) <;> rfl)) | ((first | (apply Wp.pickT; (exact rfl); (first | exact rfl | assumption)) | (apply Wp.pickF; (exact rfl); (first | exact rfl | assumption))); ((simp) <;> exact rfl)) | ((first | apply Wp.op | apply Wp.opN); (apply Evt.all; intro; (simp []) <;> (try simp (disch := omega) only [wrap_id]) <;> first | exact ⟨rfl, rfl⟩ | exact rfl)) | (first | (apply Wp.ung; (exact rfl); (first | exact rfl | assumption)) | (apply Wp.opSt; (exact rfl); (first | exact rfl | assumption)) | (apply Wp.opSf; (exact rfl); (first | exact rfl | assumption))) | (apply Wp.opS0; (exact rfl)) | (first | (apply Wp.condT; (exact rfl); (first | exact rfl | assumption)) | (apply Wp.condF; (exact rfl); (first | exact rfl | assumption))) | ((first | apply Wp.grdT | apply Wp.grdF | apply Wp.cond); (exact rfl); (intro); rotate_left 1; (intro); rotate_right 1))
        refine tell_end (!tl1 a b) (tl2 a b) true (tl4 a b) _ _ _ (tellF a b) (by rw [tell_eq, h3]) (fun s h => h) (fun hv s' => ?_)
        obtain ⟨e, st⟩ := s'
        rw [if_pos rfl]
        repeat (first | apply Wp.seq | apply Wp.skip | apply Wp.block | (apply Wp.op0; ((simp [M2.keep]) <;> rfl)) | ((first | apply Wp.op | apply Wp.opN | (apply Wp.opG; exact rfl)); (apply Evt.all; intro; (simp []) <;> (try simp (disch := omega) only [wrap_id]) <;> first | exact ⟨rfl, rfl⟩ | exact rfl)) | (apply Wp.opS; exact rfl; decide) | (apply Wp.opS0; exact rfl))
        refine Wp.ret ?_
        simp [Res, resU, res1, c_differ_Tell, hv]
end Go.Proofs.YtbmlnfceanfbmaaDoor.M2
