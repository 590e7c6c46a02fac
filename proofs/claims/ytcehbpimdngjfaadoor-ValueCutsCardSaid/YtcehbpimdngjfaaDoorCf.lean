/- What the functions answer in M2. Part 9: tables. -/
import Derived.Test.YtcehbpimdngjfaaDoorCe
import Derived.KernelRfl
set_option linter.unusedSimpArgs false
set_option linter.unusedVariables false
set_option linter.unusedSectionVars false
namespace Go.Proofs.YtcehbpimdngjfaaDoor.M2
open Go
attribute [local simp] ev1 M2.get put A.ev ld sub part elems bin arith un opt idx fillC cellsO splice over newOb sto fillR laidOwn appTo appRow touch touchN touchM touchE touchA plainU flatU plainAs allM rowAt stoRow accM_nil accM_cons accMM_nil accMM_cons frz_int frz_bool frz_str frz_slt frz_nils frz_nilI frz_nilF frz_own frzRow_row frzRow_frow Ob.blw blw_bool blw_int blw_str blw_nils blw_nilI blw_nilF blw_nilp blw_nilm blw_sl blw_own blw_bp blw_rp blw_mp blw_it params
attribute [local simp] frz_agg frz_tup frz_iface frzS_agg frzS_iface accMS_cons frzS_int frzS_bool frzS_str frzS_slt frzS_nils frzS_nilI beq_dec bne_dec
theorem check_out (x : Ins) (m : Int) (st : List Ob) (h : x.op < 1 ∨ 18 < x.op) : Cl T 79 [.agg (insU x), i64 m] st (i64 1) st := by
  refine Wp.pure (fn := c_ins_Check) rfl rfl rfl («as» := [.agg (insU x), i64 m]) rfl ?_
  obtain ⟨op, d, a, b, n, to⟩ := x
  have hb : (decide (1 ≤ op) && decide (op ≤ 18)) = false := by
    simp only at h
    rw [Bool.and_eq_false_iff]
    simp only [decide_eq_false_iff_not]
    omega
  have hsh : shapeU op = [.str [], .str []] := by
    unfold shapeU
    rw [if_neg (by simp only at h; omega)]
  have hof := of_call op
  rw [hb, hsh] at hof
  (all_goals have := fa @insU.eq_1; repeat' first | refine Wp.v ?_ | (apply Wp.call; exact hof _) | (refine Wp.c ?_ ?_ <;> intro))
  (all_goals refine Wp.ret ?_); (all_goals (try simp_all [Res, resU, res1, c_ins_Check])); (all_goals (try omega))
theorem loc80 : locF 8 0 = true := rfl
theorem loc240 : locF 24 0 = true := rfl
set_option maxHeartbeats 4000000 in
theorem check_1 (x : Ins) (m : Int) (st : List Ob) (hop : x.op = 1) : Cl T 79 [.agg (insU x), i64 m] st (i64 (checkF x m)) st := by
  refine Wp.pure (fn := c_ins_Check) rfl rfl rfl («as» := [.agg (insU x), i64 m]) rfl ?_
  obtain ⟨op, d, a, b, n, to⟩ := x
  have hop : op = 1 := hop
  subst hop
  have hof : ∀ st, Cl T 64 [i64 1] st (.tup [.agg [.str [99, 111, 110, 115, 116], .str [100, 78]], .bool true]) st := fun st => of_call 1 st
  have hrest := fun st => rest_call ⟨1, d, a, b, n, to⟩ [99, 111, 110, 115, 116] [100, 78] (by decide) st
  have hz : (restF ⟨1, d, a, b, n, to⟩ [100, 78] = ⟨0, 0, 0, 0, 0, 0⟩) ↔ (a = 0 ∧ b = 0 ∧ to = 0) := by simp [restF, clr]
  have ho : (onlyF ⟨1, d, a, b, n, to⟩ = ⟨1, d, a, b, n, to⟩) ↔ (a = 0 ∧ b = 0 ∧ to = 0) := by simp [onlyF, eq_comm]
  by_cases hc : a = 0 ∧ b = 0 ∧ to = 0
  · have hz2 := hz.2 hc
    have ho2 := ho.2 hc
    obtain ⟨rfl, rfl, rfl⟩ := hc
    clear hz ho
    (repeat' first | refine Wp.t ?_ | ((first | apply Wp.op | apply Wp.opN); (apply Evt.all; intro; (simp [insU_mk, ins_same, hz2, dec_at, fieldOff]) <;> (try simp (disch := omega) only [wrap_id]) <;> first | exact ⟨rfl, rfl⟩ | exact rfl)) | (apply Wp.call; exact hof _) | (apply Wp.call; exact hrest _) | (apply Wp.call; exact field_call _ _ _) | (apply Wp.call; exact locRight_call _ _) | (apply Wp.call; exact locReg_call _ _) | refine Wp.l ?_ | (refine Wp.c ?_ ?_ <;> intro))
    all_goals clear hof hrest hz2
    (all_goals refine Wp.ret ?_); (all_goals (try simp_all [Res, resU, res1, c_ins_Check, checkF, bad1, bad6, bad4, loc80, loc240])); (all_goals (try omega))
  · have hz2 : ¬ restF ⟨1, d, a, b, n, to⟩ [100, 78] = ⟨0, 0, 0, 0, 0, 0⟩ := fun h => hc (hz.1 h)
    have ho2 : ¬ onlyF ⟨1, d, a, b, n, to⟩ = ⟨1, d, a, b, n, to⟩ := fun h => hc (ho.1 h)
    clear hz ho
    (repeat' first | refine Wp.t ?_ | ((first | apply Wp.op | apply Wp.opN); (apply Evt.all; intro; (simp [insU_mk, ins_same, hz2, dec_at]) <;> (try simp (disch := omega) only [wrap_id]) <;> first | exact ⟨rfl, rfl⟩ | exact rfl)) | (apply Wp.call; exact hof _) | (apply Wp.call; exact hrest _) | refine Wp.l ?_ | (refine Wp.c ?_ ?_ <;> intro))
    all_goals clear hof hrest hz2
    (all_goals refine Wp.ret ?_); (all_goals (try simp_all [Res, resU, res1, c_ins_Check, checkF, bad1, ho2])); (all_goals (try omega))
set_option maxHeartbeats 4000000 in
theorem check_2 (x : Ins) (m : Int) (st : List Ob) (hop : x.op = 2) : Cl T 79 [.agg (insU x), i64 m] st (i64 (checkF x m)) st := by
  refine Wp.pure (fn := c_ins_Check) rfl rfl rfl («as» := [.agg (insU x), i64 m]) rfl ?_
  obtain ⟨op, d, a, b, n, to⟩ := x
  have hop : op = 2 := hop
  subst hop
  have hof : ∀ st, Cl T 64 [i64 2] st (.tup [.agg [.str [109, 111, 118], .str [100, 97]], .bool true]) st := fun st => of_call 2 st
  have hrest := fun st => rest_call ⟨2, d, a, b, n, to⟩ [109, 111, 118] [100, 97] (by decide) st
  have hz : (restF ⟨2, d, a, b, n, to⟩ [100, 97] = ⟨0, 0, 0, 0, 0, 0⟩) ↔ (b = 0 ∧ n = 0 ∧ to = 0) := by simp [restF, clr]
  have ho : (onlyF ⟨2, d, a, b, n, to⟩ = ⟨2, d, a, b, n, to⟩) ↔ (b = 0 ∧ n = 0 ∧ to = 0) := by simp [onlyF, eq_comm]
  by_cases hc : b = 0 ∧ n = 0 ∧ to = 0
  · have hz2 := hz.2 hc
    have ho2 := ho.2 hc
    obtain ⟨rfl, rfl, rfl⟩ := hc
    clear hz ho
    (repeat' first | refine Wp.t ?_ | ((first | apply Wp.op | apply Wp.opN); (apply Evt.all; intro; (simp [insU_mk, ins_same, hz2, dec_at, fieldOff]) <;> (try simp (disch := omega) only [wrap_id]) <;> first | exact ⟨rfl, rfl⟩ | exact rfl)) | (apply Wp.call; exact hof _) | (apply Wp.call; exact hrest _) | (apply Wp.call; exact field_call _ _ _) | (apply Wp.call; exact locRight_call _ _) | (apply Wp.call; exact locReg_call _ _) | refine Wp.l ?_ | (refine Wp.c ?_ ?_ <;> intro))
    all_goals clear hof hrest hz2
    (all_goals refine Wp.ret ?_); (all_goals (try simp_all [Res, resU, res1, c_ins_Check, checkF, bad1, bad6, bad4, loc80, loc240])); (all_goals (try omega))
  · have hz2 : ¬ restF ⟨2, d, a, b, n, to⟩ [100, 97] = ⟨0, 0, 0, 0, 0, 0⟩ := fun h => hc (hz.1 h)
    have ho2 : ¬ onlyF ⟨2, d, a, b, n, to⟩ = ⟨2, d, a, b, n, to⟩ := fun h => hc (ho.1 h)
    clear hz ho
    (repeat' first | refine Wp.t ?_ | ((first | apply Wp.op | apply Wp.opN); (apply Evt.all; intro; (simp [insU_mk, ins_same, hz2, dec_at]) <;> (try simp (disch := omega) only [wrap_id]) <;> first | exact ⟨rfl, rfl⟩ | exact rfl)) | (apply Wp.call; exact hof _) | (apply Wp.call; exact hrest _) | refine Wp.l ?_ | (refine Wp.c ?_ ?_ <;> intro))
    all_goals clear hof hrest hz2
    (all_goals refine Wp.ret ?_); (all_goals (try simp_all [Res, resU, res1, c_ins_Check, checkF, bad1, ho2])); (all_goals (try omega))
set_option maxHeartbeats 4000000 in
theorem check_3 (x : Ins) (m : Int) (st : List Ob) (hop : x.op = 3) : Cl T 79 [.agg (insU x), i64 m] st (i64 (checkF x m)) st := by
  refine Wp.pure (fn := c_ins_Check) rfl rfl rfl («as» := [.agg (insU x), i64 m]) rfl ?_
  obtain ⟨op, d, a, b, n, to⟩ := x
  have hop : op = 3 := hop
  subst hop
  have hof : ∀ st, Cl T 64 [i64 3] st (.tup [.agg [.str [115, 119, 97, 112], .str [100, 97]], .bool true]) st := fun st => of_call 3 st
  have hrest := fun st => rest_call ⟨3, d, a, b, n, to⟩ [115, 119, 97, 112] [100, 97] (by decide) st
  have hz : (restF ⟨3, d, a, b, n, to⟩ [100, 97] = ⟨0, 0, 0, 0, 0, 0⟩) ↔ (b = 0 ∧ n = 0 ∧ to = 0) := by simp [restF, clr]
  have ho : (onlyF ⟨3, d, a, b, n, to⟩ = ⟨3, d, a, b, n, to⟩) ↔ (b = 0 ∧ n = 0 ∧ to = 0) := by simp [onlyF, eq_comm]
  by_cases hc : b = 0 ∧ n = 0 ∧ to = 0
  · have hz2 := hz.2 hc
    have ho2 := ho.2 hc
    obtain ⟨rfl, rfl, rfl⟩ := hc
    clear hz ho
    (repeat' first | refine Wp.t ?_ | ((first | apply Wp.op | apply Wp.opN); (apply Evt.all; intro; (simp [insU_mk, ins_same, hz2, dec_at, fieldOff]) <;> (try simp (disch := omega) only [wrap_id]) <;> first | exact ⟨rfl, rfl⟩ | exact rfl)) | (apply Wp.call; exact hof _) | (apply Wp.call; exact hrest _) | (apply Wp.call; exact field_call _ _ _) | (apply Wp.call; exact locRight_call _ _) | (apply Wp.call; exact locReg_call _ _) | refine Wp.l ?_ | (refine Wp.c ?_ ?_ <;> intro))
    all_goals clear hof hrest hz2
    (all_goals refine Wp.ret ?_); (all_goals (try simp_all [Res, resU, res1, c_ins_Check, checkF, bad1, bad6, bad4, loc80, loc240])); (all_goals (try omega))
  · have hz2 : ¬ restF ⟨3, d, a, b, n, to⟩ [100, 97] = ⟨0, 0, 0, 0, 0, 0⟩ := fun h => hc (hz.1 h)
    have ho2 : ¬ onlyF ⟨3, d, a, b, n, to⟩ = ⟨3, d, a, b, n, to⟩ := fun h => hc (ho.1 h)
    clear hz ho
    (repeat' first | refine Wp.t ?_ | ((first | apply Wp.op | apply Wp.opN); (apply Evt.all; intro; (simp [insU_mk, ins_same, hz2, dec_at]) <;> (try simp (disch := omega) only [wrap_id]) <;> first | exact ⟨rfl, rfl⟩ | exact rfl)) | (apply Wp.call; exact hof _) | (apply Wp.call; exact hrest _) | refine Wp.l ?_ | (refine Wp.c ?_ ?_ <;> intro))
    all_goals clear hof hrest hz2
    (all_goals refine Wp.ret ?_); (all_goals (try simp_all [Res, resU, res1, c_ins_Check, checkF, bad1, ho2])); (all_goals (try omega))
set_option maxHeartbeats 4000000 in
theorem check_dab (x : Ins) (m : Int) (st : List Ob) (w : List UInt8) (hop : 4 ≤ x.op ∧ x.op ≤ 12) (hs : shapeU x.op = [.str w, .str [68, 65, 66]]) : Cl T 79 [.agg (insU x), i64 m] st (i64 (checkF x m)) st := by
  refine Wp.pure (fn := c_ins_Check) rfl rfl rfl («as» := [.agg (insU x), i64 m]) rfl ?_
  have hof := of_call x.op
  obtain ⟨op, d, a, b, n, to⟩ := x
  simp only at hop hs hof
  have hb : (decide (1 ≤ op) && decide (op ≤ 18)) = true := by simp; omega
  rw [hs, hb] at hof
  have hrest := fun st => rest_call ⟨op, d, a, b, n, to⟩ w [68, 65, 66] (by decide) st
  have hz : (restF ⟨op, d, a, b, n, to⟩ [68, 65, 66] = ⟨0, 0, 0, 0, 0, 0⟩) ↔ (n = 0 ∧ to = 0) := by simp [restF, clr]
  have n1 : ¬ op = 1 := by omega
  have n15 : ¬ op = 15 := by omega
  have n16 : ¬ op = 16 := by omega
  have n17 : ¬ op = 17 := by omega
  have n3 : ¬ op ≤ 3 := by omega
  have ho : (onlyF ⟨op, d, a, b, n, to⟩ = ⟨op, d, a, b, n, to⟩) ↔ (n = 0 ∧ to = 0) := by
    have hk : op = 4 ∨ op = 5 ∨ op = 6 ∨ op = 7 ∨ op = 8 ∨ op = 9 ∨ op = 10 ∨ op = 11 ∨ op = 12 := by omega
    rcases hk with rfl | rfl | rfl | rfl | rfl | rfl | rfl | rfl | rfl <;> simp [onlyF, eq_comm]
  have hlt : ¬ op < 1 := by omega
  have hgt : ¬ 18 < op := by omega
  by_cases hc : n = 0 ∧ to = 0
  · have hz2 := hz.2 hc
    have ho2 := ho.2 hc
    obtain ⟨rfl, rfl⟩ := hc
    clear hz ho hop
    (repeat' first | refine Wp.t ?_ | ((first | apply Wp.op | apply Wp.opN); (apply Evt.all; intro; (simp [insU_mk, ins_same, hz2, n15, dec_at, fieldOff]) <;> (try simp (disch := omega) only [wrap_id]) <;> first | exact ⟨rfl, rfl⟩ | exact rfl)) | (apply Wp.call; exact hof _) | (apply Wp.call; exact hrest _) | (apply Wp.call; exact field_call _ _ _) | (apply Wp.call; exact locRight_call _ _) | (apply Wp.call; exact locReg_call _ _) | refine Wp.l ?_ | (refine Wp.c ?_ ?_ <;> intro))
    all_goals clear hof hrest hz2 hs
    (all_goals refine Wp.ret ?_); (all_goals (try simp_all [Res, resU, res1, c_ins_Check, checkF, bad1, bad6, bad4, loc80, loc240])); (all_goals (try omega))
  · have hz2 : ¬ restF ⟨op, d, a, b, n, to⟩ [68, 65, 66] = ⟨0, 0, 0, 0, 0, 0⟩ := fun h => hc (hz.1 h)
    have ho2 : ¬ onlyF ⟨op, d, a, b, n, to⟩ = ⟨op, d, a, b, n, to⟩ := fun h => hc (ho.1 h)
    clear hz ho hop
    (repeat' first | refine Wp.t ?_ | ((first | apply Wp.op | apply Wp.opN); (apply Evt.all; intro; (simp [insU_mk, ins_same, hz2, dec_at]) <;> (try simp (disch := omega) only [wrap_id]) <;> first | exact ⟨rfl, rfl⟩ | exact rfl)) | (apply Wp.call; exact hof _) | (apply Wp.call; exact hrest _) | refine Wp.l ?_ | (refine Wp.c ?_ ?_ <;> intro))
    all_goals clear hof hrest hz2 hs
    (all_goals refine Wp.ret ?_); (all_goals (try simp_all [Res, resU, res1, c_ins_Check, checkF, bad1, ho2])); (all_goals (try omega))
set_option maxHeartbeats 4000000 in
theorem check_13 (x : Ins) (m : Int) (st : List Ob) (hop : x.op = 13) : Cl T 79 [.agg (insU x), i64 m] st (i64 (checkF x m)) st := by
  refine Wp.pure (fn := c_ins_Check) rfl rfl rfl («as» := [.agg (insU x), i64 m]) rfl ?_
  obtain ⟨op, d, a, b, n, to⟩ := x
  have hop : op = 13 := hop
  subst hop
  have hof : ∀ st, Cl T 64 [i64 13] st (.tup [.agg [.str [108, 111, 97, 100], .str [68, 65]], .bool true]) st := fun st => of_call 13 st
  have hrest := fun st => rest_call ⟨13, d, a, b, n, to⟩ [108, 111, 97, 100] [68, 65] (by decide) st
  have hz : (restF ⟨13, d, a, b, n, to⟩ [68, 65] = ⟨0, 0, 0, 0, 0, 0⟩) ↔ (b = 0 ∧ n = 0 ∧ to = 0) := by simp [restF, clr]
  have ho : (onlyF ⟨13, d, a, b, n, to⟩ = ⟨13, d, a, b, n, to⟩) ↔ (b = 0 ∧ n = 0 ∧ to = 0) := by simp [onlyF, eq_comm]
  by_cases hc : b = 0 ∧ n = 0 ∧ to = 0
  · have hz2 := hz.2 hc
    have ho2 := ho.2 hc
    obtain ⟨rfl, rfl, rfl⟩ := hc
    clear hz ho
    (repeat' first | refine Wp.t ?_ | ((first | apply Wp.op | apply Wp.opN); (apply Evt.all; intro; (simp [insU_mk, ins_same, hz2, dec_at, fieldOff]) <;> (try simp (disch := omega) only [wrap_id]) <;> first | exact ⟨rfl, rfl⟩ | exact rfl)) | (apply Wp.call; exact hof _) | (apply Wp.call; exact hrest _) | (apply Wp.call; exact field_call _ _ _) | (apply Wp.call; exact locRight_call _ _) | (apply Wp.call; exact locReg_call _ _) | refine Wp.l ?_ | (refine Wp.c ?_ ?_ <;> intro))
    all_goals clear hof hrest hz2
    (all_goals refine Wp.ret ?_); (all_goals (try simp_all [Res, resU, res1, c_ins_Check, checkF, bad1, bad6, bad4, loc80, loc240])); (all_goals (try omega))
  · have hz2 : ¬ restF ⟨13, d, a, b, n, to⟩ [68, 65] = ⟨0, 0, 0, 0, 0, 0⟩ := fun h => hc (hz.1 h)
    have ho2 : ¬ onlyF ⟨13, d, a, b, n, to⟩ = ⟨13, d, a, b, n, to⟩ := fun h => hc (ho.1 h)
    clear hz ho
    (repeat' first | refine Wp.t ?_ | ((first | apply Wp.op | apply Wp.opN); (apply Evt.all; intro; (simp [insU_mk, ins_same, hz2, dec_at]) <;> (try simp (disch := omega) only [wrap_id]) <;> first | exact ⟨rfl, rfl⟩ | exact rfl)) | (apply Wp.call; exact hof _) | (apply Wp.call; exact hrest _) | refine Wp.l ?_ | (refine Wp.c ?_ ?_ <;> intro))
    all_goals clear hof hrest hz2
    (all_goals refine Wp.ret ?_); (all_goals (try simp_all [Res, resU, res1, c_ins_Check, checkF, bad1, ho2])); (all_goals (try omega))
set_option maxHeartbeats 4000000 in
theorem check_14 (x : Ins) (m : Int) (st : List Ob) (hop : x.op = 14) : Cl T 79 [.agg (insU x), i64 m] st (i64 (checkF x m)) st := by
  refine Wp.pure (fn := c_ins_Check) rfl rfl rfl («as» := [.agg (insU x), i64 m]) rfl ?_
  obtain ⟨op, d, a, b, n, to⟩ := x
  have hop : op = 14 := hop
  subst hop
  have hof : ∀ st, Cl T 64 [i64 14] st (.tup [.agg [.str [115, 116, 111, 114, 101], .str [65, 66]], .bool true]) st := fun st => of_call 14 st
  have hrest := fun st => rest_call ⟨14, d, a, b, n, to⟩ [115, 116, 111, 114, 101] [65, 66] (by decide) st
  have hz : (restF ⟨14, d, a, b, n, to⟩ [65, 66] = ⟨0, 0, 0, 0, 0, 0⟩) ↔ (d = 0 ∧ n = 0 ∧ to = 0) := by simp [restF, clr]
  have ho : (onlyF ⟨14, d, a, b, n, to⟩ = ⟨14, d, a, b, n, to⟩) ↔ (d = 0 ∧ n = 0 ∧ to = 0) := by simp [onlyF, eq_comm]
  by_cases hc : d = 0 ∧ n = 0 ∧ to = 0
  · have hz2 := hz.2 hc
    have ho2 := ho.2 hc
    obtain ⟨rfl, rfl, rfl⟩ := hc
    clear hz ho
    (repeat' first | refine Wp.t ?_ | ((first | apply Wp.op | apply Wp.opN); (apply Evt.all; intro; (simp [insU_mk, ins_same, hz2, dec_at, fieldOff]) <;> (try simp (disch := omega) only [wrap_id]) <;> first | exact ⟨rfl, rfl⟩ | exact rfl)) | (apply Wp.call; exact hof _) | (apply Wp.call; exact hrest _) | (apply Wp.call; exact field_call _ _ _) | (apply Wp.call; exact locRight_call _ _) | (apply Wp.call; exact locReg_call _ _) | refine Wp.l ?_ | (refine Wp.c ?_ ?_ <;> intro))
    all_goals clear hof hrest hz2
    (all_goals refine Wp.ret ?_); (all_goals (try simp_all [Res, resU, res1, c_ins_Check, checkF, bad1, bad6, bad4, loc80, loc240])); (all_goals (try omega))
  · have hz2 : ¬ restF ⟨14, d, a, b, n, to⟩ [65, 66] = ⟨0, 0, 0, 0, 0, 0⟩ := fun h => hc (hz.1 h)
    have ho2 : ¬ onlyF ⟨14, d, a, b, n, to⟩ = ⟨14, d, a, b, n, to⟩ := fun h => hc (ho.1 h)
    clear hz ho
    (repeat' first | refine Wp.t ?_ | ((first | apply Wp.op | apply Wp.opN); (apply Evt.all; intro; (simp [insU_mk, ins_same, hz2, dec_at]) <;> (try simp (disch := omega) only [wrap_id]) <;> first | exact ⟨rfl, rfl⟩ | exact rfl)) | (apply Wp.call; exact hof _) | (apply Wp.call; exact hrest _) | refine Wp.l ?_ | (refine Wp.c ?_ ?_ <;> intro))
    all_goals clear hof hrest hz2
    (all_goals refine Wp.ret ?_); (all_goals (try simp_all [Res, resU, res1, c_ins_Check, checkF, bad1, ho2])); (all_goals (try omega))
set_option maxHeartbeats 4000000 in
theorem check_15 (x : Ins) (m : Int) (st : List Ob) (hop : x.op = 15) : Cl T 79 [.agg (insU x), i64 m] st (i64 (checkF x m)) st := by
  refine Wp.pure (fn := c_ins_Check) rfl rfl rfl («as» := [.agg (insU x), i64 m]) rfl ?_
  obtain ⟨op, d, a, b, n, to⟩ := x
  have hop : op = 15 := hop
  subst hop
  have hof : ∀ st, Cl T 64 [i64 15] st (.tup [.agg [.str [99, 97, 108, 108], .str [68, 65, 78]], .bool true]) st := fun st => of_call 15 st
  have hrest := fun st => rest_call ⟨15, d, a, b, n, to⟩ [99, 97, 108, 108] [68, 65, 78] (by decide) st
  have hz : (restF ⟨15, d, a, b, n, to⟩ [68, 65, 78] = ⟨0, 0, 0, 0, 0, 0⟩) ↔ (b = 0 ∧ to = 0) := by simp [restF, clr]
  have ho : (onlyF ⟨15, d, a, b, n, to⟩ = ⟨15, d, a, b, n, to⟩) ↔ (b = 0 ∧ to = 0) := by simp [onlyF, eq_comm]
  by_cases hc : b = 0 ∧ to = 0
  · have hz2 := hz.2 hc
    have ho2 := ho.2 hc
    obtain ⟨rfl, rfl⟩ := hc
    clear hz ho
    (repeat' first | refine Wp.t ?_ | ((first | apply Wp.op | apply Wp.opN); (apply Evt.all; intro; (simp [insU_mk, ins_same, hz2, dec_at, fieldOff]) <;> (try simp (disch := omega) only [wrap_id]) <;> first | exact ⟨rfl, rfl⟩ | exact rfl)) | (apply Wp.call; exact hof _) | (apply Wp.call; exact hrest _) | (apply Wp.call; exact field_call _ _ _) | (apply Wp.call; exact locRight_call _ _) | (apply Wp.call; exact locReg_call _ _) | refine Wp.l ?_ | (refine Wp.c ?_ ?_ <;> intro))
    all_goals clear hof hrest hz2
    (all_goals refine Wp.ret ?_); (all_goals (try simp_all [Res, resU, res1, c_ins_Check, checkF, bad1, bad6, bad4, loc80, loc240])); (all_goals (try omega))
  · have hz2 : ¬ restF ⟨15, d, a, b, n, to⟩ [68, 65, 78] = ⟨0, 0, 0, 0, 0, 0⟩ := fun h => hc (hz.1 h)
    have ho2 : ¬ onlyF ⟨15, d, a, b, n, to⟩ = ⟨15, d, a, b, n, to⟩ := fun h => hc (ho.1 h)
    clear hz ho
    (repeat' first | refine Wp.t ?_ | ((first | apply Wp.op | apply Wp.opN); (apply Evt.all; intro; (simp [insU_mk, ins_same, hz2, dec_at]) <;> (try simp (disch := omega) only [wrap_id]) <;> first | exact ⟨rfl, rfl⟩ | exact rfl)) | (apply Wp.call; exact hof _) | (apply Wp.call; exact hrest _) | refine Wp.l ?_ | (refine Wp.c ?_ ?_ <;> intro))
    all_goals clear hof hrest hz2
    (all_goals refine Wp.ret ?_); (all_goals (try simp_all [Res, resU, res1, c_ins_Check, checkF, bad1, ho2])); (all_goals (try omega))
set_option maxHeartbeats 4000000 in
theorem check_16 (x : Ins) (m : Int) (st : List Ob) (hop : x.op = 16) : Cl T 79 [.agg (insU x), i64 m] st (i64 (checkF x m)) st := by
  refine Wp.pure (fn := c_ins_Check) rfl rfl rfl («as» := [.agg (insU x), i64 m]) rfl ?_
  obtain ⟨op, d, a, b, n, to⟩ := x
  have hop : op = 16 := hop
  subst hop
  have hof : ∀ st, Cl T 64 [i64 16] st (.tup [.agg [.str [106, 117, 109, 112], .str [84]], .bool true]) st := fun st => of_call 16 st
  have hrest := fun st => rest_call ⟨16, d, a, b, n, to⟩ [106, 117, 109, 112] [84] (by decide) st
  have hz : (restF ⟨16, d, a, b, n, to⟩ [84] = ⟨0, 0, 0, 0, 0, 0⟩) ↔ (d = 0 ∧ a = 0 ∧ b = 0 ∧ n = 0) := by simp [restF, clr]
  have ho : (onlyF ⟨16, d, a, b, n, to⟩ = ⟨16, d, a, b, n, to⟩) ↔ (d = 0 ∧ a = 0 ∧ b = 0 ∧ n = 0) := by simp [onlyF, eq_comm]
  by_cases hc : d = 0 ∧ a = 0 ∧ b = 0 ∧ n = 0
  · have hz2 := hz.2 hc
    have ho2 := ho.2 hc
    obtain ⟨rfl, rfl, rfl, rfl⟩ := hc
    clear hz ho
    (repeat' first | refine Wp.t ?_ | ((first | apply Wp.op | apply Wp.opN); (apply Evt.all; intro; (simp [insU_mk, ins_same, hz2, dec_at, fieldOff]) <;> (try simp (disch := omega) only [wrap_id]) <;> first | exact ⟨rfl, rfl⟩ | exact rfl)) | (apply Wp.call; exact hof _) | (apply Wp.call; exact hrest _) | (apply Wp.call; exact field_call _ _ _) | (apply Wp.call; exact locRight_call _ _) | (apply Wp.call; exact locReg_call _ _) | refine Wp.l ?_ | (refine Wp.c ?_ ?_ <;> intro))
    all_goals clear hof hrest hz2
    (all_goals refine Wp.ret ?_); (all_goals (try simp_all [Res, resU, res1, c_ins_Check, checkF, bad1, bad6, bad4, loc80, loc240])); (all_goals (try omega))
  · have hz2 : ¬ restF ⟨16, d, a, b, n, to⟩ [84] = ⟨0, 0, 0, 0, 0, 0⟩ := fun h => hc (hz.1 h)
    have ho2 : ¬ onlyF ⟨16, d, a, b, n, to⟩ = ⟨16, d, a, b, n, to⟩ := fun h => hc (ho.1 h)
    clear hz ho
    (repeat' first | refine Wp.t ?_ | ((first | apply Wp.op | apply Wp.opN); (apply Evt.all; intro; (simp [insU_mk, ins_same, hz2, dec_at]) <;> (try simp (disch := omega) only [wrap_id]) <;> first | exact ⟨rfl, rfl⟩ | exact rfl)) | (apply Wp.call; exact hof _) | (apply Wp.call; exact hrest _) | refine Wp.l ?_ | (refine Wp.c ?_ ?_ <;> intro))
    all_goals clear hof hrest hz2
    (all_goals refine Wp.ret ?_); (all_goals (try simp_all [Res, resU, res1, c_ins_Check, checkF, bad1, ho2])); (all_goals (try omega))
set_option maxHeartbeats 4000000 in
theorem check_17 (x : Ins) (m : Int) (st : List Ob) (hop : x.op = 17) : Cl T 79 [.agg (insU x), i64 m] st (i64 (checkF x m)) st := by
  refine Wp.pure (fn := c_ins_Check) rfl rfl rfl («as» := [.agg (insU x), i64 m]) rfl ?_
  obtain ⟨op, d, a, b, n, to⟩ := x
  have hop : op = 17 := hop
  subst hop
  have hof : ∀ st, Cl T 64 [i64 17] st (.tup [.agg [.str [122, 101, 114, 111], .str [65, 84]], .bool true]) st := fun st => of_call 17 st
  have hrest := fun st => rest_call ⟨17, d, a, b, n, to⟩ [122, 101, 114, 111] [65, 84] (by decide) st
  have hz : (restF ⟨17, d, a, b, n, to⟩ [65, 84] = ⟨0, 0, 0, 0, 0, 0⟩) ↔ (d = 0 ∧ b = 0 ∧ n = 0) := by simp [restF, clr]
  have ho : (onlyF ⟨17, d, a, b, n, to⟩ = ⟨17, d, a, b, n, to⟩) ↔ (d = 0 ∧ b = 0 ∧ n = 0) := by simp [onlyF, eq_comm]
  by_cases hc : d = 0 ∧ b = 0 ∧ n = 0
  · have hz2 := hz.2 hc
    have ho2 := ho.2 hc
    obtain ⟨rfl, rfl, rfl⟩ := hc
    clear hz ho
    (repeat' first | refine Wp.t ?_ | ((first | apply Wp.op | apply Wp.opN); (apply Evt.all; intro; (simp [insU_mk, ins_same, hz2, dec_at, fieldOff]) <;> (try simp (disch := omega) only [wrap_id]) <;> first | exact ⟨rfl, rfl⟩ | exact rfl)) | (apply Wp.call; exact hof _) | (apply Wp.call; exact hrest _) | (apply Wp.call; exact field_call _ _ _) | (apply Wp.call; exact locRight_call _ _) | (apply Wp.call; exact locReg_call _ _) | refine Wp.l ?_ | (refine Wp.c ?_ ?_ <;> intro))
    all_goals clear hof hrest hz2
    (all_goals refine Wp.ret ?_); (all_goals (try simp_all [Res, resU, res1, c_ins_Check, checkF, bad1, bad6, bad4, loc80, loc240])); (all_goals (try omega))
  · have hz2 : ¬ restF ⟨17, d, a, b, n, to⟩ [65, 84] = ⟨0, 0, 0, 0, 0, 0⟩ := fun h => hc (hz.1 h)
    have ho2 : ¬ onlyF ⟨17, d, a, b, n, to⟩ = ⟨17, d, a, b, n, to⟩ := fun h => hc (ho.1 h)
    clear hz ho
    (repeat' first | refine Wp.t ?_ | ((first | apply Wp.op | apply Wp.opN); (apply Evt.all; intro; (simp [insU_mk, ins_same, hz2, dec_at]) <;> (try simp (disch := omega) only [wrap_id]) <;> first | exact ⟨rfl, rfl⟩ | exact rfl)) | (apply Wp.call; exact hof _) | (apply Wp.call; exact hrest _) | refine Wp.l ?_ | (refine Wp.c ?_ ?_ <;> intro))
    all_goals clear hof hrest hz2
    (all_goals refine Wp.ret ?_); (all_goals (try simp_all [Res, resU, res1, c_ins_Check, checkF, bad1, ho2])); (all_goals (try omega))
set_option maxHeartbeats 4000000 in
theorem check_18 (x : Ins) (m : Int) (st : List Ob) (hop : x.op = 18) : Cl T 79 [.agg (insU x), i64 m] st (i64 (checkF x m)) st := by
  refine Wp.pure (fn := c_ins_Check) rfl rfl rfl («as» := [.agg (insU x), i64 m]) rfl ?_
  obtain ⟨op, d, a, b, n, to⟩ := x
  have hop : op = 18 := hop
  subst hop
  have hof : ∀ st, Cl T 64 [i64 18] st (.tup [.agg [.str [114, 101, 116], .str [65]], .bool true]) st := fun st => of_call 18 st
  have hrest := fun st => rest_call ⟨18, d, a, b, n, to⟩ [114, 101, 116] [65] (by decide) st
  have hz : (restF ⟨18, d, a, b, n, to⟩ [65] = ⟨0, 0, 0, 0, 0, 0⟩) ↔ (d = 0 ∧ b = 0 ∧ n = 0 ∧ to = 0) := by simp [restF, clr]
  have ho : (onlyF ⟨18, d, a, b, n, to⟩ = ⟨18, d, a, b, n, to⟩) ↔ (d = 0 ∧ b = 0 ∧ n = 0 ∧ to = 0) := by simp [onlyF, eq_comm]
  by_cases hc : d = 0 ∧ b = 0 ∧ n = 0 ∧ to = 0
  · have hz2 := hz.2 hc
    have ho2 := ho.2 hc
    obtain ⟨rfl, rfl, rfl, rfl⟩ := hc
    clear hz ho
    (repeat' first | refine Wp.t ?_ | ((first | apply Wp.op | apply Wp.opN); (apply Evt.all; intro; (simp [insU_mk, ins_same, hz2, dec_at, fieldOff]) <;> (try simp (disch := omega) only [wrap_id]) <;> first | exact ⟨rfl, rfl⟩ | exact rfl)) | (apply Wp.call; exact hof _) | (apply Wp.call; exact hrest _) | (apply Wp.call; exact field_call _ _ _) | (apply Wp.call; exact locRight_call _ _) | (apply Wp.call; exact locReg_call _ _) | refine Wp.l ?_ | (refine Wp.c ?_ ?_ <;> intro))
    all_goals clear hof hrest hz2
    (all_goals refine Wp.ret ?_); (all_goals (try simp_all [Res, resU, res1, c_ins_Check, checkF, bad1, bad6, bad4, loc80, loc240])); (all_goals (try omega))
  · have hz2 : ¬ restF ⟨18, d, a, b, n, to⟩ [65] = ⟨0, 0, 0, 0, 0, 0⟩ := fun h => hc (hz.1 h)
    have ho2 : ¬ onlyF ⟨18, d, a, b, n, to⟩ = ⟨18, d, a, b, n, to⟩ := fun h => hc (ho.1 h)
    clear hz ho
    (repeat' first | refine Wp.t ?_ | ((first | apply Wp.op | apply Wp.opN); (apply Evt.all; intro; (simp [insU_mk, ins_same, hz2, dec_at]) <;> (try simp (disch := omega) only [wrap_id]) <;> first | exact ⟨rfl, rfl⟩ | exact rfl)) | (apply Wp.call; exact hof _) | (apply Wp.call; exact hrest _) | refine Wp.l ?_ | (refine Wp.c ?_ ?_ <;> intro))
    all_goals clear hof hrest hz2
    (all_goals refine Wp.ret ?_); (all_goals (try simp_all [Res, resU, res1, c_ins_Check, checkF, bad1, ho2])); (all_goals (try omega))
theorem check_call (x : Ins) (m : Int) (st : List Ob) : Cl T 79 [.agg (insU x), i64 m] st (i64 (checkF x m)) st := by
  by_cases h : x.op < 1 ∨ 18 < x.op
  · have : checkF x m = 1 := by
      unfold checkF
      rw [if_pos]
      unfold bad1
      rcases h with h | h
      · exact .inl h
      · exact .inr (.inl h)
    rw [this]
    exact check_out x m st h
  · rcases ops18 (show 1 ≤ x.op by omega) (show x.op ≤ 18 by omega) with h | h | h | h | h | h | h | h | h | h | h | h | h | h | h | h | h | h
    · exact check_1 x m st h
    · exact check_2 x m st h
    · exact check_3 x m st h
    · exact check_dab x m st _ ⟨by omega, by omega⟩ (by rw [h]; rfl)
    · exact check_dab x m st _ ⟨by omega, by omega⟩ (by rw [h]; rfl)
    · exact check_dab x m st _ ⟨by omega, by omega⟩ (by rw [h]; rfl)
    · exact check_dab x m st _ ⟨by omega, by omega⟩ (by rw [h]; rfl)
    · exact check_dab x m st _ ⟨by omega, by omega⟩ (by rw [h]; rfl)
    · exact check_dab x m st _ ⟨by omega, by omega⟩ (by rw [h]; rfl)
    · exact check_dab x m st _ ⟨by omega, by omega⟩ (by rw [h]; rfl)
    · exact check_dab x m st _ ⟨by omega, by omega⟩ (by rw [h]; rfl)
    · exact check_dab x m st _ ⟨by omega, by omega⟩ (by rw [h]; rfl)
    · exact check_13 x m st h
    · exact check_14 x m st h
    · exact check_15 x m st h
    · exact check_16 x m st h
    · exact check_17 x m st h
    · exact check_18 x m st h
theorem insU_len (x : Ins) : (insU x).length = 6 := rfl
theorem insU_take (x : Ins) : (insU x).take 6 = insU x := rfl
def fb (m : Int) : Nat → List Ins → Option (Nat × Int)
  | _, [] => none
  | i, x :: r => if checkF x m ≠ 0 then some (i, checkF x m) else fb m (i + 1) r
def lastOp (l : List Ins) : Int := (l.getD (l.length - 1) default).op
def chkF (l : List Ins) : Int × Int :=
  if 200 < l.length then (0, 3) else if l.length = 0 then (0, 5) else match fb l.length 0 l with
    | some (i, e) => (i, e)
    | none => if lastOp l = 16 ∨ lastOp l = 18 then (0, 0) else ((l.length : Int) - 1, 5)
def rightF (l : List Ins) : Bool := decide ((chkF l).2 = 0)
theorem chk_bad {l : List Ins} {i : Nat} {e : Int} (h1 : ¬ 200 < l.length) (h2 : ¬ l.length = 0) (h : fb l.length 0 l = some (i, e)) : chkF l = ((i : Int), e) := by
  unfold chkF
  rw [if_neg h1, if_neg h2, h]
theorem fb_step {m : Int} {l : List Ins} {i : Nat} (hi : i < l.length) (h : fb m 0 l = fb m i (l.drop i)) : (checkF l[i] m ≠ 0 → fb m 0 l = some (i, checkF l[i] m)) ∧ (checkF l[i] m = 0 → fb m 0 l = fb m (i + 1) (l.drop (i + 1))) := by
  rw [List.drop_eq_getElem_cons hi, fb] at h
  constructor
  · intro hc
    rw [h, if_pos hc]
  · intro hc
    rw [h, if_neg (by simpa using hc)]
def a0S (p : Bool) (l : List Ins) (i : Nat) : S := ⟨[(0, insL p l), (16, insL p l), (17, i64 l.length), (18, i64 i)], []⟩
theorem a0_loop (p : Bool) (l : List Ins) (h1 : ¬ 200 < l.length) (h2 : ¬ l.length = 0) :
    Wp T (.loop c_asm_Check_L0) (a0S p l (0 : Nat)) (fun _ => False) (Res c_asm_Check (.tup [i64 (chkF l).1, i64 (chkF l).2])) (fun b s' => b = 1 ∧ s' = ⟨[(0, insL p l), (16, insL p l), (17, i64 l.length), (18, i64 l.length), (19, .bool false)], []⟩ ∧ fb l.length 0 l = none) := by
  refine Wp.count l.length (fun i => a0S p l i) (fun i => fb l.length 0 l = fb l.length i (l.drop i)) (fun i hi hP => ?_) (fun hP => ?_) 0 (by omega) rfl
  · obtain ⟨s1, s2⟩ := fb_step hi hP
    simp only [a0S]
    repeat refine Wp.a ?_
    refine Wp.i ?_ ?_ <;> intro ht
    · (have := fa (a4 @insL.eq_1 hi @insU_len @insU_take); repeat refine Wp.f ?_)
      apply Wp.call
      · exact check_call l[i] l.length _
      generalize hc : checkF l[i] l.length = e at *
      by_cases he : e = 0
      · subst he
        repeat refine Wp.a ?_
        refine Wp.i ?_ ?_ <;> intro ht2
        · cases ht2
        (have := fa @wrap_id; repeat refine Wp.f ?_)
        exact ⟨by simp [trimO, trim, insL], s2 rfl⟩
      · (have := fa he; repeat refine Wp.f ?_)
        refine Wp.i ?_ ?_ <;> intro ht2
        · repeat refine Wp.a ?_
          refine Wp.ret ?_
          rw [chk_bad h1 h2 (s1 he)]
          simp [Res, resU, res1, c_asm_Check]
        · cases ht2
    · simp [hi] at ht
  · simp only [a0S]
    repeat refine Wp.a ?_
    refine Wp.i ?_ ?_ <;> intro ht
    · simp at ht
    · refine Wp.exit ⟨rfl, by simp, ?_⟩
      rw [hP, List.drop_length]
      rfl
theorem asmCheck_call (p : Bool) (l : List Ins) (st : List Ob) (LU : U) (hLU : brw frzD st LU = some (insL p l)) : Cl T 52 [LU] st (.tup [i64 (chkF l).1, i64 (chkF l).2]) st := by
  refine Wp.pure (fn := c_asm_Check) rfl rfl rfl («as» := [insL p l]) (by simp [hLU]) ?_
  by_cases h1 : (200 : Int) < l.length
  · have h1' : 200 < l.length := by omega
    (all_goals have := fa (a2 @insL.eq_1 h1); repeat' first | refine Wp.v ?_ | (refine Wp.c ?_ ?_ <;> intro))
    (all_goals refine Wp.ret ?_); (all_goals (try simp_all [Res, resU, res1, c_asm_Check, chkF, h1'])); (all_goals (try omega))
  by_cases h2 : l.length = 0
  · (all_goals have := fa (a3 @insL.eq_1 h1 h2); repeat' first | refine Wp.v ?_ | (refine Wp.c ?_ ?_ <;> intro))
    (all_goals refine Wp.ret ?_); (all_goals (try simp_all [Res, resU, res1, c_asm_Check, chkF, h1, h2])); (all_goals (try omega))
  have h1' : ¬ 200 < l.length := by omega
  have h2' : ¬ l = [] := fun e => h2 (by rw [e]; rfl)
  (have := fa (a2 @insL.eq_1 h1); repeat refine Wp.f ?_)
  refine Wp.i ?_ ?_ <;> intro ht
  · cases ht
  (have := fa (a2 @insL.eq_1 h2'); repeat refine Wp.f ?_)
  refine Wp.i ?_ ?_ <;> intro ht2
  · cases ht2
  obtain ⟨k, hk⟩ : ∃ k, l.length = k + 1 := ⟨l.length - 1, by omega⟩
  have hkl : k < l.length := by omega
  have hk' : (l.length : Int) - 1 = (k : Int) := by omega
  have hlast : lastOp l = l[k].op := by
    unfold lastOp
    rw [hk, Nat.add_sub_cancel]
    simp [hkl]
  (have := fa @insL.eq_1; repeat refine Wp.f ?_)
  refine (show Wp T (.loop c_asm_Check_L0) (a0S p l (0 : Nat)) _ _ _ from (a0_loop p l h1' h2).imp (fun _ h => h.elim) (fun _ h => h) ?_)
  rintro b s ⟨rfl, rfl, hn⟩
  rw [if_pos rfl]
  have hchk : chkF l = if lastOp l = 16 ∨ lastOp l = 18 then (0, 0) else ((l.length : Int) - 1, 5) := by
    unfold chkF
    rw [if_neg h1', if_neg h2, hn]
  rw [hchk, hlast, hk']
  have hw : IntKind.wrap .i64 (k : Int) = k := wrap_id (by omega) (by omega)
  clear hn hchk hlast
  (all_goals have := fa (a5 @insL.eq_1 @insU.eq_1 hk' hw hkl); repeat' first | refine Wp.v ?_ | (refine Wp.c ?_ ?_ <;> intro))
  (all_goals refine Wp.ret ?_); (all_goals (try simp_all [Res, resU, res1, c_asm_Check])); (all_goals (try omega))
theorem asmRight_call (p : Bool) (l : List Ins) (st : List Ob) (LU : U) (hLU : brw frzD st LU = some (insL p l)) : Cl T 29 [LU] st (.bool (rightF l)) st := by
  refine Wp.pure (fn := c_asm_Right) rfl rfl rfl («as» := [insL p l]) (by simp [hLU]) ?_
  repeat refine Wp.a ?_
  apply Wp.call
  · exact asmCheck_call p l _ (insL p l) rfl
  repeat refine Wp.a ?_
  refine Wp.ret ?_; simp [Res, resU, res1, c_asm_Right, rightF]
def b0S (p : Bool) (l : List Ins) (i : Nat) : S := ⟨[(0, insL p l), (4, i64 i)], []⟩
theorem b0_loop (p : Bool) (l : List Ins) (h1 : ¬ 200 < l.length) (h2 : ¬ l.length = 0) :
    Wp T (.loop c_joineryref04_Check_L0) (b0S p l (0 : Nat)) (fun _ => False) (Res c_joineryref04_Check (.tup [i64 (chkF l).1, i64 (chkF l).2])) (fun b s' => b = 0 ∧ s' = ⟨[(0, insL p l), (4, i64 l.length), (16, .bool false)], []⟩ ∧ fb l.length 0 l = none) := by
  refine Wp.count l.length (fun i => b0S p l i) (fun i => fb l.length 0 l = fb l.length i (l.drop i)) (fun i hi hP => ?_) (fun hP => ?_) 0 (by omega) rfl
  · obtain ⟨s1, s2⟩ := fb_step hi hP
    simp only [b0S]
    (have := fa (a2 @insL.eq_1 hi); repeat refine Wp.f ?_)
    refine Wp.i ?_ ?_ <;> intro ht
    · (have := fa (a4 @insL.eq_1 hi @insU_len @insU_take); repeat refine Wp.f ?_)
      apply Wp.call
      · exact check3_call l[i] l.length _
      generalize hc : checkF l[i] l.length = e at *
      by_cases he : e = 0
      · subst he
        repeat refine Wp.a ?_
        refine Wp.i ?_ ?_ <;> intro ht2
        · cases ht2
        (have := fa @wrap_id; repeat refine Wp.f ?_)
        exact ⟨by simp [trimO, trim, insL], s2 rfl⟩
      · (have := fa he; repeat refine Wp.f ?_)
        refine Wp.i ?_ ?_ <;> intro ht2
        · repeat refine Wp.a ?_
          refine Wp.ret ?_
          rw [chk_bad h1 h2 (s1 he)]
          simp [Res, resU, res1, c_joineryref04_Check]
        · cases ht2
    · simp at ht
  · simp only [b0S]
    (have := fa @insL.eq_1; repeat refine Wp.f ?_)
    refine Wp.i ?_ ?_ <;> intro ht
    · simp at ht
    · refine Wp.exit ⟨rfl, by simp [insL], ?_⟩
      rw [hP, List.drop_length]
      rfl
theorem check4_call (p : Bool) (l : List Ins) (st : List Ob) (LU : U) (hLU : brw frzD st LU = some (insL p l)) : Cl T 26 [LU] st (.tup [i64 (chkF l).1, i64 (chkF l).2]) st := by
  refine Wp.pure (fn := c_joineryref04_Check) rfl rfl rfl («as» := [insL p l]) (by simp [hLU]) ?_
  by_cases h1 : (200 : Int) < l.length
  · have h1' : 200 < l.length := by omega
    (all_goals have := fa (a2 @insL.eq_1 h1); repeat' first | refine Wp.v ?_ | (refine Wp.c ?_ ?_ <;> intro))
    (all_goals refine Wp.ret ?_); (all_goals (try simp_all [Res, resU, res1, c_joineryref04_Check, chkF, h1'])); (all_goals (try omega))
  by_cases h2 : l.length = 0
  · (all_goals have := fa (a3 @insL.eq_1 h1 h2); repeat' first | refine Wp.v ?_ | (refine Wp.c ?_ ?_ <;> intro))
    (all_goals refine Wp.ret ?_); (all_goals (try simp_all [Res, resU, res1, c_joineryref04_Check, chkF, h1, h2])); (all_goals (try omega))
  have h1' : ¬ 200 < l.length := by omega
  have h2' : ¬ l = [] := fun e => h2 (by rw [e]; rfl)
  (have := fa (a2 @insL.eq_1 h1); repeat refine Wp.f ?_)
  refine Wp.i ?_ ?_ <;> intro ht
  · cases ht
  (have := fa (a2 @insL.eq_1 h2'); repeat refine Wp.f ?_)
  refine Wp.i ?_ ?_ <;> intro ht2
  · cases ht2
  obtain ⟨k, hk⟩ : ∃ k, l.length = k + 1 := ⟨l.length - 1, by omega⟩
  have hkl : k < l.length := by omega
  have hk' : (l.length : Int) - 1 = (k : Int) := by omega
  have hlast : lastOp l = l[k].op := by
    unfold lastOp
    rw [hk, Nat.add_sub_cancel]
    simp [hkl]
  (have := fa @insL.eq_1; repeat refine Wp.f ?_)
  refine (show Wp T (.loop c_joineryref04_Check_L0) (b0S p l (0 : Nat)) _ _ _ from (b0_loop p l h1' h2).imp (fun _ h => h.elim) (fun _ h => h) ?_)
  rintro b s ⟨rfl, rfl, hn⟩
  rw [if_pos rfl]
  have hchk : chkF l = if lastOp l = 16 ∨ lastOp l = 18 then (0, 0) else ((l.length : Int) - 1, 5) := by
    unfold chkF
    rw [if_neg h1', if_neg h2, hn]
  rw [hchk, hlast, hk']
  have hw : IntKind.wrap .i64 (k : Int) = k := wrap_id (by omega) (by omega)
  clear hn hchk hlast
  (all_goals have := fa (a5 @insL.eq_1 @insU.eq_1 hk' hw hkl); repeat' first | refine Wp.v ?_ | (refine Wp.c ?_ ?_ <;> intro))
  (all_goals refine Wp.ret ?_); (all_goals (try simp_all [Res, resU, res1, c_joineryref04_Check])); (all_goals (try omega))
theorem right4_call (p : Bool) (l : List Ins) (st : List Ob) (LU : U) (hLU : brw frzD st LU = some (insL p l)) : Cl T 9 [LU] st (.bool (rightF l)) st := by
  refine Wp.pure (fn := c_joineryref04_Right) rfl rfl rfl («as» := [insL p l]) (by simp [hLU]) ?_
  repeat refine Wp.a ?_
  apply Wp.call
  · exact check4_call p l _ (insL p l) rfl
  repeat refine Wp.a ?_
  refine Wp.ret ?_; simp [Res, resU, res1, c_joineryref04_Right, rightF]
def fairF (l : List Ins) (at_ : Int) : Bool := rightF l && decide (0 ≤ at_) && decide (at_ < l.length)
inductive Src where
  | was (l : Int)
  | is (n : Int)
  | no
  deriving DecidableEq, Inhabited
def srcU : Src → U
  | .was l => .iface 137 (.agg [i64 l])
  | .is n => .iface 134 (.agg [i64 n])
  | .no => .nilI
def tabU (t : List Src) : List U := t.map srcU
def mayF : Src → Bool
  | .was l => locF 24 l
  | .is _ => true
  | .no => false
def newT : List Src := (List.range 24).map fun (i : Nat) => Src.was (i : Int)
def goodF (t : List Src) : List Src := if t.all mayF then t else newT
theorem new_call (st : List Ob) : Cl T 55 [] st (.agg (tabU newT)) st := Cl.at (n := 60) (by kernel_rfl) rfl st
theorem newT_len : newT.length = 24 := rfl
theorem newT_good : newT.all mayF = true := by decide
theorem tabU_len (t : List Src) : (tabU t).length = t.length := by simp [tabU]
theorem tabU_sub {t : List Src} {i : Nat} (h : i < t.length) : ((tabU t).drop i).take 1 = [srcU t[i]] := by
  rw [List.drop_eq_getElem_cons (by rw [tabU_len]; exact h)]
  simp [tabU]
theorem over_full : ∀ (us cs : List U), us.length = cs.length → over us cs = us
  | [], [], _ => rfl
  | u :: us, _ :: cs, h => by rw [over, over_full us cs (by simpa using h)]
  | [], _ :: _, h => by simp at h
  | _ :: _, [], h => by simp at h
theorem may_call (s : Src) (st : List Ob) : Cl T 101 [srcU s] st (.bool (mayF s)) st := by
  cases s with
  | was l =>
    refine Wp.pure (fn := c_env_may) rfl rfl rfl («as» := [srcU (.was l)]) rfl ?_
    (repeat' first | refine Wp.t ?_ | ((first | apply Wp.op | apply Wp.opN); (apply Evt.all; intro; (simp [srcU]) <;> (try simp (disch := omega) only [wrap_id]) <;> first | exact ⟨rfl, rfl⟩ | exact rfl)) | (apply Wp.call; exact locRight_call _ _) | (refine Wp.c ?_ ?_ <;> intro))
    (all_goals refine Wp.ret ?_); (all_goals (try simp_all [Res, resU, res1, c_env_may, mayF])); (all_goals (try omega))
  | is n =>
    refine Wp.pure (fn := c_env_may) rfl rfl rfl («as» := [srcU (.is n)]) rfl ?_
    (repeat' first | refine Wp.t ?_ | ((first | apply Wp.op | apply Wp.opN); (apply Evt.all; intro; (simp [srcU]) <;> (try simp (disch := omega) only [wrap_id]) <;> first | exact ⟨rfl, rfl⟩ | exact rfl)) | (refine Wp.c ?_ ?_ <;> intro))
    (all_goals refine Wp.ret ?_); (all_goals (try simp_all [Res, resU, res1, c_env_may, mayF])); (all_goals (try omega))
  | no =>
    refine Wp.pure (fn := c_env_may) rfl rfl rfl («as» := [srcU .no]) rfl ?_
    (repeat' first | refine Wp.t ?_ | ((first | apply Wp.op | apply Wp.opN); (apply Evt.all; intro; (simp [srcU]) <;> (try simp (disch := omega) only [wrap_id]) <;> first | exact ⟨rfl, rfl⟩ | exact rfl)) | (refine Wp.c ?_ ?_ <;> intro))
    (all_goals refine Wp.ret ?_); (all_goals (try simp_all [Res, resU, res1, c_env_may, mayF])); (all_goals (try omega))
theorem brw_src (st : List Ob) (d : Nat) (s : Src) : brw (d + 3) st (srcU s) = some (srcU s) := by cases s <;> rfl
theorem brw_tab (st : List Ob) (t : List Src) : brw frzD st (.agg (tabU t)) = some (.agg (tabU t)) := by
  have : ∀ t : List Src, allM (brw 11 st) (tabU t) = some (tabU t) := by
    intro t
    induction t with
    | nil => rfl
    | cons s t ih => simp only [tabU, List.map_cons] at ih ⊢; simp only [M2.allM, brw_src st 8 s, ih, Option.bind_some]
  rw [frzD, brw]
  simp only [this, Option.bind_some]
theorem frz_src (st : List Ob) (d : Nat) (s : Src) : frz (d + 3) st (srcU s) = some (srcU s, st) := by cases s <;> rfl
theorem acc_tab (st : List Ob) : ∀ (t : List Src), accM (frz 11) st (tabU t) = some (tabU t, st)
  | [] => rfl
  | s :: t => by
    have ih := acc_tab st t
    simp only [tabU, List.map_cons] at ih ⊢
    simp only [accMS_cons, frz_src st 8 s, ih, Option.bind_some]
theorem acc_tab' (st : List Ob) : ∀ (t : List Src), accM (frz 10) st (tabU t) = some (tabU t, st)
  | [] => rfl
  | s :: t => by
    have ih := acc_tab' st t
    simp only [tabU, List.map_cons] at ih ⊢
    simp only [accMS_cons, frz_src st 7 s, ih, Option.bind_some]
theorem frz_tab (st : List Ob) (t : List Src) : frz frzD st (.agg (tabU t)) = some (.agg (tabU t), st) := by
  rw [M2.frz_agg, acc_tab]
  rfl
theorem tab_blw (L : Nat) (t : List Src) : ∀ u ∈ tabU t, blw blwD L u = true := by
  intro u hu
  obtain ⟨s, _, rfl⟩ := List.mem_map.1 hu
  cases s <;> rfl
def g0S (t : List Src) (i : Nat) : S := ⟨[(5, .agg (tabU t)), (6, i64 i)], [.box (tabU t)]⟩
theorem good_loop (t : List Src) (ht : t.length = 24) : Wp T (.loop c_env_Good_L0) (g0S t (0 : Nat)) (fun _ => False) (Res c_env_Good (.bool (t.all mayF))) (fun b s' => b = 0 ∧ t.all mayF = true) := by
  refine Wp.count 24 (fun i => g0S t i) (fun i => ∀ j (h : j < t.length), j < i → mayF t[j] = true) (fun i hi hP => ?_) (fun hP => ?_) 0 (by omega) (fun j _ h => absurd h (by omega))
  · have hit : i < t.length := by omega
    have hi' : (i : Int) < 24 := by omega
    simp only [g0S]
    (have := fa hi'; repeat refine Wp.f ?_)
    refine Wp.i ?_ ?_ <;> intro h1
    · have hsub : M2.sub (tabU t) i 1 = some [srcU t[i]] := by
        unfold M2.sub
        rw [if_pos (by rw [tabU_len]; omega), tabU_sub hit]
      repeat first | refine Wp.s ?_ | ((first | apply Wp.op | apply Wp.opN | (apply Wp.opG; exact rfl)); (apply Evt.all; intro; (simp [-sub, hsub, hi']) <;> (try simp (disch := omega) only [wrap_id]) <;> first | exact ⟨rfl, rfl⟩ | exact rfl))
      apply Wp.call
      · exact may_call t[i] _
      cases hm : mayF t[i] with
      | true =>
        repeat refine Wp.a ?_
        refine Wp.i ?_ ?_ <;> intro h2
        · cases h2
        (have := fa @wrap_id; repeat refine Wp.f ?_)
        refine ⟨?_, fun j hj hji => ?_⟩
        · exact (trimO_len (s := ⟨_, _⟩) rfl).trans (by simp)
        · by_cases e : j = i
          · subst e; exact hm
          · exact hP j hj (by omega)
      | false =>
        repeat refine Wp.a ?_
        refine Wp.i ?_ ?_ <;> intro h2
        · repeat refine Wp.a ?_
          refine Wp.ret ?_
          have : t.all mayF = false := by
            rw [List.all_eq_false]
            exact ⟨t[i], List.getElem_mem hit, by rw [hm]; decide⟩
          simp [Res, resU, res1, c_env_Good, this]
        · cases h2
    · cases h1
  · simp only [g0S]
    repeat refine Wp.a ?_
    refine Wp.i ?_ ?_ <;> intro h1
    · cases h1
    · refine Wp.exit ⟨rfl, ?_⟩
      rw [List.all_eq_true]
      intro s hs
      obtain ⟨j, hj, rfl⟩ := List.mem_iff_getElem.1 hs
      exact hP j hj (by omega)
theorem goodQ_call (t : List Src) (ht : t.length = 24) (st : List Ob) : Cl T 88 [.agg (tabU t)] st (.bool (t.all mayF)) st := by
  refine Wp.pure (fn := c_env_Good) rfl rfl rfl («as» := [.agg (tabU t)]) (by simp [brw_tab]) ?_
  have h24 : (tabU t).take 24 = tabU t := by rw [List.take_of_length_le]; rw [tabU_len, ht]; exact Nat.le_refl _
  (have := fa (a3 @tabU_len ht h24); repeat refine Wp.f ?_)
  refine (show Wp T (.loop c_env_Good_L0) (g0S t (0 : Nat)) _ _ _ from (good_loop t ht).imp (fun _ h => h.elim) (fun _ h => h) ?_)
  rintro b s ⟨rfl, hall⟩
  rw [if_pos rfl]
  obtain ⟨e, st2⟩ := s
  repeat refine Wp.a ?_
  refine Wp.ret ?_
  simp [Res, resU, res1, c_env_Good, hall]
theorem good_call (t : List Src) (ht : t.length = 24) (st : List Ob) : Cl T 80 [.agg (tabU t)] st (.agg (tabU (goodF t))) st := by
  refine Wp.pure (fn := c_env_good) rfl rfl rfl («as» := [.agg (tabU t)]) (by simp [brw_tab]) ?_
  have h24 : (tabU t).take 24 = tabU t := by rw [List.take_of_length_le]; rw [tabU_len, ht]; exact Nat.le_refl _
  have n24 : (tabU newT).take 24 = tabU newT := by rw [List.take_of_length_le]; rw [tabU_len]; exact Nat.le_refl _
  have ov := fun cs h => over_full (tabU t) cs h
  (have := fa (a3 @tabU_len ht h24); repeat refine Wp.f ?_)
  apply Wp.call
  · exact goodQ_call t ht _
  cases hg : t.all mayF with
  | true =>
    have hgf : goodF t = t := by unfold goodF; rw [if_pos hg]
    repeat refine Wp.a ?_
    refine Wp.i ?_ ?_ <;> intro h1
    · (have := fa (a4 @tabU_len ht h24 @over_full); repeat refine Wp.f ?_)
      refine Wp.ret ?_
      rw [hgf]
      simp [Res, resU, res1, c_env_good, tabU_len, ht, h24, acc_tab]
    · cases h1
  | false =>
    have hgf : goodF t = newT := by unfold goodF; rw [hg]; rfl
    repeat refine Wp.a ?_
    refine Wp.i ?_ ?_ <;> intro h1
    · cases h1
    repeat refine Wp.a ?_
    apply Wp.call
    · exact new_call _
    (have := fa (a3 @tabU_len @newT_len @over_full); repeat refine Wp.f ?_)
    refine Wp.ret ?_
    rw [hgf]
    simp [Res, resU, res1, c_env_good, tabU_len, newT_len, n24, acc_tab]
end Go.Proofs.YtcehbpimdngjfaaDoor.M2
