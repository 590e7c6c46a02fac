/- What the functions answer in M2. Part 6: of. -/
import Derived.Test.YtcehbpimdngjfaaDoorCd
import Derived.Test.YtcehbpimdngjfaaDoorCc
import Derived.Laws.RangeString
set_option linter.unusedSimpArgs false
set_option linter.unusedVariables false
set_option linter.unusedSectionVars false
namespace Go.Proofs.YtcehbpimdngjfaaDoor.M2
open Go
theorem beq_dec (x y : Int) : (x == y) = decide (x = y) := by by_cases h : x = y <;> simp [h]
theorem bne_dec (x y : Int) : (x != y) = !decide (x = y) := by by_cases h : x = y <;> simp [h]
theorem wrap_id {n : Int} (h1 : -9223372036854775808 ≤ n) (h2 : n < 9223372036854775808) : IntKind.wrap .i64 n = n := by
  simp only [IntKind.wrap, IntKind.bits, IntKind.signed, Bool.true_and]
  have : (2 : Int) ^ 64 = 18446744073709551616 := by decide
  have : (2 : Int) ^ (64 - 1) = 9223372036854775808 := by decide
  simp only [*]
  split <;> rename_i h <;> simp only [decide_eq_true_eq, ge_iff_le] at h <;> omega
attribute [local simp] ev1 M2.get put A.ev ld sub part elems bin arith un opt idx fillC cellsO splice over newOb sto fillR laidOwn appTo appRow touch touchN touchM touchE touchA plainU flatU plainAs allM rowAt stoRow accM_nil accM_cons accMM_nil accMM_cons frz_int frz_bool frz_str frz_slt frz_nils frz_nilI frz_nilF frz_own frzRow_row frzRow_frow Ob.blw blw_bool blw_int blw_str blw_nils blw_nilI blw_nilF blw_nilp blw_nilm blw_sl blw_own blw_bp blw_rp blw_mp blw_it params
attribute [local simp] beq_dec bne_dec
abbrev i64 (n : Int) : U := .int .i64 n
structure Ins where
  op : Int
  d : Int
  a : Int
  b : Int
  n : Int
  to : Int
  deriving DecidableEq, Inhabited
def insU (x : Ins) : List U := [i64 x.op, i64 x.d, i64 x.a, i64 x.b, i64 x.n, i64 x.to]
def insL (p : Bool) (l : List Ins) : U := .sl p (l.map insU)
def locF (m x : Int) : Bool := decide (0 ≤ x) && decide (x < m)
theorem locRight_call (x : Int) (st : List Ob) : Cl T 54 [i64 x] st (.bool (locF 24 x)) st := by
  refine Wp.pure (fn := c_loc_Right) rfl rfl rfl («as» := [i64 x]) rfl ?_
  (repeat' first | refine Wp.u ?_ | (refine Wp.c ?_ ?_ <;> intro))
  (all_goals refine Wp.ret ?_); (all_goals (try simp_all [Res, resU, res1, c_loc_Right, locF])); (all_goals (try omega))
theorem locReg_call (x : Int) (st : List Ob) : Cl T 59 [i64 x] st (.bool (locF 8 x)) st := by
  refine Wp.pure (fn := c_loc_Reg) rfl rfl rfl («as» := [i64 x]) rfl ?_
  (repeat' first | refine Wp.u ?_ | (refine Wp.c ?_ ?_ <;> intro))
  (all_goals refine Wp.ret ?_); (all_goals (try simp_all [Res, resU, res1, c_loc_Reg, locF])); (all_goals (try omega))
theorem place3_call (x : Int) (st : List Ob) : Cl T 75 [i64 x] st (.bool (locF 24 x)) st := by
  refine Wp.pure (fn := c_joineryref03_place) rfl rfl rfl («as» := [i64 x]) rfl ?_
  (repeat' first | refine Wp.u ?_ | (refine Wp.c ?_ ?_ <;> intro))
  (all_goals refine Wp.ret ?_); (all_goals (try simp_all [Res, resU, res1, c_joineryref03_place, locF])); (all_goals (try omega))
theorem reg3_call (x : Int) (st : List Ob) : Cl T 76 [i64 x] st (.bool (locF 8 x)) st := by
  refine Wp.pure (fn := c_joineryref03_reg) rfl rfl rfl («as» := [i64 x]) rfl ?_
  (repeat' first | refine Wp.u ?_ | (refine Wp.c ?_ ?_ <;> intro))
  (all_goals refine Wp.ret ?_); (all_goals (try simp_all [Res, resU, res1, c_joineryref03_reg, locF])); (all_goals (try omega))
def movesF (x : Ins) : Bool := decide (1 ≤ x.op) && decide (x.op ≤ 3) || decide (x.op = 16)
theorem moves_call (x : Ins) (st : List Ob) : Cl T 57 [.agg (insU x)] st (.bool (movesF x)) st := by
  refine Wp.pure (fn := c_ins_Moves) rfl rfl rfl («as» := [.agg (insU x)]) rfl ?_
  (all_goals have := fa @insU.eq_1; repeat' first | refine Wp.v ?_ | (refine Wp.c ?_ ?_ <;> intro))
  (all_goals refine Wp.ret ?_); (all_goals (try simp_all [Res, resU, res1, c_ins_Moves, movesF])); (all_goals (try omega))
end Go.Proofs.YtcehbpimdngjfaaDoor.M2
namespace Go.Proofs.YtcehbpimdngjfaaDoor.M2
open Go
attribute [local simp] ev1 M2.get put A.ev ld sub part elems bin arith un opt idx fillC cellsO splice over newOb sto fillR laidOwn appTo appRow touch touchN touchM touchE touchA plainU flatU plainAs allM rowAt stoRow accM_nil accM_cons accMM_nil accMM_cons frz_int frz_bool frz_str frz_slt frz_nils frz_nilI frz_nilF frz_own frzRow_row frzRow_frow Ob.blw blw_bool blw_int blw_str blw_nils blw_nilI blw_nilF blw_nilp blw_nilm blw_sl blw_own blw_bp blw_rp blw_mp blw_it params
attribute [local simp] frz_agg frz_tup frz_iface frzS_agg frzS_iface accMS_cons frzS_int frzS_bool frzS_str frzS_slt frzS_nils frzS_nilI beq_dec bne_dec
def onlyF (x : Ins) : Ins :=
  { op := x.op, n := if x.op = 1 ∨ x.op = 15 then x.n else 0, to := if x.op = 16 ∨ x.op = 17 then x.to else 0, d := if x.op ≤ 13 ∨ x.op = 15 then x.d else 0,
    a := if x.op ≠ 1 ∧ x.op ≠ 16 then x.a else 0, b := if 4 ≤ x.op ∧ x.op ≤ 12 ∨ x.op = 14 then x.b else 0 }
theorem ops18 {n : Int} (h1 : 1 ≤ n) (h2 : n ≤ 18) : n = 1 ∨ n = 2 ∨ n = 3 ∨ n = 4 ∨ n = 5 ∨ n = 6 ∨ n = 7 ∨ n = 8 ∨ n = 9 ∨ n = 10 ∨ n = 11 ∨ n = 12 ∨ n = 13 ∨ n = 14 ∨ n = 15 ∨ n = 16 ∨ n = 17 ∨ n = 18 := by omega
set_option maxHeartbeats 8000000 in
theorem only_call (x : Ins) (st : List Ob) (h1 : 1 ≤ x.op) (h2 : x.op ≤ 18) : Cl T 74 [.agg (insU x)] st (.agg (insU (onlyF x))) st := by
  obtain ⟨op, d, a, b, n, to⟩ := x
  refine Wp.pure (fn := c_joineryref03_only) rfl rfl rfl («as» := [.agg (insU ⟨op, d, a, b, n, to⟩)]) rfl ?_
  rcases ops18 h1 h2 with rfl | rfl | rfl | rfl | rfl | rfl | rfl | rfl | rfl | rfl | rfl | rfl | rfl | rfl | rfl | rfl | rfl | rfl
  all_goals clear h1 h2
  (all_goals have := fa @insU.eq_1; repeat' first | refine Wp.v ?_ | (refine Wp.c ?_ ?_ <;> intro))
  (all_goals refine Wp.ret ?_); (all_goals (try simp_all [Res, resU, res1, c_joineryref03_only, onlyF, insU])); (all_goals (try omega))
theorem ins_same (x : Ins) (op d a b n to : Int) : sameV (.tst [(1, .ti), (1, .ti), (1, .ti), (1, .ti), (1, .ti), (1, .ti)]) (.agg (insU x)) (.agg [i64 op, i64 d, i64 a, i64 b, i64 n, i64 to]) = some (decide (x = ⟨op, d, a, b, n, to⟩)) := by
  obtain ⟨op', d', a', b', n', to'⟩ := x
  simp only [sameV, cellsS, Option.bind_some, insU, sameD, same, same.fields, List.length_cons, List.length_nil, List.take, List.drop, i64, Ins.mk.injEq]
  by_cases h1 : op' = op
  · by_cases h2 : d' = d
    · by_cases h3 : a' = a
      · by_cases h4 : b' = b
        · by_cases h5 : n' = n
          · by_cases h6 : to' = to <;> simp [h1, h2, h3, h4, h5, h6]
          · simp [h1, h2, h3, h4, h5]
        · simp [h1, h2, h3, h4]
      · simp [h1, h2, h3]
    · simp [h1, h2]
  · simp [h1]
def bad1 (x : Ins) : Prop := x.op < 1 ∨ 18 < x.op ∨ onlyF x ≠ x ∨ x.op = 15 ∧ (x.n < 0 ∨ 99 < x.n)
def bad6 (x : Ins) : Prop := if x.op ≤ 3 then (locF 24 x.d && locF 24 x.a) = false else (locF 8 x.d && locF 8 x.a && locF 8 x.b) = false
def bad4 (x : Ins) (m : Int) : Prop := (x.op = 16 ∨ x.op = 17) ∧ (x.to < 0 ∨ m ≤ x.to)
instance (x : Ins) : Decidable (bad1 x) := by unfold bad1; infer_instance
instance (x : Ins) : Decidable (bad6 x) := by unfold bad6; infer_instance
instance (x : Ins) (m : Int) : Decidable (bad4 x m) := by unfold bad4; infer_instance
def checkF (x : Ins) (m : Int) : Int := if bad1 x then 1 else if bad6 x then 6 else if bad4 x m then 4 else 0
theorem pf81 : pfT T 74 = true := rfl
theorem insU_mk (op d a b n to : Int) : insU ⟨op, d, a, b, n, to⟩ = [i64 op, i64 d, i64 a, i64 b, i64 n, i64 to] := rfl
set_option maxHeartbeats 8000000 in
theorem check3_bad (x : Ins) (m : Int) (st : List Ob) (h : bad1 x) : Cl T 49 [.agg (insU x), i64 m] st (i64 1) st := by
  refine Wp.pure (fn := c_joineryref03_Check) rfl rfl rfl («as» := [.agg (insU x), i64 m]) rfl ?_
  have only := only_call x
  obtain ⟨op, d, a, b, n, to⟩ := x
  simp only [bad1] at h
  by_cases c1 : op < 1
  · (all_goals have := fa (a2 @insU.eq_1 c1); repeat' first | refine Wp.v ?_ | (refine Wp.c ?_ ?_ <;> intro))
    refine Wp.draw (by (simp [c_joineryref03_Check_D0, I.need]) <;> rfl) (by (simp [insU, c1]) <;> rfl) (by (simp [insU, c1]) <;> rfl) (by (unfold c_joineryref03_Check_D0); (repeat (first | ((first | apply Dr.op | apply Dr.opN | (apply Dr.opG; exact rfl)); ((simp [insU, c1]) <;> rfl); (apply Evt.all; intro; (simp [insU, c1]) <;> (try simp (disch := omega) only [wrap_id]) <;> first | exact ⟨rfl, rfl⟩ | exact rfl); ((simp [I.need]) <;> rfl)) | ((first | (apply Dr.opS; exact rfl; decide) | (apply Dr.opS0; exact rfl)); ((simp [I.need]) <;> rfl)))); exact Dr.nil) (by first | decide +kernel | exact rfl) (by (simp [M2.keep]) <;> rfl) ?_
    (repeat' first | refine Wp.u ?_ | (refine Wp.c ?_ ?_ <;> intro))
    (all_goals refine Wp.ret ?_); (all_goals (try simp_all [Res, resU, res1, c_joineryref03_Check])); (all_goals (try omega))
  by_cases c2 : 18 < op
  · (all_goals have := fa (a3 @insU.eq_1 c1 c2); repeat' first | refine Wp.v ?_ | (refine Wp.c ?_ ?_ <;> intro))
    refine Wp.draw (by (simp [c_joineryref03_Check_D0, I.need]) <;> rfl) (by (simp [insU, c1, c2]) <;> rfl) (by (simp [insU, c1, c2]) <;> rfl) (by (unfold c_joineryref03_Check_D0); (repeat (first | ((first | apply Dr.op | apply Dr.opN | (apply Dr.opG; exact rfl)); ((simp [insU, c1, c2]) <;> rfl); (apply Evt.all; intro; (simp [insU, c1, c2]) <;> (try simp (disch := omega) only [wrap_id]) <;> first | exact ⟨rfl, rfl⟩ | exact rfl); ((simp [I.need]) <;> rfl)) | ((first | (apply Dr.opS; exact rfl; decide) | (apply Dr.opS0; exact rfl)); ((simp [I.need]) <;> rfl)))); exact Dr.nil) (by first | decide +kernel | exact rfl) (by (simp [M2.keep]) <;> rfl) ?_
    (repeat' first | refine Wp.u ?_ | (refine Wp.c ?_ ?_ <;> intro))
    (all_goals refine Wp.ret ?_); (all_goals (try simp_all [Res, resU, res1, c_joineryref03_Check])); (all_goals (try omega))
  have o1 : 1 ≤ op := by omega
  have o2 : op ≤ 18 := by omega
  by_cases c3 : onlyF ⟨op, d, a, b, n, to⟩ = ⟨op, d, a, b, n, to⟩
  · have c4 : op = 15 ∧ (n < 0 ∨ 99 < n) := by
      rcases h with h | h | h | h
      · omega
      · omega
      · exact absurd c3 h
      · exact h
    obtain ⟨c5, c6⟩ := c4
    subst c5
    by_cases c7 : n < 0
    · (all_goals have := fa @insU.eq_1; repeat' first | refine Wp.v ?_ | (refine Wp.c ?_ ?_ <;> intro))
      apply Wp.draw; ((simp [c_joineryref03_Check_D0, I.need]) <;> rfl); ((simp []) <;> rfl); ((simp []) <;> rfl); unfold c_joineryref03_Check_D0
      repeat (first | ((first | apply Dr.op | apply Dr.opN | (apply Dr.opG; exact rfl)); ((simp [insU, c1, c2]) <;> rfl); (apply Evt.all; intro; (simp [insU, c1, c2]) <;> (try simp (disch := omega) only [wrap_id]) <;> first | exact ⟨rfl, rfl⟩ | exact rfl); ((simp [I.need]) <;> rfl)) | ((first | (apply Dr.opS; exact rfl; decide) | (apply Dr.opS0; exact rfl)); ((simp [I.need]) <;> rfl)))
      apply Dr.callG
      · exact rfl
      · (simp [pf81]) <;> rfl
      · exact only _ o1 o2
      repeat (first | ((first | apply Dr.op | apply Dr.opN | (apply Dr.opG; exact rfl)); ((simp [ins_same, c3, c7]) <;> rfl); (apply Evt.all; intro; (simp [ins_same, c3, c7]) <;> (try simp (disch := omega) only [wrap_id]) <;> first | exact ⟨rfl, rfl⟩ | exact rfl); ((simp [I.need]) <;> rfl)) | ((first | (apply Dr.opS; exact rfl; decide) | (apply Dr.opS0; exact rfl)); ((simp [I.need]) <;> rfl)))
      exact Dr.nil; (first | decide +kernel | exact rfl); ((simp [M2.keep]) <;> rfl)
      (repeat' first | refine Wp.u ?_ | (refine Wp.c ?_ ?_ <;> intro))
      (all_goals refine Wp.ret ?_); (all_goals (try simp_all [Res, resU, res1, c_joineryref03_Check])); (all_goals (try omega))
    · have c8 : 99 < n := by omega
      (all_goals have := fa @insU.eq_1; repeat' first | refine Wp.v ?_ | (refine Wp.c ?_ ?_ <;> intro))
      apply Wp.draw; ((simp [c_joineryref03_Check_D0, I.need]) <;> rfl); ((simp []) <;> rfl); ((simp []) <;> rfl); unfold c_joineryref03_Check_D0
      repeat (first | ((first | apply Dr.op | apply Dr.opN | (apply Dr.opG; exact rfl)); ((simp [insU, c1, c2]) <;> rfl); (apply Evt.all; intro; (simp [insU, c1, c2]) <;> (try simp (disch := omega) only [wrap_id]) <;> first | exact ⟨rfl, rfl⟩ | exact rfl); ((simp [I.need]) <;> rfl)) | ((first | (apply Dr.opS; exact rfl; decide) | (apply Dr.opS0; exact rfl)); ((simp [I.need]) <;> rfl)))
      apply Dr.callG
      · exact rfl
      · (simp [pf81]) <;> rfl
      · exact only _ o1 o2
      repeat (first | ((first | apply Dr.op | apply Dr.opN | (apply Dr.opG; exact rfl)); ((simp [ins_same, c3, c7, c8]) <;> rfl); (apply Evt.all; intro; (simp [ins_same, c3, c7, c8]) <;> (try simp (disch := omega) only [wrap_id]) <;> first | exact ⟨rfl, rfl⟩ | exact rfl); ((simp [I.need]) <;> rfl)) | ((first | (apply Dr.opS; exact rfl; decide) | (apply Dr.opS0; exact rfl)); ((simp [I.need]) <;> rfl)))
      exact Dr.nil; (first | decide +kernel | exact rfl); ((simp [M2.keep]) <;> rfl)
      (repeat' first | refine Wp.u ?_ | (refine Wp.c ?_ ?_ <;> intro))
      (all_goals refine Wp.ret ?_); (all_goals (try simp_all [Res, resU, res1, c_joineryref03_Check])); (all_goals (try omega))
  · (all_goals have := fa @insU.eq_1; repeat' first | refine Wp.v ?_ | (refine Wp.c ?_ ?_ <;> intro))
    apply Wp.draw; ((simp [c_joineryref03_Check_D0, I.need]) <;> rfl); ((simp []) <;> rfl); ((simp []) <;> rfl); unfold c_joineryref03_Check_D0
    repeat (first | ((first | apply Dr.op | apply Dr.opN | (apply Dr.opG; exact rfl)); ((simp [insU, c1, c2]) <;> rfl); (apply Evt.all; intro; (simp [insU, c1, c2]) <;> (try simp (disch := omega) only [wrap_id]) <;> first | exact ⟨rfl, rfl⟩ | exact rfl); ((simp [I.need]) <;> rfl)) | ((first | (apply Dr.opS; exact rfl; decide) | (apply Dr.opS0; exact rfl)); ((simp [I.need]) <;> rfl)))
    apply Dr.callG
    · exact rfl
    · (simp [pf81]) <;> rfl
    · exact only _ o1 o2
    repeat (first | ((first | apply Dr.op | apply Dr.opN | (apply Dr.opG; exact rfl)); ((simp [ins_same, c3]) <;> rfl); (apply Evt.all; intro; (simp [ins_same, c3]) <;> (try simp (disch := omega) only [wrap_id]) <;> first | exact ⟨rfl, rfl⟩ | exact rfl); ((simp [I.need]) <;> rfl)) | ((first | (apply Dr.opS; exact rfl; decide) | (apply Dr.opS0; exact rfl)); ((simp [I.need]) <;> rfl)))
    exact Dr.nil; (first | decide +kernel | exact rfl); ((simp [M2.keep]) <;> rfl)
    (repeat' first | refine Wp.u ?_ | (refine Wp.c ?_ ?_ <;> intro))
    (all_goals refine Wp.ret ?_); (all_goals (try simp_all [Res, resU, res1, c_joineryref03_Check])); (all_goals (try omega))
set_option maxHeartbeats 4000000 in
theorem check3_low (x : Ins) (m : Int) (st : List Ob) (h : ¬ bad1 x) (c9 : x.op ≤ 3) : Cl T 49 [.agg (insU x), i64 m] st (i64 (if bad6 x then 6 else if bad4 x m then 4 else 0)) st := by
  refine Wp.pure (fn := c_joineryref03_Check) rfl rfl rfl («as» := [.agg (insU x), i64 m]) rfl ?_
  have only := only_call x
  obtain ⟨op, d, a, b, n, to⟩ := x
  simp only [bad1, not_or, not_and] at h
  obtain ⟨c1, c2, c3, c4⟩ := h
  simp only [Decidable.not_not] at c3
  have o1 : 1 ≤ op := by omega
  have o2 : op ≤ 18 := by omega
  have c5 : ¬ op = 15 := by simp only at c9; omega
  (all_goals have := fa @insU.eq_1; repeat' first | refine Wp.v ?_ | (refine Wp.c ?_ ?_ <;> intro))
  apply Wp.draw; ((simp [c_joineryref03_Check_D0, I.need]) <;> rfl); ((simp []) <;> rfl); ((simp []) <;> rfl); unfold c_joineryref03_Check_D0
  repeat (first | ((first | apply Dr.op | apply Dr.opN | (apply Dr.opG; exact rfl)); ((simp [insU, c1, c2]) <;> rfl); (apply Evt.all; intro; (simp [insU, c1, c2]) <;> (try simp (disch := omega) only [wrap_id]) <;> first | exact ⟨rfl, rfl⟩ | exact rfl); ((simp [I.need]) <;> rfl)) | ((first | (apply Dr.opS; exact rfl; decide) | (apply Dr.opS0; exact rfl)); ((simp [I.need]) <;> rfl)))
  apply Dr.callG
  · exact rfl
  · (simp [pf81]) <;> rfl
  · exact only _ o1 o2
  repeat (first | ((first | apply Dr.op | apply Dr.opN | (apply Dr.opG; exact rfl)); ((simp [ins_same, c3, c5]) <;> rfl); (apply Evt.all; intro; (simp [ins_same, c3, c5]) <;> (try simp (disch := omega) only [wrap_id]) <;> first | exact ⟨rfl, rfl⟩ | exact rfl); ((simp [I.need]) <;> rfl)) | ((first | (apply Dr.opS; exact rfl; decide) | (apply Dr.opS0; exact rfl)); ((simp [I.need]) <;> rfl)))
  exact Dr.nil; (first | decide +kernel | exact rfl); ((simp [M2.keep]) <;> rfl)
  have c9 : op ≤ 3 := c9
  have c10 : ¬ op = 16 := by omega
  have c11 : ¬ op = 17 := by omega
  clear c1 c2 c3 c4 c5 o1 o2 only
  (all_goals have := fa (a4 @insU.eq_1 c9 c10 c11); repeat' first | refine Wp.v ?_ | (apply Wp.call; exact place3_call _ _) | (refine Wp.c ?_ ?_ <;> intro))
  (all_goals refine Wp.ret ?_); (all_goals (try simp_all [Res, resU, res1, c_joineryref03_Check, bad6, bad4])); (all_goals (try omega))
set_option maxHeartbeats 4000000 in
theorem check3_high (x : Ins) (m : Int) (st : List Ob) (h : ¬ bad1 x) (c9 : ¬ x.op ≤ 3) (c5 : ¬ x.op = 15) : Cl T 49 [.agg (insU x), i64 m] st (i64 (if bad6 x then 6 else if bad4 x m then 4 else 0)) st := by
  refine Wp.pure (fn := c_joineryref03_Check) rfl rfl rfl («as» := [.agg (insU x), i64 m]) rfl ?_
  have only := only_call x
  obtain ⟨op, d, a, b, n, to⟩ := x
  simp only [bad1, not_or, not_and] at h
  obtain ⟨c1, c2, c3, c4⟩ := h
  simp only [Decidable.not_not] at c3
  have o1 : 1 ≤ op := by omega
  have o2 : op ≤ 18 := by omega
  have c5 : ¬ op = 15 := c5
  (all_goals have := fa @insU.eq_1; repeat' first | refine Wp.v ?_ | (refine Wp.c ?_ ?_ <;> intro))
  apply Wp.draw; ((simp [c_joineryref03_Check_D0, I.need]) <;> rfl); ((simp []) <;> rfl); ((simp []) <;> rfl); unfold c_joineryref03_Check_D0
  repeat (first | ((first | apply Dr.op | apply Dr.opN | (apply Dr.opG; exact rfl)); ((simp [insU, c1, c2]) <;> rfl); (apply Evt.all; intro; (simp [insU, c1, c2]) <;> (try simp (disch := omega) only [wrap_id]) <;> first | exact ⟨rfl, rfl⟩ | exact rfl); ((simp [I.need]) <;> rfl)) | ((first | (apply Dr.opS; exact rfl; decide) | (apply Dr.opS0; exact rfl)); ((simp [I.need]) <;> rfl)))
  apply Dr.callG
  · exact rfl
  · (simp [pf81]) <;> rfl
  · exact only _ o1 o2
  repeat (first | ((first | apply Dr.op | apply Dr.opN | (apply Dr.opG; exact rfl)); ((simp [ins_same, c3, c5]) <;> rfl); (apply Evt.all; intro; (simp [ins_same, c3, c5]) <;> (try simp (disch := omega) only [wrap_id]) <;> first | exact ⟨rfl, rfl⟩ | exact rfl); ((simp [I.need]) <;> rfl)) | ((first | (apply Dr.opS; exact rfl; decide) | (apply Dr.opS0; exact rfl)); ((simp [I.need]) <;> rfl)))
  exact Dr.nil; (first | decide +kernel | exact rfl); ((simp [M2.keep]) <;> rfl)
  have c9 : ¬ op ≤ 3 := c9
  clear c1 c2 c3 c4 c5 o1 o2 only
  (all_goals have := fa (a2 @insU.eq_1 c9); repeat' first | refine Wp.v ?_ | (apply Wp.call; exact reg3_call _ _) | (refine Wp.c ?_ ?_ <;> intro))
  (all_goals refine Wp.ret ?_); (all_goals (try simp_all [Res, resU, res1, c_joineryref03_Check, bad6, bad4])); (all_goals (try omega))
set_option maxHeartbeats 4000000 in
theorem check3_15 (x : Ins) (m : Int) (st : List Ob) (h : ¬ bad1 x) (c5 : x.op = 15) : Cl T 49 [.agg (insU x), i64 m] st (i64 (if bad6 x then 6 else if bad4 x m then 4 else 0)) st := by
  refine Wp.pure (fn := c_joineryref03_Check) rfl rfl rfl («as» := [.agg (insU x), i64 m]) rfl ?_
  have only := only_call x
  obtain ⟨op, d, a, b, n, to⟩ := x
  simp only [bad1, not_or, not_and] at h
  obtain ⟨c1, c2, c3, c4⟩ := h
  simp only [Decidable.not_not] at c3
  have o1 : 1 ≤ op := by omega
  have o2 : op ≤ 18 := by omega
  have c5 : op = 15 := c5
  subst c5
  have c6 := c4 rfl
  have c7 : ¬ n < 0 := by omega
  have c8 : ¬ 99 < n := by omega
  (all_goals have := fa @insU.eq_1; repeat' first | refine Wp.v ?_ | (refine Wp.c ?_ ?_ <;> intro))
  apply Wp.draw; ((simp [c_joineryref03_Check_D0, I.need]) <;> rfl); ((simp []) <;> rfl); ((simp []) <;> rfl); unfold c_joineryref03_Check_D0
  repeat (first | ((first | apply Dr.op | apply Dr.opN | (apply Dr.opG; exact rfl)); ((simp [insU]) <;> rfl); (apply Evt.all; intro; (simp [insU]) <;> (try simp (disch := omega) only [wrap_id]) <;> first | exact ⟨rfl, rfl⟩ | exact rfl); ((simp [I.need]) <;> rfl)) | ((first | (apply Dr.opS; exact rfl; decide) | (apply Dr.opS0; exact rfl)); ((simp [I.need]) <;> rfl)))
  apply Dr.callG
  · exact rfl
  · (simp [pf81]) <;> rfl
  · exact only _ o1 o2
  repeat (first | ((first | apply Dr.op | apply Dr.opN | (apply Dr.opG; exact rfl)); ((simp [ins_same, c3, c7, c8]) <;> rfl); (apply Evt.all; intro; (simp [ins_same, c3, c7, c8]) <;> (try simp (disch := omega) only [wrap_id]) <;> first | exact ⟨rfl, rfl⟩ | exact rfl); ((simp [I.need]) <;> rfl)) | ((first | (apply Dr.opS; exact rfl; decide) | (apply Dr.opS0; exact rfl)); ((simp [I.need]) <;> rfl)))
  exact Dr.nil; (first | decide +kernel | exact rfl); ((simp [M2.keep]) <;> rfl)
  clear c1 c2 c3 c4 o1 o2 only c6 c7 c8
  (all_goals have := fa @insU.eq_1; repeat' first | refine Wp.v ?_ | (apply Wp.call; exact reg3_call _ _) | (refine Wp.c ?_ ?_ <;> intro))
  (all_goals refine Wp.ret ?_); (all_goals (try simp_all [Res, resU, res1, c_joineryref03_Check, bad6, bad4])); (all_goals (try omega))
theorem check3_call (x : Ins) (m : Int) (st : List Ob) : Cl T 49 [.agg (insU x), i64 m] st (i64 (checkF x m)) st := by
  unfold checkF
  by_cases h : bad1 x
  · rw [if_pos h]
    exact check3_bad x m st h
  · rw [if_neg h]
    by_cases c9 : x.op ≤ 3
    · exact check3_low x m st h c9
    · by_cases c5 : x.op = 15
      · exact check3_15 x m st h c5
      · exact check3_high x m st h c9 c5
theorem dec_at (s : List UInt8) (pos : Nat) (h : pos < s.length ∧ (s.getD pos 0).toNat < 128) : Utf8.decode ⟨s.toArray⟩ pos = ((s.getD pos 0).toNat, 1) := by
  have h1 : pos < (⟨s.toArray⟩ : ByteArray).size := by simpa [ByteArray.size] using h.1
  have e : (⟨s.toArray⟩ : ByteArray)[pos]'h1 = s.getD pos 0 := by
    rw [List.getD_eq_getElem?_getD, List.getElem?_eq_getElem h.1]
    rfl
  rw [decode_ascii _ pos h1 (by rw [e]; exact h.2), e]
def fieldOff (c : Int) : Nat := if c = 68 ∨ c = 100 then 1 else if c = 65 ∨ c = 97 then 2 else 3
theorem field_call (c : Int) (id : Nat) (st : List Ob) : Cl T 65 [.bp id 0, .int .i32 c] st (.bp id (fieldOff c)) st := by
  refine Wp.impure (fn := c_ins_field) rfl rfl rfl ?_
  (repeat' first | refine Wp.u ?_ | refine Wp.l ?_ | (refine Wp.c ?_ ?_ <;> intro))
  all_goals refine Wp.ret ⟨?_, congrArg S.st (trimO_len (L := st.length) (s := ⟨_, st⟩) rfl)⟩
  all_goals simp_all [resU, res1, c_ins_field, fieldOff]
def clr (x : Ins) (c : UInt8) : Ins :=
  if c = 78 then { x with n := 0 } else if c = 84 then { x with to := 0 } else if c = 68 ∨ c = 100 then { x with d := 0 } else if c = 65 ∨ c = 97 then { x with a := 0 } else { x with b := 0 }
def restF (x : Ins) (f : List UInt8) : Ins := f.foldl clr { x with op := 0 }
def fieldsOf : List (List UInt8) := [[100, 78], [100, 97], [68, 65, 66], [68, 65], [65, 66], [68, 65, 78], [84], [65, 84], [65]]
set_option maxHeartbeats 8000000 in
theorem rest_call (x : Ins) (w f : List UInt8) (hf : f ∈ fieldsOf) (st : List Ob) : Cl T 87 [.agg (insU x), .agg [.str w, .str f]] st (.agg (insU (restF x f))) st := by
  obtain ⟨op, d, a, b, n, to⟩ := x
  refine Wp.pure (fn := c_ins_rest) rfl rfl rfl («as» := [.agg (insU ⟨op, d, a, b, n, to⟩), .agg [.str w, .str f]]) rfl ?_
  simp only [fieldsOf, List.mem_cons, List.not_mem_nil, or_false] at hf
  rcases hf with rfl | rfl | rfl | rfl | rfl | rfl | rfl | rfl | rfl
  (all_goals have := fa (a3 @insU.eq_1 @dec_at @fieldOff.eq_1); repeat' first | refine Wp.v ?_ | (apply Wp.call; exact field_call _ _ _) | refine Wp.l ?_ | (refine Wp.c ?_ ?_ <;> intro))
  (all_goals refine Wp.ret ?_); (all_goals (try simp_all [Res, resU, res1, c_ins_rest, restF, clr, insU])); (all_goals (try omega))
def shapeU (op : Int) : List U := if 1 ≤ op ∧ op ≤ 18 then (gl_1.drop ((op - 1).toNat * 2)).take 2 else [.str [], .str []]
set_option maxHeartbeats 4000000 in
theorem of_call (op : Int) (st : List Ob) : Cl T 64 [i64 op] st (.tup [.agg (shapeU op), .bool (decide (1 ≤ op) && decide (op ≤ 18))]) st := by
  refine Wp.pure (fn := c_ins_of) rfl rfl rfl («as» := [i64 op]) rfl ?_
  by_cases h1 : op < 1
  · have h2 : ¬ 1 ≤ op := by omega
    (all_goals have := fa h1; repeat' first | refine Wp.v ?_ | (refine Wp.c ?_ ?_ <;> intro))
    (all_goals refine Wp.ret ?_); (all_goals (try simp_all [Res, resU, res1, c_ins_of, shapeU, h2])); (all_goals (try omega))
  by_cases h2 : 18 < op
  · have h3 : ¬ op ≤ 18 := by omega
    (all_goals have := fa (a2 h1 h2); repeat' first | refine Wp.v ?_ | (refine Wp.c ?_ ?_ <;> intro))
    (all_goals refine Wp.ret ?_); (all_goals (try simp_all [Res, resU, res1, c_ins_of, shapeU, h3])); (all_goals (try omega))
  rcases ops18 (show 1 ≤ op by omega) (show op ≤ 18 by omega) with rfl | rfl | rfl | rfl | rfl | rfl | rfl | rfl | rfl | rfl | rfl | rfl | rfl | rfl | rfl | rfl | rfl | rfl
  all_goals clear h1 h2
  (all_goals have := fa (a2 @wrap_id @gl_1.eq_1); repeat' first | refine Wp.v ?_ | (refine Wp.c ?_ ?_ <;> intro))
  (all_goals refine Wp.ret ?_); (all_goals (try simp_all [Res, resU, res1, c_ins_of, shapeU, gl_1])); (all_goals (try omega))
end Go.Proofs.YtcehbpimdngjfaaDoor.M2
