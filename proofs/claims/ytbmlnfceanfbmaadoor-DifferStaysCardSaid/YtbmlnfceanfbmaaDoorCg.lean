/- What the functions answer in M2. Part 13: From's call. -/
import Derived.Test.YtbmlnfceanfbmaaDoorCf
set_option linter.unusedSimpArgs false
set_option linter.unusedVariables false
set_option linter.unusedSectionVars false
/- What the functions answer in M2. Part 10: a table behind an instruction. -/
namespace Go.Proofs.YtbmlnfceanfbmaaDoor.M2
open Go
attribute [local simp] ev1 M2.get put A.ev ld sub part elems bin arith un opt idx fillC cellsO splice over newOb sto fillR laidOwn appTo appRow touch touchN touchM touchE touchA plainU flatU plainAs allM rowAt stoRow accM_nil accM_cons accMM_nil accMM_cons frz_int frz_bool frz_str frz_slt frz_nils frz_nilI frz_nilF frz_own frzRow_row frzRow_frow Ob.blw blw_bool blw_int blw_str blw_nils blw_nilI blw_nilF blw_nilp blw_nilm blw_sl blw_own blw_bp blw_rp blw_mp blw_it params
attribute [local simp] frz_agg frz_tup frz_iface frzS_agg frzS_iface accMS_cons frzS_int frzS_bool frzS_str frzS_slt frzS_nils frzS_nilI beq_dec bne_dec
def afterF (t : List Src) (x : Ins) : List Src :=
  if movesF x && locF 24 x.d && locF 24 x.a then
    (if x.op = 1 then (goodF t).set x.d.toNat (.is x.n) else if x.op = 2 then (goodF t).set x.d.toNat ((goodF t).getD x.a.toNat .no)
      else if x.op = 3 then ((goodF t).set x.d.toNat ((goodF t).getD x.a.toNat .no)).set x.a.toNat ((goodF t).getD x.d.toNat .no) else goodF t)
  else goodF t
theorem goodF_len {t : List Src} (h : t.length = 24) : (goodF t).length = 24 := by
  unfold goodF
  split
  · exact h
  · rfl
theorem splice_set : ∀ (cs : List U) (n : Nat) (u : U), n < cs.length → splice cs n [u] = cs.set n u
  | c :: cs, 0, u, _ => by cases cs <;> rfl
  | c :: cs, n + 1, u, h => by rw [splice, splice_set cs n u (by simpa using h)]; rfl
  | [], n, u, h => by simp at h
theorem tabU_set (t : List Src) (n : Nat) (s : Src) : (tabU t).set n (srcU s) = tabU (t.set n s) := by simp [tabU, List.map_set]
theorem tab_splice {t : List Src} {n : Nat} (h : n < t.length) (s : Src) : splice (tabU t) n [srcU s] = tabU (t.set n s) := by
  rw [splice_set _ _ _ (by rw [tabU_len]; exact h), tabU_set]
theorem tab_sub {t : List Src} {i : Nat} (h : i < t.length) : M2.sub (tabU t) i 1 = some [srcU t[i]] := by
  unfold M2.sub
  rw [if_pos (by rw [tabU_len]; omega), tabU_sub h]
theorem src_one (s : Src) : cellsO (srcU s) = some [srcU s] := by cases s <;> rfl
theorem tab24 {t : List Src} (ht : t.length = 24) : (tabU t).take 24 = tabU t := by rw [List.take_of_length_le]; rw [tabU_len, ht]; exact Nat.le_refl _
set_option maxHeartbeats 4000000 in
theorem after_off (t : List Src) (x : Ins) (ht : t.length = 24) (h : (movesF x && locF 24 x.d && locF 24 x.a) = false) (st : List Ob) : Cl T 85 [.agg (tabU t), .agg (insU x)] st (.agg (tabU (goodF t))) st := by
  refine Wp.pure (fn := c_env_After) rfl rfl rfl («as» := [.agg (tabU t), .agg (insU x)]) (by simp [brw_tab]; rfl) ?_
  have h24 := tab24 ht
  have hg := goodF_len ht
  have g24 := tab24 hg
  obtain ⟨op, d, a, b, n, to⟩ := x
  repeat (first | apply Wp.seq | apply Wp.skip | apply Wp.block | (apply Wp.op0; ((simp [M2.keep]) <;> rfl)) | ((first | apply Wp.op | apply Wp.opN | (apply Wp.opG; exact rfl)); (apply Evt.all; intro; (simp [tabU_len, ht, h24]) <;> (try simp (disch := omega) only [wrap_id]) <;> first | exact ⟨rfl, rfl⟩ | exact rfl)) | (apply Wp.opS; exact rfl; decide) | (apply Wp.opS0; exact rfl))
  apply Wp.call
  · exact good_call t ht _
  generalize goodF t = g at *
  have hm := moves_call ⟨op, d, a, b, n, to⟩
  generalize movesF ⟨op, d, a, b, n, to⟩ = mv at *
  simp only at h
  repeat' (first | apply Wp.seq | apply Wp.skip | apply Wp.block | (apply Wp.op0; ((simp [M2.keep]) <;> rfl)) | ((first | (apply Wp.pickT; (exact rfl); (first | exact rfl | assumption)) | (apply Wp.pickF; (exact rfl); (first | exact rfl | assumption))); ((simp) <;> exact rfl)) | ((first | apply Wp.op | apply Wp.opN); (apply Evt.all; intro; (simp [tabU_len, ht, hg, g24, over_full, insU_mk]) <;> (try simp (disch := omega) only [wrap_id]) <;> first | exact ⟨rfl, rfl⟩ | exact rfl)) | (apply Wp.call; exact hm _) | (apply Wp.call; exact locRight_call _ _) | (first | (apply Wp.ung; (exact rfl); (first | exact rfl | assumption)) | (apply Wp.opSt; (exact rfl); (first | exact rfl | assumption)) | (apply Wp.opSf; (exact rfl); (first | exact rfl | assumption))) | (apply Wp.opS0; (exact rfl)) | (first | (apply Wp.condT; (exact rfl); (first | exact rfl | assumption)) | (apply Wp.condF; (exact rfl); (first | exact rfl | assumption))) | ((first | apply Wp.grdT | apply Wp.grdF | apply Wp.cond); (exact rfl); (intro); rotate_left 1; (intro); rotate_right 1))
  all_goals first
    | (exfalso; simp_all; done)
    | skip
  all_goals refine Wp.ret ?_
  all_goals simp [Res, resU, res1, c_env_After, tabU_len, hg, g24, acc_tab]
set_option maxHeartbeats 4000000 in
theorem after_on (t : List Src) (x : Ins) (ht : t.length = 24) (h : (movesF x && locF 24 x.d && locF 24 x.a) = true) (st : List Ob) : Cl T 85 [.agg (tabU t), .agg (insU x)] st (.agg (tabU (afterF t x))) st := by
  unfold afterF
  rw [if_pos h]
  refine Wp.pure (fn := c_env_After) rfl rfl rfl («as» := [.agg (tabU t), .agg (insU x)]) (by simp [brw_tab]; rfl) ?_
  have h24 := tab24 ht
  have hg := goodF_len ht
  have g24 := tab24 hg
  obtain ⟨op, d, a, b, n, to⟩ := x
  repeat (first | apply Wp.seq | apply Wp.skip | apply Wp.block | (apply Wp.op0; ((simp [M2.keep]) <;> rfl)) | ((first | apply Wp.op | apply Wp.opN | (apply Wp.opG; exact rfl)); (apply Evt.all; intro; (simp [tabU_len, ht, h24]) <;> (try simp (disch := omega) only [wrap_id]) <;> first | exact ⟨rfl, rfl⟩ | exact rfl)) | (apply Wp.opS; exact rfl; decide) | (apply Wp.opS0; exact rfl))
  apply Wp.call
  · exact good_call t ht _
  generalize goodF t = g at *
  simp only [Bool.and_eq_true] at h
  obtain ⟨⟨m1, m2⟩, m3⟩ := h
  have hm := moves_call ⟨op, d, a, b, n, to⟩
  rw [m1] at hm
  have hd := locRight_call d
  rw [m2] at hd
  have ha := locRight_call a
  rw [m3] at ha
  simp only [locF, Bool.and_eq_true, decide_eq_true_eq] at m2 m3
  obtain ⟨D, rfl⟩ := Int.eq_ofNat_of_zero_le m2.1
  obtain ⟨A, rfl⟩ := Int.eq_ofNat_of_zero_le m3.1
  have D1 : D < 24 := by omega
  have A1 : A < 24 := by omega
  have D2 : (D : Int) < 24 := by omega
  have A2 : (A : Int) < 24 := by omega
  have D3 : D < g.length := by omega
  have A3 : A < g.length := by omega
  have spl := fun (t : List Src) (hl : t.length = 24) (s : Src) => tab_splice (t := t) (n := D) (by omega) s
  have spl2 := fun (t : List Src) (hl : t.length = 24) (s : Src) => tab_splice (t := t) (n := A) (by omega) s
  have sa := tab_sub A3
  have sd := tab_sub D3
  have gA : g.getD A .no = g[A] := by simp [A3]
  have gD : g.getD D .no = g[D] := by simp [D3]
  simp only [Int.toNat_natCast, gA, gD]
  have set24 : ∀ (t : List Src) (i : Nat) (s : Src), t.length = 24 → (tabU (t.set i s)).take 24 = tabU (t.set i s) := fun t i s hl => tab24 (by rw [List.length_set]; exact hl)
  have ta := tabU_sub A3
  have td := tabU_sub D3
  have e24 : ∀ s, (g.set D s).length = 24 := fun s => by rw [List.length_set]; exact hg
  have oD : D + 1 ≤ 24 := by omega
  have oA : A + 1 ≤ 24 := by omega
  by_cases c1 : op = 1
  · subst c1
    have s1 := spl g hg (.is n)
    simp only [srcU] at s1
    repeat' (first | apply Wp.seq | apply Wp.skip | apply Wp.block | (apply Wp.op0; ((simp [M2.keep]) <;> rfl)) | ((first | (apply Wp.pickT; (exact rfl); (first | exact rfl | assumption)) | (apply Wp.pickF; (exact rfl); (first | exact rfl | assumption))); ((simp) <;> exact rfl)) | ((first | apply Wp.op | apply Wp.opN); (apply Evt.all; intro; (simp [tabU_len, ht, hg, g24, over_full, insU_mk, D2, s1, oD, set24, e24]) <;> (try simp (disch := omega) only [wrap_id]) <;> first | exact ⟨rfl, rfl⟩ | exact rfl)) | (apply Wp.call; exact hm _) | (apply Wp.call; exact hd _) | (apply Wp.call; exact ha _) | (first | (apply Wp.ung; (exact rfl); (first | exact rfl | assumption)) | (apply Wp.opSt; (exact rfl); (first | exact rfl | assumption)) | (apply Wp.opSf; (exact rfl); (first | exact rfl | assumption))) | (apply Wp.opS0; (exact rfl)) | (first | (apply Wp.condT; (exact rfl); (first | exact rfl | assumption)) | (apply Wp.condF; (exact rfl); (first | exact rfl | assumption))) | ((first | apply Wp.grdT | apply Wp.grdF | apply Wp.cond); (exact rfl); (intro); rotate_left 1; (intro); rotate_right 1))
    all_goals refine Wp.ret ?_
    all_goals simp [Res, resU, res1, c_env_After, tabU_len, hg, set24, acc_tab]
  by_cases c2 : op = 2
  · subst c2
    have s1 := spl g hg g[A]
    repeat' (first | apply Wp.seq | apply Wp.skip | apply Wp.block | (apply Wp.op0; ((simp [M2.keep]) <;> rfl)) | ((first | (apply Wp.pickT; (exact rfl); (first | exact rfl | assumption)) | (apply Wp.pickF; (exact rfl); (first | exact rfl | assumption))); ((simp) <;> exact rfl)) | ((first | apply Wp.op | apply Wp.opN); (apply Evt.all; intro; (simp [tabU_len, ht, hg, g24, over_full, insU_mk]) <;> (try simp (disch := omega) only [wrap_id]) <;> first | exact ⟨rfl, rfl⟩ | exact rfl)) | (apply Wp.call; exact hm _) | (apply Wp.call; exact hd _) | (apply Wp.call; exact ha _) | (first | (apply Wp.ung; (exact rfl); (first | exact rfl | assumption)) | (apply Wp.opSt; (exact rfl); (first | exact rfl | assumption)) | (apply Wp.opSf; (exact rfl); (first | exact rfl | assumption))) | (apply Wp.opS0; (exact rfl)) | (first | (apply Wp.condT; (exact rfl); (first | exact rfl | assumption)) | (apply Wp.condF; (exact rfl); (first | exact rfl | assumption))) | ((first | apply Wp.grdT | apply Wp.grdF | apply Wp.cond); (exact rfl); (intro); rotate_left 1; (intro); rotate_right 1))
    refine Wp.draw (by (simp [c_env_After_D0, I.need]) <;> rfl) (by (simp [-cellsO, D2, A2, tabU_len, hg, oA, oD, ta, sa, s1, src_one]) <;> rfl) (by (simp [-cellsO, D2, A2, tabU_len, hg, oA, oD, ta, sa, s1, src_one]) <;> rfl) (by (unfold c_env_After_D0); (repeat (first | ((first | apply Dr.op | apply Dr.opN | (apply Dr.opG; exact rfl)); ((simp [-cellsO, D2, A2, tabU_len, hg, oA, oD, ta, sa, s1, src_one]) <;> rfl); (apply Evt.all; intro; (simp [-cellsO, D2, A2, tabU_len, hg, oA, oD, ta, sa, s1, src_one]) <;> (try simp (disch := omega) only [wrap_id]) <;> first | exact ⟨rfl, rfl⟩ | exact rfl); ((simp [I.need]) <;> rfl)) | ((first | (apply Dr.opS; exact rfl; decide) | (apply Dr.opS0; exact rfl)); ((simp [I.need]) <;> rfl)))); exact Dr.nil) (by first | decide +kernel | exact rfl) (by (simp [M2.keep]) <;> rfl) ?_
    repeat' (first | apply Wp.seq | apply Wp.skip | apply Wp.block | (apply Wp.op0; ((simp [M2.keep]) <;> rfl)) | ((first | (apply Wp.pickT; (exact rfl); (first | exact rfl | assumption)) | (apply Wp.pickF; (exact rfl); (first | exact rfl | assumption))); ((simp) <;> exact rfl)) | ((first | apply Wp.op | apply Wp.opN); (apply Evt.all; intro; (simp [tabU_len, hg, over_full, set24, e24]) <;> (try simp (disch := omega) only [wrap_id]) <;> first | exact ⟨rfl, rfl⟩ | exact rfl)) | (first | (apply Wp.ung; (exact rfl); (first | exact rfl | assumption)) | (apply Wp.opSt; (exact rfl); (first | exact rfl | assumption)) | (apply Wp.opSf; (exact rfl); (first | exact rfl | assumption))) | (apply Wp.opS0; (exact rfl)) | (first | (apply Wp.condT; (exact rfl); (first | exact rfl | assumption)) | (apply Wp.condF; (exact rfl); (first | exact rfl | assumption))) | ((first | apply Wp.grdT | apply Wp.grdF | apply Wp.cond); (exact rfl); (intro); rotate_left 1; (intro); rotate_right 1))
    all_goals refine Wp.ret ?_
    all_goals simp [Res, resU, res1, c_env_After, tabU_len, hg, set24, acc_tab]
  by_cases c3 : op = 3
  · subst c3
    have s1 := spl g hg g[A]
    have s2 := spl2 (g.set D g[A]) (e24 _) g[D]
    have e2 : ((g.set D g[A]).set A g[D]).length = 24 := by rw [List.length_set]; exact e24 _
    have t2 := tab24 e2
    repeat' (first | apply Wp.seq | apply Wp.skip | apply Wp.block | (apply Wp.op0; ((simp [M2.keep]) <;> rfl)) | ((first | (apply Wp.pickT; (exact rfl); (first | exact rfl | assumption)) | (apply Wp.pickF; (exact rfl); (first | exact rfl | assumption))); ((simp) <;> exact rfl)) | ((first | apply Wp.op | apply Wp.opN); (apply Evt.all; intro; (simp [tabU_len, ht, hg, g24, over_full, insU_mk]) <;> (try simp (disch := omega) only [wrap_id]) <;> first | exact ⟨rfl, rfl⟩ | exact rfl)) | (apply Wp.call; exact hm _) | (apply Wp.call; exact hd _) | (apply Wp.call; exact ha _) | (first | (apply Wp.ung; (exact rfl); (first | exact rfl | assumption)) | (apply Wp.opSt; (exact rfl); (first | exact rfl | assumption)) | (apply Wp.opSf; (exact rfl); (first | exact rfl | assumption))) | (apply Wp.opS0; (exact rfl)) | (first | (apply Wp.condT; (exact rfl); (first | exact rfl | assumption)) | (apply Wp.condF; (exact rfl); (first | exact rfl | assumption))) | ((first | apply Wp.grdT | apply Wp.grdF | apply Wp.cond); (exact rfl); (intro); rotate_left 1; (intro); rotate_right 1))
    refine Wp.draw (by (simp [c_env_After_D1, I.need]) <;> rfl) (by (simp [-cellsO, D2, A2, tabU_len, hg, e24, oA, oD, ta, td, sa, sd, s1, s2, src_one]) <;> rfl) (by (simp [-cellsO, D2, A2, tabU_len, hg, e24, oA, oD, ta, td, sa, sd, s1, s2, src_one]) <;> rfl) (by (unfold c_env_After_D1); (repeat (first | ((first | apply Dr.op | apply Dr.opN | (apply Dr.opG; exact rfl)); ((simp [-cellsO, D2, A2, tabU_len, hg, e24, oA, oD, ta, td, sa, sd, s1, s2, src_one]) <;> rfl); (apply Evt.all; intro; (simp [-cellsO, D2, A2, tabU_len, hg, e24, oA, oD, ta, td, sa, sd, s1, s2, src_one]) <;> (try simp (disch := omega) only [wrap_id]) <;> first | exact ⟨rfl, rfl⟩ | exact rfl); ((simp [I.need]) <;> rfl)) | ((first | (apply Dr.opS; exact rfl; decide) | (apply Dr.opS0; exact rfl)); ((simp [I.need]) <;> rfl)))); exact Dr.nil) (by first | decide +kernel | exact rfl) (by (simp [M2.keep]) <;> rfl) ?_
    repeat' (first | apply Wp.seq | apply Wp.skip | apply Wp.block | (apply Wp.op0; ((simp [M2.keep]) <;> rfl)) | ((first | (apply Wp.pickT; (exact rfl); (first | exact rfl | assumption)) | (apply Wp.pickF; (exact rfl); (first | exact rfl | assumption))); ((simp) <;> exact rfl)) | ((first | apply Wp.op | apply Wp.opN); (apply Evt.all; intro; (simp [tabU_len, hg, over_full, t2, e2]) <;> (try simp (disch := omega) only [wrap_id]) <;> first | exact ⟨rfl, rfl⟩ | exact rfl)) | (first | (apply Wp.ung; (exact rfl); (first | exact rfl | assumption)) | (apply Wp.opSt; (exact rfl); (first | exact rfl | assumption)) | (apply Wp.opSf; (exact rfl); (first | exact rfl | assumption))) | (apply Wp.opS0; (exact rfl)) | (first | (apply Wp.condT; (exact rfl); (first | exact rfl | assumption)) | (apply Wp.condF; (exact rfl); (first | exact rfl | assumption))) | ((first | apply Wp.grdT | apply Wp.grdF | apply Wp.cond); (exact rfl); (intro); rotate_left 1; (intro); rotate_right 1))
    all_goals refine Wp.ret ?_
    all_goals simp [Res, resU, res1, c_env_After, tabU_len, e2, t2, acc_tab]
  · repeat' (first | apply Wp.seq | apply Wp.skip | apply Wp.block | (apply Wp.op0; ((simp [M2.keep]) <;> rfl)) | ((first | (apply Wp.pickT; (exact rfl); (first | exact rfl | assumption)) | (apply Wp.pickF; (exact rfl); (first | exact rfl | assumption))); ((simp) <;> exact rfl)) | ((first | apply Wp.op | apply Wp.opN); (apply Evt.all; intro; (simp [tabU_len, ht, hg, g24, over_full, insU_mk, c1, c2, c3]) <;> (try simp (disch := omega) only [wrap_id]) <;> first | exact ⟨rfl, rfl⟩ | exact rfl)) | (apply Wp.call; exact hm _) | (apply Wp.call; exact hd _) | (apply Wp.call; exact ha _) | (first | (apply Wp.ung; (exact rfl); (first | exact rfl | assumption)) | (apply Wp.opSt; (exact rfl); (first | exact rfl | assumption)) | (apply Wp.opSf; (exact rfl); (first | exact rfl | assumption))) | (apply Wp.opS0; (exact rfl)) | (first | (apply Wp.condT; (exact rfl); (first | exact rfl | assumption)) | (apply Wp.condF; (exact rfl); (first | exact rfl | assumption))) | ((first | apply Wp.grdT | apply Wp.grdF | apply Wp.cond); (exact rfl); (intro); rotate_left 1; (intro); rotate_right 1))
    all_goals refine Wp.ret ?_
    all_goals simp [Res, resU, res1, c_env_After, tabU_len, hg, g24, acc_tab, c1, c2, c3]
theorem after_call (t : List Src) (x : Ins) (ht : t.length = 24) (st : List Ob) : Cl T 85 [.agg (tabU t), .agg (insU x)] st (.agg (tabU (afterF t x))) st := by
  cases h : movesF x && locF 24 x.d && locF 24 x.a with
  | true => exact after_on t x ht h st
  | false =>
    have : afterF t x = goodF t := by unfold afterF; rw [h]; rfl
    rw [this]
    exact after_off t x ht h st
end Go.Proofs.YtbmlnfceanfbmaaDoor.M2
/- What the functions answer in M2. Part 11: a step of a path. -/
namespace Go.Proofs.YtbmlnfceanfbmaaDoor.M2
open Go
attribute [local simp] ev1 M2.get put A.ev ld sub part elems bin arith un opt idx fillC cellsO splice over newOb sto fillR laidOwn appTo appRow touch touchN touchM touchE touchA plainU flatU plainAs allM rowAt stoRow accM_nil accM_cons accMM_nil accMM_cons frz_int frz_bool frz_str frz_slt frz_nils frz_nilI frz_nilF frz_own frzRow_row frzRow_frow Ob.blw blw_bool blw_int blw_str blw_nils blw_nilI blw_nilF blw_nilp blw_nilm blw_sl blw_own blw_bp blw_rp blw_mp blw_it params
attribute [local simp] frz_agg frz_tup frz_iface frzS_agg frzS_iface accMS_cons frzS_int frzS_bool frzS_str frzS_slt frzS_nils frzS_nilI beq_dec bne_dec
def pU (to : Int) (t : List Src) (s : Int) : List U := i64 to :: (tabU t ++ [i64 s])
theorem pU_len {to s : Int} {t : List Src} (ht : t.length = 24) : (pU to t s).length = 26 := by simp [pU, tabU_len, ht]
theorem pU_take1 (to s : Int) (t : List Src) : (pU to t s).take 1 = [i64 to] := rfl
theorem pU_d1 {to s : Int} {t : List Src} (ht : t.length = 24) : ((pU to t s).drop 1).take 24 = tabU t := by
  show (tabU t ++ [i64 s]).take 24 = tabU t
  rw [List.take_append_of_le_length (by rw [tabU_len, ht]; exact Nat.le_refl _)]
  exact tab24 ht
theorem pU_tail {to s : Int} {t : List Src} (ht : t.length = 24) : (pU to t s).tail.take 24 = tabU t := pU_d1 (to := to) (s := s) ht
theorem pU_d25 {to s : Int} {t : List Src} (ht : t.length = 24) : (pU to t s).drop 25 = [i64 s] := by
  show (tabU t ++ [i64 s]).drop 24 = [i64 s]
  rw [List.drop_append_of_le_length (by rw [tabU_len, ht]; exact Nat.le_refl _), List.drop_eq_nil_of_le (by rw [tabU_len, ht]; exact Nat.le_refl _)]
  rfl
theorem pU_o0 (to s v : Int) (t : List Src) : over [i64 v] (pU to t s) = pU v t s := rfl
theorem over_app : ∀ (us cs ds : List U), us.length = cs.length → over us (cs ++ ds) = us ++ ds
  | [], [], ds, _ => by cases ds <;> rfl
  | u :: us, _ :: cs, ds, h => by rw [List.cons_append, over, over_app us cs ds (by simpa using h)]; rfl
  | [], _ :: _, _, h => by simp at h
  | _ :: _, [], _, h => by simp at h
theorem pU_s1 {to s : Int} {t t' : List Src} (ht : t.length = 24) (ht' : t'.length = 24) : splice (pU to t s) 1 (tabU t') = pU to t' s := by
  show i64 to :: splice (tabU t ++ [i64 s]) 0 (tabU t') = _
  have : splice (tabU t ++ [i64 s]) 0 (tabU t') = over (tabU t') (tabU t ++ [i64 s]) := by cases (tabU t ++ [i64 s]) <;> rfl
  rw [this, over_app _ _ _ (by rw [tabU_len, tabU_len, ht, ht'])]
  rfl
theorem pU_s25 {to s v : Int} {t : List Src} (ht : t.length = 24) : splice (pU to t s) 25 [i64 v] = pU to t v := by
  rw [splice_set _ _ _ (by rw [pU_len ht]; omega)]
  show i64 to :: (tabU t ++ [i64 s]).set 24 (i64 v) = _
  rw [List.set_append_right _ _ (by rw [tabU_len, ht]; exact Nat.le_refl _), tabU_len, ht]
  rfl
def metU (m : List Bool) : List U := m.map fun b => .bool b
theorem metU_len (m : List Bool) : (metU m).length = m.length := by simp [metU]
theorem metU_sub {m : List Bool} {i : Nat} (h : i < m.length) : ((metU m).drop i).take 1 = [.bool m[i]] := by
  rw [List.drop_eq_getElem_cons (by rw [metU_len]; exact h)]
  simp [metU]
theorem metU_splice {m : List Bool} {i : Nat} (h : i < m.length) (b : Bool) : splice (metU m) i [.bool b] = metU (m.set i b) := by
  rw [splice_set _ _ _ (by rw [metU_len]; exact h)]
  simp [metU, List.map_set]
structure PS where
  to : Nat
  t : List Src
  steps : Nat
  met : List Bool
def nextTo (x : Ins) (i : Nat) : Nat := if x.op = 16 then x.to.toNat else i + 1
def followF (l : List Ins) (s : PS) : PS := ⟨nextTo (l.getD s.to default) s.to, afterF s.t (l.getD s.to default), s.steps + 1, s.met.set s.to true⟩
def followsF (l : List Ins) (s : PS) : Bool := movesF (l.getD s.to default) && !s.met.getD s.to false
def pathSt (p : Bool) (l : List Ins) (b1 : Ob) (s : PS) : List Ob := [.box [insL p l], b1, .box (metU s.met), .box (pU s.to s.t s.steps)]
theorem path_blw (p : Bool) (l : List Ins) (b1 : Ob) (hb1 : Ob.blw 4 b1 = true) (s : PS) : (pathSt p l b1 s).all (Ob.blw (pathSt p l b1 s).length) = true := by
  have h1 : Ob.blw 4 (.box (metU s.met)) = true := by
    show (metU s.met).all (blw blwD 4) = true
    rw [List.all_eq_true]
    intro u hu
    obtain ⟨b, _, rfl⟩ := List.mem_map.1 hu
    rfl
  have h2 : Ob.blw 4 (.box (pU s.to s.t s.steps)) = true := by
    show (pU s.to s.t s.steps).all (blw blwD 4) = true
    rw [List.all_eq_true]
    intro u hu
    simp only [pU, List.mem_cons, List.mem_append, List.not_mem_nil, or_false] at hu
    rcases hu with rfl | hu | rfl
    · rfl
    · exact tab_blw 4 s.t u hu
    · rfl
  show (List.all [.box [insL p l], b1, .box (metU s.met), .box (pU s.to s.t s.steps)] (Ob.blw 4)) = true
  rw [List.all_cons, List.all_cons, List.all_cons, List.all_cons, hb1, h1, h2]
  rfl
set_option maxHeartbeats 4000000 in
theorem follow_no (p : Bool) (l : List Ins) (b1 : Ob) (hb1 : Ob.blw 4 b1 = true) (s : PS) (hto : s.to < l.length) (h200 : l.length ≤ 200) (ht : s.t.length = 24) (hm : s.met.length = 200) (hf : followsF l s = false) :
    Cl T 83 [.bp 0 0, .bp 3 0, .bp 2 0] (pathSt p l b1 s) (.bool false) (pathSt p l b1 s) := by
  obtain ⟨to, t, steps, met⟩ := s
  simp only at hto ht hm
  refine Wp.impure (fn := c_path_From_1) rfl rfl rfl ?_
  have hmt : to < met.length := by omega
  have hmt2 : to + 1 ≤ 200 := by omega
  have hmt3 : (to : Int) < 200 := by omega
  simp only [followsF] at hf
  have hx : l.getD to default = l[to] := by simp [hto]
  have hmx : met.getD to false = met[to] := by simp [hmt]
  rw [hx, hmx] at hf
  have hmv := moves_call l[to]
  simp only [pathSt]
  repeat (first | apply Wp.seq | apply Wp.skip | apply Wp.block | (apply Wp.op0; ((simp [M2.keep]) <;> rfl)) | ((first | apply Wp.op | apply Wp.opN | (apply Wp.opG; exact rfl)); (apply Evt.all; intro; (simp [insL, hto, insU_len, insU_take, over_full, pU_take1, pU_len, ht]) <;> (try simp (disch := omega) only [wrap_id]) <;> first | exact ⟨rfl, rfl⟩ | exact rfl)) | (apply Wp.opS; exact rfl; decide) | (apply Wp.opS0; exact rfl))
  apply Wp.call
  · exact hmv _
  cases hv : movesF l[to] with
  | false =>
    repeat (first | apply Wp.seq | apply Wp.skip | apply Wp.block | (apply Wp.op0; ((simp [M2.keep]) <;> rfl)) | ((first | apply Wp.op | apply Wp.opN | (apply Wp.opG; exact rfl)); (apply Evt.all; intro; (simp []) <;> (try simp (disch := omega) only [wrap_id]) <;> first | exact ⟨rfl, rfl⟩ | exact rfl)) | (apply Wp.opS; exact rfl; decide) | (apply Wp.opS0; exact rfl))
    refine Wp.cond (by first | rfl | (simp; rfl)) (fun h1 => ?_) (fun h1 => ?_)
    · repeat (first | apply Wp.seq | apply Wp.skip | apply Wp.block | (apply Wp.op0; ((simp [M2.keep]) <;> rfl)) | ((first | apply Wp.op | apply Wp.opN | (apply Wp.opG; exact rfl)); (apply Evt.all; intro; (simp []) <;> (try simp (disch := omega) only [wrap_id]) <;> first | exact ⟨rfl, rfl⟩ | exact rfl)) | (apply Wp.opS; exact rfl; decide) | (apply Wp.opS0; exact rfl))
      refine Wp.ret ⟨rfl, ?_⟩
      exact congrArg S.st (trim_back (st := pathSt p l b1 ⟨to, t, steps, met⟩) (e := [(0, .bool false)]) rfl (path_blw p l b1 hb1 _))
    · cases h1
  | true =>
    rw [hv] at hf
    have hb : met[to] = true := by simpa using hf
    have msub := metU_sub hmt
    rw [hb] at msub
    repeat (first | apply Wp.seq | apply Wp.skip | apply Wp.block | (apply Wp.op0; ((simp [M2.keep]) <;> rfl)) | ((first | apply Wp.op | apply Wp.opN | (apply Wp.opG; exact rfl)); (apply Evt.all; intro; (simp [pU_take1, pU_len, ht, hmt3, metU_len, hm, hmt2, msub]) <;> (try simp (disch := omega) only [wrap_id]) <;> first | exact ⟨rfl, rfl⟩ | exact rfl)) | (apply Wp.opS; exact rfl; decide) | (apply Wp.opS0; exact rfl))
    refine Wp.cond (by first | rfl | (simp; rfl)) (fun h1 => ?_) (fun h1 => ?_)
    · repeat (first | apply Wp.seq | apply Wp.skip | apply Wp.block | (apply Wp.op0; ((simp [M2.keep]) <;> rfl)) | ((first | apply Wp.op | apply Wp.opN | (apply Wp.opG; exact rfl)); (apply Evt.all; intro; (simp []) <;> (try simp (disch := omega) only [wrap_id]) <;> first | exact ⟨rfl, rfl⟩ | exact rfl)) | (apply Wp.opS; exact rfl; decide) | (apply Wp.opS0; exact rfl))
      refine Wp.ret ⟨rfl, ?_⟩
      exact congrArg S.st (trim_back (st := pathSt p l b1 ⟨to, t, steps, met⟩) (e := [(0, .bool false)]) rfl (path_blw p l b1 hb1 _))
    · cases h1
set_option maxHeartbeats 4000000 in
theorem follow_yes (p : Bool) (l : List Ins) (b1 : Ob) (hb1 : Ob.blw 4 b1 = true) (s : PS) (hto : s.to < l.length) (h200 : l.length ≤ 200) (ht : s.t.length = 24) (hm : s.met.length = 200) (hs : s.steps < 1000) (hj : (l.getD s.to default).op = 16 → 0 ≤ (l.getD s.to default).to) (hf : followsF l s = true) :
    Cl T 83 [.bp 0 0, .bp 3 0, .bp 2 0] (pathSt p l b1 s) (.bool true) (pathSt p l b1 (followF l s)) := by
  have ht' : (followF l s).t.length = 24 := by
    simp only [followF, afterF]
    have := goodF_len ht
    split
    · split
      · rw [List.length_set]; exact this
      · split
        · rw [List.length_set]; exact this
        · split
          · rw [List.length_set, List.length_set]; exact this
          · exact this
    · exact this
  obtain ⟨to, t, steps, met⟩ := s
  simp only at hto ht hm hs hj
  simp only [followF] at ht' ⊢
  refine Wp.impure (fn := c_path_From_1) rfl rfl rfl ?_
  have hmt : to < met.length := by omega
  have hmt2 : to + 1 ≤ 200 := by omega
  have hmt3 : (to : Int) < 200 := by omega
  simp only [followsF] at hf
  have hx : l.getD to default = l[to] := by simp [hto]
  have hmx : met.getD to false = met[to] := by simp [hmt]
  rw [hx, hmx] at hf
  rw [hx] at hj ht' ⊢
  simp only [Bool.and_eq_true, Bool.not_eq_true'] at hf
  have hmv := moves_call l[to]
  rw [hf.1] at hmv
  have hafter := after_call t l[to] ht
  have msub := metU_sub hmt
  rw [hf.2] at msub
  have mset := metU_splice hmt true
  simp only [pathSt]
  have hnx : ((nextTo l[to] to : Nat) : Int) = if l[to].op = 16 then l[to].to else (to : Int) + 1 := by
    unfold nextTo
    split
    · rename_i h16
      have := hj h16
      omega
    · omega
  generalize afterF t l[to] = t' at *
  have s1 := pU_s1 (to := to) (s := steps) ht ht'
  have fin : ∀ v, (trimO (pathSt p l b1 ⟨to, t, steps, met⟩).length ⟨[(0, .bool true)], (pathSt p l b1 ⟨nextTo l[to] to, t', steps + 1, met.set to true⟩) ++ [v]⟩).st = pathSt p l b1 ⟨nextTo l[to] to, t', steps + 1, met.set to true⟩ := fun v =>
    congrArg S.st (trim_back (st := pathSt p l b1 ⟨nextTo l[to] to, t', steps + 1, met.set to true⟩) (e := [(0, .bool true)]) rfl (path_blw p l b1 hb1 _))
  simp only [pathSt, List.cons_append, List.nil_append, hnx] at fin
  have hst : ((steps + 1 : Nat) : Int) = (steps : Int) + 1 := by omega
  rw [hst] at fin ⊢
  rw [hnx]
  repeat (first | apply Wp.seq | apply Wp.skip | apply Wp.block | (apply Wp.op0; ((simp [M2.keep]) <;> rfl)) | ((first | apply Wp.op | apply Wp.opN | (apply Wp.opG; exact rfl)); (apply Evt.all; intro; (simp [insL, hto, insU, pU_take1, pU_len, ht]) <;> (try simp (disch := omega) only [wrap_id]) <;> first | exact ⟨rfl, rfl⟩ | exact rfl)) | (apply Wp.opS; exact rfl; decide) | (apply Wp.opS0; exact rfl))
  apply Wp.call
  · exact hmv _
  repeat (first | apply Wp.seq | apply Wp.skip | apply Wp.block | (apply Wp.op0; ((simp [M2.keep]) <;> rfl)) | ((first | apply Wp.op | apply Wp.opN | (apply Wp.opG; exact rfl)); (apply Evt.all; intro; (simp [pU_take1, pU_len, ht, hmt3, metU_len, hm, hmt2, msub]) <;> (try simp (disch := omega) only [wrap_id]) <;> first | exact ⟨rfl, rfl⟩ | exact rfl)) | (apply Wp.opS; exact rfl; decide) | (apply Wp.opS0; exact rfl))
  refine Wp.cond (by first | rfl | (simp; rfl)) (fun h1 => ?_) (fun h1 => ?_)
  · cases h1
  repeat (first | apply Wp.seq | apply Wp.skip | apply Wp.block | (apply Wp.op0; ((simp [M2.keep]) <;> rfl)) | ((first | apply Wp.op | apply Wp.opN | (apply Wp.opG; exact rfl)); (apply Evt.all; intro; (simp [pU_take1, pU_len, ht, hmt3, metU_len, hm, hmt2, mset, pU_tail]) <;> (try simp (disch := omega) only [wrap_id]) <;> first | exact ⟨rfl, rfl⟩ | exact rfl)) | (apply Wp.opS; exact rfl; decide) | (apply Wp.opS0; exact rfl))
  apply Wp.call
  · exact hafter _
  repeat (first | apply Wp.seq | apply Wp.skip | apply Wp.block | (apply Wp.op0; ((simp [M2.keep]) <;> rfl)) | ((first | apply Wp.op | apply Wp.opN | (apply Wp.opG; exact rfl)); (apply Evt.all; intro; (simp [tabU_len, ht', s1, pU_len, ht, pU_d25, pU_s25, pU_take1, pU_o0, wrap_id]) <;> (try simp (disch := omega) only [wrap_id]) <;> first | exact ⟨rfl, rfl⟩ | exact rfl)) | (apply Wp.opS; exact rfl; decide) | (apply Wp.opS0; exact rfl))
  refine Wp.cond (by first | rfl | (simp; rfl)) (fun hc => ?_) (fun hc => ?_)
  · have h16 : l[to].op = 16 := by simpa using hc
    rw [if_pos h16] at fin ⊢
    repeat (first | apply Wp.seq | apply Wp.skip | apply Wp.block | (apply Wp.op0; ((simp [M2.keep]) <;> rfl)) | ((first | apply Wp.op | apply Wp.opN | (apply Wp.opG; exact rfl)); (apply Evt.all; intro; (simp [pU_len, ht', pU_o0]) <;> (try simp (disch := omega) only [wrap_id]) <;> first | exact ⟨rfl, rfl⟩ | exact rfl)) | (apply Wp.opS; exact rfl; decide) | (apply Wp.opS0; exact rfl))
    refine Wp.ret ?_
    exact ⟨rfl, fin _⟩
  · have h16 : ¬ l[to].op = 16 := by simpa using hc
    rw [if_neg h16] at fin ⊢
    repeat (first | apply Wp.seq | apply Wp.skip | apply Wp.block | (apply Wp.op0; ((simp [M2.keep]) <;> rfl)) | ((first | apply Wp.op | apply Wp.opN | (apply Wp.opG; exact rfl)); (apply Evt.all; intro; (simp []) <;> (try simp (disch := omega) only [wrap_id]) <;> first | exact ⟨rfl, rfl⟩ | exact rfl)) | (apply Wp.opS; exact rfl; decide) | (apply Wp.opS0; exact rfl))
    refine Wp.ret ?_
    exact ⟨rfl, fin _⟩
end Go.Proofs.YtbmlnfceanfbmaaDoor.M2
/- What the functions answer in M2. Part 12: paths. -/
namespace Go.Proofs.YtbmlnfceanfbmaaDoor.M2
open Go
attribute [local simp] ev1 M2.get put A.ev ld sub part elems bin arith un opt idx fillC cellsO splice over newOb sto fillR laidOwn appTo appRow touch touchN touchM touchE touchA plainU flatU plainAs allM rowAt stoRow accM_nil accM_cons accMM_nil accMM_cons frz_int frz_bool frz_str frz_slt frz_nils frz_nilI frz_nilF frz_own frzRow_row frzRow_frow Ob.blw blw_bool blw_int blw_str blw_nils blw_nilI blw_nilF blw_nilp blw_nilm blw_sl blw_own blw_bp blw_rp blw_mp blw_it params
attribute [local simp] frz_agg frz_tup frz_iface frzS_agg frzS_iface accMS_cons frzS_int frzS_bool frzS_str frzS_slt frzS_nils frzS_nilI beq_dec bne_dec
/-! Plain: functions that are right; the path's run ends. -/
theorem fb_none {m : Int} : ∀ {l : List Ins} {i : Nat}, fb m i l = none → ∀ x ∈ l, checkF x m = 0
  | [], _, _, x, hx => by simp at hx
  | y :: l, i, h, x, hx => by
    rw [fb] at h
    split at h
    · cases h
    · rename_i hc
      rcases List.mem_cons.1 hx with rfl | hx
      · simpa using hc
      · exact fb_none h x hx
theorem fb_some {m : Int} : ∀ {l : List Ins} {i k : Nat} {e : Int}, fb m i l = some (k, e) → e ≠ 0
  | [], _, _, _, h => by simp [fb] at h
  | y :: l, i, k, e, h => by
    rw [fb] at h
    split at h
    · rename_i hc
      cases h
      exact hc
    · exact fb_some h
theorem right_facts {l : List Ins} (h : rightF l = true) : l.length ≤ 200 ∧ 0 < l.length ∧ (∀ x ∈ l, checkF x l.length = 0) ∧ (lastOp l = 16 ∨ lastOp l = 18) := by
  unfold rightF chkF at h
  rw [decide_eq_true_eq] at h
  split at h
  · simp at h
  · split at h
    · simp at h
    · rename_i h1 h2
      split at h
      · rename_i i e hf
        exact absurd h (fb_some hf)
      · rename_i hf
        split at h
        · rename_i hl
          exact ⟨by omega, by omega, fb_none hf, hl⟩
        · simp at h
theorem check_to {x : Ins} {m : Int} (h : checkF x m = 0) (ho : x.op = 16) : 0 ≤ x.to ∧ x.to < m := by
  unfold checkF at h
  split at h
  · simp at h
  · split at h
    · simp at h
    · split at h
      · simp at h
      · rename_i h4
        unfold bad4 at h4
        simp only [ho, true_or, true_and] at h4
        omega
theorem nextTo_ok {l : List Ins} (hr : rightF l = true) {i : Nat} (hi : i < l.length) (hm : movesF (l.getD i default) = true) : nextTo (l.getD i default) i < l.length ∧ ((l.getD i default).op = 16 → 0 ≤ (l.getD i default).to) := by
  obtain ⟨h1, h2, h3, h4⟩ := right_facts hr
  have hx : l.getD i default = l[i] := by simp [hi]
  have hc := h3 l[i] (List.getElem_mem hi)
  have h5 : lastOp l = (l.getD (l.length - 1) default).op := rfl
  rw [hx] at hm ⊢
  unfold nextTo
  split
  · rename_i ho
    have := check_to hc ho
    exact ⟨by omega, fun _ => this.1⟩
  · rename_i ho
    refine ⟨?_, fun h => absurd h ho⟩
    rcases Nat.lt_or_ge (i + 1) l.length with h | h
    · exact h
    · have he : i = l.length - 1 := by omega
      rw [← he, hx] at h5
      simp only [movesF, Bool.or_eq_true, Bool.and_eq_true, decide_eq_true_eq] at hm
      omega
def pathRun (l : List Ins) : Nat → PS → PS
  | 0, s => s
  | n + 1, s => if followsF l s then pathRun l n (followF l s) else s
def frees (m : List Bool) : Nat := (m.filter (!·)).length
structure PInv (l : List Ins) (s : PS) : Prop where
  to : s.to < l.length
  t : s.t.length = 24
  met : s.met.length = 200
  steps : s.steps + frees s.met = 200
theorem frees_set : ∀ (r : List Bool) (k : Nat) (h : k < r.length), r[k] = false → frees (r.set k true) + 1 = frees r
  | [], k, h, _ => by simp at h
  | b :: r, 0, h, hb => by
    have : b = false := hb
    subst this
    simp [frees]
  | b :: r, k + 1, h, hb => by
    have := frees_set r k (by simpa using h) (by simpa using hb)
    unfold frees at *
    cases b <;> simp [← this]
theorem afterF_len {t : List Src} (h : t.length = 24) (x : Ins) : (afterF t x).length = 24 := by
  have := goodF_len h
  unfold afterF
  split
  · split
    · rw [List.length_set]; exact this
    · split
      · rw [List.length_set]; exact this
      · split
        · rw [List.length_set, List.length_set]; exact this
        · exact this
  · exact this
theorem follow_inv {l : List Ins} (hr : rightF l = true) {s : PS} (h : PInv l s) (hf : followsF l s = true) : PInv l (followF l s) ∧ frees (followF l s).met + 1 = frees s.met := by
  unfold followsF at hf
  simp only [Bool.and_eq_true, Bool.not_eq_true'] at hf
  have h200 := (right_facts hr).1
  have hmt : s.to < s.met.length := by have := h.to; have := h.met; omega
  have hb : s.met[s.to] = false := by have := hf.2; simpa [hmt] using this
  have hfr := frees_set s.met s.to hmt hb
  exact ⟨⟨(nextTo_ok hr h.to hf.1).1, afterF_len h.t _, by simp [followF, h.met], by have := h.steps; simp only [followF]; omega⟩, hfr⟩
theorem Wp.callv {T : Nat → Option F} {K R : S → Prop} {B : Nat → S → Prop} {d f : Nat} {x : A} {xs : List A} {caps : List U} {l : List O} {live : List Nat} {e : Env} {st st1 : List Ob} {u : U} (hx : x.ev e = .fn f caps) (h : Cl T f (xs.map (·.ev e) ++ caps) st u st1) (k : Wp T (.ops l live) ⟨(d, u) :: e, st1⟩ K R B) : Wp T (.ops (⟨some d, .callv x xs, none⟩ :: l) live) ⟨e, st⟩ K R B :=
  Wp.op (h.mono fun n h => by simp only [ev1, hx]; exact h) k
def fromS (p : Bool) (l : List Ins) (b1 : Ob) (a : Nat × PS × Env) : S := ⟨(4, .bp 1 0) :: (6, .bp 2 0) :: (7, .bp 3 0) :: (8, .fn 83 [.bp 0 0, .bp 3 0, .bp 2 0]) :: a.2.2, pathSt p l b1 a.2.1⟩
theorem from_loop (p : Bool) (l : List Ins) (b1 : Ob) (hb1 : Ob.blw 4 b1 = true) (hr : rightF l = true) (s0 : PS) (h0 : PInv l s0) (v0 : Env) :
    Wp T (.loop c_path_From_L0) (fromS p l b1 (201, s0, v0)) (fun _ => False) (fun _ => False)
      (fun b s' => b = 0 ∧ s' = ⟨[(4, .bp 1 0), (6, .bp 2 0), (7, .bp 3 0), (8, .fn 83 [.bp 0 0, .bp 3 0, .bp 2 0]), (28, .bool false)], pathSt p l b1 (pathRun l 201 s0)⟩ ∧ PInv l (pathRun l 201 s0) ∧ followsF l (pathRun l 201 s0) = false) := by
  have h200 := (right_facts hr).1
  refine Wp.loop (fun a : Nat × PS × Env => a.1) (fromS p l b1) (fun a => PInv l a.2.1 ∧ frees a.2.1.met < a.1 ∧ pathRun l a.1 a.2.1 = pathRun l 201 s0) (fun a ⟨ha, hn, hrun⟩ => ?_) (201, s0, v0) ⟨h0, by have := h0.steps; simp only; omega, rfl⟩
  obtain ⟨n, s, v⟩ := a
  simp only at ha hn hrun
  obtain ⟨n, rfl⟩ : ∃ m, n = m + 1 := ⟨n - 1, by omega⟩
  simp only [fromS]
  rw [pathRun] at hrun
  apply Wp.seq
  apply Wp.seq
  repeat (first | ((first | apply Wp.op | apply Wp.opN | (apply Wp.opG; exact rfl)); (apply Evt.all; intro; (simp []) <;> (try simp (disch := omega) only [wrap_id]) <;> first | exact ⟨rfl, rfl⟩ | exact rfl)) | (apply Wp.opS; exact rfl; decide) | (apply Wp.opS0; exact rfl))
  cases hf : followsF l s with
  | true =>
    rw [hf, if_pos rfl] at hrun
    obtain ⟨hi, hfr⟩ := follow_inv hr ha hf
    have hm : movesF (l.getD s.to default) = true := by
      unfold followsF at hf
      rw [Bool.and_eq_true] at hf
      exact hf.1
    apply Wp.callv
    · exact rfl
    · exact follow_yes p l b1 hb1 s ha.to h200 ha.t ha.met (by have := ha.steps; omega) (nextTo_ok hr ha.to hm).2 hf
    refine Wp.op0 (by (simp [M2.keep]) <;> rfl) ?_
    refine Wp.cond (by first | rfl | (simp; rfl)) (fun h1 => ?_) (fun h1 => ?_)
    · refine Wp.skip ?_
      apply Wp.block
      refine Wp.skip ⟨(n, followF l s, [(28, .bool true)]), ?_, by simp only; omega, hi, by simp only; omega, hrun⟩
      exact trimO_len rfl
    · cases h1
  | false =>
    rw [hf, if_neg (by simp)] at hrun
    apply Wp.callv
    · exact rfl
    · exact follow_no p l b1 hb1 s ha.to h200 ha.t ha.met hf
    refine Wp.op0 (by (simp [M2.keep]) <;> rfl) ?_
    refine Wp.cond (by first | rfl | (simp; rfl)) (fun h1 => ?_) (fun h1 => ?_)
    · cases h1
    · refine Wp.exit ⟨rfl, ?_, hrun ▸ ha, hrun ▸ hf⟩
      rw [← hrun]
end Go.Proofs.YtbmlnfceanfbmaaDoor.M2
/- What the functions answer in M2. Part 13: From's call. -/
namespace Go.Proofs.YtbmlnfceanfbmaaDoor.M2
open Go
attribute [local simp] ev1 M2.get put A.ev ld sub part elems bin arith un opt idx fillC cellsO splice over newOb sto fillR laidOwn appTo appRow touch touchN touchM touchE touchA plainU flatU plainAs allM rowAt stoRow accM_nil accM_cons accMM_nil accMM_cons frz_int frz_bool frz_str frz_slt frz_nils frz_nilI frz_nilF frz_own frzRow_row frzRow_frow Ob.blw blw_bool blw_int blw_str blw_nils blw_nilI blw_nilF blw_nilp blw_nilm blw_sl blw_own blw_bp blw_rp blw_mp blw_it params
attribute [local simp] frz_agg frz_tup frz_iface frzS_agg frzS_iface accMS_cons frzS_int frzS_bool frzS_str frzS_slt frzS_nils frzS_nilI beq_dec bne_dec
def ps0 (at_ : Nat) : PS := ⟨at_, newT, 0, List.replicate 200 false⟩
def fromF (l : List Ins) (at_ : Int) : (Int × List Src × Int) × Int :=
  if rightF l && decide (0 ≤ at_) && decide (at_ < l.length) then
    (let s := pathRun l 201 (ps0 at_.toNat); (if s.met.getD s.to false then (-1, newT, 0) else ((s.to : Int), s.t, (s.steps : Int)), 0))
  else ((0, List.replicate 24 .no, 0), 1)
def pathU (q : Int × List Src × Int) : U := .agg (pU q.1 q.2.1 q.2.2)
theorem ov1 {t : List Src} (ht : t.length = 24) (x : U) : over (tabU t) [.nilI, .nilI, .nilI, .nilI, .nilI, .nilI, .nilI, .nilI, .nilI, .nilI, .nilI, .nilI, .nilI, .nilI, .nilI, .nilI, .nilI, .nilI, .nilI, .nilI, .nilI, .nilI, .nilI, .nilI, x] = tabU t ++ [x] := over_app (tabU t) [.nilI, .nilI, .nilI, .nilI, .nilI, .nilI, .nilI, .nilI, .nilI, .nilI, .nilI, .nilI, .nilI, .nilI, .nilI, .nilI, .nilI, .nilI, .nilI, .nilI, .nilI, .nilI, .nilI, .nilI] [x] (by rw [tabU_len, ht]; rfl)
theorem ov2 {t : List Src} (ht : t.length = 24) (x y : U) : over (tabU t ++ [x]) [.nilI, .nilI, .nilI, .nilI, .nilI, .nilI, .nilI, .nilI, .nilI, .nilI, .nilI, .nilI, .nilI, .nilI, .nilI, .nilI, .nilI, .nilI, .nilI, .nilI, .nilI, .nilI, .nilI, .nilI, y] = tabU t ++ [x] := over_full _ _ (by rw [List.length_append, tabU_len, ht]; rfl)
theorem from_bad (p : Bool) (l : List Ins) (at_ : Int) (st : List Ob) (h : (rightF l && decide (0 ≤ at_) && decide (at_ < l.length)) = false) : Cl T 47 [insL p l, i64 at_] st (.tup [pathU (0, List.replicate 24 .no, 0), i64 1]) st := by
  refine Wp.pure (fn := c_path_From) rfl rfl rfl («as» := [insL p l, i64 at_]) rfl ?_
  have hr := fun st => asmRight_call p l st (insL p l) rfl
  generalize rightF l = r at *
  repeat' (first | apply Wp.seq | apply Wp.skip | apply Wp.block | (apply Wp.op0; ((simp [M2.keep]) <;> rfl)) | ((first | (apply Wp.pickT; (exact rfl); (first | exact rfl | assumption)) | (apply Wp.pickF; (exact rfl); (first | exact rfl | assumption))); ((simp) <;> exact rfl)) | ((first | apply Wp.op | apply Wp.opN); (apply Evt.all; intro; (simp [insL]) <;> (try simp (disch := omega) only [wrap_id]) <;> first | exact ⟨rfl, rfl⟩ | exact rfl)) | (apply Wp.call; exact hr _) | (first | (apply Wp.ung; (exact rfl); (first | exact rfl | assumption)) | (apply Wp.opSt; (exact rfl); (first | exact rfl | assumption)) | (apply Wp.opSf; (exact rfl); (first | exact rfl | assumption))) | (apply Wp.opS0; (exact rfl)) | (first | (apply Wp.condT; (exact rfl); (first | exact rfl | assumption)) | (apply Wp.condF; (exact rfl); (first | exact rfl | assumption))) | ((first | apply Wp.grdT | apply Wp.grdF | apply Wp.cond); (exact rfl); (intro); rotate_left 1; (intro); rotate_right 1))
  all_goals first
    | (exfalso; simp_all; omega)
    | (exfalso; simp_all; done)
    | skip
  all_goals refine Wp.ret ?_
  all_goals simp [Res, resU, res1, c_path_From, pathU, pU, tabU, srcU, List.replicate]
theorem acc_app {α : Type} {f : List Ob → α → Option (α × List Ob)} : ∀ {xs ys xs' ys' : List α} {st st1 st2 : List Ob}, accM f st xs = some (xs', st1) → accM f st1 ys = some (ys', st2) → accM f st (xs ++ ys) = some (xs' ++ ys', st2)
  | [], ys, xs', ys', st, st1, st2, h1, h2 => by
    simp only [accM, Option.some.injEq, Prod.mk.injEq] at h1
    obtain ⟨rfl, rfl⟩ := h1
    exact h2
  | x :: xs, ys, xs', ys', st, st1, st2, h1, h2 => by
    simp only [accM, Option.bind_eq_some_iff] at h1
    obtain ⟨p, k1, q, k2, k3⟩ := h1
    simp only [Option.some.injEq, Prod.mk.injEq] at k3
    obtain ⟨rfl, rfl⟩ := k3
    have k4 := acc_app k2 h2
    show (f st x).bind (fun p => (accM f p.2 (xs ++ ys)).bind fun q => some (p.1 :: q.1, q.2)) = _
    rw [k1]
    show (accM f p.2 (xs ++ ys)).bind (fun q => some (p.1 :: q.1, q.2)) = _
    rw [k4]
    rfl
theorem acc_pU (st : List Ob) (to s : Int) (t : List Src) : accM (frz 10) st (pU to t s) = some (pU to t s, st) := by
  have h1 : accM (frz 10) st [i64 to] = some ([i64 to], st) := rfl
  have h2 : accM (frz 10) st [i64 s] = some ([i64 s], st) := rfl
  exact acc_app (xs := [i64 to]) h1 (acc_app (acc_tab' st t) h2)
theorem acc_tl (st : List Ob) (x : Int) (t : List Src) : accM (frz 10) st (tabU t ++ [.int .i64 x]) = some (tabU t ++ [.int .i64 x], st) := acc_app (acc_tab' st t) (show accM (frz 10) st [.int .i64 x] = some ([.int .i64 x], st) from rfl)
theorem tl_take {t : List Src} (ht : t.length = 24) (x : U) : (tabU t ++ [x]).take 25 = tabU t ++ [x] := by rw [List.take_of_length_le]; rw [List.length_append, tabU_len, ht]; exact Nat.le_refl _
theorem pU_take26 {to s : Int} {t : List Src} (ht : t.length = 24) : (pU to t s).take 26 = pU to t s := by rw [List.take_of_length_le]; rw [pU_len ht]; exact Nat.le_refl _
theorem pU_over {to s : Int} {t : List Src} (ht : t.length = 24) (x y : U) : over (pU to t s) [x, .nilI, .nilI, .nilI, .nilI, .nilI, .nilI, .nilI, .nilI, .nilI, .nilI, .nilI, .nilI, .nilI, .nilI, .nilI, .nilI, .nilI, .nilI, .nilI, .nilI, .nilI, .nilI, .nilI, .nilI, y] = pU to t s := over_full _ _ (by rw [pU_len ht]; rfl)
theorem from_good (p : Bool) (l : List Ins) (a : Nat) (ha : a < l.length) (hr : rightF l = true) (st : List Ob) : Cl T 47 [insL p l, i64 a] st (.tup [pathU (if (pathRun l 201 (ps0 a)).met.getD (pathRun l 201 (ps0 a)).to false then (-1, newT, 0) else (((pathRun l 201 (ps0 a)).to : Int), (pathRun l 201 (ps0 a)).t, ((pathRun l 201 (ps0 a)).steps : Int))), i64 0]) st := by
  refine Wp.pure (fn := c_path_From) rfl rfl rfl («as» := [insL p l, i64 a]) rfl ?_
  have hright := fun st => asmRight_call p l st (insL p l) rfl
  rw [hr] at hright
  have h200 := (right_facts hr).1
  have hai : ¬ l.length ≤ a := by omega
  have nl : newT.length = 24 := rfl
  have mk : i64 (a : Int) :: (tabU newT ++ [.int .i64 0]) = pU a newT 0 := rfl
  repeat' (first | apply Wp.seq | apply Wp.skip | apply Wp.block | (apply Wp.op0; ((simp [M2.keep]) <;> rfl)) | ((first | (apply Wp.pickT; (exact rfl); (first | exact rfl | assumption)) | (apply Wp.pickF; (exact rfl); (first | exact rfl | assumption))); ((simp) <;> exact rfl)) | ((first | apply Wp.op | apply Wp.opN); (apply Evt.all; intro; (simp [insL, hai, tabU_len, nl, ov1, ov2]) <;> (try simp (disch := omega) only [wrap_id]) <;> first | exact ⟨rfl, rfl⟩ | exact rfl)) | (apply Wp.call; exact hright _) | (apply Wp.call; exact new_call _) | (first | (apply Wp.ung; (exact rfl); (first | exact rfl | assumption)) | (apply Wp.opSt; (exact rfl); (first | exact rfl | assumption)) | (apply Wp.opSf; (exact rfl); (first | exact rfl | assumption))) | (apply Wp.opS0; (exact rfl)) | (first | (apply Wp.condT; (exact rfl); (first | exact rfl | assumption)) | (apply Wp.condF; (exact rfl); (first | exact rfl | assumption))) | ((first | apply Wp.grdT | apply Wp.grdF | apply Wp.cond); (exact rfl); (intro); rotate_left 1; (intro); rotate_right 1))
  have h0 : PInv l (ps0 a) := ⟨ha, rfl, List.length_replicate, by
    show 0 + ((List.replicate 200 false).filter (!·)).length = 200
    rw [List.filter_replicate_of_pos rfl, List.length_replicate]⟩
  refine (show Wp T (.loop c_path_From_L0) (fromS p l (.box [.int .i64 0, .nilI, .nilI, .nilI, .nilI, .nilI, .nilI, .nilI, .nilI, .nilI, .nilI, .nilI, .nilI, .nilI, .nilI, .nilI, .nilI, .nilI, .nilI, .nilI, .nilI, .nilI, .nilI, .nilI, .nilI, .int .i64 0]) (201, ps0 a, [])) _ _ _ from (from_loop p l (.box [.int .i64 0, .nilI, .nilI, .nilI, .nilI, .nilI, .nilI, .nilI, .nilI, .nilI, .nilI, .nilI, .nilI, .nilI, .nilI, .nilI, .nilI, .nilI, .nilI, .nilI, .nilI, .nilI, .nilI, .nilI, .nilI, .int .i64 0]) rfl hr (ps0 a) h0 []).impB ?_)
  rintro b s ⟨rfl, rfl, hi, hf⟩
  rw [if_pos rfl]
  generalize pathRun l 201 (ps0 a) = s at *
  obtain ⟨to, t, steps, met⟩ := s
  have hto := hi.to
  have ht := hi.t
  have hm := hi.met
  simp only at hto ht hm
  have hmt : to < met.length := by omega
  have hmt2 : to + 1 ≤ 200 := by omega
  have hmt3 : (to : Int) < 200 := by omega
  have msub := metU_sub hmt
  have hmx : met.getD to false = met[to] := by simp [hmt]
  simp only [pathSt, hmx]
  cases hb : met[to] with
  | true =>
    rw [hb] at msub
    repeat' (first | apply Wp.seq | apply Wp.skip | apply Wp.block | (apply Wp.op0; ((simp [M2.keep]) <;> rfl)) | ((first | (apply Wp.pickT; (exact rfl); (first | exact rfl | assumption)) | (apply Wp.pickF; (exact rfl); (first | exact rfl | assumption))); ((simp) <;> exact rfl)) | ((first | apply Wp.op | apply Wp.opN); (apply Evt.all; intro; (simp [pU_take1, pU_len, ht, hmt3, metU_len, hm, hmt2, msub, tabU_len, nl, ov1, ov2]) <;> (try simp (disch := omega) only [wrap_id]) <;> first | exact ⟨rfl, rfl⟩ | exact rfl)) | (apply Wp.call; exact new_call _) | (first | (apply Wp.ung; (exact rfl); (first | exact rfl | assumption)) | (apply Wp.opSt; (exact rfl); (first | exact rfl | assumption)) | (apply Wp.opSf; (exact rfl); (first | exact rfl | assumption))) | (apply Wp.opS0; (exact rfl)) | (first | (apply Wp.condT; (exact rfl); (first | exact rfl | assumption)) | (apply Wp.condF; (exact rfl); (first | exact rfl | assumption))) | ((first | apply Wp.grdT | apply Wp.grdF | apply Wp.cond); (exact rfl); (intro); rotate_left 1; (intro); rotate_right 1))
    refine Wp.ret ?_
    simp [Res, resU, res1, c_path_From, pathU, pU, acc_tl, tl_take, nl, tabU_len]
  | false =>
    rw [hb] at msub
    repeat' (first | apply Wp.seq | apply Wp.skip | apply Wp.block | (apply Wp.op0; ((simp [M2.keep]) <;> rfl)) | ((first | (apply Wp.pickT; (exact rfl); (first | exact rfl | assumption)) | (apply Wp.pickF; (exact rfl); (first | exact rfl | assumption))); ((simp) <;> exact rfl)) | ((first | apply Wp.op | apply Wp.opN); (apply Evt.all; intro; (simp [pU_take1, pU_len, ht, hmt3, metU_len, hm, hmt2, msub, pU_take26, pU_over]) <;> (try simp (disch := omega) only [wrap_id]) <;> first | exact ⟨rfl, rfl⟩ | exact rfl)) | (first | (apply Wp.ung; (exact rfl); (first | exact rfl | assumption)) | (apply Wp.opSt; (exact rfl); (first | exact rfl | assumption)) | (apply Wp.opSf; (exact rfl); (first | exact rfl | assumption))) | (apply Wp.opS0; (exact rfl)) | (first | (apply Wp.condT; (exact rfl); (first | exact rfl | assumption)) | (apply Wp.condF; (exact rfl); (first | exact rfl | assumption))) | ((first | apply Wp.grdT | apply Wp.grdF | apply Wp.cond); (exact rfl); (intro); rotate_left 1; (intro); rotate_right 1))
    refine Wp.ret ?_
    simp [Res, resU, res1, c_path_From, pathU, pU_take26, pU_len, ht, acc_pU]
theorem from_call (p : Bool) (l : List Ins) (at_ : Int) (st : List Ob) : Cl T 47 [insL p l, i64 at_] st (.tup [pathU (fromF l at_).1, i64 (fromF l at_).2]) st := by
  cases h : rightF l && decide (0 ≤ at_) && decide (at_ < l.length) with
  | false =>
    have : fromF l at_ = ((0, List.replicate 24 .no, 0), 1) := by unfold fromF; rw [h]; rfl
    rw [this]
    exact from_bad p l at_ st h
  | true =>
    have e : fromF l at_ = ((if (pathRun l 201 (ps0 at_.toNat)).met.getD (pathRun l 201 (ps0 at_.toNat)).to false then (-1, newT, 0) else (((pathRun l 201 (ps0 at_.toNat)).to : Int), (pathRun l 201 (ps0 at_.toNat)).t, ((pathRun l 201 (ps0 at_.toNat)).steps : Int))), 0) := by unfold fromF; rw [h]; rfl
    rw [e]
    simp only [Bool.and_eq_true, decide_eq_true_eq] at h
    obtain ⟨a, rfl⟩ := Int.eq_ofNat_of_zero_le h.1.2
    rw [Int.toNat_natCast]
    exact from_good p l a (by omega) h.1.1 st
end Go.Proofs.YtbmlnfceanfbmaaDoor.M2
