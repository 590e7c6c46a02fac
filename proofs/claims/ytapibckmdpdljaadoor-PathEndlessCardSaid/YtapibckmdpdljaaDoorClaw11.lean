/- PathEndless: where a path leads nowhere, all steps only move; and where it leads somewhere, it has fewer steps than there are instructions. No condition. -/
import Derived.Test.YtapibckmdpdljaaDoorCm
import Derived.Test.YtapibckmdpdljaaDoorCk
set_option linter.unusedSimpArgs false
set_option linter.unusedVariables false
set_option linter.unusedSectionVars false
/- The law PathEndless in M2. -/
namespace Go.Proofs.YtapibckmdpdljaaDoor.M2
open Go
attribute [local simp] ev1 M2.get put A.ev ld sub part elems bin arith un opt idx fillC cellsO splice over newOb sto fillR laidOwn appTo appRow touch touchN touchM touchE touchA plainU flatU plainAs allM rowAt stoRow accM_nil accM_cons accMM_nil accMM_cons frz_int frz_bool frz_str frz_slt frz_nils frz_nilI frz_nilF frz_own frzRow_row frzRow_frow Ob.blw blw_bool blw_int blw_str blw_nils blw_nilI blw_nilF blw_nilp blw_nilm blw_sl blw_own blw_bp blw_rp blw_mp blw_it params
attribute [local simp] frz_agg frz_tup frz_iface frzS_agg frzS_iface accMS_cons frzS_int frzS_bool frzS_str frzS_slt frzS_nils frzS_nilI beq_dec bne_dec
attribute [local irreducible] Typed TypedA

def peS (l : List Ins) (s : Stt) (to : Int) (t : List Src) (k : Int) (i : Nat) : S := ⟨[(0, insL true l), (3, .bp 0 0), (7, i64 i)], [.box (stU true (runS l i s)), .box (pU to t k)]⟩
set_option maxHeartbeats 16000000 in
theorem pends_loop (l : List Ins) (hl : l.length ≤ 300) (s : Stt) (to : Int) (t : List Src) (k : Int) (hall : ∀ i, sttF l (runS l i s) = true ∧ (runS l i s).L.length = 24 ∧ movesF (l.getD (runS l i s).at_.toNat default) = true) (R : S → Prop) :
    Wp T (.loop c_joinerylaw09_PathEndless_L0) (peS l s to t k 0) (fun _ => False) R (fun b s' => b = 0) := by
  refine Wp.count (2 * l.length + 2) (fun i => peS l s to t k i) (fun _ => True) (fun i hi _ => ?_) (fun _ => ?_) 0 (by omega) trivial
  · have hi' : (i : Int) < 2 * l.length + 2 := by omega
    obtain ⟨k1, k2, k3⟩ := hall i
    have hst := stepF_call l _ k1 k2 k3
    have hat : 0 ≤ (runS l i s).at_ ∧ (runS l i s).at_ < l.length := by unfold sttF at k1; simp only [Bool.and_eq_true, decide_eq_true_eq] at k1; omega
    obtain ⟨A, hA⟩ := Int.eq_ofNat_of_zero_le hat.1
    have hAl : A < l.length := by omega
    have hA' : (A : Int) < l.length := by omega
    have hx : l[A]? = some (l.getD A default) := by simp [hAl]
    have hmv := moves3_call (l.getD A default)
    rw [hA, Int.toNat_natCast] at k3
    rw [k3] at hmv
    have hl1 := stU_len (p := true) k2
    have hl2 : (stU true (stepF l (runS l i s))).length = 51 := stU_len (by rw [stepF, doneF, moveF_len]; exact k2)
    have t1 : (stU true (runS l i s)).take 51 = stU true (runS l i s) := List.take_of_length_le (by omega)
    have t2 : (stU true (stepF l (runS l i s))).take 51 = stU true (stepF l (runS l i s)) := List.take_of_length_le (by omega)
    have d49 : (stU true (runS l i s)).drop 49 = [i64 A, i64 (runS l i s).asked] := by rw [stU, wds_drop k2 49 (by omega), hA]; rfl
    have hb1 := pU_blw 2 to t k
    have hb2 := stU_blw 2 true (stepF l (runS l i s))
    have dneg : decide ((A : Int) < 0) = false := decide_eq_false (by omega)
    have dge : decide (l.length ≤ A) = false := decide_eq_false (by omega)
    have dge2 : decide ((l.length : Int) ≤ A) = false := decide_eq_false (by omega)
    have w1 : IntKind.wrap .i64 (2 * (l.length : Int)) = 2 * (l.length : Int) := wrap_id (by omega) (by omega)
    have w2 : IntKind.wrap .i64 (2 * (l.length : Int) + 2) = 2 * (l.length : Int) + 2 := wrap_id (by omega) (by omega)
    have w3 : IntKind.wrap .i64 ((i : Int) + 1) = (i : Int) + 1 := wrap_id (by omega) (by omega)
    simp only [peS]
    rw [runS_succ]
    generalize stU true (stepF l (runS l i s)) = y at *
    generalize stU true (runS l i s) = x at *
    generalize l.getD A default = ix at *
    generalize (runS l i s).asked = q at *
    repeat (first | apply Wp.seq | apply Wp.skip | apply Wp.block | (apply Wp.op0; ((simp [M2.keep]) <;> rfl)) | ((first | apply Wp.op | apply Wp.opN | (apply Wp.opG; exact rfl)); (apply Evt.all; intro; (simp [insL, w1, w2, hi']) <;> (try simp (disch := omega) only [wrap_id]) <;> first | exact ⟨rfl, rfl⟩ | exact rfl)) | (apply Wp.opS; exact rfl; decide) | (apply Wp.opS0; exact rfl))
    refine Wp.cond (by first | rfl | (simp; rfl)) (fun h1 => ?_) (fun h1 => ?_)
    · repeat' (first | apply Wp.seq | apply Wp.skip | apply Wp.block | (apply Wp.op0; ((simp [M2.keep]) <;> rfl)) | ((first | (apply Wp.pickT; (exact rfl); (first | exact rfl | assumption)) | (apply Wp.pickF; (exact rfl); (first | exact rfl | assumption))); ((simp) <;> exact rfl)) | ((first | apply Wp.op | apply Wp.opN); (apply Evt.all; intro; (simp [insL, hl1, hl2, t1, t2, d49, over_full, hA', hx, insU_len, insU_take]) <;> (try simp (disch := omega) only [wrap_id]) <;> first | exact ⟨rfl, rfl⟩ | exact rfl)) | (apply Wp.call; exact hmv _) | (apply Wp.call; exact hst _) | (first | (apply Wp.ung; (exact rfl); (first | exact rfl | assumption)) | (apply Wp.opSt; (exact rfl); (first | exact rfl | assumption)) | (apply Wp.opSf; (exact rfl); (first | exact rfl | assumption))) | (apply Wp.opS0; (exact rfl)) | (first | (apply Wp.condT; (exact rfl); (first | exact rfl | assumption)) | (apply Wp.condF; (exact rfl); (first | exact rfl | assumption))) | ((first | apply Wp.grdT | apply Wp.grdF | apply Wp.cond); (exact rfl); (intro); rotate_left 1; (intro); rotate_right 1))
      repeat (first | apply Wp.seq | apply Wp.skip | apply Wp.block | (apply Wp.op0; ((simp [M2.keep]) <;> rfl)) | ((first | apply Wp.op | apply Wp.opN | (apply Wp.opG; exact rfl)); (apply Evt.all; intro; (simp [w3]) <;> (try simp (disch := omega) only [wrap_id]) <;> first | exact ⟨rfl, rfl⟩ | exact rfl)) | (apply Wp.opS; exact rfl; decide) | (apply Wp.opS0; exact rfl))
      refine ⟨trim_list (st := [.box y, .box (pU to t k)]) (l := [_, _]) (by simp [insL]) ?_, trivial⟩
      show (Ob.blw 2 _ && (Ob.blw 2 _ && true)) = true
      rw [hb1, hb2]
      rfl
    · cases h1
  · have w1 : IntKind.wrap .i64 (2 * (l.length : Int)) = 2 * (l.length : Int) := wrap_id (by omega) (by omega)
    have w2 : IntKind.wrap .i64 (2 * (l.length : Int) + 2) = 2 * (l.length : Int) + 2 := wrap_id (by omega) (by omega)
    simp only [peS]
    repeat (first | apply Wp.seq | apply Wp.skip | apply Wp.block | (apply Wp.op0; ((simp [M2.keep]) <;> rfl)) | ((first | apply Wp.op | apply Wp.opN | (apply Wp.opG; exact rfl)); (apply Evt.all; intro; (simp [insL, w1, w2]) <;> (try simp (disch := omega) only [wrap_id]) <;> first | exact ⟨rfl, rfl⟩ | exact rfl)) | (apply Wp.opS; exact rfl; decide) | (apply Wp.opS0; exact rfl))
    refine Wp.cond (by first | rfl | (simp; rfl)) (fun h1 => ?_) (fun h1 => ?_)
    · simp at h1
    · exact Wp.exit rfl
set_option maxHeartbeats 16000000 in
theorem law11_call (l : List Ins) (s : Stt) (hL : s.L.length = 24) : Cl T n_joinerylaw09_PathEndless [insL true l, .agg (stU true s)] [] (.bool true) [] := by
  have hbr := brw_stt [] true s
  refine Wp.pure (fn := c_joinerylaw09_PathEndless) rfl rfl rfl («as» := [insL true l, .agg (stU true s)]) (by simp [hbr, insL]; rfl) ?_
  have kno := knows_call
  have sl := stU_len (p := true) hL
  have d48 : (stU true s).drop 48 = [heapU true s.h, i64 s.at_, i64 s.asked] := by rw [stU, wds_drop hL 48 (by omega)]; rfl
  have d49 : (stU true s).drop 49 = [i64 s.at_, i64 s.asked] := by rw [stU, wds_drop hL 49 (by omega)]; rfl
  have t51 : (stU true s).take 51 = stU true s := List.take_of_length_le (by omega)
  by_cases h1 : 300 < l.length
  · have d1 : decide ((300 : Int) < l.length) = true := decide_eq_true (by omega)
    repeat' (first | apply Wp.seq | apply Wp.skip | apply Wp.block | (apply Wp.op0; ((simp [M2.keep]) <;> rfl)) | ((first | (apply Wp.pickT; (exact rfl); (first | exact rfl | assumption)) | (apply Wp.pickF; (exact rfl); (first | exact rfl | assumption))); ((simp) <;> exact rfl)) | ((first | apply Wp.op | apply Wp.opN); (apply Evt.all; intro; (simp [insL]) <;> (try simp (disch := omega) only [wrap_id]) <;> first | exact ⟨rfl, rfl⟩ | exact rfl)) | (apply Wp.call; exact kno _) | (first | (apply Wp.ung; (exact rfl); (first | exact rfl | assumption)) | (apply Wp.opSt; (exact rfl); (first | exact rfl | assumption)) | (apply Wp.opSf; (exact rfl); (first | exact rfl | assumption))) | (apply Wp.opS0; (exact rfl)) | (first | (apply Wp.condT; (exact rfl); (first | exact rfl | assumption)) | (apply Wp.condF; (exact rfl); (first | exact rfl | assumption))) | ((first | apply Wp.grdT | apply Wp.grdF | apply Wp.cond); (exact rfl); (intro); rotate_left 1; (intro); rotate_right 1))
    refine Wp.ret ?_
    simp [Res, resU, res1, c_joinerylaw09_PathEndless]
  have d1 : decide ((300 : Int) < l.length) = false := decide_eq_false (by omega)
  by_cases h2 : 100 < s.h.length
  · have d2 : decide ((100 : Int) < s.h.length) = true := decide_eq_true (by omega)
    repeat' (first | apply Wp.seq | apply Wp.skip | apply Wp.block | (apply Wp.op0; ((simp [M2.keep]) <;> rfl)) | ((first | (apply Wp.pickT; (exact rfl); (first | exact rfl | assumption)) | (apply Wp.pickF; (exact rfl); (first | exact rfl | assumption))); ((simp) <;> exact rfl)) | ((first | apply Wp.op | apply Wp.opN); (apply Evt.all; intro; (simp [insL, sl, d48, heapU]) <;> (try simp (disch := omega) only [wrap_id]) <;> first | exact ⟨rfl, rfl⟩ | exact rfl)) | (apply Wp.call; exact kno _) | (first | (apply Wp.ung; (exact rfl); (first | exact rfl | assumption)) | (apply Wp.opSt; (exact rfl); (first | exact rfl | assumption)) | (apply Wp.opSf; (exact rfl); (first | exact rfl | assumption))) | (apply Wp.opS0; (exact rfl)) | (first | (apply Wp.condT; (exact rfl); (first | exact rfl | assumption)) | (apply Wp.condF; (exact rfl); (first | exact rfl | assumption))) | ((first | apply Wp.grdT | apply Wp.grdF | apply Wp.cond); (exact rfl); (intro); rotate_left 1; (intro); rotate_right 1))
    refine Wp.ret ?_
    simp [Res, resU, res1, c_joinerylaw09_PathEndless]
  have d2 : decide ((100 : Int) < s.h.length) = false := decide_eq_false (by omega)
  have has := as7_call s hL
  have hri := refRight7_call true l s hL
  cases hs : sttF l s with
  | false =>
    rw [hs] at hri
    repeat' (first | apply Wp.seq | apply Wp.skip | apply Wp.block | (apply Wp.op0; ((simp [M2.keep]) <;> rfl)) | ((first | (apply Wp.pickT; (exact rfl); (first | exact rfl | assumption)) | (apply Wp.pickF; (exact rfl); (first | exact rfl | assumption))); ((simp) <;> exact rfl)) | ((first | apply Wp.op | apply Wp.opN); (apply Evt.all; intro; (simp [insL, sl, d48, t51, heapU]) <;> (try simp (disch := omega) only [wrap_id]) <;> first | exact ⟨rfl, rfl⟩ | exact rfl)) | (apply Wp.call; exact has _) | (apply Wp.call; exact hri _) | (apply Wp.call; exact kno _) | (first | (apply Wp.ung; (exact rfl); (first | exact rfl | assumption)) | (apply Wp.opSt; (exact rfl); (first | exact rfl | assumption)) | (apply Wp.opSf; (exact rfl); (first | exact rfl | assumption))) | (apply Wp.opS0; (exact rfl)) | (first | (apply Wp.condT; (exact rfl); (first | exact rfl | assumption)) | (apply Wp.condF; (exact rfl); (first | exact rfl | assumption))) | ((first | apply Wp.grdT | apply Wp.grdF | apply Wp.cond); (exact rfl); (intro); rotate_left 1; (intro); rotate_right 1))
    refine Wp.ret ?_
    simp [Res, resU, res1, c_joinerylaw09_PathEndless]
  | true =>
    rw [hs] at hri
    have hr : rightF l = true := by unfold sttF at hs; simp only [Bool.and_eq_true] at hs; exact hs.1.1.1.1.1
    have hat : 0 ≤ s.at_ ∧ s.at_ < l.length := by unfold sttF at hs; simp only [Bool.and_eq_true, decide_eq_true_eq] at hs; omega
    obtain ⟨a, ha⟩ := Int.eq_ofNat_of_zero_le hat.1
    have hal : a < l.length := by omega
    have hfr := from_call true l s.at_
    rw [ha, fair_run hr hal] at hfr
    cases hrun : refRun l (l.length + 1) ⟨a, newT, 0⟩ with
    | none =>
      rw [hrun] at hfr
      simp only [rpT] at hfr
      have hnv := refRun_pr l (l.length + 1) ⟨a, newT, 0⟩
      rw [hrun] at hnv
      simp only [Option.map_none] at hnv
      have hnv2 := pr_never hr hal (Option.map_eq_none_iff.1 hnv.symm)
      have hall := fun i => runs_never i s hs hL (fun n => by rw [ha, Int.toNat_natCast]; exact hnv2 n)
      have hlp := pends_loop l (by omega) s (-1) newT 0 hall
      simp only [peS, runS] at hlp
      repeat' (first | apply Wp.seq | apply Wp.skip | apply Wp.block | (apply Wp.op0; ((simp [M2.keep]) <;> rfl)) | ((first | (apply Wp.pickT; (exact rfl); (first | exact rfl | assumption)) | (apply Wp.pickF; (exact rfl); (first | exact rfl | assumption))); ((simp) <;> exact rfl)) | ((first | apply Wp.op | apply Wp.opN); (apply Evt.all; intro; (simp [insL, sl, d48, d49, t51, heapU, ha, pathU, pU_take1, pU_take26, pU_over, pU_len, pU_d25, newT_len, over_full]) <;> (try simp (disch := omega) only [wrap_id]) <;> first | exact ⟨rfl, rfl⟩ | exact rfl)) | (apply Wp.call; exact has _) | (apply Wp.call; exact hri _) | (apply Wp.call; exact hfr _) | (first | (apply Wp.ung; (exact rfl); (first | exact rfl | assumption)) | (apply Wp.opSt; (exact rfl); (first | exact rfl | assumption)) | (apply Wp.opSf; (exact rfl); (first | exact rfl | assumption))) | (apply Wp.opS0; (exact rfl)) | (first | (apply Wp.condT; (exact rfl); (first | exact rfl | assumption)) | (apply Wp.condF; (exact rfl); (first | exact rfl | assumption))) | ((first | apply Wp.grdT | apply Wp.grdF | apply Wp.cond); (exact rfl); (intro); rotate_left 1; (intro); rotate_right 1))
      refine ((hlp _).imp (fun _ h => h.elim) (fun _ h => h) ?_)
      rintro b s2 rfl
      rw [if_pos rfl]
      obtain ⟨e2, st2⟩ := s2
      repeat (first | apply Wp.seq | apply Wp.skip | apply Wp.block | (apply Wp.op0; ((simp [M2.keep]) <;> rfl)) | ((first | apply Wp.op | apply Wp.opN | (apply Wp.opG; exact rfl)); (apply Evt.all; intro; (simp []) <;> (try simp (disch := omega) only [wrap_id]) <;> first | exact ⟨rfl, rfl⟩ | exact rfl)) | (apply Wp.opS; exact rfl; decide) | (apply Wp.opS0; exact rfl))
      apply Wp.call
      · exact kno _
      repeat (first | apply Wp.seq | apply Wp.skip | apply Wp.block | (apply Wp.op0; ((simp [M2.keep]) <;> rfl)) | ((first | apply Wp.op | apply Wp.opN | (apply Wp.opG; exact rfl)); (apply Evt.all; intro; (simp []) <;> (try simp (disch := omega) only [wrap_id]) <;> first | exact ⟨rfl, rfl⟩ | exact rfl)) | (apply Wp.opS; exact rfl; decide) | (apply Wp.opS0; exact rfl))
      refine Wp.ret ?_
      simp [Res, resU, res1, c_joinerylaw09_PathEndless]
    | some e =>
      rw [hrun] at hfr
      simp only [rpT] at hfr
      have hsl := steps_lt hr hal hrun
      have ht : e.t.length = 24 := refRun_len _ _ _ rfl hrun
      have g1 : decide ((0 : Int) ≤ (e.to : Int)) = true := decide_eq_true (by omega)
      have g2 : decide (e.steps < l.length) = true := decide_eq_true hsl.1
      have g3 : decide (e.to < l.length) = true := decide_eq_true hsl.2
      have g4 : decide ((e.steps : Int) < l.length) = true := decide_eq_true (by omega)
      have g5 : decide ((e.to : Int) < l.length) = true := decide_eq_true (by omega)
      repeat' (first | apply Wp.seq | apply Wp.skip | apply Wp.block | (apply Wp.op0; ((simp [M2.keep]) <;> rfl)) | ((first | (apply Wp.pickT; (exact rfl); (first | exact rfl | assumption)) | (apply Wp.pickF; (exact rfl); (first | exact rfl | assumption))); ((simp) <;> exact rfl)) | ((first | apply Wp.op | apply Wp.opN); (apply Evt.all; intro; (simp [insL, sl, d48, d49, t51, heapU, ha, pathU, pU_take1, pU_take26, pU_over, pU_len, pU_d25, ht, over_full]) <;> (try simp (disch := omega) only [wrap_id]) <;> first | exact ⟨rfl, rfl⟩ | exact rfl)) | (apply Wp.call; exact has _) | (apply Wp.call; exact hri _) | (apply Wp.call; exact hfr _) | (apply Wp.call; exact kno _) | (first | (apply Wp.ung; (exact rfl); (first | exact rfl | assumption)) | (apply Wp.opSt; (exact rfl); (first | exact rfl | assumption)) | (apply Wp.opSf; (exact rfl); (first | exact rfl | assumption))) | (apply Wp.opS0; (exact rfl)) | (first | (apply Wp.condT; (exact rfl); (first | exact rfl | assumption)) | (apply Wp.condF; (exact rfl); (first | exact rfl | assumption))) | ((first | apply Wp.grdT | apply Wp.grdF | apply Wp.cond); (exact rfl); (intro); rotate_left 1; (intro); rotate_right 1))
      refine Wp.ret ?_
      simp [Res, resU, res1, c_joinerylaw09_PathEndless]
theorem params11 : Tryd.f11.params.toList = [22, 79] := by kernel_rfl
theorem law11 : Law 11 Tryd.f11.params.toList := by
  rw [params11]
  intro us hl hty
  obtain ⟨l, s, rfl, h⟩ := args2s hl hty
  exact law_of (law11_call l s h)
end Go.Proofs.YtapibckmdpdljaaDoor.M2

/- PathEndless: where a path leads nowhere, all steps only move; and where it leads somewhere, it has fewer steps than there are instructions. No condition. -/
namespace Go.Proofs.YtapibckmdpdljaaDoor.M2
open Go Go.ChangeShapes Go.WideShapes Go.ChangeAt Go.RowKit

theorem types11 : Tryd.f11.resultTypes = #[4] := by kernel_rfl
set_option maxRecDepth 100000 in
theorem pathEndless_row (law : Law 11 Tryd.f11.params.toList) : Rows.PathEndlessSaid :=
  OpenClaim.holds_of_wide 11 Tryd.f11 rfl rfl rfl rfl rfl rfl rfl ⟨rfl, rfl, rfl, rfl, rfl⟩ rfl rfl rfl rfl rfl (by kernel_rfl) Tryd.func11 (by kernel_rfl)
    (of_decide_eq_true (by kernel_rfl)) (by unfold Func.isWrapper; first | (rw [if_pos (by decide +kernel)]; kernel_rfl) | (rw [if_neg (by decide +kernel)]; exact ⟨rfl, rfl⟩))
    (fun os started H enc _ => lifted (s := Rows.pathEndlessSpec) law os started enc (by kernel_rfl) Tryd.func11 rfl (by kernel_rfl) types11 bool4
      (fun ds h => by
        have h1 : ds.length = 2 := h
        match ds, h1 with
        | [d0, d1], _ => rfl)
      (ChangeSpec.witness_shaped (enc := enc) (C := Tryd.checked) (os := os) (X := fun w _ => laidMetH Tryd.prog laid1 w) false (World.doorLaid Tryd.prog 400 os) #[.slice none 0 0, .agg ((List.replicate 24 [Value.bool false, Value.int .i64 0]).flatten ++ [Value.slice none 0 0, Value.int .i64 0, Value.int .i64 0]).toArray] 8 rfl (World.shaped_of_RefB (by kernel_rfl) (by kernel_rfl)) (by kernel_rfl) (by kernel_rfl) (by kernel_rfl) (door_met os _)))
theorem pathEndless_card (law : Law 11 Tryd.f11.params.toList) : Rows.PathEndlessCardSaid :=
  Claim7.holds_tied_plain_at .later [] [.data] true (true, "13d9c7b0cf76a0ce59a956f6bcabe4d883017d16fd43b76b602544cf0bc1a375") true
    (pathEndless_row law) (fun _ h => by cases h) (by kernel_rfl) (fun _ h => by cases h) pathEndless_row_tie rfl ⟨rfl, rfl⟩ (by kernel_rfl) rfl
    (fun f fn hf hfn => by
      obtain rfl : f = 11 := Option.some.inj ((show Tryd.prog.funcNamed "joinery/joinerylaw09.PathEndless" = some 11 by kernel_rfl).symm.trans hf) |>.symm
      obtain rfl : fn = Tryd.f11 := (Option.some.inj (Tryd.func11.symm.trans hfn)).symm
      exact ⟨by kernel_rfl, fun j t ht => by
        rw [Tryd.params11] at ht
        have hm : t ∈ [22, 79] := by simpa using Array.mem_of_getElem? ht
        have hall : ([22, 79].all fun u => !Tryd.prog.wantsStandIn u) = true := by kernel_rfl
        exact (show Tryd.prog.wantsStandIn t = false by simpa using List.all_eq_true.1 hall t hm)⟩)
    (by kernel_rfl)
end Go.Proofs.YtapibckmdpdljaaDoor.M2
namespace Go.Proofs.YtapibckmdpdljaaDoor
theorem pathEndless_said : Rows.PathEndlessCardSaid := M2.pathEndless_card M2.law11
end Go.Proofs.YtapibckmdpdljaaDoor
