/- The law EngineAnswers in M2. -/
import Derived.Test.YtfmhnfimkpffnaaDoorCl
import Derived.Test.YtfmhnfimkpffnaaDoorCg
set_option linter.unusedSimpArgs false
set_option linter.unusedVariables false
set_option linter.unusedSectionVars false
namespace Go.Proofs.YtfmhnfimkpffnaaDoor.M2
open Go
attribute [local simp] ev1 M2.get put A.ev ld sub part elems bin arith un opt idx fillC cellsO splice over newOb sto fillR laidOwn appTo appRow touch touchN touchM touchE touchA plainU flatU plainAs allM rowAt stoRow accM_nil accM_cons accMM_nil accMM_cons frz_int frz_bool frz_str frz_slt frz_nils frz_nilI frz_nilF frz_own frzRow_row frzRow_frow Ob.blw blw_bool blw_int blw_str blw_nils blw_nilI blw_nilF blw_nilp blw_nilm blw_sl blw_own blw_bp blw_rp blw_mp blw_it params
attribute [local simp] frz_agg frz_tup frz_iface frzS_agg frzS_iface accMS_cons frzS_int frzS_bool frzS_str frzS_slt frzS_nils frzS_nilI beq_dec bne_dec
attribute [local irreducible] Typed TypedA
theorem typed_u8 {P : Program} {t : TypeId} (hu : P.underlying t = some (.int .u8)) {d : Nat} {us : List U} (h : Typed P (d + 1) t us) : ∃ m : Nat, us = [.int .u8 m] ∧ m < 256 := by
  unfold Typed at h
  simp only [hu] at h
  obtain ⟨n, e, hw⟩ := h
  simp [Lit.wf, IntKind.min, IntKind.max, IntKind.bits, IntKind.signed] at hw
  obtain ⟨k, rfl⟩ := Int.eq_ofNat_of_zero_le hw.1
  exact ⟨k, e, by omega⟩
theorem agg5 : aggT Tryd.prog 5 = false := by kernel_rfl
theorem runE_fuel (x : FForm) (c d : Cs) (hR : c.R = d.R) (ha : c.ans = d.ans) : ∀ (n k : Nat) (s : EnS), runE x c n k s = runE x d n k s
  | 0, k, s => rfl
  | n + 1, k, s => by
    have hd : doE c s (x.nodes.getD s.pos.toNat default) = doE d s (x.nodes.getD s.pos.toNat default) := by
      unfold doE
      rw [argsE_ans c d hR, ha]
    rw [runE, runE]
    dsimp only
    rw [hd, runE_fuel x c d hR ha n]
    unfold onE
    rw [goesE_ans x c d hR]
theorem newE_fuel (x : FForm) (c d : Cs) (hR : c.R = d.R) (hh : c.h = d.h) : newE x c = newE x d := by
  unfold newE
  rw [goesE_ans x c d hR, hh]
set_option maxHeartbeats 16000000 in
theorem law3_call (x : FForm) (hx : Big x) (c : Cs) (hR : c.R.length = 8) (m : Nat) (hm : m < 256) : Cl T n_joinerylaw15_EngineGrows [formU x, .agg (csU c), .int .u8 m] [] (.bool true) [] := by
  have h1 := fun st => great15_call x hx c hR st
  obtain ⟨R, h, ans, fuel, lq⟩ := c
  obtain ⟨r0, r1, r2, r3, r4, r5, r6, r7, rfl⟩ := R8 hR
  refine Wp.pure (fn := c_joinerylaw15_EngineGrows) rfl rfl rfl («as» := [formU x, .agg (csU ⟨[r0, r1, r2, r3, r4, r5, r6, r7], h, ans, fuel, lq⟩), .int .u8 m]) rfl ?_
  have kno := knows15_call
  have tk3 : (formC x).take 3 = formC x := rfl
  cases hg : great15F x ⟨[r0, r1, r2, r3, r4, r5, r6, r7], h, ans, fuel, lq⟩ with
  | true =>
    rw [hg] at h1
    (all_goals have := fa (a2 @csU.eq_1 tk3); repeat' first | refine Wp.v ?_ | (apply Wp.call; exact h1 _) | (apply Wp.call; exact kno _) | (refine Wp.c ?_ ?_ <;> intro))
    refine Wp.ret ?_; simp [Res, resU, res1, c_joinerylaw15_EngineGrows]
  | false =>
    rw [hg] at h1
    have hg2 := hg
    unfold great15F at hg2
    simp only [Bool.or_eq_false_iff, Bool.and_eq_false_iff, decide_eq_false_iff_not] at hg2
    have hs := small_of hg2.1
    have h2 := fun st => fair15_call x hs ⟨[r0, r1, r2, r3, r4, r5, r6, r7], h, ans, fuel, lq⟩ hR st
    cases hf : rightF x && csRight ⟨[r0, r1, r2, r3, r4, r5, r6, r7], h, ans, fuel, lq⟩ with
    | false =>
      rw [hf] at h2
      (all_goals have := fa (a2 @csU.eq_1 tk3); repeat' first | refine Wp.v ?_ | (apply Wp.call; exact h1 _) | (apply Wp.call; exact h2 _) | (apply Wp.call; exact kno _) | (refine Wp.c ?_ ?_ <;> intro))
      refine Wp.ret ?_; simp [Res, resU, res1, c_joinerylaw15_EngineGrows]
    | true =>
      rw [hf] at h2
      obtain ⟨hr, hc⟩ := Bool.and_eq_true_iff.1 hf
      have hc2 := hc
      unfold csRight at hc2
      simp only [Bool.and_eq_true, decide_eq_true_eq] at hc2
      have h3 := fun st => engRun_call x ⟨[r0, r1, r2, r3, r4, r5, r6, r7], h, ans, fuel, lq⟩ hR hs st
      have h4 := fun st => engRun_call x ⟨[r0, r1, r2, r3, r4, r5, r6, r7], h, ans, fuel + m, lq⟩ hR hs st
      have hc0 : csRight ⟨[r0, r1, r2, r3, r4, r5, r6, r7], h, ans, fuel + m, lq⟩ = true := by
        unfold csRight
        simp only [Bool.and_eq_true, decide_eq_true_eq]
        exact ⟨hc2.1, hc2.2.1, by omega, by omega⟩
      rw [hr, hc0] at h4
      rw [hr, hc] at h3
      simp only [Bool.and_self, if_true] at h3 h4
      obtain ⟨q1, q2, q3⟩ := runE_more x ⟨[r0, r1, r2, r3, r4, r5, r6, r7], h, ans, fuel, lq⟩ m fuel.toNat 0 (newE x ⟨[r0, r1, r2, r3, r4, r5, r6, r7], h, ans, fuel, lq⟩)
      have e2 : runE x ⟨[r0, r1, r2, r3, r4, r5, r6, r7], h, ans, fuel, lq⟩ (fuel.toNat + m) 0 (newE x ⟨[r0, r1, r2, r3, r4, r5, r6, r7], h, ans, fuel, lq⟩) = engF x ⟨[r0, r1, r2, r3, r4, r5, r6, r7], h, ans, fuel + m, lq⟩ := by
        rw [show fuel.toNat + m = (fuel + m).toNat by omega]
        show _ = runE x ⟨[r0, r1, r2, r3, r4, r5, r6, r7], h, ans, fuel + m, lq⟩ (fuel + m).toNat 0 (newE x ⟨[r0, r1, r2, r3, r4, r5, r6, r7], h, ans, fuel + m, lq⟩)
        rw [runE_fuel x ⟨[r0, r1, r2, r3, r4, r5, r6, r7], h, ans, fuel, lq⟩ ⟨[r0, r1, r2, r3, r4, r5, r6, r7], h, ans, fuel + m, lq⟩ rfl rfl, newE_fuel x ⟨[r0, r1, r2, r3, r4, r5, r6, r7], h, ans, fuel, lq⟩ ⟨[r0, r1, r2, r3, r4, r5, r6, r7], h, ans, fuel + m, lq⟩ rfl rfl]
      rw [e2] at q1 q2 q3
      have q1 : (engF x ⟨[r0, r1, r2, r3, r4, r5, r6, r7], h, ans, fuel, lq⟩).ev <+: (engF x ⟨[r0, r1, r2, r3, r4, r5, r6, r7], h, ans, fuel + m, lq⟩).ev := q1
      have q2 : (engF x ⟨[r0, r1, r2, r3, r4, r5, r6, r7], h, ans, fuel, lq⟩).steps ≤ (engF x ⟨[r0, r1, r2, r3, r4, r5, r6, r7], h, ans, fuel + m, lq⟩).steps := q2
      have q3 : (engF x ⟨[r0, r1, r2, r3, r4, r5, r6, r7], h, ans, fuel, lq⟩).how ≠ 0 → engF x ⟨[r0, r1, r2, r3, r4, r5, r6, r7], h, ans, fuel + m, lq⟩ = engF x ⟨[r0, r1, r2, r3, r4, r5, r6, r7], h, ans, fuel, lq⟩ := q3
      obtain ⟨z1, z2⟩ := engF_sz x hc
      clear e2
      generalize engF x ⟨[r0, r1, r2, r3, r4, r5, r6, r7], h, ans, fuel, lq⟩ = t at *
      generalize engF x ⟨[r0, r1, r2, r3, r4, r5, r6, r7], h, ans, fuel + m, lq⟩ = u at *
      have hb : ∀ st, Cl T n_joineryref08_Begins [.sl true (t.ev.map evnU), .sl true (u.ev.map evnU)] st (.bool (begins t.ev u.ev)) st := rbegins_call true true t.ev u.ev (by omega)
      rw [begins_iff.2 q1] at hb
      have h5 := fun st => tsame_call t u (by omega) (by omega) st
      have wm : IntKind.i64.wrap (m : Int) = m := wrap_id (by omega) (by omega)
      have wf : IntKind.i64.wrap (fuel + m) = fuel + m := wrap_id (by omega) (by omega)
      have dl : decide (u.steps < t.steps) = false := decide_eq_false (by omega)
      by_cases d0 : t.how = 0
      · (all_goals have := fa (a5 @csU.eq_1 tk3 @trU.eq_1 wm (a3 wf dl d0)); repeat' first | refine Wp.v ?_ | (apply Wp.call; exact h1 _) | (apply Wp.call; exact h2 _) | (apply Wp.call; exact h3 _) | (apply Wp.call; exact h4 _) | (apply Wp.call; exact hb _) | (apply Wp.call; exact kno _) | (refine Wp.c ?_ ?_ <;> intro))
        refine Wp.ret ?_; simp [Res, resU, res1, c_joinerylaw15_EngineGrows]
      · rw [q3 d0, sameTF_self] at h5
        rw [q3 d0] at h4 hb dl
        clear q1 q2 q3
        (all_goals have := fa (a5 @csU.eq_1 tk3 @trU.eq_1 wm (a3 wf dl d0)); repeat' first | refine Wp.v ?_ | (apply Wp.call; exact h1 _) | (apply Wp.call; exact h2 _) | (apply Wp.call; exact h3 _) | (apply Wp.call; exact h4 _) | (apply Wp.call; exact hb _) | (apply Wp.call; exact h5 _) | (apply Wp.call; exact kno _) | (refine Wp.c ?_ ?_ <;> intro))
        refine Wp.ret ?_; simp [Res, resU, res1, c_joinerylaw15_EngineGrows]
theorem law3 : Law 3 Tryd.f3.params.toList := by
  intro us hl hty
  match us, hl with
  | [u, v, w], _ =>
    obtain ⟨x, rfl, hx, _⟩ := typed_formA (hty 0 25 u rfl rfl)
    obtain ⟨c, rfl, hR, _⟩ := typed_caseA (hty 1 29 v rfl rfl)
    obtain ⟨m, e, hm⟩ := typed_u8 (d := 7) Tryd.underlying5 ((hty 2 5 w rfl rfl).one agg5)
    injection e with e
    subst e
    exact law_of (law3_call x hx c hR m hm)
set_option maxHeartbeats 16000000 in
theorem law4_call (x : FForm) (hx : Big x) (c : Cs) (hR : c.R.length = 8) : Cl T n_joinerylaw15_EngineNone [formU x, .agg (csU c)] [] (.bool true) [] := by
  have h1 := fun st => great15_call x hx c hR st
  obtain ⟨R, h, ans, fuel, lq⟩ := c
  obtain ⟨r0, r1, r2, r3, r4, r5, r6, r7, rfl⟩ := R8 hR
  refine Wp.pure (fn := c_joinerylaw15_EngineNone) rfl rfl rfl («as» := [formU x, .agg (csU ⟨[r0, r1, r2, r3, r4, r5, r6, r7], h, ans, fuel, lq⟩)]) rfl ?_
  have kno := knows15_call
  have tk3 : (formC x).take 3 = formC x := rfl
  cases hg : great15F x ⟨[r0, r1, r2, r3, r4, r5, r6, r7], h, ans, fuel, lq⟩ with
  | true =>
    rw [hg] at h1
    (all_goals have := fa (a2 @csU.eq_1 tk3); repeat' first | refine Wp.v ?_ | (apply Wp.call; exact h1 _) | (apply Wp.call; exact kno _) | (refine Wp.c ?_ ?_ <;> intro))
    refine Wp.ret ?_; simp [Res, resU, res1, c_joinerylaw15_EngineNone]
  | false =>
    rw [hg] at h1
    have hg2 := hg
    unfold great15F at hg2
    simp only [Bool.or_eq_false_iff, Bool.and_eq_false_iff, decide_eq_false_iff_not] at hg2
    have hs := small_of hg2.1
    have h2 := fun st => fair15_call x hs ⟨[r0, r1, r2, r3, r4, r5, r6, r7], h, ans, fuel, lq⟩ hR st
    cases hf : rightF x && csRight ⟨[r0, r1, r2, r3, r4, r5, r6, r7], h, ans, fuel, lq⟩ with
    | false =>
      rw [hf] at h2
      (all_goals have := fa (a2 @csU.eq_1 tk3); repeat' first | refine Wp.v ?_ | (apply Wp.call; exact h1 _) | (apply Wp.callG; exact rfl; exact h2 _) | (apply Wp.call; exact h2 _) | (apply Wp.call; exact kno _) | (refine Wp.c ?_ ?_ <;> intro))
      refine Wp.ret ?_; simp [Res, resU, res1, c_joinerylaw15_EngineNone]
    | true =>
      rw [hf] at h2
      obtain ⟨hr, hc⟩ := Bool.and_eq_true_iff.1 hf
      have hc2 := hc
      unfold csRight at hc2
      simp only [Bool.and_eq_true, decide_eq_true_eq] at hc2
      have h3 := fun st => engRun_call x ⟨[r0, r1, r2, r3, r4, r5, r6, r7], h, ans, fuel, lq⟩ hR hs st
      have h4 := fun st => engRun_call x ⟨[r0, r1, r2, r3, r4, r5, r6, r7], h, ans, 0, lq⟩ hR hs st
      have hc0 : csRight ⟨[r0, r1, r2, r3, r4, r5, r6, r7], h, ans, 0, lq⟩ = true := by
        unfold csRight
        simp only [Bool.and_eq_true, decide_eq_true_eq]
        exact ⟨hc2.1, hc2.2.1, by decide, by decide⟩
      rw [hr, hc0] at h4
      rw [hr, hc] at h3
      simp only [Bool.and_self, if_true] at h3 h4
      have e0 : engF x ⟨[r0, r1, r2, r3, r4, r5, r6, r7], h, ans, 0, lq⟩ = ⟨[], 0, 0, [], 0, 0⟩ := rfl
      rw [e0] at h4
      obtain ⟨_, q1, q2, q3⟩ := runE_ev x ⟨[r0, r1, r2, r3, r4, r5, r6, r7], h, ans, fuel, lq⟩ fuel.toNat 0 (newE x ⟨[r0, r1, r2, r3, r4, r5, r6, r7], h, ans, fuel, lq⟩)
      have p2 : (engF x ⟨[r0, r1, r2, r3, r4, r5, r6, r7], h, ans, fuel, lq⟩).steps ≤ fuel := by
        have : (engF x ⟨[r0, r1, r2, r3, r4, r5, r6, r7], h, ans, fuel, lq⟩).steps ≤ ((0 : Nat) : Int) + (fuel.toNat : Nat) := q2
        omega
      have p3 : (engF x ⟨[r0, r1, r2, r3, r4, r5, r6, r7], h, ans, fuel, lq⟩).work = (engF x ⟨[r0, r1, r2, r3, r4, r5, r6, r7], h, ans, fuel, lq⟩).steps := q3
      generalize engF x ⟨[r0, r1, r2, r3, r4, r5, r6, r7], h, ans, fuel, lq⟩ = t at *
      obtain ⟨ev, how, val, out, steps, work⟩ := t
      simp only at p2 p3
      subst p3
      have d2 : decide (work ≤ fuel) = true := decide_eq_true p2
      (all_goals have := fa (a5 @csU.eq_1 tk3 @trU.eq_1 d2 @intsU.eq_1); repeat' first | refine Wp.v ?_ | (apply Wp.call; exact h1 _) | (apply Wp.callG; exact rfl; exact h2 _) | (apply Wp.call; exact h2 _) | (apply Wp.call; exact h3 _) | (apply Wp.call; exact h4 _) | (apply Wp.call; exact kno _) | (refine Wp.c ?_ ?_ <;> intro))
      refine Wp.ret ?_; simp [Res, resU, res1, c_joinerylaw15_EngineNone]
theorem law4 : Law 4 Tryd.f4.params.toList := by
  intro us hl hty
  match us, hl with
  | [u, v], _ =>
    obtain ⟨x, rfl, hx, _⟩ := typed_formA (hty 0 25 u rfl rfl)
    obtain ⟨c, rfl, hR, _⟩ := typed_caseA (hty 1 29 v rfl rfl)
    exact law_of (law4_call x hx c hR)
theorem Cl.brw {f : Nat} {fn : F} {args bs : List U} {st : List Ob} {u : U} {st' : List Ob} (hT : T f = some fn) (hp : fn.pure = true) (hl : args.length = bs.length) (ha : M2.allM (brwA frzD st) args = some bs) (hi : M2.allM (brwA frzD st) bs = some bs) (h : Cl T f bs st u st') : Cl T f args st u st' :=
  h.mono fun n h => by
    simp only [M2.call, callF, hT, Option.bind_some, hp, if_true, ha, hi, hl] at h ⊢
    exact h
theorem agg27 : aggT Tryd.prog 27 = false := by kernel_rfl
set_option maxHeartbeats 16000000 in
theorem law5_call (x : FForm) (hx : Big x) (c : Cs) (hR : c.R.length = 8) (more : List Int) : Cl T n_joinerylaw15_EngineAnswers [formU x, .agg (csU c), intsU more] [] (.bool true) [] := by
  have h1 := fun st => great15_call x hx c hR st
  obtain ⟨R, h, ans, fuel, lq⟩ := c
  obtain ⟨r0, r1, r2, r3, r4, r5, r6, r7, rfl⟩ := R8 hR
  refine Wp.pure (fn := c_joinerylaw15_EngineAnswers) rfl rfl rfl («as» := [formU x, .agg (csU ⟨[r0, r1, r2, r3, r4, r5, r6, r7], h, ans, fuel, lq⟩), intsU more]) rfl ?_
  have kno := knows15_call
  have tk3 : (formC x).take 3 = formC x := rfl
  cases hg : great15F x ⟨[r0, r1, r2, r3, r4, r5, r6, r7], h, ans, fuel, lq⟩ with
  | true =>
    rw [hg] at h1
    (all_goals have := fa (a2 @csU.eq_1 tk3); repeat' first | refine Wp.v ?_ | (apply Wp.call; exact h1 _) | (apply Wp.call; exact kno _) | (refine Wp.c ?_ ?_ <;> intro))
    refine Wp.ret ?_; simp [Res, resU, res1, c_joinerylaw15_EngineAnswers]
  | false =>
    rw [hg] at h1
    have e0 : decide ((1000 : Int) < more.length) = decide (1000 < more.length) := decide_eq_decide.2 (by omega)
    cases dm : decide (1000 < more.length) with
    | true =>
      rw [dm] at e0
      (all_goals have := fa (a3 @csU.eq_1 tk3 e0); repeat' first | refine Wp.v ?_ | (apply Wp.call; exact h1 _) | (apply Wp.call; exact kno _) | (refine Wp.c ?_ ?_ <;> intro))
      refine Wp.ret ?_; simp [Res, resU, res1, c_joinerylaw15_EngineAnswers]
    | false =>
      rw [dm] at e0
      have hm := of_decide_eq_false dm
      have hg2 := hg
      unfold great15F at hg2
      simp only [Bool.or_eq_false_iff, Bool.and_eq_false_iff, decide_eq_false_iff_not] at hg2
      have hs := small_of hg2.1
      have h2 := fun st => fair15_call x hs ⟨[r0, r1, r2, r3, r4, r5, r6, r7], h, ans, fuel, lq⟩ hR st
      cases hf : rightF x && csRight ⟨[r0, r1, r2, r3, r4, r5, r6, r7], h, ans, fuel, lq⟩ with
      | false =>
        rw [hf] at h2
        (all_goals have := fa (a3 @csU.eq_1 tk3 e0); repeat' first | refine Wp.v ?_ | (apply Wp.call; exact h1 _) | (apply Wp.call; exact h2 _) | (apply Wp.call; exact kno _) | (refine Wp.c ?_ ?_ <;> intro))
        refine Wp.ret ?_; simp [Res, resU, res1, c_joinerylaw15_EngineAnswers]
      | true =>
        rw [hf] at h2
        obtain ⟨hr, hc⟩ := Bool.and_eq_true_iff.1 hf
        have hc2 := hc
        unfold csRight at hc2
        simp only [Bool.and_eq_true, decide_eq_true_eq] at hc2
        have h3 := fun st => engRun_call x ⟨[r0, r1, r2, r3, r4, r5, r6, r7], h, ans, fuel, lq⟩ hR hs st
        have h4 := fun st => engRun_call x ⟨[r0, r1, r2, r3, r4, r5, r6, r7], h, ans ++ more, fuel, false⟩ hR hs st
        have hc0 : csRight ⟨[r0, r1, r2, r3, r4, r5, r6, r7], h, ans ++ more, fuel, false⟩ = true := by
          unfold csRight
          simp only [Bool.and_eq_true, decide_eq_true_eq, List.length_append]
          exact ⟨hc2.1, by omega, hc2.2.2⟩
        rw [hr, hc0] at h4
        rw [hr, hc] at h3
        simp only [Bool.and_self, if_true] at h3 h4
        obtain ⟨q1, q3⟩ := runE_ans x ⟨[r0, r1, r2, r3, r4, r5, r6, r7], h, ans, fuel, lq⟩ more fuel.toNat 0 (newE x ⟨[r0, r1, r2, r3, r4, r5, r6, r7], h, ans, fuel, lq⟩)
        have e2 : runE x ⟨[r0, r1, r2, r3, r4, r5, r6, r7], h, ans ++ more, fuel, lq⟩ fuel.toNat 0 (newE x ⟨[r0, r1, r2, r3, r4, r5, r6, r7], h, ans, fuel, lq⟩) = engF x ⟨[r0, r1, r2, r3, r4, r5, r6, r7], h, ans ++ more, fuel, false⟩ := by
          show _ = runE x ⟨[r0, r1, r2, r3, r4, r5, r6, r7], h, ans ++ more, fuel, false⟩ fuel.toNat 0 (newE x ⟨[r0, r1, r2, r3, r4, r5, r6, r7], h, ans ++ more, fuel, false⟩)
          rw [runE_fuel x ⟨[r0, r1, r2, r3, r4, r5, r6, r7], h, ans ++ more, fuel, lq⟩ ⟨[r0, r1, r2, r3, r4, r5, r6, r7], h, ans ++ more, fuel, false⟩ rfl rfl, newE_fuel x ⟨[r0, r1, r2, r3, r4, r5, r6, r7], h, ans, fuel, lq⟩ ⟨[r0, r1, r2, r3, r4, r5, r6, r7], h, ans ++ more, fuel, false⟩ rfl rfl]
        simp only at q1 q3
        rw [e2] at q1 q3
        have q1 : (engF x ⟨[r0, r1, r2, r3, r4, r5, r6, r7], h, ans, fuel, lq⟩).ev <+: (engF x ⟨[r0, r1, r2, r3, r4, r5, r6, r7], h, ans ++ more, fuel, false⟩).ev := q1
        have q3 : (engF x ⟨[r0, r1, r2, r3, r4, r5, r6, r7], h, ans, fuel, lq⟩).how ≠ 5 → engF x ⟨[r0, r1, r2, r3, r4, r5, r6, r7], h, ans ++ more, fuel, false⟩ = engF x ⟨[r0, r1, r2, r3, r4, r5, r6, r7], h, ans, fuel, lq⟩ := q3
        obtain ⟨z1, z2⟩ := engF_sz x hc
        clear e2
        generalize engF x ⟨[r0, r1, r2, r3, r4, r5, r6, r7], h, ans, fuel, lq⟩ = t at *
        generalize engF x ⟨[r0, r1, r2, r3, r4, r5, r6, r7], h, ans ++ more, fuel, false⟩ = u at *
        have hb : ∀ st, Cl T n_joineryref08_Begins [.sl true (t.ev.map evnU), .sl true (u.ev.map evnU)] st (.bool (begins t.ev u.ev)) st := rbegins_call true true t.ev u.ev (by omega)
        rw [begins_iff.2 q1] at hb
        have h5 := fun st => tsame_call t u (by omega) (by omega) st
        have hA1 : ∀ (a b d : Ob) (cl : Nat → List U → List Ob → Option (U × List Ob)) (e' : Env) (s' x' : A) (nid : Nat), s'.ev e' = .own 3 0 → x'.ev e' = askU lq ans → ev1 cl e' [a, b, d, Ob.row 2 1 false []] nid (.append 2 1 8 false s' x') = some (.own 3 ans.length, [a, b, d, Ob.row 2 1 false (ans.map intC)]) := by
          intro a b d cl e' s' x' nid hs' hx'
          have := app_el intC 1 (fun _ => rfl) (fun _ _ => rfl) cl e' [a, b, d, Ob.row 2 1 false []] 3 2 8 [] ans (by simp; omega) s' x' hs' (by rw [hx']; rfl) rfl nid
          rw [this]
          rfl
        have hA2 : ∀ (a b d : Ob) (cl : Nat → List U → List Ob → Option (U × List Ob)) (e' : Env) (s' x' : A) (nid : Nat), s'.ev e' = .own 3 ans.length → x'.ev e' = intsU more → ev1 cl e' [a, b, d, Ob.row 2 1 false (ans.map intC)] nid (.append 2 1 8 false s' x') = some (.own 3 (ans ++ more).length, [a, b, d, Ob.row 2 1 false ((ans ++ more).map intC)]) := by
          intro a b d cl e' s' x' nid hs' hx'
          have := app_el intC 1 (fun _ => rfl) (fun _ _ => rfl) cl e' [a, b, d, Ob.row 2 1 false (ans.map intC)] 3 2 8 ans more (by omega) s' x' hs' (by rw [hx']; rfl) rfl nid
          rw [this]
          rfl
        have h6 : ∀ (a b d : Ob), Cl T n_engine_Run [formU x, .agg [i64 r0, i64 r1, i64 r2, i64 r3, i64 r4, i64 r5, i64 r6, i64 r7, intsU h, .own 3 (ans ++ more).length, i64 fuel]] [a, b, d, Ob.row 2 1 false ((ans ++ more).map intC)] (.tup [.agg (trU u), i64 0]) [a, b, d, Ob.row 2 1 false ((ans ++ more).map intC)] := by
          intro a b d
          refine Cl.brw (fn := c_engine_Run) rfl rfl (bs := [formU x, .agg (csU ⟨[r0, r1, r2, r3, r4, r5, r6, r7], h, ans ++ more, fuel, false⟩)]) rfl ?_ ?_ (h4 _)
          · have hfm : ∀ st, brwA frzD st (formU x) = some (formU x) := fun _ => rfl
            have i1 : ∀ n st, M2.brw 11 st (i64 n) = some (i64 n) := fun _ _ => rfl
            have i3 : ∀ p n st, M2.brw 11 st (.sl p n) = some (.sl p n) := fun _ _ _ => rfl
            have i4 : M2.brw 11 [a, b, d, Ob.row 2 1 false ((ans ++ more).map intC)] (.own 3 (ans ++ more).length) = some (.sl false ((ans ++ more).map intC)) := by
              rw [M2.brw]
              simp only [List.getElem?_cons_succ, List.getElem?_cons_zero, List.length_map, if_true]
            have i5 : brwA frzD [a, b, d, Ob.row 2 1 false ((ans ++ more).map intC)] (.agg [i64 r0, i64 r1, i64 r2, i64 r3, i64 r4, i64 r5, i64 r6, i64 r7, intsU h, .own 3 (ans ++ more).length, i64 fuel]) = some (.agg (csU ⟨[r0, r1, r2, r3, r4, r5, r6, r7], h, ans ++ more, fuel, false⟩)) := by
              simp only [brwA, frzD]
              rw [M2.brw]
              simp only [M2.allM, i1, i3, i4, intsU, Option.bind_some]
              rfl
            simp only [M2.allM, hfm, i5, Option.bind_some]
          · rfl
        clear h4 hc0
        generalize ans ++ more = aa at *
        by_cases d0 : t.how = 5
        · (all_goals have := fa (a4 @csU.eq_1 tk3 @trU.eq_1 e0); repeat' first | refine Wp.v ?_ | (apply Wp.call; exact h1 _) | (apply Wp.call; exact h2 _) | (apply Wp.call; exact h3 _) | (refine Wp.c ?_ ?_ <;> intro))
          refine Wp.op (Evt.all fun n => hA1 _ _ _ _ _ _ _ _ rfl rfl) ?_
          (repeat' first | refine Wp.u ?_ | (refine Wp.c ?_ ?_ <;> intro))
          refine Wp.op (Evt.all fun n => hA2 _ _ _ _ _ _ _ _ rfl rfl) ?_
          (all_goals have := fa (a4 @csU.eq_1 tk3 @trU.eq_1 d0); repeat' first | refine Wp.v ?_ | (apply Wp.call; exact h6 _ _ _) | (refine Wp.c ?_ ?_ <;> intro))
          clear h6
          (all_goals have := fa (a4 @csU.eq_1 tk3 @trU.eq_1 d0); repeat' first | refine Wp.v ?_ | (apply Wp.call; exact hb _) | (apply Wp.call; exact kno _) | (refine Wp.c ?_ ?_ <;> intro))
          refine Wp.ret ?_; simp [Res, resU, res1, c_joinerylaw15_EngineAnswers]
        · rw [q3 d0, sameTF_self] at h5
          rw [q3 d0] at h6 hb
          clear q1 q3
          (all_goals have := fa (a4 @csU.eq_1 tk3 @trU.eq_1 e0); repeat' first | refine Wp.v ?_ | (apply Wp.call; exact h1 _) | (apply Wp.call; exact h2 _) | (apply Wp.call; exact h3 _) | (refine Wp.c ?_ ?_ <;> intro))
          refine Wp.op (Evt.all fun n => hA1 _ _ _ _ _ _ _ _ rfl rfl) ?_
          (repeat' first | refine Wp.u ?_ | (refine Wp.c ?_ ?_ <;> intro))
          refine Wp.op (Evt.all fun n => hA2 _ _ _ _ _ _ _ _ rfl rfl) ?_
          (all_goals have := fa (a4 @csU.eq_1 tk3 @trU.eq_1 d0); repeat' first | refine Wp.v ?_ | (apply Wp.call; exact h6 _ _ _) | (refine Wp.c ?_ ?_ <;> intro))
          clear h6
          (all_goals have := fa (a4 @csU.eq_1 tk3 @trU.eq_1 d0); repeat' first | refine Wp.v ?_ | (apply Wp.call; exact hb _) | (apply Wp.call; exact h5 _) | (apply Wp.call; exact kno _) | (refine Wp.c ?_ ?_ <;> intro))
          refine Wp.ret ?_; simp [Res, resU, res1, c_joinerylaw15_EngineAnswers]
theorem law5 : Law 5 Tryd.f5.params.toList := by
  intro us hl hty
  match us, hl with
  | [u, v, w], _ =>
    obtain ⟨x, rfl, hx, _⟩ := typed_formA (hty 0 25 u rfl rfl)
    obtain ⟨c, rfl, hR, _⟩ := typed_caseA (hty 1 29 v rfl rfl)
    obtain ⟨more, rfl, _⟩ := typed_ints (d := 6) ((hty 2 27 w rfl rfl).one agg27)
    exact law_of (law5_call x hx c hR more)
end Go.Proofs.YtfmhnfimkpffnaaDoor.M2
