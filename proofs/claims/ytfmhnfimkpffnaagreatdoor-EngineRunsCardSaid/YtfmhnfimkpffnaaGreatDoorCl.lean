/- Typed arguments: cases. -/
import Derived.Test.YtfmhnfimkpffnaaGreatDoorCj
import Derived.Test.YtfmhnfimkpffnaaGreatDoorCk
import Derived.Test.YtfmhnfimkpffnaaGreatDoorCh
import Derived.Test.YtfmhnfimkpffnaaGreatDoorCf
set_option linter.unusedSimpArgs false
set_option linter.unusedVariables false
set_option linter.unusedSectionVars false
namespace Go.Proofs.YtfmhnfimkpffnaaGreatDoor.M2
open Go
attribute [local simp] ev1 M2.get put A.ev ld sub part elems bin arith un opt idx fillC cellsO splice over newOb sto fillR laidOwn appTo appRow touch touchN touchM touchE touchA plainU flatU plainAs allM rowAt stoRow accM_nil accM_cons accMM_nil accMM_cons frz_int frz_bool frz_str frz_slt frz_nils frz_nilI frz_nilF frz_own frzRow_row frzRow_frow Ob.blw blw_bool blw_int blw_str blw_nils blw_nilI blw_nilF blw_nilp blw_nilm blw_sl blw_own blw_bp blw_rp blw_mp blw_it params
attribute [local simp] frz_agg frz_tup frz_iface frzS_agg frzS_iface accMS_cons frzS_int frzS_bool frzS_str frzS_slt frzS_nils frzS_nilI beq_dec bne_dec
def r6S (p q : Bool) (a b : List Int) (i : Nat) : S := ⟨[(0, heapU p a), (1, heapU q b), (5, i64 i)], []⟩
theorem same_take {a b : List Int} {i : Nat} (hi : ¬ (i < a.length ∧ i < b.length)) (hP : ∀ j, j < i → a[j]? = b[j]?) : decide ((a.length : Int) = b.length) = decide (a = b) := by
  by_cases h : a.length = b.length
  · rw [decide_eq_true (by omega), decide_eq_true (eq_all h fun j hj => hP j (by omega))]
  · rw [decide_eq_false (by omega), decide_eq_false (fun e => h (by rw [e]))]
set_option maxHeartbeats 4000000 in
theorem rsame_call (p q : Bool) (a b : List Int) (ha : a.length ≤ 100000) (st : List Ob) : Cl T n_joineryref06_Same [heapU p a, heapU q b] st (.bool (decide (a = b))) st := by
  refine Wp.pure (fn := c_joineryref06_Same) rfl rfl rfl («as» := [heapU p a, heapU q b]) rfl ?_
  (all_goals have := fa @heapU.eq_1; repeat' first | refine Wp.v ?_ | (refine Wp.c ?_ ?_ <;> intro))
  refine (show Wp T (.loop c_joineryref06_Same_L1) (r6S p q a b 0) _ _ _ from Wp.count (min a.length b.length) (fun i => r6S p q a b i) (fun i => ∀ j, j < i → a[j]? = b[j]?) (fun i hi hP => ?_) (fun hP => ?_) 0 (by omega) (fun j hj => by omega))
  · have hia : i < a.length := by omega
    have hib : i < b.length := by omega
    have hi' : (i : Int) < a.length := by omega
    have hib' : (i : Int) < b.length := by omega
    have ea : a[i]? = some a[i] := List.getElem?_eq_getElem hia
    have eb : b[i]? = some b[i] := List.getElem?_eq_getElem hib
    simp only [r6S, heapU]
    generalize a[i] = x at *
    generalize b[i] = y at *
    clear hia hib
    by_cases hxy : x = y
    · have dx : (!decide (x = y)) = false := by simp [hxy]
      (all_goals have := fa (a2 hi' hib'); repeat' first | refine Wp.v ?_ | (refine Wp.c ?_ ?_ <;> intro))
      refine Wp.draw (by (simp [c_joineryref06_Same_D0, I.need]) <;> rfl) (by first | ((simp [hi', hib', ea, eb]) <;> rfl) | exact rfl) (by (simp [hi', hib', ea, eb]) <;> rfl) (by (unfold c_joineryref06_Same_D0); (repeat (first | ((first | apply Dr.op | apply Dr.opN | (apply Dr.opG; exact rfl)); ((simp [hi', hib', ea, eb]) <;> rfl); (apply Evt.all; intro; (simp [hi', hib', ea, eb]) <;> (try simp (disch := omega) only [wrap_id]) <;> first | exact ⟨rfl, rfl⟩ | exact rfl); ((simp [I.need]) <;> rfl)) | ((first | (apply Dr.opS; exact rfl; decide) | (apply Dr.opS0; exact rfl)); ((simp [I.need]) <;> rfl)))); exact Dr.nil) (by first | decide +kernel | exact rfl) (by (simp [M2.keep]) <;> rfl) ?_
      (repeat' first | refine Wp.u ?_ | (refine Wp.c ?_ ?_ <;> intro))
      (have := fa @wrap_id; repeat refine Wp.f ?_)
      refine ⟨trimO_len rfl, fun j hj => ?_⟩
      rcases Nat.lt_or_ge j i with h | h
      · exact hP j h
      · have : j = i := by omega
        subst this
        rw [ea, eb, hxy]
    · have dx : (!decide (x = y)) = true := by simp [hxy]
      rw [decide_eq_false (ne_at ea eb hxy)]
      (all_goals have := fa (a2 hi' hib'); repeat' first | refine Wp.v ?_ | (refine Wp.c ?_ ?_ <;> intro))
      refine Wp.draw (by (simp [c_joineryref06_Same_D0, I.need]) <;> rfl) (by first | ((simp [hi', hib', ea, eb]) <;> rfl) | exact rfl) (by (simp [hi', hib', ea, eb]) <;> rfl) (by (unfold c_joineryref06_Same_D0); (repeat (first | ((first | apply Dr.op | apply Dr.opN | (apply Dr.opG; exact rfl)); ((simp [hi', hib', ea, eb]) <;> rfl); (apply Evt.all; intro; (simp [hi', hib', ea, eb]) <;> (try simp (disch := omega) only [wrap_id]) <;> first | exact ⟨rfl, rfl⟩ | exact rfl); ((simp [I.need]) <;> rfl)) | ((first | (apply Dr.opS; exact rfl; decide) | (apply Dr.opS0; exact rfl)); ((simp [I.need]) <;> rfl)))); exact Dr.nil) (by first | decide +kernel | exact rfl) (by (simp [M2.keep]) <;> rfl) ?_
      (repeat' first | refine Wp.u ?_ | (refine Wp.c ?_ ?_ <;> intro))
      refine Wp.ret ?_
      simp [Res, resU, res1, c_joineryref06_Same]
  · have hs := same_take (a := a) (b := b) (i := min a.length b.length) (by omega) hP
    rw [← hs]
    simp only [r6S, heapU]
    generalize hm : min a.length b.length = m at *
    by_cases h1 : (m : Int) < a.length
    · have h2 : ¬ (m : Int) < b.length := by omega
      (all_goals have := fa (a2 h1 h2); repeat' first | refine Wp.v ?_ | (refine Wp.exit ?_; rw [if_pos rfl]) | (refine Wp.c ?_ ?_ <;> intro))
      refine Wp.ret ?_
      simp [Res, resU, res1, c_joineryref06_Same]
    · (all_goals have := fa h1; repeat' first | refine Wp.v ?_ | (refine Wp.exit ?_; rw [if_pos rfl]) | (refine Wp.c ?_ ?_ <;> intro))
      refine Wp.ret ?_
      simp [Res, resU, res1, c_joineryref06_Same]
def seS (p q : Bool) (a b : List Evn) (i : Nat) : S := ⟨[(0, evsU p a), (1, evsU q b), (5, i64 i)], []⟩
set_option maxHeartbeats 4000000 in
theorem revents_call (p q : Bool) (a b : List Evn) (ha : a.length ≤ 100000) (st : List Ob) : Cl T n_joineryref07_SameEvents [evsU p a, evsU q b] st (.bool (decide (a = b))) st := by
  refine Wp.pure (fn := c_joineryref07_SameEvents) rfl rfl rfl («as» := [evsU p a, evsU q b]) rfl ?_
  by_cases hl : ¬ a.length = b.length
  · have hne : ¬ a = b := fun e => hl (by rw [e])
    have dl : (!decide ((a.length : Int) = b.length)) = true := by simp; omega
    have dl2 : (!decide (a.length = b.length)) = true := by simp [hl]
    rw [decide_eq_false hne]
    (all_goals have := fa @evsU.eq_1; repeat' first | refine Wp.v ?_ | (refine Wp.c ?_ ?_ <;> intro))
    refine Wp.ret ?_
    simp [Res, resU, res1, c_joineryref07_SameEvents]
  have hl : a.length = b.length := by omega
  have dl : (!decide ((a.length : Int) = b.length)) = false := by simp; omega
  have dl2 : (!decide (a.length = b.length)) = false := by simp [hl]
  (all_goals have := fa @evsU.eq_1; repeat' first | refine Wp.v ?_ | (refine Wp.c ?_ ?_ <;> intro))
  refine (show Wp T (.loop c_joineryref07_SameEvents_L1) (seS p q a b 0) _ _ _ from Wp.count a.length (fun i => seS p q a b i) (fun i => ∀ j, j < i → a[j]? = b[j]?) (fun i hi hP => ?_) (fun hP => ?_) 0 (by omega) (fun j hj => by omega))
  · have hi' : (i : Int) < a.length := by omega
    have hib : (i : Int) < b.length := by omega
    have ea : a[i]? = some a[i] := List.getElem?_eq_getElem hi
    have eb : b[i]? = some (b[i]'(by omega)) := List.getElem?_eq_getElem (by omega)
    simp only [seS]
    generalize a[i] = x at *
    generalize b[i]'(by omega) = y at *
    have hs := evt_same x y
    (have := fa (a2 hi' @evsU.eq_1); repeat refine Wp.f ?_)
    refine Wp.i ?_ ?_ <;> intro h1
    · (have := fa (a5 hi' ea @evnU.eq_1 @evtU.eq_1 @evsU.eq_1); repeat refine Wp.f ?_)
      by_cases hxy : x = y
      · rw [decide_eq_true hxy] at hs
        simp only [evnU, evtU] at hs
        refine Wp.draw (by (simp [c_joineryref07_SameEvents_D0, I.need]) <;> rfl) (by first | ((simp [hi', hib, ea, eb, evnU, evtU, hs, evsU]) <;> rfl) | exact rfl) (by (simp [hi', hib, ea, eb, evnU, evtU, hs, evsU]) <;> rfl) (by (unfold c_joineryref07_SameEvents_D0); (repeat (first | ((first | apply Dr.op | apply Dr.opN | (apply Dr.opG; exact rfl)); ((simp [hi', hib, ea, eb, evnU, evtU, hs, evsU]) <;> rfl); (apply Evt.all; intro; (simp [hi', hib, ea, eb, evnU, evtU, hs, evsU]) <;> (try simp (disch := omega) only [wrap_id]) <;> first | exact ⟨rfl, rfl⟩ | exact rfl); ((simp [I.need]) <;> rfl)) | ((first | (apply Dr.opS; exact rfl; decide) | (apply Dr.opS0; exact rfl)); ((simp [I.need]) <;> rfl)))); exact Dr.nil) (by first | decide +kernel | exact rfl) (by (simp [M2.keep]) <;> rfl) ?_
        (repeat' first | refine Wp.u ?_ | (refine Wp.c ?_ ?_ <;> intro))
        (have := fa @wrap_id; repeat refine Wp.f ?_)
        refine ⟨by simp [trimO, trim, evsU], fun j hj => ?_⟩
        rcases Nat.lt_or_ge j i with h | h
        · exact hP j h
        · have : j = i := by omega
          subst this
          rw [ea, eb, hxy]
      · rw [decide_eq_false hxy] at hs
        simp only [evnU, evtU] at hs
        rw [decide_eq_false (ne_at ea eb hxy)]
        refine Wp.draw (by (simp [c_joineryref07_SameEvents_D0, I.need]) <;> rfl) (by first | ((simp [hi', hib, ea, eb, evnU, evtU, hs, evsU]) <;> rfl) | exact rfl) (by (simp [hi', hib, ea, eb, evnU, evtU, hs, evsU]) <;> rfl) (by (unfold c_joineryref07_SameEvents_D0); (repeat (first | ((first | apply Dr.op | apply Dr.opN | (apply Dr.opG; exact rfl)); ((simp [hi', hib, ea, eb, evnU, evtU, hs, evsU]) <;> rfl); (apply Evt.all; intro; (simp [hi', hib, ea, eb, evnU, evtU, hs, evsU]) <;> (try simp (disch := omega) only [wrap_id]) <;> first | exact ⟨rfl, rfl⟩ | exact rfl); ((simp [I.need]) <;> rfl)) | ((first | (apply Dr.opS; exact rfl; decide) | (apply Dr.opS0; exact rfl)); ((simp [I.need]) <;> rfl)))); exact Dr.nil) (by first | decide +kernel | exact rfl) (by (simp [M2.keep]) <;> rfl) ?_
        (repeat' first | refine Wp.u ?_ | (refine Wp.c ?_ ?_ <;> intro))
        refine Wp.ret ?_
        simp [Res, resU, res1, c_joineryref07_SameEvents]
    · cases h1
  · simp only [seS]
    (have := fa @evsU.eq_1; repeat refine Wp.f ?_)
    refine Wp.i ?_ ?_ <;> intro h1
    · simp at h1
    · refine Wp.exit ?_
      rw [if_pos rfl, decide_eq_true (eq_all hl hP)]
      repeat refine Wp.a ?_
      refine Wp.ret ?_
      simp [Res, resU, res1, c_joineryref07_SameEvents]
abbrev outU (how val : Int) (h : List Int) : List U := [i64 how, i64 val, intsU h]
def sameOutF (h1 v1 : Int) (o1 : List Int) (h2 v2 : Int) (o2 : List Int) : Bool := decide (h1 = h2) && (decide (v1 = v2) && decide (o1 = o2))
theorem routcome_call (h1 v1 : Int) (o1 : List Int) (h2 v2 : Int) (o2 : List Int) (ha : o1.length ≤ 100000) (st : List Ob) : Cl T n_joineryref07_SameOutcome [.agg (outU h1 v1 o1), .agg (outU h2 v2 o2)] st (.bool (sameOutF h1 v1 o1 h2 v2 o2)) st := by
  refine Wp.pure (fn := c_joineryref07_SameOutcome) rfl rfl rfl («as» := [.agg (outU h1 v1 o1), .agg (outU h2 v2 o2)]) rfl ?_
  have hs : ∀ st, Cl T n_joineryref06_Same [intsU o1, intsU o2] st (.bool (decide (o1 = o2))) st := rsame_call true true o1 o2 ha
  unfold sameOutF
  by_cases e1 : h1 = h2
  · by_cases e2 : v1 = v2
    · rw [decide_eq_true e1, decide_eq_true e2]
      simp only [Bool.true_and]
      (all_goals have := fa (a2 e1 e2); repeat' first | refine Wp.v ?_ | (apply Wp.call; exact hs _) | (refine Wp.c ?_ ?_ <;> intro))
      refine Wp.ret ?_
      simp [Res, resU, res1, c_joineryref07_SameOutcome]
    · rw [decide_eq_true e1, decide_eq_false e2]
      simp only [Bool.true_and, Bool.false_and]
      (all_goals have := fa (a2 e1 e2); repeat' first | refine Wp.v ?_ | (apply Wp.call; exact hs _) | (refine Wp.c ?_ ?_ <;> intro))
      refine Wp.ret ?_
      simp [Res, resU, res1, c_joineryref07_SameOutcome]
  · rw [decide_eq_false e1]
    simp only [Bool.false_and]
    (all_goals have := fa e1; repeat' first | refine Wp.v ?_ | (apply Wp.call; exact hs _) | (refine Wp.c ?_ ?_ <;> intro))
    refine Wp.ret ?_
    simp [Res, resU, res1, c_joineryref07_SameOutcome]
set_option maxHeartbeats 4000000 in
theorem refRight8_call (c : Cs) (hR : c.R.length = 8) (st : List Ob) : Cl T n_joineryref08_Right [.agg (csU c)] st (.bool (csRight c)) st := by
  obtain ⟨R, h, ans, fuel, lq⟩ := c
  obtain ⟨r0, r1, r2, r3, r4, r5, r6, r7, rfl⟩ := R8 hR
  refine Wp.pure (fn := c_joineryref08_Right) rfl rfl rfl («as» := [.agg (csU ⟨[r0, r1, r2, r3, r4, r5, r6, r7], h, ans, fuel, lq⟩)]) rfl ?_
  unfold csRight
  simp only
  have e0 : decide ((h.length : Int) ≤ 16) = decide (h.length ≤ 16) := decide_eq_decide.2 (by omega)
  have e1 : decide ((ans.length : Int) ≤ 5000) = decide (ans.length ≤ 5000) := decide_eq_decide.2 (by omega)
  by_cases h1 : h.length ≤ 16
  · have d1 : decide (h.length ≤ 16) = true := decide_eq_true h1
    rw [d1] at e0 ⊢
    by_cases h2 : ans.length ≤ 5000
    · have d2 : decide (ans.length ≤ 5000) = true := decide_eq_true h2
      rw [d2] at e1 ⊢
      by_cases h3 : 0 ≤ fuel
      · have d3 : decide (0 ≤ fuel) = true := decide_eq_true h3
        rw [d3]
        (all_goals have := fa @csU.eq_1; repeat' first | refine Wp.v ?_ | (refine Wp.c ?_ ?_ <;> intro))
        refine Wp.ret ?_
        simp [Res, resU, res1, c_joineryref08_Right]
      · have d3 : decide (0 ≤ fuel) = false := decide_eq_false h3
        rw [d3]
        (all_goals have := fa @csU.eq_1; repeat' first | refine Wp.v ?_ | (refine Wp.c ?_ ?_ <;> intro))
        refine Wp.ret ?_
        simp [Res, resU, res1, c_joineryref08_Right]
    · have d2 : decide (ans.length ≤ 5000) = false := decide_eq_false h2
      rw [d2] at e1 ⊢
      (all_goals have := fa @csU.eq_1; repeat' first | refine Wp.v ?_ | (refine Wp.c ?_ ?_ <;> intro))
      refine Wp.ret ?_
      simp [Res, resU, res1, c_joineryref08_Right]
  · have d1 : decide (h.length ≤ 16) = false := decide_eq_false h1
    rw [d1] at e0 ⊢
    (all_goals have := fa @csU.eq_1; repeat' first | refine Wp.v ?_ | (refine Wp.c ?_ ?_ <;> intro))
    refine Wp.ret ?_
    simp [Res, resU, res1, c_joineryref08_Right]
theorem cs_take {c : Cs} (hR : c.R.length = 8) : (csU c).length = 11 ∧ (csU c).take 11 = csU c := by
  have cl : (csU c).length = 11 := by unfold csU; simp [hR]
  exact ⟨cl, by rw [List.take_of_length_le (by omega)]⟩
theorem cs_brw {c : Cs} (hR : c.R.length = 8) (st : List Ob) : brwA frzD st (.agg (csU c)) = some (.agg (csU c)) := by
  obtain ⟨R, ch, ans, fuel, lq⟩ := c
  obtain ⟨r0, r1, r2, r3, r4, r5, r6, r7, rfl⟩ := R8 hR
  rfl
set_option maxHeartbeats 4000000 in
theorem fair15_call (x : FForm) (hx : Small x) (c : Cs) (hR : c.R.length = 8) (st : List Ob) : Cl T n_joineryref15_Fair [formU x, .agg (csU c)] st (.bool (rightF x && csRight c)) st := by
  have hb := cs_brw hR
  refine Wp.pureA (fn := c_joineryref15_Fair) rfl rfl rfl («as» := [formU x, .agg (csU c)]) (by rw [M2.allM, show brwA frzD st (formU x) = some (formU x) from rfl, M2.allM, hb]; rfl) ?_
  obtain ⟨cl, tk⟩ := cs_take hR
  have tk3 : (formC x).take 3 = formC x := rfl
  have h1 := fun st => rright_call x hx st
  have h2 := fun st => refRight8_call c hR st
  cases hr : rightF x with
  | false =>
    rw [hr] at h1
    (all_goals have := fa (a3 tk3 cl tk); repeat' first | refine Wp.v ?_ | (apply Wp.call; exact h1 _) | (refine Wp.c ?_ ?_ <;> intro))
    refine Wp.ret ?_
    simp [Res, resU, res1, c_joineryref15_Fair]
  | true =>
    rw [hr] at h1
    (all_goals have := fa (a3 tk3 cl tk); repeat' first | refine Wp.v ?_ | (apply Wp.call; exact h1 _) | (apply Wp.callG; exact rfl; exact h2 _) | (apply Wp.call; exact h2 _) | (refine Wp.c ?_ ?_ <;> intro))
    refine Wp.ret ?_
    simp [Res, resU, res1, c_joineryref15_Fair]
def great15F (x : FForm) (c : Cs) : Bool := greatF x || (decide (100 < c.h.length) || (decide (1000 < c.ans.length) || (decide (300 < c.fuel) && decide (c.fuel ≤ 5000))))
set_option maxHeartbeats 4000000 in
theorem great15_call (x : FForm) (hb : Big x) (c : Cs) (hR : c.R.length = 8) (st : List Ob) : Cl T n_joinerylaw15_great [formU x, .agg (csU c)] st (.bool (great15F x c)) st := by
  have h1 := fun st => great_call x hb st
  have tk3 : (formC x).take 3 = formC x := rfl
  obtain ⟨R, h, ans, fuel, lq⟩ := c
  obtain ⟨r0, r1, r2, r3, r4, r5, r6, r7, rfl⟩ := R8 hR
  refine Wp.pure (fn := c_joinerylaw15_great) rfl rfl rfl («as» := [formU x, .agg (csU ⟨[r0, r1, r2, r3, r4, r5, r6, r7], h, ans, fuel, lq⟩)]) rfl ?_
  unfold great15F
  simp only
  have e0 : decide ((100 : Int) < h.length) = decide (100 < h.length) := decide_eq_decide.2 (by omega)
  have e1 : decide ((1000 : Int) < ans.length) = decide (1000 < ans.length) := decide_eq_decide.2 (by omega)
  cases hg : greatF x with
  | true =>
    rw [hg] at h1
    (all_goals have := fa (a2 @csU.eq_1 tk3); repeat' first | refine Wp.v ?_ | (apply Wp.call; exact h1 _) | (refine Wp.c ?_ ?_ <;> intro))
    refine Wp.ret ?_
    simp [Res, resU, res1, c_joinerylaw15_great]
  | false =>
    rw [hg] at h1
    cases d1 : decide (100 < h.length) with
    | true =>
      rw [d1] at e0
      (all_goals have := fa (a2 @csU.eq_1 tk3); repeat' first | refine Wp.v ?_ | (apply Wp.call; exact h1 _) | (refine Wp.c ?_ ?_ <;> intro))
      refine Wp.ret ?_
      simp [Res, resU, res1, c_joinerylaw15_great]
    | false =>
      rw [d1] at e0
      cases d2 : decide (1000 < ans.length) with
      | true =>
        rw [d2] at e1
        (all_goals have := fa (a2 @csU.eq_1 tk3); repeat' first | refine Wp.v ?_ | (apply Wp.call; exact h1 _) | (refine Wp.c ?_ ?_ <;> intro))
        refine Wp.ret ?_
        simp [Res, resU, res1, c_joinerylaw15_great]
      | false =>
        rw [d2] at e1
        cases d3 : decide ((300 : Int) < fuel) with
        | true =>
          (all_goals have := fa (a2 @csU.eq_1 tk3); repeat' first | refine Wp.v ?_ | (apply Wp.call; exact h1 _) | (refine Wp.c ?_ ?_ <;> intro))
          refine Wp.ret ?_
          simp [Res, resU, res1, c_joinerylaw15_great]
        | false =>
          (all_goals have := fa (a2 @csU.eq_1 tk3); repeat' first | refine Wp.v ?_ | (apply Wp.call; exact h1 _) | (refine Wp.c ?_ ?_ <;> intro))
          refine Wp.ret ?_
          simp [Res, resU, res1, c_joinerylaw15_great]
def sameTF (a b : TR) : Bool := decide (a.ev = b.ev) && (sameOutF a.how a.val a.out b.how b.val b.out && (decide (a.steps = b.steps) && decide (a.work = b.work)))
theorem doE_sz (c : Cs) (s : EnS) (y : FNode) : (doE c s y).s.ev.length ≤ s.ev.length + 1 ∧ (doE c s y).s.h.length = s.h.length := by
  unfold doE
  split
  · exact ⟨by simp, rfl⟩
  · rename_i l _
    split
    · exact ⟨by simp, rfl⟩
    · split
      · exact ⟨by simp, rfl⟩
      · split
        · unfold storeF
          dsimp only
          by_cases hi : inF s.h (l.getD 0 0) = true
          · rw [if_pos hi]
            simp
          · rw [if_neg hi]
            simp
        · split
          · split
            · exact ⟨by simp, rfl⟩
            · exact ⟨by simp, rfl⟩
          · split
            · exact ⟨by simp, rfl⟩
            · split <;> exact ⟨by simp, rfl⟩
theorem runE_sz (x : FForm) (c : Cs) : ∀ (n k : Nat) (s : EnS), (runE x c n k s).ev.length ≤ s.ev.length + n ∧ (runE x c n k s).out.length ≤ s.h.length
  | 0, k, s => ⟨Nat.le_refl _, by simp [runE]⟩
  | n + 1, k, s => by
    obtain ⟨h1, h2⟩ := doE_sz c s (x.nodes.getD s.pos.toNat default)
    rw [runE]
    split
    · exact ⟨by simp, by simp⟩
    · dsimp only
      split
      · obtain ⟨h3, h4⟩ := runE_sz x c n (k + 1) (onE x c (x.nodes.getD s.pos.toNat default) s.pos (doE c s (x.nodes.getD s.pos.toNat default)))
        have e1 : (onE x c (x.nodes.getD s.pos.toNat default) s.pos (doE c s (x.nodes.getD s.pos.toNat default))).ev = (doE c s (x.nodes.getD s.pos.toNat default)).s.ev := rfl
        have e2 : (onE x c (x.nodes.getD s.pos.toNat default) s.pos (doE c s (x.nodes.getD s.pos.toNat default))).h = (doE c s (x.nodes.getD s.pos.toNat default)).s.h := rfl
        rw [e1] at h3
        rw [e2] at h4
        exact ⟨by omega, by omega⟩
      · refine ⟨?_, ?_⟩
        · show (doE c s _).s.ev.length ≤ _
          omega
        · show (if _ then _ else _ : List Int).length ≤ _
          split
          · omega
          · simp
theorem engF_sz (x : FForm) {c : Cs} (hc : csRight c = true) : (engF x c).ev.length ≤ 5000 ∧ (engF x c).out.length ≤ 16 := by
  unfold csRight at hc
  simp only [Bool.and_eq_true, decide_eq_true_eq] at hc
  obtain ⟨h1, h2⟩ := runE_sz x c c.fuel.toNat 0 (newE x c)
  unfold engF
  have e1 : (newE x c).ev.length = 0 := rfl
  have e2 : (newE x c).h = c.h := rfl
  rw [e1] at h1
  rw [e2] at h2
  exact ⟨by omega, by omega⟩
theorem sameTF_self (a : TR) : sameTF a a = true := by
  unfold sameTF sameOutF
  simp
set_option maxHeartbeats 8000000 in
theorem tsame_call (a b : TR) (he : a.ev.length ≤ 100000) (ho : a.out.length ≤ 100000) (st : List Ob) : Cl T n_joineryref08_Same [.agg (trU a), .agg (trU b)] st (.bool (sameTF a b)) st := by
  refine Wp.pure (fn := c_joineryref08_Same) rfl rfl rfl («as» := [.agg (trU a), .agg (trU b)]) rfl ?_
  have h1 : ∀ st, Cl T n_joineryref07_SameEvents [.sl true (a.ev.map evnU), .sl true (b.ev.map evnU)] st (.bool (decide (a.ev = b.ev))) st := revents_call true true a.ev b.ev he
  have h2 : ∀ st, Cl T n_joineryref07_SameOutcome [.agg [i64 a.how, i64 a.val, intsU a.out], .agg [i64 b.how, i64 b.val, intsU b.out]] st (.bool (sameOutF a.how a.val a.out b.how b.val b.out)) st := routcome_call a.how a.val a.out b.how b.val b.out ho
  unfold sameTF
  cases d1 : decide (a.ev = b.ev) with
  | false =>
    rw [d1] at h1
    (all_goals have := fa @trU.eq_1; repeat' first | refine Wp.v ?_ | (apply Wp.call; exact h1 _) | (refine Wp.c ?_ ?_ <;> intro))
    refine Wp.ret ?_
    simp [Res, resU, res1, c_joineryref08_Same]
  | true =>
    rw [d1] at h1
    cases d2 : sameOutF a.how a.val a.out b.how b.val b.out with
    | false =>
      rw [d2] at h2
      (all_goals have := fa @trU.eq_1; repeat' first | refine Wp.v ?_ | (apply Wp.call; exact h1 _) | (apply Wp.callG; exact rfl; exact h2 _) | (apply Wp.call; exact h2 _) | (refine Wp.c ?_ ?_ <;> intro))
      refine Wp.ret ?_
      simp [Res, resU, res1, c_joineryref08_Same]
    | true =>
      rw [d2] at h2
      by_cases e3 : a.steps = b.steps
      · rw [decide_eq_true e3]
        (all_goals have := fa (a2 @trU.eq_1 e3); repeat' first | refine Wp.v ?_ | (apply Wp.call; exact h1 _) | (apply Wp.callG; exact rfl; exact h2 _) | (apply Wp.call; exact h2 _) | (refine Wp.c ?_ ?_ <;> intro))
        refine Wp.ret ?_
        simp [Res, resU, res1, c_joineryref08_Same]
      · rw [decide_eq_false e3]
        (all_goals have := fa (a2 @trU.eq_1 e3); repeat' first | refine Wp.v ?_ | (apply Wp.call; exact h1 _) | (apply Wp.callG; exact rfl; exact h2 _) | (apply Wp.call; exact h2 _) | (refine Wp.c ?_ ?_ <;> intro))
        refine Wp.ret ?_
        simp [Res, resU, res1, c_joineryref08_Same]
end Go.Proofs.YtfmhnfimkpffnaaGreatDoor.M2
namespace Go.Proofs.YtfmhnfimkpffnaaGreatDoor.M2
open Go
section
variable {P : Program}
theorem typed_i64 {t : TypeId} (hu : P.underlying t = some (.int .i64)) {d : Nat} {us : List U} (h : Typed P (d + 1) t us) : ∃ n, us = [i64 n] ∧ rng n := by
  simp only [Typed, hu] at h
  obtain ⟨n, e, hw⟩ := h
  refine ⟨n, e, ?_⟩
  simp [Lit.wf, IntKind.min, IntKind.max, IntKind.bits, IntKind.signed] at hw
  unfold rng
  omega
theorem typed_slice {t e : TypeId} (hu : P.underlying t = some (.slice e)) {d : Nat} {us : List U} (h : Typed P (d + 1) t us) : ∃ xs, us = [.sl true xs] ∧ xs.length ≤ maxLen ∧ ∀ x ∈ xs, Typed P d e x ∧ x.length = P.cellsOf e := by
  simp only [Typed, hu] at h
  exact h
theorem typed_struct {t : TypeId} {fs : Array Field} (hu : P.underlying t = some (.struct fs)) {d : Nat} {us : List U} (h : Typed P (d + 1) t us) : us.length = P.cellsOf t ∧ ∀ f ∈ fs.toList, Typed P d f.type ((us.drop f.offset).take (P.cellsOf f.type)) := by
  simp only [Typed, hu] at h
  exact h
theorem map_of {α : Type} {P : List U → Prop} {Q : α → Prop} (f : α → List U) : ∀ {xs : List (List U)}, (∀ x ∈ xs, ∃ r, x = f r ∧ Q r) → ∃ l : List α, xs = l.map f ∧ ∀ r ∈ l, Q r
  | [], _ => ⟨[], rfl, by simp⟩
  | x :: xs, h => by
    obtain ⟨r, e, q⟩ := h x (by simp)
    obtain ⟨l, hl, hq⟩ := map_of (P := P) f (xs := xs) (fun y hy => h y (by simp [hy]))
    exact ⟨r :: l, by rw [List.map_cons, e, hl], fun y hy => by
      rcases List.mem_cons.1 hy with rfl | hy
      · exact q
      · exact hq y hy⟩
theorem typed_sl {α : Type} {Q : α → Prop} {f : α → List U} {t e : TypeId} (hu : P.underlying t = some (.slice e)) {d : Nat} {u : U} (hf : ∀ x, Typed P d e x → ∃ r, x = f r ∧ Q r) (h : Typed P (d + 1) t [u]) : ∃ l : List α, u = .sl true (l.map f) ∧ l.length < 9223372036854775808 ∧ ∀ x ∈ l, Q x := by
  obtain ⟨xs, e, hm, h⟩ := typed_slice hu h
  obtain ⟨l, hl, hq⟩ := map_of (P := fun _ => True) f (xs := xs) (fun x hx => hf x (h x hx).1)
  injection e with e
  refine ⟨l, by rw [e, hl], ?_, hq⟩
  rw [hl, List.length_map] at hm
  simp only [maxLen] at hm
  omega
end
theorem len2 : ∀ {us : List U}, us.length = 2 → ∃ a b, us = [a, b]
  | [a, b], _ => ⟨a, b, rfl⟩
theorem len3 : ∀ {us : List U}, us.length = 3 → ∃ a b c, us = [a, b, c]
  | [a, b, c], _ => ⟨a, b, c, rfl⟩
theorem len4 : ∀ {us : List U}, us.length = 4 → ∃ a b c d, us = [a, b, c, d]
  | [a, b, c, d], _ => ⟨a, b, c, d, rfl⟩
attribute [local irreducible] Typed
theorem c1 : Tryz.prog.cellsOf 3 = 1 := by kernel_rfl
theorem c2 : Tryz.prog.cellsOf 2 = 1 := by kernel_rfl
theorem c73 : Tryz.prog.cellsOf 73 = 1 := by kernel_rfl
theorem c74 : Tryz.prog.cellsOf 74 = 1 := by kernel_rfl
theorem c22 : Tryz.prog.cellsOf 22 = 1 := by kernel_rfl
theorem c23 : Tryz.prog.cellsOf 23 = 1 := by kernel_rfl
theorem c113 : Tryz.prog.cellsOf 113 = 2 := by kernel_rfl
theorem c76 : Tryz.prog.cellsOf 76 = 4 := by kernel_rfl
theorem c123 : Tryz.prog.cellsOf 123 = 2 := by kernel_rfl
theorem c25 : Tryz.prog.cellsOf 25 = 3 := by kernel_rfl
theorem typed_src {d : Nat} {us : List U} (h : Typed Tryz.prog (d + 2) 113 us) : ∃ s : Int × Int, us = srcC s ∧ SrcR s := by
  obtain ⟨hl, h⟩ := typed_struct Tryz.underlying113 h
  replace hl := hl.trans c113
  obtain ⟨a, b, rfl⟩ := len2 hl
  have k1 := h _ (List.mem_cons_self ..)
  have k2 := h _ (List.mem_cons_of_mem _ (List.mem_cons_self ..))
  simp only [c1, c2, List.drop, List.take] at k1 k2
  obtain ⟨n1, e1, r1⟩ := typed_i64 Tryz.underlying3 k1
  obtain ⟨n2, e2, r2⟩ := typed_i64 Tryz.underlying2 k2
  injection e1 with e1
  injection e2 with e2
  exact ⟨(n1, n2), by rw [e1, e2]; rfl, r1, r2⟩
theorem typed_srcs {d : Nat} {u : U} (h : Typed Tryz.prog (d + 3) 73 [u]) : ∃ l, u = srcsU l ∧ ∀ s ∈ l, SrcR s := by
  obtain ⟨l, e, _, hl⟩ := typed_sl (Q := SrcR) (f := srcC) Tryz.underlying73 (fun x hx => typed_src hx) h
  exact ⟨l, e, hl⟩
theorem typed_outs {d : Nat} {u : U} (h : Typed Tryz.prog (d + 2) 74 [u]) : ∃ l, u = outsU l ∧ ∀ s ∈ l, rng s := by
  obtain ⟨l, e, _, hl⟩ := typed_sl (Q := rng) (f := outC) Tryz.underlying74 (fun x hx => typed_i64 Tryz.underlying3 hx) h
  exact ⟨l, e, hl⟩
theorem typed_node {d : Nat} {us : List U} (h : Typed Tryz.prog (d + 4) 76 us) : ∃ y : FNode, us = nodeC y ∧ NodeR y := by
  obtain ⟨hl, h⟩ := typed_struct Tryz.underlying76 h
  replace hl := hl.trans c76
  obtain ⟨a, b, c, d', rfl⟩ := len4 hl
  have k1 := h _ (List.mem_cons_self ..)
  have k2 := h _ (List.mem_cons_of_mem _ (List.mem_cons_self ..))
  have k3 := h _ (List.mem_cons_of_mem _ (List.mem_cons_of_mem _ (List.mem_cons_self ..)))
  have k4 := h _ (List.mem_cons_of_mem _ (List.mem_cons_of_mem _ (List.mem_cons_of_mem _ (List.mem_cons_self ..))))
  simp only [c1, c2, c73, c74, List.drop, List.take] at k1 k2 k3 k4
  obtain ⟨n1, e1, r1⟩ := typed_i64 Tryz.underlying3 k1
  obtain ⟨n2, e2, r2⟩ := typed_i64 Tryz.underlying2 k2
  obtain ⟨l3, e3, r3⟩ := typed_srcs k3
  obtain ⟨l4, e4, r4⟩ := typed_outs k4
  injection e1 with e1
  injection e2 with e2
  exact ⟨⟨n1, n2, l3, l4⟩, by rw [e1, e2, e3, e4]; rfl, r1, r2, r3, r4⟩
theorem typed_val {d : Nat} {us : List U} (h : Typed Tryz.prog (d + 4) 123 us) : ∃ v : FVal, us = valC v ∧ ValR v := by
  obtain ⟨hl, h⟩ := typed_struct Tryz.underlying123 h
  replace hl := hl.trans c123
  obtain ⟨a, b, rfl⟩ := len2 hl
  have k1 := h _ (List.mem_cons_self ..)
  have k2 := h _ (List.mem_cons_of_mem _ (List.mem_cons_self ..))
  simp only [c1, c73, List.drop, List.take] at k1 k2
  obtain ⟨n1, e1, r1⟩ := typed_i64 Tryz.underlying3 k1
  obtain ⟨l2, e2, r2⟩ := typed_srcs k2
  injection e1 with e1
  exact ⟨⟨n1, l2⟩, by rw [e1, e2]; rfl, r1, r2⟩
theorem typed_form {d : Nat} {us : List U} (h : Typed Tryz.prog (d + 6) 25 us) : ∃ x : FForm, us = formC x ∧ Big x ∧ FormR x := by
  obtain ⟨hl, h⟩ := typed_struct Tryz.underlying25 h
  replace hl := hl.trans c25
  obtain ⟨a, b, c, rfl⟩ := len3 hl
  have k1 := h _ (List.mem_cons_self ..)
  have k2 := h _ (List.mem_cons_of_mem _ (List.mem_cons_self ..))
  have k3 := h _ (List.mem_cons_of_mem _ (List.mem_cons_of_mem _ (List.mem_cons_self ..)))
  simp only [c1, c22, c23, List.drop, List.take] at k1 k2 k3
  obtain ⟨n1, e1, r1⟩ := typed_i64 Tryz.underlying3 k1
  obtain ⟨l2, e2, m2, r2⟩ := typed_sl (Q := NodeR) (f := nodeC) Tryz.underlying22 (fun x hx => typed_node hx) k2
  obtain ⟨l3, e3, m3, r3⟩ := typed_sl (Q := ValR) (f := valC) Tryz.underlying23 (fun x hx => typed_val hx) k3
  injection e1 with e1
  exact ⟨⟨n1, l2, l3⟩, by rw [e1, e2, e3]; rfl, ⟨m2, m3⟩, r1, r2, r3⟩
attribute [local irreducible] TypedA
theorem typed_formA {u : U} (h : TypedA Tryz.prog 8 25 u) : ∃ x : FForm, u = formU x ∧ Big x ∧ FormR x := by
  obtain ⟨cs, rfl, hc⟩ := h.cells (by kernel_rfl)
  obtain ⟨x, rfl, hx⟩ := typed_form (d := 2) hc
  exact ⟨x, rfl, hx⟩
theorem typed_ints {d : Nat} {u : U} (h : Typed Tryz.prog (d + 2) 27 [u]) : ∃ l : List Int, u = intsU l ∧ l.length < 9223372036854775808 ∧ ∀ s ∈ l, rng s := by
  obtain ⟨l, e, hm, hl⟩ := typed_sl (Q := rng) (f := intC) Tryz.underlying27 (fun x hx => typed_i64 Tryz.underlying2 hx) h
  exact ⟨l, e, hm, hl⟩
theorem c26 : Tryz.prog.cellsOf 26 = 8 := by kernel_rfl
theorem c27 : Tryz.prog.cellsOf 27 = 1 := by kernel_rfl
theorem c29 : Tryz.prog.cellsOf 29 = 11 := by kernel_rfl
theorem law_of {f : Nat} {us : List U} (h : Cl T f us [] (.bool true) []) : ∃ n, M2.call T n f us [] = some (.bool true, []) := by
  obtain ⟨N, h⟩ := h
  exact ⟨N, h N (Nat.le_refl _)⟩
end Go.Proofs.YtfmhnfimkpffnaaGreatDoor.M2
namespace Go.Proofs.YtfmhnfimkpffnaaGreatDoor.M2
open Go
section
variable {P : Program}
theorem typed_array {t e : TypeId} {n : Nat} (hu : P.underlying t = some (.array n e)) {d : Nat} {us : List U} (h : Typed P (d + 1) t us) : us.length = P.cellsOf t ∧ ∀ i, i < n → Typed P d e ((us.drop (i * P.cellsOf e)).take (P.cellsOf e)) := by
  simp only [Typed, hu] at h
  exact h
theorem pieces_int {Q : List U → Prop} (hQ : ∀ us, Q us → ∃ n, us = [i64 n] ∧ rng n) : ∀ (n : Nat) (us : List U), us.length = n → (∀ i, i < n → Q ((us.drop (i * 1)).take 1)) → ∃ L : List Int, us = L.map (fun v => i64 v) ∧ L.length = n
  | 0, us, h, _ => ⟨[], by simpa using h, rfl⟩
  | n + 1, us, h, hq => by
    match us, h with
    | a :: us, h =>
      obtain ⟨x, e, _⟩ := hQ _ (hq 0 (by omega))
      obtain ⟨L, k1, k2⟩ := pieces_int hQ n us (by simpa using h) (fun i hi => by
        have := hq (i + 1) (by omega)
        rwa [show (i + 1) * 1 = i * 1 + 1 by omega, List.drop_succ_cons] at this)
      have e' : [a] = [i64 x] := e
      simp only [List.cons.injEq, and_true] at e'
      exact ⟨x :: L, by rw [List.map_cons, e', k1], by simp [k2]⟩
    | [], h => simp at h
theorem typed_intsP {t e : TypeId} (hu : P.underlying t = some (.slice e)) (he : P.underlying e = some (.int .i64)) {d : Nat} {us : List U} (h : Typed P (d + 2) t us) : ∃ L : List Int, us = [intsU L] ∧ L.length < 9223372036854775808 := by
  obtain ⟨xs, ex, _⟩ := typed_slice hu h
  rw [ex] at h
  obtain ⟨hp, eh, lh, _⟩ := typed_sl (Q := fun _ => True) (f := fun v => [i64 v]) hu (fun x hx => by
    obtain ⟨n, e, _⟩ := typed_i64 he hx
    exact ⟨n, e, trivial⟩) h
  exact ⟨hp, by rw [ex, eh], lh⟩
theorem typed_case {t tR t2 tH tI : TypeId} {a1 a2 a3 a4 : Field} (hu : P.underlying t = some (.struct #[a1, a2, a3, a4])) (o : [a1.offset, a2.offset, a3.offset, a4.offset] = [0, 8, 9, 10]) (ty : [a1.type, a2.type, a3.type, a4.type] = [tR, tH, tH, tI])
    (hR : P.underlying tR = some (.array 8 t2)) (h2 : P.underlying t2 = some (.int .i64)) (hH : P.underlying tH = some (.slice t2)) (hI : P.underlying tI = some (.int .i64))
    (c : P.cellsOf t = 11) (cR : P.cellsOf tR = 8) (c2 : P.cellsOf t2 = 1) (cH : P.cellsOf tH = 1) (cI : P.cellsOf tI = 1) {d : Nat} {us : List U} (h : Typed P (d + 3) t us) :
    ∃ s : Cs, us = csU s ∧ s.R.length = 8 ∧ s.h.length < 9223372036854775808 ∧ s.ans.length < 9223372036854775808 ∧ rng s.fuel := by
  obtain ⟨hl, h⟩ := typed_struct hu h
  rw [c] at hl
  simp only [List.cons.injEq, and_true] at o ty
  obtain ⟨o1, o2, o3, o4⟩ := o
  obtain ⟨y1, y2, y3, y4⟩ := ty
  have k1 := h a1 (by simp)
  have k2 := h a2 (by simp)
  have k3 := h a3 (by simp)
  have k4 := h a4 (by simp)
  simp only [o1, o2, o3, o4, y1, y2, y3, y4, cR, cH, cI, List.drop_zero] at k1 k2 k3 k4
  obtain ⟨_, k1⟩ := typed_array hR k1
  rw [c2] at k1
  obtain ⟨L, e1, l1⟩ := pieces_int (Q := Typed P (d + 1) t2) (fun us hq => typed_i64 h2 hq) 8 (us.take 8) (by rw [List.length_take]; omega) k1
  have e : us = us.take 8 ++ ((us.drop 8).take 1 ++ ((us.drop 9).take 1 ++ (us.drop 10).take 1)) := by
    have p1 : us.drop 8 = (us.drop 8).take 1 ++ us.drop 9 := by
      have := (List.take_append_drop 1 (us.drop 8)).symm
      rw [List.drop_drop] at this
      exact this
    have p2 : us.drop 9 = (us.drop 9).take 1 ++ us.drop 10 := by
      have := (List.take_append_drop 1 (us.drop 9)).symm
      rw [List.drop_drop] at this
      exact this
    have p3 : (us.drop 10).take 1 = us.drop 10 := List.take_of_length_le (by rw [List.length_drop]; omega)
    rw [p3, ← p2, ← p1, List.take_append_drop]
  obtain ⟨H, e2, lh⟩ := typed_intsP hH h2 k2
  obtain ⟨A, e3, la⟩ := typed_intsP hH h2 k3
  obtain ⟨n4, e4, r4⟩ := typed_i64 hI k4
  refine ⟨⟨L, H, A, n4, true⟩, ?_, l1, lh, la, r4⟩
  rw [e, e1, e2, e3, e4]
  rfl
end
attribute [local irreducible] Typed TypedA
theorem typed_caseA {u : U} (h : TypedA Tryz.prog 8 29 u) : ∃ s : Cs, u = .agg (csU s) ∧ s.R.length = 8 ∧ s.h.length < 9223372036854775808 ∧ s.ans.length < 9223372036854775808 ∧ rng s.fuel := by
  obtain ⟨cs, rfl, hc⟩ := h.cells (by kernel_rfl)
  obtain ⟨s, rfl, hs⟩ := typed_case (d := 5) Tryz.underlying29 rfl rfl Tryz.underlying26 Tryz.underlying2 Tryz.underlying27 Tryz.underlying3 c29 c26 c2 c27 c1 hc
  exact ⟨s, rfl, hs⟩
end Go.Proofs.YtfmhnfimkpffnaaGreatDoor.M2
