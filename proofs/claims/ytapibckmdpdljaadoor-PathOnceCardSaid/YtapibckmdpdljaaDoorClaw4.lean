/- PathOnce: from where a path leads, it leads no further. No condition. -/
import Derived.Test.YtapibckmdpdljaaDoorCh
import Derived.Test.YtapibckmdpdljaaDoorCk
set_option linter.unusedSimpArgs false
set_option linter.unusedVariables false
set_option linter.unusedSectionVars false
/- The law PathLeads in M2. -/
namespace Go.Proofs.YtapibckmdpdljaaDoor.M2
open Go
attribute [local simp] ev1 M2.get put A.ev ld sub part elems bin arith un opt idx fillC cellsO splice over newOb sto fillR laidOwn appTo appRow touch touchN touchM touchE touchA plainU flatU plainAs allM rowAt stoRow accM_nil accM_cons accMM_nil accMM_cons frz_int frz_bool frz_str frz_slt frz_nils frz_nilI frz_nilF frz_own frzRow_row frzRow_frow Ob.blw blw_bool blw_int blw_str blw_nils blw_nilI blw_nilF blw_nilp blw_nilm blw_sl blw_own blw_bp blw_rp blw_mp blw_it params
attribute [local simp] frz_agg frz_tup frz_iface frzS_agg frzS_iface accMS_cons frzS_int frzS_bool frzS_str frzS_slt frzS_nils frzS_nilI beq_dec bne_dec

attribute [local irreducible] Typed
theorem pf13 : pfT T 13 = true := rfl
theorem pf17 : pfT T 17 = true := rfl
theorem pf18 : pfT T 18 = true := rfl
/-- Where what is not fair leads. -/
theorem from_unfair {l : List Ins} {at_ : Int} (h : fairF l at_ = false) : fromF l at_ = ((0, List.replicate 24 .no, 0), 1) := by
  unfold fromF
  unfold fairF at h
  rw [h]
  rfl
theorem fair_facts {l : List Ins} {at_ : Int} (h : fairF l at_ = true) : rightF l = true ∧ ∃ a : Nat, at_ = a ∧ a < l.length := by
  unfold fairF at h
  simp only [Bool.and_eq_true, decide_eq_true_eq] at h
  obtain ⟨a, rfl⟩ := Int.eq_ofNat_of_zero_le h.1.2
  exact ⟨h.1.1, a, rfl, by omega⟩
/-- What is fair: the program's answer and the document's. -/
theorem fair_eq {l : List Ins} {a : Nat} (hr : rightF l = true) (ha : a < l.length) : ∃ (to : Int) (t : List Src) (s : Int), fromF l a = ((to, t, s), 0) ∧ refAns l a = .agg [i64 to, refT true t, i64 s] ∧ t.length = 24 := by
  have e : fromF l a = ((if (pathRun l 201 (ps0 a)).met.getD (pathRun l 201 (ps0 a)).to false then (-1, newT, 0) else (((pathRun l 201 (ps0 a)).to : Int), (pathRun l 201 (ps0 a)).t, ((pathRun l 201 (ps0 a)).steps : Int))), 0) := by
    unfold fromF
    rw [if_pos (by simp [hr, ha])]
    rfl
  have hinv := (path_end hr ha).1
  unfold refAns
  rw [e, from_ref hr ha]
  split
  · exact ⟨-1, newT, 0, rfl, rfl, rfl⟩
  · exact ⟨_, _, _, rfl, rfl, hinv.base.t⟩
theorem law3_call (l : List Ins) (at_ : Int) : Cl T 3 [insL false l, i64 at_] [] (.bool true) [] := by
  refine Wp.pure (fn := c_joinerylaw09_PathLeads) rfl rfl rfl («as» := [insL false l, i64 at_]) rfl ?_
  repeat (first | apply Wp.seq | apply Wp.skip | apply Wp.block | (apply Wp.op0; ((simp [M2.keep]) <;> rfl)) | (apply Wp.op; (apply Evt.all; intro; (simp [insL]) <;> (try simp (disch := omega) only [wrap_id]) <;> first | exact ⟨rfl, rfl⟩ | exact rfl)) | (apply Wp.opN; (apply Evt.all; intro; (simp [insL]) <;> (try simp (disch := omega) only [wrap_id]) <;> first | exact ⟨rfl, rfl⟩ | exact rfl)) | (apply Wp.opG; (exact rfl); (apply Evt.all; intro; (simp [insL]) <;> (try simp (disch := omega) only [wrap_id]) <;> first | exact ⟨rfl, rfl⟩ | exact rfl)) | (apply Wp.opS; (exact rfl); decide) | (apply Wp.opS0; (exact rfl)))
  refine Wp.cond (by first | rfl | (simp; rfl)) (fun h1 => ?_) (fun h1 => ?_)
  · repeat (first | apply Wp.seq | apply Wp.skip | apply Wp.block | (apply Wp.op0; ((simp [M2.keep]) <;> rfl)) | (apply Wp.op; (apply Evt.all; intro; (simp []) <;> (try simp (disch := omega) only [wrap_id]) <;> first | exact ⟨rfl, rfl⟩ | exact rfl)) | (apply Wp.opN; (apply Evt.all; intro; (simp []) <;> (try simp (disch := omega) only [wrap_id]) <;> first | exact ⟨rfl, rfl⟩ | exact rfl)) | (apply Wp.opG; (exact rfl); (apply Evt.all; intro; (simp []) <;> (try simp (disch := omega) only [wrap_id]) <;> first | exact ⟨rfl, rfl⟩ | exact rfl)) | (apply Wp.opS; (exact rfl); decide) | (apply Wp.opS0; (exact rfl)))
    apply Wp.call
    · exact knows_call _
    repeat (first | apply Wp.seq | apply Wp.skip | apply Wp.block | (apply Wp.op0; ((simp [M2.keep]) <;> rfl)) | (apply Wp.op; (apply Evt.all; intro; (simp []) <;> (try simp (disch := omega) only [wrap_id]) <;> first | exact ⟨rfl, rfl⟩ | exact rfl)) | (apply Wp.opN; (apply Evt.all; intro; (simp []) <;> (try simp (disch := omega) only [wrap_id]) <;> first | exact ⟨rfl, rfl⟩ | exact rfl)) | (apply Wp.opG; (exact rfl); (apply Evt.all; intro; (simp []) <;> (try simp (disch := omega) only [wrap_id]) <;> first | exact ⟨rfl, rfl⟩ | exact rfl)) | (apply Wp.opS; (exact rfl); decide) | (apply Wp.opS0; (exact rfl)))
    refine Wp.ret ?_
    simp [Res, resU, res1, c_joinerylaw09_PathLeads]
  repeat (first | apply Wp.seq | apply Wp.skip | apply Wp.block | (apply Wp.op0; ((simp [M2.keep]) <;> rfl)) | (apply Wp.op; (apply Evt.all; intro; (simp []) <;> (try simp (disch := omega) only [wrap_id]) <;> first | exact ⟨rfl, rfl⟩ | exact rfl)) | (apply Wp.opN; (apply Evt.all; intro; (simp []) <;> (try simp (disch := omega) only [wrap_id]) <;> first | exact ⟨rfl, rfl⟩ | exact rfl)) | (apply Wp.opG; (exact rfl); (apply Evt.all; intro; (simp []) <;> (try simp (disch := omega) only [wrap_id]) <;> first | exact ⟨rfl, rfl⟩ | exact rfl)) | (apply Wp.opS; (exact rfl); decide) | (apply Wp.opS0; (exact rfl)))
  apply Wp.call
  · exact from_call false l at_ _
  cases hf : fairF l at_ with
  | false =>
    rw [from_unfair hf]
    repeat (first | apply Wp.seq | apply Wp.skip | apply Wp.block | (apply Wp.op0; ((simp [M2.keep]) <;> rfl)) | (apply Wp.op; (apply Evt.all; intro; (simp [pathU, pU, tabU, srcU, List.replicate, over]) <;> (try simp (disch := omega) only [wrap_id]) <;> first | exact ⟨rfl, rfl⟩ | exact rfl)) | (apply Wp.opN; (apply Evt.all; intro; (simp [pathU, pU, tabU, srcU, List.replicate, over]) <;> (try simp (disch := omega) only [wrap_id]) <;> first | exact ⟨rfl, rfl⟩ | exact rfl)) | (apply Wp.opG; (exact rfl); (apply Evt.all; intro; (simp [pathU, pU, tabU, srcU, List.replicate, over]) <;> (try simp (disch := omega) only [wrap_id]) <;> first | exact ⟨rfl, rfl⟩ | exact rfl)) | (apply Wp.opS; (exact rfl); decide) | (apply Wp.opS0; (exact rfl)))
    apply Wp.call
    · exact fair_call false l at_ _
    rw [hf]
    repeat' (first | apply Wp.seq | apply Wp.skip | apply Wp.block | (apply Wp.op0; ((simp [M2.keep]) <;> rfl)) | (apply Wp.pickT; (exact rfl); (first | exact rfl | assumption); ((simp) <;> exact rfl)) | (apply Wp.pickF; (exact rfl); (first | exact rfl | assumption); ((simp) <;> exact rfl)) | (apply Wp.op; (apply Evt.all; intro; (simp []) <;> (try simp (disch := omega) only [wrap_id]) <;> first | exact ⟨rfl, rfl⟩ | exact rfl)) | (apply Wp.opN; (apply Evt.all; intro; (simp []) <;> (try simp (disch := omega) only [wrap_id]) <;> first | exact ⟨rfl, rfl⟩ | exact rfl)) | (apply Wp.callG; exact rfl; exact knows_call _) | (apply Wp.ung; (exact rfl); (first | exact rfl | assumption)) | (apply Wp.opSt; (exact rfl); (first | exact rfl | assumption)) | (apply Wp.opSf; (exact rfl); (first | exact rfl | assumption)) | (apply Wp.opS0; (exact rfl)) | (apply Wp.grdT; (exact rfl); (intro); rotate_left 1; (intro); rotate_right 1) | (apply Wp.grdF; (exact rfl); (intro); rotate_left 1; (intro); rotate_right 1) | (apply Wp.condT; (exact rfl); (first | exact rfl | assumption)) | (apply Wp.condF; (exact rfl); (first | exact rfl | assumption)) | (apply Wp.cond; (exact rfl); (intro); rotate_left 1; (intro); rotate_right 1))
    refine Wp.ret ?_
    simp [Res, resU, res1, c_joinerylaw09_PathLeads]
  | true =>
    obtain ⟨hr, a, rfl, ha⟩ := fair_facts hf
    obtain ⟨to, t, s, e, er, ht⟩ := fair_eq hr ha
    have hrf := reffrom_call false l hr a ha
    rw [er] at hrf
    rw [e]
    repeat (first | apply Wp.seq | apply Wp.skip | apply Wp.block | (apply Wp.op0; ((simp [M2.keep]) <;> rfl)) | (apply Wp.op; (apply Evt.all; intro; (simp [pathU, pU_take26, pU_over, pU_len, ht]) <;> (try simp (disch := omega) only [wrap_id]) <;> first | exact ⟨rfl, rfl⟩ | exact rfl)) | (apply Wp.opN; (apply Evt.all; intro; (simp [pathU, pU_take26, pU_over, pU_len, ht]) <;> (try simp (disch := omega) only [wrap_id]) <;> first | exact ⟨rfl, rfl⟩ | exact rfl)) | (apply Wp.opG; (exact rfl); (apply Evt.all; intro; (simp [pathU, pU_take26, pU_over, pU_len, ht]) <;> (try simp (disch := omega) only [wrap_id]) <;> first | exact ⟨rfl, rfl⟩ | exact rfl)) | (apply Wp.opS; (exact rfl); decide) | (apply Wp.opS0; (exact rfl)))
    apply Wp.call
    · exact fair_call false l a _
    rw [hf]
    repeat' (first | apply Wp.seq | apply Wp.skip | apply Wp.block | (apply Wp.op0; ((simp [M2.keep]) <;> rfl)) | (apply Wp.pickT; (exact rfl); (first | exact rfl | assumption); ((simp) <;> exact rfl)) | (apply Wp.pickF; (exact rfl); (first | exact rfl | assumption); ((simp) <;> exact rfl)) | (apply Wp.op; (apply Evt.all; intro; (simp [pU_len, ht]) <;> (try simp (disch := omega) only [wrap_id]) <;> first | exact ⟨rfl, rfl⟩ | exact rfl)) | (apply Wp.opN; (apply Evt.all; intro; (simp [pU_len, ht]) <;> (try simp (disch := omega) only [wrap_id]) <;> first | exact ⟨rfl, rfl⟩ | exact rfl)) | (apply Wp.call; exact hrf _) | (apply Wp.ung; (exact rfl); (first | exact rfl | assumption)) | (apply Wp.opSt; (exact rfl); (first | exact rfl | assumption)) | (apply Wp.opSf; (exact rfl); (first | exact rfl | assumption)) | (apply Wp.opS0; (exact rfl)) | (apply Wp.grdT; (exact rfl); (intro); rotate_left 1; (intro); rotate_right 1) | (apply Wp.grdF; (exact rfl); (intro); rotate_left 1; (intro); rotate_right 1) | (apply Wp.condT; (exact rfl); (first | exact rfl | assumption)) | (apply Wp.condF; (exact rfl); (first | exact rfl | assumption)) | (apply Wp.cond; (exact rfl); (intro); rotate_left 1; (intro); rotate_right 1))
    have hsm : ∀ st, Cl T 17 [refT true t, refT true t] st (.bool true) st := fun st => by
      have := same5_call true true t t ht ht st
      rwa [decide_eq_true rfl] at this
    have has := as_call t ht
    have kno := knows_call
    refine Wp.draw (by (simp [c_joinerylaw09_PathLeads_D0, I.need]) <;> rfl) (by (simp [pU_take1, pU_len, ht, pU_d25, pU_d1, pU_tail, tabU_len, pf13, pf17, pf18, wrap_id, -plainU, plain_tab]) <;> rfl) (by (simp [pU_take1, pU_len, ht, pU_d25, pU_d1, pU_tail, tabU_len, pf13, pf17, pf18, wrap_id, -plainU, plain_tab]) <;> rfl) (by (unfold c_joinerylaw09_PathLeads_D0); (repeat (first | (apply Dr.op; ((simp [pU_take1, pU_len, ht, pU_d25, pU_d1, pU_tail, tabU_len, pf13, pf17, pf18, wrap_id, -plainU, plain_tab]) <;> rfl); (apply Evt.all; intro; (simp [pU_take1, pU_len, ht, pU_d25, pU_d1, pU_tail, tabU_len, pf13, pf17, pf18, wrap_id, -plainU, plain_tab]) <;> (try simp (disch := omega) only [wrap_id]) <;> first | exact ⟨rfl, rfl⟩ | exact rfl); ((simp [I.need]) <;> rfl)) | (apply Dr.opN; ((simp [pU_take1, pU_len, ht, pU_d25, pU_d1, pU_tail, tabU_len, pf13, pf17, pf18, wrap_id, -plainU, plain_tab]) <;> rfl); (apply Evt.all; intro; (simp [pU_take1, pU_len, ht, pU_d25, pU_d1, pU_tail, tabU_len, pf13, pf17, pf18, wrap_id, -plainU, plain_tab]) <;> (try simp (disch := omega) only [wrap_id]) <;> first | exact ⟨rfl, rfl⟩ | exact rfl); ((simp [I.need]) <;> rfl)) | (apply Dr.opG; (exact rfl); ((simp [pU_take1, pU_len, ht, pU_d25, pU_d1, pU_tail, tabU_len, pf13, pf17, pf18, wrap_id, -plainU, plain_tab]) <;> rfl); (apply Evt.all; intro; (simp [pU_take1, pU_len, ht, pU_d25, pU_d1, pU_tail, tabU_len, pf13, pf17, pf18, wrap_id, -plainU, plain_tab]) <;> (try simp (disch := omega) only [wrap_id]) <;> first | exact ⟨rfl, rfl⟩ | exact rfl); ((simp [I.need]) <;> rfl)) | (apply Dr.opS; (exact rfl); decide; ((simp [I.need]) <;> rfl)) | (apply Dr.opS0; (exact rfl); ((simp [I.need]) <;> rfl)) | (apply Dr.call; ((simp [pU_take1, pU_len, ht, pU_d25, pU_d1, pU_tail, tabU_len, pf13, pf17, pf18, wrap_id, -plainU, plain_tab]) <;> rfl); exact has _) | (apply Dr.callG; (exact rfl); ((simp [pU_take1, pU_len, ht, pU_d25, pU_d1, pU_tail, tabU_len, pf13, pf17, pf18, wrap_id, -plainU, plain_tab]) <;> rfl); exact has _) | (apply Dr.call; ((simp [pU_take1, pU_len, ht, pU_d25, pU_d1, pU_tail, tabU_len, pf13, pf17, pf18, wrap_id, -plainU, plain_tab]) <;> rfl); exact hsm _) | (apply Dr.callG; (exact rfl); ((simp [pU_take1, pU_len, ht, pU_d25, pU_d1, pU_tail, tabU_len, pf13, pf17, pf18, wrap_id, -plainU, plain_tab]) <;> rfl); exact hsm _) | (apply Dr.call; ((simp [pU_take1, pU_len, ht, pU_d25, pU_d1, pU_tail, tabU_len, pf13, pf17, pf18, wrap_id, -plainU, plain_tab]) <;> rfl); exact kno _) | (apply Dr.callG; (exact rfl); ((simp [pU_take1, pU_len, ht, pU_d25, pU_d1, pU_tail, tabU_len, pf13, pf17, pf18, wrap_id, -plainU, plain_tab]) <;> rfl); exact kno _))); exact Dr.nil) (by first | decide +kernel | exact rfl) (by (simp [M2.keep]) <;> rfl) ?_
    refine Wp.ret ?_
    simp [Res, resU, res1, c_joinerylaw09_PathLeads]
theorem params3 : Tryd.f3.params.toList = [22, 3] := by kernel_rfl
/-- The arguments of a function and a place. -/
theorem args2 {us : List U} (hl : us.length = 2) (hty : ∀ (j : Nat) t u, [22, 3][j]? = some t → us[j]? = some u → Typed Tryd.prog 8 t [u]) : ∃ (l : List Ins) (n : Int), us = [insL false l, i64 n] ∧ (∀ x ∈ l, InsR x) ∧ rng n ∧ l.length < 9223372036854775808 := by
  match us, hl with
  | [u, v], _ =>
    obtain ⟨l, rfl, hlen, hx⟩ := typed_insn ⟨5, rfl⟩ (hty 0 22 u rfl rfl)
    obtain ⟨n, rfl, hn⟩ := typed_intn ⟨7, rfl⟩ (hty 1 3 v rfl rfl)
    exact ⟨l, n, rfl, hx, hn, hlen⟩
theorem law3 : Law 3 Tryd.f3.params.toList := by
  rw [params3]
  intro us hl hty
  obtain ⟨l, n, rfl, _, _, _⟩ := args2 hl hty
  exact law_of (law3_call l n)
end Go.Proofs.YtapibckmdpdljaaDoor.M2

/- The law PathAlong in M2. -/
namespace Go.Proofs.YtapibckmdpdljaaDoor.M2
open Go
attribute [local simp] ev1 M2.get put A.ev ld sub part elems bin arith un opt idx fillC cellsO splice over newOb sto fillR laidOwn appTo appRow touch touchN touchM touchE touchA plainU flatU plainAs allM rowAt stoRow accM_nil accM_cons accMM_nil accMM_cons frz_int frz_bool frz_str frz_slt frz_nils frz_nilI frz_nilF frz_own frzRow_row frzRow_frow Ob.blw blw_bool blw_int blw_str blw_nils blw_nilI blw_nilF blw_nilp blw_nilm blw_sl blw_own blw_bp blw_rp blw_mp blw_it params
attribute [local simp] frz_agg frz_tup frz_iface frzS_agg frzS_iface accMS_cons frzS_int frzS_bool frzS_str frzS_slt frzS_nils frzS_nilI beq_dec bne_dec
attribute [local irreducible] Typed

theorem pf14 : pfT T 14 = true := rfl
theorem pf20 : pfT T 20 = true := rfl
/-- A place along the way, after n steps. -/
def Along (l : List Ins) (a n i : Nat) : Prop := i < l.length ∧ n ≤ l.length ∧ match pr l (l.length + 1) a with
  | some r => n ≤ r.2 ∧ pr l (l.length + 1) i = some (r.1, r.2 - n)
  | none => ∀ m, pr l m i = none
theorem along0 {l : List Ins} (hr : rightF l = true) {a : Nat} (ha : a < l.length) : Along l a 0 a := by
  refine ⟨ha, Nat.zero_le _, ?_⟩
  cases h : pr l (l.length + 1) a with
  | none => exact pr_never hr ha h
  | some r => exact ⟨Nat.zero_le _, rfl⟩
theorem along_next {l : List Ins} (hr : rightF l = true) {a n i : Nat} (h : Along l a n i) (hn : n < l.length) (hm : movesF (l.getD i default) = true) : Along l a (n + 1) (nextTo (l.getD i default) i) := by
  obtain ⟨hi, _, h⟩ := h
  refine ⟨(nextTo_ok hr hi hm).1, hn, ?_⟩
  cases hp : pr l (l.length + 1) a with
  | none =>
    rw [hp] at h
    intro m
    have := h (m + 1)
    rw [pr, if_pos hm] at this
    exact Option.map_eq_none_iff.1 this
  | some r =>
    rw [hp] at h
    obtain ⟨h1, h2⟩ := h
    rw [pr, if_pos hm] at h2
    obtain ⟨q, hq, he⟩ := Option.map_eq_some_iff.1 h2
    simp only [Prod.mk.injEq] at he
    have := pr_lt hq
    refine ⟨by omega, ?_⟩
    rw [pr_mono hq (by omega)]
    obtain ⟨q1, q2⟩ := q
    simp only at he ⊢
    rw [he.1, show r.2 - (n + 1) = q2 by omega]
/-- What is told along the way. -/
theorem along_told {l : List Ins} {a n i : Nat} (h : Along l a n i) : (prI (pr l (l.length + 1) i)).1 = (prI (pr l (l.length + 1) a)).1 ∧ (0 ≤ (prI (pr l (l.length + 1) a)).1 → (prI (pr l (l.length + 1) i)).2 = (prI (pr l (l.length + 1) a)).2 - n) := by
  obtain ⟨_, _, h⟩ := h
  cases hp : pr l (l.length + 1) a with
  | none =>
    rw [hp] at h
    rw [h]
    exact ⟨rfl, fun h => by simp [prI] at h⟩
  | some r =>
    rw [hp] at h
    rw [h.2]
    simp only [prI]
    have := h.1
    refine ⟨trivial, fun _ => ?_⟩
    omega
theorem along_end {l : List Ins} {a n i : Nat} (h : Along l a n i) (he : n = l.length ∨ movesF (l.getD i default) = false) : (prI (pr l (l.length + 1) a)).1 < 0 ∨ (i : Int) = (prI (pr l (l.length + 1) a)).1 := by
  obtain ⟨_, _, h⟩ := h
  cases hp : pr l (l.length + 1) a with
  | none => left; simp [prI]
  | some r =>
    rw [hp] at h
    right
    simp only [prI]
    have h0 := pr_lt hp
    obtain ⟨h1, h2⟩ := h
    cases hm : movesF (l.getD i default) with
    | false =>
      rw [pr, hm, if_neg (by simp)] at h2
      simp only [Option.some.injEq, Prod.mk.injEq] at h2
      omega
    | true =>
      rw [hm] at he
      have hn : n = l.length := by simpa using he
      rw [pr, hm, if_pos rfl] at h2
      obtain ⟨q, hq, he⟩ := Option.map_eq_some_iff.1 h2
      simp only [Prod.mk.injEq] at he
      omega
def alS (l : List Ins) (to : Int) (t : List Src) (s : Int) (n i : Nat) : S := ⟨[(0, insL false l), (5, .bp 0 0), (7, i64 i), (8, i64 n)], [.box (pU to t s)]⟩
set_option maxHeartbeats 4000000 in
theorem al_step (l : List Ins) (hr : rightF l = true) (to : Int) (t : List Src) (ht : t.length = 24) (s : Int) (n i : Nat) (hi : i < l.length) (hn : n ≤ l.length) (qs : Int) (tq : List Src) (htq : tq.length = 24) (hq : fromF l i = ((to, tq, qs), 0)) (hs : 0 ≤ s ∧ s ≤ 1000) (hqs : 0 ≤ to → qs = s - n) :
    Wp T c_joinerylaw09_PathAlong_L0 (alS l to t s n i) (fun s' => n < l.length ∧ movesF (l.getD i default) = true ∧ trimO 1 s' = alS l to t s (n + 1) (nextTo (l.getD i default) i)) (fun _ => False) (fun b s' => b = 0 ∧ (n = l.length ∨ movesF (l.getD i default) = false) ∧ s' = ⟨[(0, insL false l), (5, .bp 0 0), (7, i64 i), (8, i64 n), (40, .bool false)], [.box (pU to t s)]⟩) := by
  have h200 := (right_facts hr).1
  have hx : l.getD i default = l[i] := by simp [hi]
  have hnx := nextTo_ok hr hi
  have hmv := moves3_call l[i]
  have hfr := from_call false l i
  rw [hq] at hfr
  rw [hx] at hnx ⊢
  simp only [alS]
  have hnn : movesF l[i] = true → ((nextTo l[i] i : Nat) : Int) = if l[i].op = 16 then l[i].to else (i : Int) + 1 := by
    intro hm
    unfold nextTo
    split
    · rename_i h16
      have := (hnx hm).2 h16
      omega
    · omega
  have hpb : Ob.blw 1 (.box (pU to t s)) = true := by
    show (pU to t s).all (blw blwD 1) = true
    rw [List.all_eq_true]
    intro u hu
    simp only [pU, List.mem_cons, List.mem_append, List.not_mem_nil, or_false] at hu
    rcases hu with rfl | hu | rfl
    · rfl
    · exact tab_blw 1 t u hu
    · rfl
  have fin : ∀ (j : Int) (v : Ob), trimO 1 ⟨[(0, insL false l), (5, .bp 0 0), (7, i64 j), (8, i64 ((n : Int) + 1))], [.box (pU to t s), v]⟩ = ⟨[(0, insL false l), (5, .bp 0 0), (7, i64 j), (8, i64 ((n : Int) + 1))], [.box (pU to t s)]⟩ := fun j v =>
    trim_back (st := [.box (pU to t s)]) (b := v) (e := [(0, insL false l), (5, .bp 0 0), (7, i64 j), (8, i64 ((n : Int) + 1))]) (by simp [insL]) (show (Ob.blw 1 (.box (pU to t s)) && true) = true by rw [hpb]; rfl)
  by_cases hnl : n < l.length
  · have hnl' : (n : Int) < l.length := by omega
    repeat (first | apply Wp.seq | apply Wp.skip | apply Wp.block | (apply Wp.op0; ((simp [M2.keep]) <;> rfl)) | (apply Wp.op; (apply Evt.all; intro; (simp [insL, hnl, hi, insU_len, insU_take, over_full]) <;> (try simp (disch := omega) only [wrap_id]) <;> first | exact ⟨rfl, rfl⟩ | exact rfl)) | (apply Wp.opN; (apply Evt.all; intro; (simp [insL, hnl, hi, insU_len, insU_take, over_full]) <;> (try simp (disch := omega) only [wrap_id]) <;> first | exact ⟨rfl, rfl⟩ | exact rfl)) | (apply Wp.opG; (exact rfl); (apply Evt.all; intro; (simp [insL, hnl, hi, insU_len, insU_take, over_full]) <;> (try simp (disch := omega) only [wrap_id]) <;> first | exact ⟨rfl, rfl⟩ | exact rfl)) | (apply Wp.opS; (exact rfl); decide) | (apply Wp.opS0; (exact rfl)))
    apply Wp.callG
    · exact rfl
    · exact hmv _
    cases hm : movesF l[i] with
    | false =>
      repeat (first | apply Wp.seq | apply Wp.skip | apply Wp.block | (apply Wp.op0; ((simp [M2.keep]) <;> rfl)) | (apply Wp.op; (apply Evt.all; intro; (simp []) <;> (try simp (disch := omega) only [wrap_id]) <;> first | exact ⟨rfl, rfl⟩ | exact rfl)) | (apply Wp.opN; (apply Evt.all; intro; (simp []) <;> (try simp (disch := omega) only [wrap_id]) <;> first | exact ⟨rfl, rfl⟩ | exact rfl)) | (apply Wp.opG; (exact rfl); (apply Evt.all; intro; (simp []) <;> (try simp (disch := omega) only [wrap_id]) <;> first | exact ⟨rfl, rfl⟩ | exact rfl)) | (apply Wp.opS; (exact rfl); decide) | (apply Wp.opS0; (exact rfl)))
      refine Wp.cond (by first | rfl | (simp; rfl)) (fun h1 => ?_) (fun h1 => ?_)
      · cases h1
      · exact Wp.exit ⟨rfl, .inr rfl, rfl⟩
    | true =>
      repeat (first | apply Wp.seq | apply Wp.skip | apply Wp.block | (apply Wp.op0; ((simp [M2.keep]) <;> rfl)) | (apply Wp.op; (apply Evt.all; intro; (simp []) <;> (try simp (disch := omega) only [wrap_id]) <;> first | exact ⟨rfl, rfl⟩ | exact rfl)) | (apply Wp.opN; (apply Evt.all; intro; (simp []) <;> (try simp (disch := omega) only [wrap_id]) <;> first | exact ⟨rfl, rfl⟩ | exact rfl)) | (apply Wp.opG; (exact rfl); (apply Evt.all; intro; (simp []) <;> (try simp (disch := omega) only [wrap_id]) <;> first | exact ⟨rfl, rfl⟩ | exact rfl)) | (apply Wp.opS; (exact rfl); decide) | (apply Wp.opS0; (exact rfl)))
      refine Wp.cond (by first | rfl | (simp; rfl)) (fun h1 => ?_) (fun h1 => ?_)
      · repeat (first | apply Wp.seq | apply Wp.skip | apply Wp.block | (apply Wp.op0; ((simp [M2.keep]) <;> rfl)) | (apply Wp.op; (apply Evt.all; intro; (simp []) <;> (try simp (disch := omega) only [wrap_id]) <;> first | exact ⟨rfl, rfl⟩ | exact rfl)) | (apply Wp.opN; (apply Evt.all; intro; (simp []) <;> (try simp (disch := omega) only [wrap_id]) <;> first | exact ⟨rfl, rfl⟩ | exact rfl)) | (apply Wp.opG; (exact rfl); (apply Evt.all; intro; (simp []) <;> (try simp (disch := omega) only [wrap_id]) <;> first | exact ⟨rfl, rfl⟩ | exact rfl)) | (apply Wp.opS; (exact rfl); decide) | (apply Wp.opS0; (exact rfl)))
        apply Wp.call
        · exact hfr _
        by_cases h0 : 0 ≤ to
        · have hq' := hqs h0
          subst hq'
          repeat (first | apply Wp.seq | apply Wp.skip | apply Wp.block | (apply Wp.op0; ((simp [M2.keep]) <;> rfl)) | (apply Wp.op; (apply Evt.all; intro; (simp [pathU, pU_take1, pU_take26, pU_over, pU_len, ht, htq, pU_d25, h0, wrap_id]) <;> (try simp (disch := omega) only [wrap_id]) <;> first | exact ⟨rfl, rfl⟩ | exact rfl)) | (apply Wp.opN; (apply Evt.all; intro; (simp [pathU, pU_take1, pU_take26, pU_over, pU_len, ht, htq, pU_d25, h0, wrap_id]) <;> (try simp (disch := omega) only [wrap_id]) <;> first | exact ⟨rfl, rfl⟩ | exact rfl)) | (apply Wp.opG; (exact rfl); (apply Evt.all; intro; (simp [pathU, pU_take1, pU_take26, pU_over, pU_len, ht, htq, pU_d25, h0, wrap_id]) <;> (try simp (disch := omega) only [wrap_id]) <;> first | exact ⟨rfl, rfl⟩ | exact rfl)) | (apply Wp.opS; (exact rfl); decide) | (apply Wp.opS0; (exact rfl)))
          refine Wp.cond (by first | rfl | (simp; rfl)) (fun h2 => ?_) (fun h2 => ?_)
          · simp at h2
          repeat (first | apply Wp.seq | apply Wp.skip | apply Wp.block | (apply Wp.op0; ((simp [M2.keep]) <;> rfl)) | (apply Wp.op; (apply Evt.all; intro; (simp [insL, hi, insU]) <;> (try simp (disch := omega) only [wrap_id]) <;> first | exact ⟨rfl, rfl⟩ | exact rfl)) | (apply Wp.opN; (apply Evt.all; intro; (simp [insL, hi, insU]) <;> (try simp (disch := omega) only [wrap_id]) <;> first | exact ⟨rfl, rfl⟩ | exact rfl)) | (apply Wp.opG; (exact rfl); (apply Evt.all; intro; (simp [insL, hi, insU]) <;> (try simp (disch := omega) only [wrap_id]) <;> first | exact ⟨rfl, rfl⟩ | exact rfl)) | (apply Wp.opS; (exact rfl); decide) | (apply Wp.opS0; (exact rfl)))
          refine Wp.cond (by first | rfl | (simp; rfl)) (fun hc => ?_) (fun hc => ?_)
          · have h16 : l[i].op = 16 := by simpa using hc
            rw [hnn hm, if_pos h16]
            repeat (first | apply Wp.seq | apply Wp.skip | apply Wp.block | (apply Wp.op0; ((simp [M2.keep]) <;> rfl)) | (apply Wp.op; (apply Evt.all; intro; (simp [insL, hi, insU, wrap_id]) <;> (try simp (disch := omega) only [wrap_id]) <;> first | exact ⟨rfl, rfl⟩ | exact rfl)) | (apply Wp.opN; (apply Evt.all; intro; (simp [insL, hi, insU, wrap_id]) <;> (try simp (disch := omega) only [wrap_id]) <;> first | exact ⟨rfl, rfl⟩ | exact rfl)) | (apply Wp.opG; (exact rfl); (apply Evt.all; intro; (simp [insL, hi, insU, wrap_id]) <;> (try simp (disch := omega) only [wrap_id]) <;> first | exact ⟨rfl, rfl⟩ | exact rfl)) | (apply Wp.opS; (exact rfl); decide) | (apply Wp.opS0; (exact rfl)))
            exact ⟨hnl, rfl, fin _ _⟩
          · have h16 : ¬ l[i].op = 16 := by simpa using hc
            rw [hnn hm, if_neg h16]
            repeat (first | apply Wp.seq | apply Wp.skip | apply Wp.block | (apply Wp.op0; ((simp [M2.keep]) <;> rfl)) | (apply Wp.op; (apply Evt.all; intro; (simp [insL, hi, insU, wrap_id]) <;> (try simp (disch := omega) only [wrap_id]) <;> first | exact ⟨rfl, rfl⟩ | exact rfl)) | (apply Wp.opN; (apply Evt.all; intro; (simp [insL, hi, insU, wrap_id]) <;> (try simp (disch := omega) only [wrap_id]) <;> first | exact ⟨rfl, rfl⟩ | exact rfl)) | (apply Wp.opG; (exact rfl); (apply Evt.all; intro; (simp [insL, hi, insU, wrap_id]) <;> (try simp (disch := omega) only [wrap_id]) <;> first | exact ⟨rfl, rfl⟩ | exact rfl)) | (apply Wp.opS; (exact rfl); decide) | (apply Wp.opS0; (exact rfl)))
            exact ⟨hnl, rfl, fin _ _⟩
        · repeat (first | apply Wp.seq | apply Wp.skip | apply Wp.block | (apply Wp.op0; ((simp [M2.keep]) <;> rfl)) | (apply Wp.op; (apply Evt.all; intro; (simp [pathU, pU_take1, pU_take26, pU_over, pU_len, ht, htq, pU_d25, h0, wrap_id]) <;> (try simp (disch := omega) only [wrap_id]) <;> first | exact ⟨rfl, rfl⟩ | exact rfl)) | (apply Wp.opN; (apply Evt.all; intro; (simp [pathU, pU_take1, pU_take26, pU_over, pU_len, ht, htq, pU_d25, h0, wrap_id]) <;> (try simp (disch := omega) only [wrap_id]) <;> first | exact ⟨rfl, rfl⟩ | exact rfl)) | (apply Wp.opG; (exact rfl); (apply Evt.all; intro; (simp [pathU, pU_take1, pU_take26, pU_over, pU_len, ht, htq, pU_d25, h0, wrap_id]) <;> (try simp (disch := omega) only [wrap_id]) <;> first | exact ⟨rfl, rfl⟩ | exact rfl)) | (apply Wp.opS; (exact rfl); decide) | (apply Wp.opS0; (exact rfl)))
          refine Wp.cond (by first | rfl | (simp; rfl)) (fun h2 => ?_) (fun h2 => ?_)
          · simp at h2
          repeat (first | apply Wp.seq | apply Wp.skip | apply Wp.block | (apply Wp.op0; ((simp [M2.keep]) <;> rfl)) | (apply Wp.op; (apply Evt.all; intro; (simp [insL, hi, insU]) <;> (try simp (disch := omega) only [wrap_id]) <;> first | exact ⟨rfl, rfl⟩ | exact rfl)) | (apply Wp.opN; (apply Evt.all; intro; (simp [insL, hi, insU]) <;> (try simp (disch := omega) only [wrap_id]) <;> first | exact ⟨rfl, rfl⟩ | exact rfl)) | (apply Wp.opG; (exact rfl); (apply Evt.all; intro; (simp [insL, hi, insU]) <;> (try simp (disch := omega) only [wrap_id]) <;> first | exact ⟨rfl, rfl⟩ | exact rfl)) | (apply Wp.opS; (exact rfl); decide) | (apply Wp.opS0; (exact rfl)))
          refine Wp.cond (by first | rfl | (simp; rfl)) (fun hc => ?_) (fun hc => ?_)
          · have h16 : l[i].op = 16 := by simpa using hc
            rw [hnn hm, if_pos h16]
            repeat (first | apply Wp.seq | apply Wp.skip | apply Wp.block | (apply Wp.op0; ((simp [M2.keep]) <;> rfl)) | (apply Wp.op; (apply Evt.all; intro; (simp [insL, hi, insU, wrap_id]) <;> (try simp (disch := omega) only [wrap_id]) <;> first | exact ⟨rfl, rfl⟩ | exact rfl)) | (apply Wp.opN; (apply Evt.all; intro; (simp [insL, hi, insU, wrap_id]) <;> (try simp (disch := omega) only [wrap_id]) <;> first | exact ⟨rfl, rfl⟩ | exact rfl)) | (apply Wp.opG; (exact rfl); (apply Evt.all; intro; (simp [insL, hi, insU, wrap_id]) <;> (try simp (disch := omega) only [wrap_id]) <;> first | exact ⟨rfl, rfl⟩ | exact rfl)) | (apply Wp.opS; (exact rfl); decide) | (apply Wp.opS0; (exact rfl)))
            exact ⟨hnl, rfl, fin _ _⟩
          · have h16 : ¬ l[i].op = 16 := by simpa using hc
            rw [hnn hm, if_neg h16]
            repeat (first | apply Wp.seq | apply Wp.skip | apply Wp.block | (apply Wp.op0; ((simp [M2.keep]) <;> rfl)) | (apply Wp.op; (apply Evt.all; intro; (simp [insL, hi, insU, wrap_id]) <;> (try simp (disch := omega) only [wrap_id]) <;> first | exact ⟨rfl, rfl⟩ | exact rfl)) | (apply Wp.opN; (apply Evt.all; intro; (simp [insL, hi, insU, wrap_id]) <;> (try simp (disch := omega) only [wrap_id]) <;> first | exact ⟨rfl, rfl⟩ | exact rfl)) | (apply Wp.opG; (exact rfl); (apply Evt.all; intro; (simp [insL, hi, insU, wrap_id]) <;> (try simp (disch := omega) only [wrap_id]) <;> first | exact ⟨rfl, rfl⟩ | exact rfl)) | (apply Wp.opS; (exact rfl); decide) | (apply Wp.opS0; (exact rfl)))
            exact ⟨hnl, rfl, fin _ _⟩
      · cases h1
  · have hnl' : n = l.length := by omega
    repeat (first | apply Wp.seq | apply Wp.skip | apply Wp.block | (apply Wp.op0; ((simp [M2.keep]) <;> rfl)) | (apply Wp.op; (apply Evt.all; intro; (simp [insL, hnl]) <;> (try simp (disch := omega) only [wrap_id]) <;> first | exact ⟨rfl, rfl⟩ | exact rfl)) | (apply Wp.opN; (apply Evt.all; intro; (simp [insL, hnl]) <;> (try simp (disch := omega) only [wrap_id]) <;> first | exact ⟨rfl, rfl⟩ | exact rfl)) | (apply Wp.opG; (exact rfl); (apply Evt.all; intro; (simp [insL, hnl]) <;> (try simp (disch := omega) only [wrap_id]) <;> first | exact ⟨rfl, rfl⟩ | exact rfl)) | (apply Wp.opS; (exact rfl); decide) | (apply Wp.opS0; (exact rfl)))
    refine Wp.cond (by first | rfl | (simp; rfl)) (fun h1 => ?_) (fun h1 => ?_)
    · cases h1
    · exact Wp.exit ⟨rfl, .inl hnl', rfl⟩
theorem al_loop (l : List Ins) (hr : rightF l = true) (a : Nat) (ha : a < l.length) (t : List Src) (ht : t.length = 24) :
    Wp T (.loop c_joinerylaw09_PathAlong_L0) (alS l (prI (pr l (l.length + 1) a)).1 t (prI (pr l (l.length + 1) a)).2 (0 : Nat) a) (fun _ => False) (fun _ => False) (fun b s' => b = 0 ∧ ∃ n i : Nat, ((prI (pr l (l.length + 1) a)).1 < 0 ∨ (i : Int) = (prI (pr l (l.length + 1) a)).1) ∧ s' = ⟨[(0, insL false l), (5, .bp 0 0), (7, i64 i), (8, i64 n), (40, .bool false)], [.box (pU (prI (pr l (l.length + 1) a)).1 t (prI (pr l (l.length + 1) a)).2)]⟩) := by
  have h200 := (right_facts hr).1
  refine Wp.loop (fun x : Nat × Nat => l.length - x.1) (fun x => alS l _ t _ x.1 x.2) (fun x => Along l a x.1 x.2) (fun x hx => ?_) (0, a) (along0 hr ha)
  obtain ⟨n, i⟩ := x
  simp only at hx ⊢
  obtain ⟨tq, htq, hq⟩ := fair_pr hr hx.1
  have h1 := along_told hx
  have hs : 0 ≤ (prI (pr l (l.length + 1) a)).2 ∧ (prI (pr l (l.length + 1) a)).2 ≤ 1000 := by
    cases hp : pr l (l.length + 1) a with
    | none => simp [prI]
    | some r =>
      have := pr_lt hp
      simp only [prI]
      omega
  rw [h1.1] at hq
  refine (al_step l hr _ t ht _ n i hx.1 hx.2.1 _ tq htq hq hs h1.2).imp (fun s' h => ?_) (fun _ h => h) (fun b s' h => ?_)
  · obtain ⟨hn, hm, htr⟩ := h
    exact ⟨(n + 1, nextTo (l.getD i default) i), htr, by simp only; omega, along_next hr hx hn hm⟩
  · obtain ⟨rfl, he, rfl⟩ := h
    exact ⟨rfl, n, i, along_end hx he, rfl⟩
set_option maxHeartbeats 4000000 in
theorem law5_call (l : List Ins) (at_ : Int) : Cl T 5 [insL false l, i64 at_] [] (.bool true) [] := by
  refine Wp.pure (fn := c_joinerylaw09_PathAlong) rfl rfl rfl («as» := [insL false l, i64 at_]) rfl ?_
  by_cases h300 : 300 < l.length
  · have h300' : decide ((300 : Int) < l.length) = true := decide_eq_true (by omega)
    repeat' (first | apply Wp.seq | apply Wp.skip | apply Wp.block | (apply Wp.op0; ((simp [M2.keep]) <;> rfl)) | (apply Wp.pickT; (exact rfl); (first | exact rfl | assumption); ((simp) <;> exact rfl)) | (apply Wp.pickF; (exact rfl); (first | exact rfl | assumption); ((simp) <;> exact rfl)) | (apply Wp.op; (apply Evt.all; intro; (simp [insL]) <;> (try simp (disch := omega) only [wrap_id]) <;> first | exact ⟨rfl, rfl⟩ | exact rfl)) | (apply Wp.opN; (apply Evt.all; intro; (simp [insL]) <;> (try simp (disch := omega) only [wrap_id]) <;> first | exact ⟨rfl, rfl⟩ | exact rfl)) | (apply Wp.call; exact knows_call _) | (apply Wp.ung; (exact rfl); (first | exact rfl | assumption)) | (apply Wp.opSt; (exact rfl); (first | exact rfl | assumption)) | (apply Wp.opSf; (exact rfl); (first | exact rfl | assumption)) | (apply Wp.opS0; (exact rfl)) | (apply Wp.grdT; (exact rfl); (intro); rotate_left 1; (intro); rotate_right 1) | (apply Wp.grdF; (exact rfl); (intro); rotate_left 1; (intro); rotate_right 1) | (apply Wp.condT; (exact rfl); (first | exact rfl | assumption)) | (apply Wp.condF; (exact rfl); (first | exact rfl | assumption)) | (apply Wp.cond; (exact rfl); (intro); rotate_left 1; (intro); rotate_right 1))
    refine Wp.ret ?_
    simp [Res, resU, res1, c_joinerylaw09_PathAlong]
  have h300' : decide ((300 : Int) < l.length) = false := decide_eq_false (by omega)
  have hfa := fair_call false l at_
  cases hf : fairF l at_ with
  | false =>
    rw [hf] at hfa
    repeat' (first | apply Wp.seq | apply Wp.skip | apply Wp.block | (apply Wp.op0; ((simp [M2.keep]) <;> rfl)) | (apply Wp.pickT; (exact rfl); (first | exact rfl | assumption); ((simp) <;> exact rfl)) | (apply Wp.pickF; (exact rfl); (first | exact rfl | assumption); ((simp) <;> exact rfl)) | (apply Wp.op; (apply Evt.all; intro; (simp [insL]) <;> (try simp (disch := omega) only [wrap_id]) <;> first | exact ⟨rfl, rfl⟩ | exact rfl)) | (apply Wp.opN; (apply Evt.all; intro; (simp [insL]) <;> (try simp (disch := omega) only [wrap_id]) <;> first | exact ⟨rfl, rfl⟩ | exact rfl)) | (apply Wp.call; exact hfa _) | (apply Wp.call; exact knows_call _) | (apply Wp.ung; (exact rfl); (first | exact rfl | assumption)) | (apply Wp.opSt; (exact rfl); (first | exact rfl | assumption)) | (apply Wp.opSf; (exact rfl); (first | exact rfl | assumption)) | (apply Wp.opS0; (exact rfl)) | (apply Wp.grdT; (exact rfl); (intro); rotate_left 1; (intro); rotate_right 1) | (apply Wp.grdF; (exact rfl); (intro); rotate_left 1; (intro); rotate_right 1) | (apply Wp.condT; (exact rfl); (first | exact rfl | assumption)) | (apply Wp.condF; (exact rfl); (first | exact rfl | assumption)) | (apply Wp.cond; (exact rfl); (intro); rotate_left 1; (intro); rotate_right 1))
    refine Wp.ret ?_
    simp [Res, resU, res1, c_joinerylaw09_PathAlong]
  | true =>
    rw [hf] at hfa
    obtain ⟨hr, a, rfl, ha⟩ := fair_facts hf
    obtain ⟨t, ht, e⟩ := fair_pr hr ha
    have hfr := from_call false l a
    rw [e] at hfr
    have hlp := al_loop l hr a ha t ht
    generalize (prI (pr l (l.length + 1) a)).1 = to at *
    generalize (prI (pr l (l.length + 1) a)).2 = s at *
    simp only [pathU] at hfr
    repeat' (first | apply Wp.seq | apply Wp.skip | apply Wp.block | (apply Wp.op0; ((simp [M2.keep]) <;> rfl)) | (apply Wp.pickT; (exact rfl); (first | exact rfl | assumption); ((simp) <;> exact rfl)) | (apply Wp.pickF; (exact rfl); (first | exact rfl | assumption); ((simp) <;> exact rfl)) | (apply Wp.op; (apply Evt.all; intro; (simp [insL, pU_take26, pU_over, pU_len, ht]) <;> (try simp (disch := omega) only [wrap_id]) <;> first | exact ⟨rfl, rfl⟩ | exact rfl)) | (apply Wp.opN; (apply Evt.all; intro; (simp [insL, pU_take26, pU_over, pU_len, ht]) <;> (try simp (disch := omega) only [wrap_id]) <;> first | exact ⟨rfl, rfl⟩ | exact rfl)) | (apply Wp.call; exact hfa _) | (apply Wp.call; exact hfr _) | (apply Wp.ung; (exact rfl); (first | exact rfl | assumption)) | (apply Wp.opSt; (exact rfl); (first | exact rfl | assumption)) | (apply Wp.opSf; (exact rfl); (first | exact rfl | assumption)) | (apply Wp.opS0; (exact rfl)) | (apply Wp.grdT; (exact rfl); (intro); rotate_left 1; (intro); rotate_right 1) | (apply Wp.grdF; (exact rfl); (intro); rotate_left 1; (intro); rotate_right 1) | (apply Wp.condT; (exact rfl); (first | exact rfl | assumption)) | (apply Wp.condF; (exact rfl); (first | exact rfl | assumption)) | (apply Wp.cond; (exact rfl); (intro); rotate_left 1; (intro); rotate_right 1))
    refine (show Wp T (.loop c_joinerylaw09_PathAlong_L0) (alS l to t s 0 a) _ _ _ from hlp.imp (fun _ h => h.elim) (fun _ h => h.elim) ?_)
    rintro b s' ⟨rfl, n, i, he, rfl⟩
    rw [if_pos rfl]
    by_cases h0 : to < 0
    · have hd : decide (to < 0) = true := decide_eq_true h0
      repeat' (first | apply Wp.seq | apply Wp.skip | apply Wp.block | (apply Wp.op0; ((simp [M2.keep]) <;> rfl)) | (apply Wp.pickT; (exact rfl); (first | exact rfl | assumption); ((simp) <;> exact rfl)) | (apply Wp.pickF; (exact rfl); (first | exact rfl | assumption); ((simp) <;> exact rfl)) | (apply Wp.op; (apply Evt.all; intro; (simp [pU_take1, pU_len, ht]) <;> (try simp (disch := omega) only [wrap_id]) <;> first | exact ⟨rfl, rfl⟩ | exact rfl)) | (apply Wp.opN; (apply Evt.all; intro; (simp [pU_take1, pU_len, ht]) <;> (try simp (disch := omega) only [wrap_id]) <;> first | exact ⟨rfl, rfl⟩ | exact rfl)) | (apply Wp.call; exact knows_call _) | (apply Wp.ung; (exact rfl); (first | exact rfl | assumption)) | (apply Wp.opSt; (exact rfl); (first | exact rfl | assumption)) | (apply Wp.opSf; (exact rfl); (first | exact rfl | assumption)) | (apply Wp.opS0; (exact rfl)) | (apply Wp.grdT; (exact rfl); (intro); rotate_left 1; (intro); rotate_right 1) | (apply Wp.grdF; (exact rfl); (intro); rotate_left 1; (intro); rotate_right 1) | (apply Wp.condT; (exact rfl); (first | exact rfl | assumption)) | (apply Wp.condF; (exact rfl); (first | exact rfl | assumption)) | (apply Wp.cond; (exact rfl); (intro); rotate_left 1; (intro); rotate_right 1))
      refine Wp.ret ?_
      simp [Res, resU, res1, c_joinerylaw09_PathAlong]
    · have hd : decide (to < 0) = false := decide_eq_false h0
      have hi : (i : Int) = to := he.resolve_left h0
      have hj : decide ((i : Int) = to) = true := decide_eq_true hi
      repeat' (first | apply Wp.seq | apply Wp.skip | apply Wp.block | (apply Wp.op0; ((simp [M2.keep]) <;> rfl)) | (apply Wp.pickT; (exact rfl); (first | exact rfl | assumption); ((simp) <;> exact rfl)) | (apply Wp.pickF; (exact rfl); (first | exact rfl | assumption); ((simp) <;> exact rfl)) | (apply Wp.op; (apply Evt.all; intro; (simp [pU_take1, pU_len, ht]) <;> (try simp (disch := omega) only [wrap_id]) <;> first | exact ⟨rfl, rfl⟩ | exact rfl)) | (apply Wp.opN; (apply Evt.all; intro; (simp [pU_take1, pU_len, ht]) <;> (try simp (disch := omega) only [wrap_id]) <;> first | exact ⟨rfl, rfl⟩ | exact rfl)) | (apply Wp.call; exact knows_call _) | (apply Wp.ung; (exact rfl); (first | exact rfl | assumption)) | (apply Wp.opSt; (exact rfl); (first | exact rfl | assumption)) | (apply Wp.opSf; (exact rfl); (first | exact rfl | assumption)) | (apply Wp.opS0; (exact rfl)) | (apply Wp.grdT; (exact rfl); (intro); rotate_left 1; (intro); rotate_right 1) | (apply Wp.grdF; (exact rfl); (intro); rotate_left 1; (intro); rotate_right 1) | (apply Wp.condT; (exact rfl); (first | exact rfl | assumption)) | (apply Wp.condF; (exact rfl); (first | exact rfl | assumption)) | (apply Wp.cond; (exact rfl); (intro); rotate_left 1; (intro); rotate_right 1))
      refine Wp.ret ?_
      simp [Res, resU, res1, c_joinerylaw09_PathAlong]
theorem params5 : Tryd.f5.params.toList = [22, 3] := by kernel_rfl
theorem law5 : Law 5 Tryd.f5.params.toList := by
  rw [params5]
  intro us hl hty
  obtain ⟨l, n, rfl, _, _, _⟩ := args2 hl hty
  exact law_of (law5_call l n)
end Go.Proofs.YtapibckmdpdljaaDoor.M2

/- The law PathOnce in M2. -/
namespace Go.Proofs.YtapibckmdpdljaaDoor.M2
open Go
attribute [local simp] ev1 M2.get put A.ev ld sub part elems bin arith un opt idx fillC cellsO splice over newOb sto fillR laidOwn appTo appRow touch touchN touchM touchE touchA plainU flatU plainAs allM rowAt stoRow accM_nil accM_cons accMM_nil accMM_cons frz_int frz_bool frz_str frz_slt frz_nils frz_nilI frz_nilF frz_own frzRow_row frzRow_frow Ob.blw blw_bool blw_int blw_str blw_nils blw_nilI blw_nilF blw_nilp blw_nilm blw_sl blw_own blw_bp blw_rp blw_mp blw_it params
attribute [local simp] frz_agg frz_tup frz_iface frzS_agg frzS_iface accMS_cons frzS_int frzS_bool frzS_str frzS_slt frzS_nils frzS_nilI beq_dec bne_dec
attribute [local irreducible] Typed

theorem pf19 : pfT T 19 = true := rfl
/-- The shape of a table. -/
abbrev shT : Sh := .tarr 24 1 (.tifc [(102, .tst [(1, .ti)]), (106, .tst [(1, .ti)])])
theorem new_same : sameV shT (.agg (tabU newT)) (.agg (tabU newT)) = some true := by kernel_rfl
/-- Where a path ends, it stays. -/
theorem fair_end {l : List Ins} (hr : rightF l = true) {a : Nat} (ha : a < l.length) {s : RP} (h : refRun l (l.length + 1) ⟨a, newT, 0⟩ = some s) : s.to < l.length ∧ fromF l s.to = (((s.to : Int), newT, 0), 0) := by
  have h1 := refRun_pr l (l.length + 1) ⟨a, newT, 0⟩
  rw [h] at h1
  simp only [Option.map_some] at h1
  obtain ⟨r, hr', he⟩ := Option.map_eq_some_iff.1 h1.symm
  simp only [Prod.mk.injEq] at he
  have h2 := pr_to hr ha hr'
  have h3 := pr_end hr'
  rw [he.1] at h2 h3
  refine ⟨h2, ?_⟩
  rw [fair_run hr h2, refRun, h3, if_neg (by simp)]
  rfl
set_option maxHeartbeats 4000000 in
theorem law4_call (l : List Ins) (at_ : Int) : Cl T 4 [insL false l, i64 at_] [] (.bool true) [] := by
  refine Wp.pure (fn := c_joinerylaw09_PathOnce) rfl rfl rfl («as» := [insL false l, i64 at_]) rfl ?_
  have kno := knows_call
  by_cases h300 : 300 < l.length
  · have h300' : decide ((300 : Int) < l.length) = true := decide_eq_true (by omega)
    repeat' (first | apply Wp.seq | apply Wp.skip | apply Wp.block | (apply Wp.op0; ((simp [M2.keep]) <;> rfl)) | (apply Wp.pickT; (exact rfl); (first | exact rfl | assumption); ((simp) <;> exact rfl)) | (apply Wp.pickF; (exact rfl); (first | exact rfl | assumption); ((simp) <;> exact rfl)) | (apply Wp.op; (apply Evt.all; intro; (simp [insL]) <;> (try simp (disch := omega) only [wrap_id]) <;> first | exact ⟨rfl, rfl⟩ | exact rfl)) | (apply Wp.opN; (apply Evt.all; intro; (simp [insL]) <;> (try simp (disch := omega) only [wrap_id]) <;> first | exact ⟨rfl, rfl⟩ | exact rfl)) | (apply Wp.call; exact kno _) | (apply Wp.ung; (exact rfl); (first | exact rfl | assumption)) | (apply Wp.opSt; (exact rfl); (first | exact rfl | assumption)) | (apply Wp.opSf; (exact rfl); (first | exact rfl | assumption)) | (apply Wp.opS0; (exact rfl)) | (apply Wp.grdT; (exact rfl); (intro); rotate_left 1; (intro); rotate_right 1) | (apply Wp.grdF; (exact rfl); (intro); rotate_left 1; (intro); rotate_right 1) | (apply Wp.condT; (exact rfl); (first | exact rfl | assumption)) | (apply Wp.condF; (exact rfl); (first | exact rfl | assumption)) | (apply Wp.cond; (exact rfl); (intro); rotate_left 1; (intro); rotate_right 1))
    refine Wp.ret ?_
    simp [Res, resU, res1, c_joinerylaw09_PathOnce]
  have h300' : decide ((300 : Int) < l.length) = false := decide_eq_false (by omega)
  have hfa := fair_call false l at_
  cases hf : fairF l at_ with
  | false =>
    rw [hf] at hfa
    repeat' (first | apply Wp.seq | apply Wp.skip | apply Wp.block | (apply Wp.op0; ((simp [M2.keep]) <;> rfl)) | (apply Wp.pickT; (exact rfl); (first | exact rfl | assumption); ((simp) <;> exact rfl)) | (apply Wp.pickF; (exact rfl); (first | exact rfl | assumption); ((simp) <;> exact rfl)) | (apply Wp.op; (apply Evt.all; intro; (simp [insL]) <;> (try simp (disch := omega) only [wrap_id]) <;> first | exact ⟨rfl, rfl⟩ | exact rfl)) | (apply Wp.opN; (apply Evt.all; intro; (simp [insL]) <;> (try simp (disch := omega) only [wrap_id]) <;> first | exact ⟨rfl, rfl⟩ | exact rfl)) | (apply Wp.call; exact hfa _) | (apply Wp.call; exact kno _) | (apply Wp.ung; (exact rfl); (first | exact rfl | assumption)) | (apply Wp.opSt; (exact rfl); (first | exact rfl | assumption)) | (apply Wp.opSf; (exact rfl); (first | exact rfl | assumption)) | (apply Wp.opS0; (exact rfl)) | (apply Wp.grdT; (exact rfl); (intro); rotate_left 1; (intro); rotate_right 1) | (apply Wp.grdF; (exact rfl); (intro); rotate_left 1; (intro); rotate_right 1) | (apply Wp.condT; (exact rfl); (first | exact rfl | assumption)) | (apply Wp.condF; (exact rfl); (first | exact rfl | assumption)) | (apply Wp.cond; (exact rfl); (intro); rotate_left 1; (intro); rotate_right 1))
    refine Wp.ret ?_
    simp [Res, resU, res1, c_joinerylaw09_PathOnce]
  | true =>
    rw [hf] at hfa
    obtain ⟨hr, a, rfl, ha⟩ := fair_facts hf
    have hfr := from_call false l a
    rw [fair_run hr ha] at hfr
    have hnw := new_call
    have nl : newT.length = 24 := rfl
    cases hrun : refRun l (l.length + 1) ⟨a, newT, 0⟩ with
    | none =>
      rw [hrun] at hfr
      simp only [pathU, rpT] at hfr
      repeat' (first | apply Wp.seq | apply Wp.skip | apply Wp.block | (apply Wp.op0; ((simp [M2.keep]) <;> rfl)) | (apply Wp.pickT; (exact rfl); (first | exact rfl | assumption); ((simp) <;> exact rfl)) | (apply Wp.pickF; (exact rfl); (first | exact rfl | assumption); ((simp) <;> exact rfl)) | (apply Wp.op; (apply Evt.all; intro; (simp [insL, pU_take26, pU_over, pU_len, pU_take1, nl]) <;> (try simp (disch := omega) only [wrap_id]) <;> first | exact ⟨rfl, rfl⟩ | exact rfl)) | (apply Wp.opN; (apply Evt.all; intro; (simp [insL, pU_take26, pU_over, pU_len, pU_take1, nl]) <;> (try simp (disch := omega) only [wrap_id]) <;> first | exact ⟨rfl, rfl⟩ | exact rfl)) | (apply Wp.call; exact hfa _) | (apply Wp.call; exact hfr _) | (apply Wp.ung; (exact rfl); (first | exact rfl | assumption)) | (apply Wp.opSt; (exact rfl); (first | exact rfl | assumption)) | (apply Wp.opSf; (exact rfl); (first | exact rfl | assumption)) | (apply Wp.opS0; (exact rfl)) | (apply Wp.grdT; (exact rfl); (intro); rotate_left 1; (intro); rotate_right 1) | (apply Wp.grdF; (exact rfl); (intro); rotate_left 1; (intro); rotate_right 1) | (apply Wp.condT; (exact rfl); (first | exact rfl | assumption)) | (apply Wp.condF; (exact rfl); (first | exact rfl | assumption)) | (apply Wp.cond; (exact rfl); (intro); rotate_left 1; (intro); rotate_right 1))
      refine Wp.draw (by (simp [c_joinerylaw09_PathOnce_D0, I.need]) <;> rfl) (by (simp [pU_take1, pU_len, nl, pU_d25, pU_d1, pU_tail, tabU_len, pf13, pf19, wrap_id, -plainU, plain_tab, new_same]) <;> rfl) (by (simp [pU_take1, pU_len, nl, pU_d25, pU_d1, pU_tail, tabU_len, pf13, pf19, wrap_id, -plainU, plain_tab, new_same]) <;> rfl) (by (unfold c_joinerylaw09_PathOnce_D0); (repeat (first | (apply Dr.op; ((simp [pU_take1, pU_len, nl, pU_d25, pU_d1, pU_tail, tabU_len, pf13, pf19, wrap_id, -plainU, plain_tab, new_same]) <;> rfl); (apply Evt.all; intro; (simp [pU_take1, pU_len, nl, pU_d25, pU_d1, pU_tail, tabU_len, pf13, pf19, wrap_id, -plainU, plain_tab, new_same]) <;> (try simp (disch := omega) only [wrap_id]) <;> first | exact ⟨rfl, rfl⟩ | exact rfl); ((simp [I.need]) <;> rfl)) | (apply Dr.opN; ((simp [pU_take1, pU_len, nl, pU_d25, pU_d1, pU_tail, tabU_len, pf13, pf19, wrap_id, -plainU, plain_tab, new_same]) <;> rfl); (apply Evt.all; intro; (simp [pU_take1, pU_len, nl, pU_d25, pU_d1, pU_tail, tabU_len, pf13, pf19, wrap_id, -plainU, plain_tab, new_same]) <;> (try simp (disch := omega) only [wrap_id]) <;> first | exact ⟨rfl, rfl⟩ | exact rfl); ((simp [I.need]) <;> rfl)) | (apply Dr.opG; (exact rfl); ((simp [pU_take1, pU_len, nl, pU_d25, pU_d1, pU_tail, tabU_len, pf13, pf19, wrap_id, -plainU, plain_tab, new_same]) <;> rfl); (apply Evt.all; intro; (simp [pU_take1, pU_len, nl, pU_d25, pU_d1, pU_tail, tabU_len, pf13, pf19, wrap_id, -plainU, plain_tab, new_same]) <;> (try simp (disch := omega) only [wrap_id]) <;> first | exact ⟨rfl, rfl⟩ | exact rfl); ((simp [I.need]) <;> rfl)) | (apply Dr.opS; (exact rfl); decide; ((simp [I.need]) <;> rfl)) | (apply Dr.opS0; (exact rfl); ((simp [I.need]) <;> rfl)) | (apply Dr.call; ((simp [pU_take1, pU_len, nl, pU_d25, pU_d1, pU_tail, tabU_len, pf13, pf19, wrap_id, -plainU, plain_tab, new_same]) <;> rfl); exact hnw _) | (apply Dr.callG; (exact rfl); ((simp [pU_take1, pU_len, nl, pU_d25, pU_d1, pU_tail, tabU_len, pf13, pf19, wrap_id, -plainU, plain_tab, new_same]) <;> rfl); exact hnw _) | (apply Dr.call; ((simp [pU_take1, pU_len, nl, pU_d25, pU_d1, pU_tail, tabU_len, pf13, pf19, wrap_id, -plainU, plain_tab, new_same]) <;> rfl); exact kno _) | (apply Dr.callG; (exact rfl); ((simp [pU_take1, pU_len, nl, pU_d25, pU_d1, pU_tail, tabU_len, pf13, pf19, wrap_id, -plainU, plain_tab, new_same]) <;> rfl); exact kno _))); exact Dr.nil) (by first | decide +kernel | exact rfl) (by (simp [M2.keep]) <;> rfl) ?_
      refine Wp.ret ?_
      simp [Res, resU, res1, c_joinerylaw09_PathOnce]
    | some s =>
      rw [hrun] at hfr
      obtain ⟨hto, hq⟩ := fair_end hr ha hrun
      have ht := refRun_len _ _ _ rfl hrun
      have hfr2 := from_call false l s.to
      rw [hq] at hfr2
      obtain ⟨to, t, steps⟩ := s
      simp only [pathU, rpT] at hfr hfr2 hto ht
      have h0 : decide ((to : Int) < 0) = false := decide_eq_false (by omega)
      repeat' (first | apply Wp.seq | apply Wp.skip | apply Wp.block | (apply Wp.op0; ((simp [M2.keep]) <;> rfl)) | (apply Wp.pickT; (exact rfl); (first | exact rfl | assumption); ((simp) <;> exact rfl)) | (apply Wp.pickF; (exact rfl); (first | exact rfl | assumption); ((simp) <;> exact rfl)) | (apply Wp.op; (apply Evt.all; intro; (simp [insL, pU_take26, pU_over, pU_len, pU_take1, nl, ht]) <;> (try simp (disch := omega) only [wrap_id]) <;> first | exact ⟨rfl, rfl⟩ | exact rfl)) | (apply Wp.opN; (apply Evt.all; intro; (simp [insL, pU_take26, pU_over, pU_len, pU_take1, nl, ht]) <;> (try simp (disch := omega) only [wrap_id]) <;> first | exact ⟨rfl, rfl⟩ | exact rfl)) | (apply Wp.call; exact hfa _) | (apply Wp.call; exact hfr _) | (apply Wp.call; exact hfr2 _) | (apply Wp.ung; (exact rfl); (first | exact rfl | assumption)) | (apply Wp.opSt; (exact rfl); (first | exact rfl | assumption)) | (apply Wp.opSf; (exact rfl); (first | exact rfl | assumption)) | (apply Wp.opS0; (exact rfl)) | (apply Wp.grdT; (exact rfl); (intro); rotate_left 1; (intro); rotate_right 1) | (apply Wp.grdF; (exact rfl); (intro); rotate_left 1; (intro); rotate_right 1) | (apply Wp.condT; (exact rfl); (first | exact rfl | assumption)) | (apply Wp.condF; (exact rfl); (first | exact rfl | assumption)) | (apply Wp.cond; (exact rfl); (intro); rotate_left 1; (intro); rotate_right 1))
      refine Wp.draw (by (simp [c_joinerylaw09_PathOnce_D1, I.need]) <;> rfl) (by (simp [pU_take1, pU_len, nl, ht, pU_d25, pU_d1, pU_tail, tabU_len, pf13, pf19, wrap_id, -plainU, plain_tab, new_same]) <;> rfl) (by (simp [pU_take1, pU_len, nl, ht, pU_d25, pU_d1, pU_tail, tabU_len, pf13, pf19, wrap_id, -plainU, plain_tab, new_same]) <;> rfl) (by (unfold c_joinerylaw09_PathOnce_D1); (repeat (first | (apply Dr.op; ((simp [pU_take1, pU_len, nl, ht, pU_d25, pU_d1, pU_tail, tabU_len, pf13, pf19, wrap_id, -plainU, plain_tab, new_same]) <;> rfl); (apply Evt.all; intro; (simp [pU_take1, pU_len, nl, ht, pU_d25, pU_d1, pU_tail, tabU_len, pf13, pf19, wrap_id, -plainU, plain_tab, new_same]) <;> (try simp (disch := omega) only [wrap_id]) <;> first | exact ⟨rfl, rfl⟩ | exact rfl); ((simp [I.need]) <;> rfl)) | (apply Dr.opN; ((simp [pU_take1, pU_len, nl, ht, pU_d25, pU_d1, pU_tail, tabU_len, pf13, pf19, wrap_id, -plainU, plain_tab, new_same]) <;> rfl); (apply Evt.all; intro; (simp [pU_take1, pU_len, nl, ht, pU_d25, pU_d1, pU_tail, tabU_len, pf13, pf19, wrap_id, -plainU, plain_tab, new_same]) <;> (try simp (disch := omega) only [wrap_id]) <;> first | exact ⟨rfl, rfl⟩ | exact rfl); ((simp [I.need]) <;> rfl)) | (apply Dr.opG; (exact rfl); ((simp [pU_take1, pU_len, nl, ht, pU_d25, pU_d1, pU_tail, tabU_len, pf13, pf19, wrap_id, -plainU, plain_tab, new_same]) <;> rfl); (apply Evt.all; intro; (simp [pU_take1, pU_len, nl, ht, pU_d25, pU_d1, pU_tail, tabU_len, pf13, pf19, wrap_id, -plainU, plain_tab, new_same]) <;> (try simp (disch := omega) only [wrap_id]) <;> first | exact ⟨rfl, rfl⟩ | exact rfl); ((simp [I.need]) <;> rfl)) | (apply Dr.opS; (exact rfl); decide; ((simp [I.need]) <;> rfl)) | (apply Dr.opS0; (exact rfl); ((simp [I.need]) <;> rfl)) | (apply Dr.call; ((simp [pU_take1, pU_len, nl, ht, pU_d25, pU_d1, pU_tail, tabU_len, pf13, pf19, wrap_id, -plainU, plain_tab, new_same]) <;> rfl); exact hnw _) | (apply Dr.callG; (exact rfl); ((simp [pU_take1, pU_len, nl, ht, pU_d25, pU_d1, pU_tail, tabU_len, pf13, pf19, wrap_id, -plainU, plain_tab, new_same]) <;> rfl); exact hnw _) | (apply Dr.call; ((simp [pU_take1, pU_len, nl, ht, pU_d25, pU_d1, pU_tail, tabU_len, pf13, pf19, wrap_id, -plainU, plain_tab, new_same]) <;> rfl); exact kno _) | (apply Dr.callG; (exact rfl); ((simp [pU_take1, pU_len, nl, ht, pU_d25, pU_d1, pU_tail, tabU_len, pf13, pf19, wrap_id, -plainU, plain_tab, new_same]) <;> rfl); exact kno _))); exact Dr.nil) (by first | decide +kernel | exact rfl) (by (simp [M2.keep]) <;> rfl) ?_
      refine Wp.ret ?_
      simp [Res, resU, res1, c_joinerylaw09_PathOnce]
theorem params4 : Tryd.f4.params.toList = [22, 3] := by kernel_rfl
theorem law4 : Law 4 Tryd.f4.params.toList := by
  rw [params4]
  intro us hl hty
  obtain ⟨l, n, rfl, _, _, _⟩ := args2 hl hty
  exact law_of (law4_call l n)
end Go.Proofs.YtapibckmdpdljaaDoor.M2

/- PathOnce: from where a path leads, it leads no further. No condition. -/
namespace Go.Proofs.YtapibckmdpdljaaDoor.M2
open Go Go.ChangeShapes Go.WideShapes Go.ChangeAt Go.RowKit

theorem types4 : Tryd.f4.resultTypes = #[4] := by kernel_rfl
set_option maxRecDepth 100000 in
theorem pathOnce_row (law : Law 4 Tryd.f4.params.toList) : Rows.PathOnceSaid :=
  OpenClaim.holds_of_wide 4 Tryd.f4 rfl rfl rfl rfl rfl rfl rfl ⟨rfl, rfl, rfl, rfl, rfl⟩ rfl rfl rfl rfl rfl (by kernel_rfl) Tryd.func4 (by kernel_rfl)
    (of_decide_eq_true (by kernel_rfl)) (by unfold Func.isWrapper; first | (rw [if_pos (by decide +kernel)]; kernel_rfl) | (rw [if_neg (by decide +kernel)]; exact ⟨rfl, rfl⟩))
    (fun os started H enc _ => lifted (s := Rows.pathOnceSpec) law os started enc (by kernel_rfl) Tryd.func4 rfl (by kernel_rfl) types4 bool4
      (fun ds h => by
        have h1 : ds.length = 2 := h
        match ds, h1 with
        | [d0, d1], _ => rfl)
      (ChangeSpec.witness_shaped (enc := enc) (C := Tryd.checked) (os := os) (X := fun w _ => laidMetH Tryd.prog laid1 w) false (World.doorLaid Tryd.prog 400 os) #[.slice none 0 0, .int .i64 0] 8 rfl (World.shaped_of_RefB (by kernel_rfl) (by kernel_rfl)) (by kernel_rfl) (by kernel_rfl) (by kernel_rfl) (door_met os _)))
theorem pathOnce_card (law : Law 4 Tryd.f4.params.toList) : Rows.PathOnceCardSaid :=
  Claim7.holds_tied_plain_at .later [] [.data] true (true, "13d9c7b0cf76a0ce59a956f6bcabe4d883017d16fd43b76b602544cf0bc1a375") true
    (pathOnce_row law) (fun _ h => by cases h) (by kernel_rfl) (fun _ h => by cases h) pathOnce_row_tie rfl ⟨rfl, rfl⟩ (by kernel_rfl) rfl
    (fun f fn hf hfn => by
      obtain rfl : f = 4 := Option.some.inj ((show Tryd.prog.funcNamed "joinery/joinerylaw09.PathOnce" = some 4 by kernel_rfl).symm.trans hf) |>.symm
      obtain rfl : fn = Tryd.f4 := (Option.some.inj (Tryd.func4.symm.trans hfn)).symm
      exact ⟨by kernel_rfl, fun j t ht => by
        rw [Tryd.params4] at ht
        have hm : t ∈ [22, 3] := by simpa using Array.mem_of_getElem? ht
        have hall : ([22, 3].all fun u => !Tryd.prog.wantsStandIn u) = true := by kernel_rfl
        exact (show Tryd.prog.wantsStandIn t = false by simpa using List.all_eq_true.1 hall t hm)⟩)
    (by kernel_rfl)
end Go.Proofs.YtapibckmdpdljaaDoor.M2
namespace Go.Proofs.YtapibckmdpdljaaDoor
theorem pathOnce_said : Rows.PathOnceCardSaid := M2.pathOnce_card M2.law4
end Go.Proofs.YtapibckmdpdljaaDoor
