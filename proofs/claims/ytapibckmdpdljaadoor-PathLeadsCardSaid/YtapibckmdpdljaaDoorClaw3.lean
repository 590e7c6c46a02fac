/- PathLeads: a path from a place is the one that the document says. No condition. -/
import Derived.Test.YtapibckmdpdljaaDoorCh
import Derived.Test.YtapibckmdpdljaaDoorCk
set_option linter.unusedSimpArgs false
set_option linter.unusedVariables false
set_option linter.unusedSectionVars false
/- The law PathLeads in M2. -/
namespace Go.Proofs.YtapibckmdpdljaaDoor.M2
open Go
attribute [local simp] ev1 M2.get put A.ev ld sub part elems bin arith un opt idx fillC cellsO splice over newOb sto fillR laidOwn appTo appRow touch touchN touchM touchE touchA plainU flatU plainAs allM rowAt stoRow accM_nil accM_cons accMM_nil accMM_cons frz_int frz_bool frz_str frz_slt frz_nils frz_nilI frz_nilF frz_own frzRow_row frzRow_frow Ob.blw blw_bool blw_int blw_str blw_nils blw_nilI blw_nilF blw_nilp blw_nilm blw_sl blw_own blw_bp blw_rp blw_mp blw_it params
attribute [local simp] frz_agg frz_tup frz_iface frzS_agg frzS_iface accMS_cons frzS_int frzS_bool frzS_str frzS_slt frzS_nils frzS_nilI beq_dec bne_dec

attribute [local irreducible] Typed
theorem pf13 : pfT T 13 = true := rfl
theorem pf17 : pfT T 17 = true := rfl
theorem pf18 : pfT T 18 = true := rfl
/-- Where what is not fair leads. -/
theorem from_unfair {l : List Ins} {at_ : Int} (h : fairF l at_ = false) : fromF l at_ = ((0, List.replicate 24 .no, 0), 1) := by
  unfold fromF
  unfold fairF at h
  rw [h]
  rfl
theorem fair_facts {l : List Ins} {at_ : Int} (h : fairF l at_ = true) : rightF l = true ∧ ∃ a : Nat, at_ = a ∧ a < l.length := by
  unfold fairF at h
  simp only [Bool.and_eq_true, decide_eq_true_eq] at h
  obtain ⟨a, rfl⟩ := Int.eq_ofNat_of_zero_le h.1.2
  exact ⟨h.1.1, a, rfl, by omega⟩
/-- What is fair: the program's answer and the document's. -/
theorem fair_eq {l : List Ins} {a : Nat} (hr : rightF l = true) (ha : a < l.length) : ∃ (to : Int) (t : List Src) (s : Int), fromF l a = ((to, t, s), 0) ∧ refAns l a = .agg [i64 to, refT true t, i64 s] ∧ t.length = 24 := by
  have e : fromF l a = ((if (pathRun l 201 (ps0 a)).met.getD (pathRun l 201 (ps0 a)).to false then (-1, newT, 0) else (((pathRun l 201 (ps0 a)).to : Int), (pathRun l 201 (ps0 a)).t, ((pathRun l 201 (ps0 a)).steps : Int))), 0) := by
    unfold fromF
    rw [if_pos (by simp [hr, ha])]
    rfl
  have hinv := (path_end hr ha).1
  unfold refAns
  rw [e, from_ref hr ha]
  split
  · exact ⟨-1, newT, 0, rfl, rfl, rfl⟩
  · exact ⟨_, _, _, rfl, rfl, hinv.base.t⟩
theorem plain_tab (t : List Src) : plainU (.agg (tabU t)) = true := by
  show (tabU t).all (flatU 5) = true
  rw [List.all_eq_true]
  intro u hu
  obtain ⟨s, _, rfl⟩ := List.mem_map.1 hu
  cases s <;> rfl
theorem law3_call (l : List Ins) (at_ : Int) : Cl T 3 [insL false l, i64 at_] [] (.bool true) [] := by
  refine Wp.pure (fn := c_joinerylaw09_PathLeads) rfl rfl rfl («as» := [insL false l, i64 at_]) rfl ?_
  repeat (first | apply Wp.seq | apply Wp.skip | apply Wp.block | (apply Wp.op0; ((simp [M2.keep]) <;> rfl)) | (apply Wp.op; (apply Evt.all; intro; (simp [insL]) <;> (try simp (disch := omega) only [wrap_id]) <;> first | exact ⟨rfl, rfl⟩ | exact rfl)) | (apply Wp.opN; (apply Evt.all; intro; (simp [insL]) <;> (try simp (disch := omega) only [wrap_id]) <;> first | exact ⟨rfl, rfl⟩ | exact rfl)) | (apply Wp.opG; (exact rfl); (apply Evt.all; intro; (simp [insL]) <;> (try simp (disch := omega) only [wrap_id]) <;> first | exact ⟨rfl, rfl⟩ | exact rfl)) | (apply Wp.opS; (exact rfl); decide) | (apply Wp.opS0; (exact rfl)))
  refine Wp.cond (by first | rfl | (simp; rfl)) (fun h1 => ?_) (fun h1 => ?_)
  · repeat (first | apply Wp.seq | apply Wp.skip | apply Wp.block | (apply Wp.op0; ((simp [M2.keep]) <;> rfl)) | (apply Wp.op; (apply Evt.all; intro; (simp []) <;> (try simp (disch := omega) only [wrap_id]) <;> first | exact ⟨rfl, rfl⟩ | exact rfl)) | (apply Wp.opN; (apply Evt.all; intro; (simp []) <;> (try simp (disch := omega) only [wrap_id]) <;> first | exact ⟨rfl, rfl⟩ | exact rfl)) | (apply Wp.opG; (exact rfl); (apply Evt.all; intro; (simp []) <;> (try simp (disch := omega) only [wrap_id]) <;> first | exact ⟨rfl, rfl⟩ | exact rfl)) | (apply Wp.opS; (exact rfl); decide) | (apply Wp.opS0; (exact rfl)))
    apply Wp.call
    · exact knows_call _
    repeat (first | apply Wp.seq | apply Wp.skip | apply Wp.block | (apply Wp.op0; ((simp [M2.keep]) <;> rfl)) | (apply Wp.op; (apply Evt.all; intro; (simp []) <;> (try simp (disch := omega) only [wrap_id]) <;> first | exact ⟨rfl, rfl⟩ | exact rfl)) | (apply Wp.opN; (apply Evt.all; intro; (simp []) <;> (try simp (disch := omega) only [wrap_id]) <;> first | exact ⟨rfl, rfl⟩ | exact rfl)) | (apply Wp.opG; (exact rfl); (apply Evt.all; intro; (simp []) <;> (try simp (disch := omega) only [wrap_id]) <;> first | exact ⟨rfl, rfl⟩ | exact rfl)) | (apply Wp.opS; (exact rfl); decide) | (apply Wp.opS0; (exact rfl)))
    refine Wp.ret ?_
    simp [Res, resU, res1, c_joinerylaw09_PathLeads]
  repeat (first | apply Wp.seq | apply Wp.skip | apply Wp.block | (apply Wp.op0; ((simp [M2.keep]) <;> rfl)) | (apply Wp.op; (apply Evt.all; intro; (simp []) <;> (try simp (disch := omega) only [wrap_id]) <;> first | exact ⟨rfl, rfl⟩ | exact rfl)) | (apply Wp.opN; (apply Evt.all; intro; (simp []) <;> (try simp (disch := omega) only [wrap_id]) <;> first | exact ⟨rfl, rfl⟩ | exact rfl)) | (apply Wp.opG; (exact rfl); (apply Evt.all; intro; (simp []) <;> (try simp (disch := omega) only [wrap_id]) <;> first | exact ⟨rfl, rfl⟩ | exact rfl)) | (apply Wp.opS; (exact rfl); decide) | (apply Wp.opS0; (exact rfl)))
  apply Wp.call
  · exact from_call false l at_ _
  cases hf : fairF l at_ with
  | false =>
    rw [from_unfair hf]
    repeat (first | apply Wp.seq | apply Wp.skip | apply Wp.block | (apply Wp.op0; ((simp [M2.keep]) <;> rfl)) | (apply Wp.op; (apply Evt.all; intro; (simp [pathU, pU, tabU, srcU, List.replicate, over]) <;> (try simp (disch := omega) only [wrap_id]) <;> first | exact ⟨rfl, rfl⟩ | exact rfl)) | (apply Wp.opN; (apply Evt.all; intro; (simp [pathU, pU, tabU, srcU, List.replicate, over]) <;> (try simp (disch := omega) only [wrap_id]) <;> first | exact ⟨rfl, rfl⟩ | exact rfl)) | (apply Wp.opG; (exact rfl); (apply Evt.all; intro; (simp [pathU, pU, tabU, srcU, List.replicate, over]) <;> (try simp (disch := omega) only [wrap_id]) <;> first | exact ⟨rfl, rfl⟩ | exact rfl)) | (apply Wp.opS; (exact rfl); decide) | (apply Wp.opS0; (exact rfl)))
    apply Wp.call
    · exact fair_call false l at_ _
    rw [hf]
    repeat' (first | apply Wp.seq | apply Wp.skip | apply Wp.block | (apply Wp.op0; ((simp [M2.keep]) <;> rfl)) | (apply Wp.pickT; (exact rfl); (first | exact rfl | assumption); ((simp) <;> exact rfl)) | (apply Wp.pickF; (exact rfl); (first | exact rfl | assumption); ((simp) <;> exact rfl)) | (apply Wp.op; (apply Evt.all; intro; (simp []) <;> (try simp (disch := omega) only [wrap_id]) <;> first | exact ⟨rfl, rfl⟩ | exact rfl)) | (apply Wp.opN; (apply Evt.all; intro; (simp []) <;> (try simp (disch := omega) only [wrap_id]) <;> first | exact ⟨rfl, rfl⟩ | exact rfl)) | (apply Wp.callG; exact rfl; exact knows_call _) | (apply Wp.ung; (exact rfl); (first | exact rfl | assumption)) | (apply Wp.opSt; (exact rfl); (first | exact rfl | assumption)) | (apply Wp.opSf; (exact rfl); (first | exact rfl | assumption)) | (apply Wp.opS0; (exact rfl)) | (apply Wp.grdT; (exact rfl); (intro); rotate_left 1; (intro); rotate_right 1) | (apply Wp.grdF; (exact rfl); (intro); rotate_left 1; (intro); rotate_right 1) | (apply Wp.condT; (exact rfl); (first | exact rfl | assumption)) | (apply Wp.condF; (exact rfl); (first | exact rfl | assumption)) | (apply Wp.cond; (exact rfl); (intro); rotate_left 1; (intro); rotate_right 1))
    refine Wp.ret ?_
    simp [Res, resU, res1, c_joinerylaw09_PathLeads]
  | true =>
    obtain ⟨hr, a, rfl, ha⟩ := fair_facts hf
    obtain ⟨to, t, s, e, er, ht⟩ := fair_eq hr ha
    have hrf := reffrom_call false l hr a ha
    rw [er] at hrf
    rw [e]
    repeat (first | apply Wp.seq | apply Wp.skip | apply Wp.block | (apply Wp.op0; ((simp [M2.keep]) <;> rfl)) | (apply Wp.op; (apply Evt.all; intro; (simp [pathU, pU_take26, pU_over, pU_len, ht]) <;> (try simp (disch := omega) only [wrap_id]) <;> first | exact ⟨rfl, rfl⟩ | exact rfl)) | (apply Wp.opN; (apply Evt.all; intro; (simp [pathU, pU_take26, pU_over, pU_len, ht]) <;> (try simp (disch := omega) only [wrap_id]) <;> first | exact ⟨rfl, rfl⟩ | exact rfl)) | (apply Wp.opG; (exact rfl); (apply Evt.all; intro; (simp [pathU, pU_take26, pU_over, pU_len, ht]) <;> (try simp (disch := omega) only [wrap_id]) <;> first | exact ⟨rfl, rfl⟩ | exact rfl)) | (apply Wp.opS; (exact rfl); decide) | (apply Wp.opS0; (exact rfl)))
    apply Wp.call
    · exact fair_call false l a _
    rw [hf]
    repeat' (first | apply Wp.seq | apply Wp.skip | apply Wp.block | (apply Wp.op0; ((simp [M2.keep]) <;> rfl)) | (apply Wp.pickT; (exact rfl); (first | exact rfl | assumption); ((simp) <;> exact rfl)) | (apply Wp.pickF; (exact rfl); (first | exact rfl | assumption); ((simp) <;> exact rfl)) | (apply Wp.op; (apply Evt.all; intro; (simp [pU_len, ht]) <;> (try simp (disch := omega) only [wrap_id]) <;> first | exact ⟨rfl, rfl⟩ | exact rfl)) | (apply Wp.opN; (apply Evt.all; intro; (simp [pU_len, ht]) <;> (try simp (disch := omega) only [wrap_id]) <;> first | exact ⟨rfl, rfl⟩ | exact rfl)) | (apply Wp.call; exact hrf _) | (apply Wp.ung; (exact rfl); (first | exact rfl | assumption)) | (apply Wp.opSt; (exact rfl); (first | exact rfl | assumption)) | (apply Wp.opSf; (exact rfl); (first | exact rfl | assumption)) | (apply Wp.opS0; (exact rfl)) | (apply Wp.grdT; (exact rfl); (intro); rotate_left 1; (intro); rotate_right 1) | (apply Wp.grdF; (exact rfl); (intro); rotate_left 1; (intro); rotate_right 1) | (apply Wp.condT; (exact rfl); (first | exact rfl | assumption)) | (apply Wp.condF; (exact rfl); (first | exact rfl | assumption)) | (apply Wp.cond; (exact rfl); (intro); rotate_left 1; (intro); rotate_right 1))
    have hsm : ∀ st, Cl T 17 [refT true t, refT true t] st (.bool true) st := fun st => by
      have := same5_call true true t t ht ht st
      rwa [decide_eq_true rfl] at this
    have has := as_call t ht
    have kno := knows_call
    refine Wp.draw (by (simp [c_joinerylaw09_PathLeads_D0, I.need]) <;> rfl) (by (simp [pU_take1, pU_len, ht, pU_d25, pU_d1, pU_tail, tabU_len, pf13, pf17, pf18, wrap_id, -plainU, plain_tab]) <;> rfl) (by (simp [pU_take1, pU_len, ht, pU_d25, pU_d1, pU_tail, tabU_len, pf13, pf17, pf18, wrap_id, -plainU, plain_tab]) <;> rfl) (by (unfold c_joinerylaw09_PathLeads_D0); (repeat (first | (apply Dr.op; ((simp [pU_take1, pU_len, ht, pU_d25, pU_d1, pU_tail, tabU_len, pf13, pf17, pf18, wrap_id, -plainU, plain_tab]) <;> rfl); (apply Evt.all; intro; (simp [pU_take1, pU_len, ht, pU_d25, pU_d1, pU_tail, tabU_len, pf13, pf17, pf18, wrap_id, -plainU, plain_tab]) <;> (try simp (disch := omega) only [wrap_id]) <;> first | exact ⟨rfl, rfl⟩ | exact rfl); ((simp [I.need]) <;> rfl)) | (apply Dr.opN; ((simp [pU_take1, pU_len, ht, pU_d25, pU_d1, pU_tail, tabU_len, pf13, pf17, pf18, wrap_id, -plainU, plain_tab]) <;> rfl); (apply Evt.all; intro; (simp [pU_take1, pU_len, ht, pU_d25, pU_d1, pU_tail, tabU_len, pf13, pf17, pf18, wrap_id, -plainU, plain_tab]) <;> (try simp (disch := omega) only [wrap_id]) <;> first | exact ⟨rfl, rfl⟩ | exact rfl); ((simp [I.need]) <;> rfl)) | (apply Dr.opG; (exact rfl); ((simp [pU_take1, pU_len, ht, pU_d25, pU_d1, pU_tail, tabU_len, pf13, pf17, pf18, wrap_id, -plainU, plain_tab]) <;> rfl); (apply Evt.all; intro; (simp [pU_take1, pU_len, ht, pU_d25, pU_d1, pU_tail, tabU_len, pf13, pf17, pf18, wrap_id, -plainU, plain_tab]) <;> (try simp (disch := omega) only [wrap_id]) <;> first | exact ⟨rfl, rfl⟩ | exact rfl); ((simp [I.need]) <;> rfl)) | (apply Dr.opS; (exact rfl); decide; ((simp [I.need]) <;> rfl)) | (apply Dr.opS0; (exact rfl); ((simp [I.need]) <;> rfl)) | (apply Dr.call; ((simp [pU_take1, pU_len, ht, pU_d25, pU_d1, pU_tail, tabU_len, pf13, pf17, pf18, wrap_id, -plainU, plain_tab]) <;> rfl); exact has _) | (apply Dr.callG; (exact rfl); ((simp [pU_take1, pU_len, ht, pU_d25, pU_d1, pU_tail, tabU_len, pf13, pf17, pf18, wrap_id, -plainU, plain_tab]) <;> rfl); exact has _) | (apply Dr.call; ((simp [pU_take1, pU_len, ht, pU_d25, pU_d1, pU_tail, tabU_len, pf13, pf17, pf18, wrap_id, -plainU, plain_tab]) <;> rfl); exact hsm _) | (apply Dr.callG; (exact rfl); ((simp [pU_take1, pU_len, ht, pU_d25, pU_d1, pU_tail, tabU_len, pf13, pf17, pf18, wrap_id, -plainU, plain_tab]) <;> rfl); exact hsm _) | (apply Dr.call; ((simp [pU_take1, pU_len, ht, pU_d25, pU_d1, pU_tail, tabU_len, pf13, pf17, pf18, wrap_id, -plainU, plain_tab]) <;> rfl); exact kno _) | (apply Dr.callG; (exact rfl); ((simp [pU_take1, pU_len, ht, pU_d25, pU_d1, pU_tail, tabU_len, pf13, pf17, pf18, wrap_id, -plainU, plain_tab]) <;> rfl); exact kno _))); exact Dr.nil) (by first | decide +kernel | exact rfl) (by (simp [M2.keep]) <;> rfl) ?_
    refine Wp.ret ?_
    simp [Res, resU, res1, c_joinerylaw09_PathLeads]
theorem params3 : Tryd.f3.params.toList = [22, 3] := by kernel_rfl
/-- The arguments of a function and a place. -/
theorem args2 {us : List U} (hl : us.length = 2) (hty : ∀ (j : Nat) t u, [22, 3][j]? = some t → us[j]? = some u → Typed Tryd.prog 8 t [u]) : ∃ (l : List Ins) (n : Int), us = [insL false l, i64 n] ∧ (∀ x ∈ l, InsR x) ∧ rng n ∧ l.length < 9223372036854775808 := by
  match us, hl with
  | [u, v], _ =>
    obtain ⟨l, rfl, hlen, hx⟩ := typed_insn ⟨5, rfl⟩ (hty 0 22 u rfl rfl)
    obtain ⟨n, rfl, hn⟩ := typed_intn ⟨7, rfl⟩ (hty 1 3 v rfl rfl)
    exact ⟨l, n, rfl, hx, hn, hlen⟩
theorem law3 : Law 3 Tryd.f3.params.toList := by
  rw [params3]
  intro us hl hty
  obtain ⟨l, n, rfl, _, _, _⟩ := args2 hl hty
  exact law_of (law3_call l n)
end Go.Proofs.YtapibckmdpdljaaDoor.M2

/- PathLeads: a path from a place is the one that the document says. No condition. -/
namespace Go.Proofs.YtapibckmdpdljaaDoor
theorem pathLeads_said : Rows.PathLeadsCardSaid := M2.leads_card M2.law3
end Go.Proofs.YtapibckmdpdljaaDoor
