/- SkelWays: the ways to each node are those that the document says. No condition. -/
import Derived.Test.YtapibckmdpdljaaDoorCj
import Derived.Test.YtapibckmdpdljaaDoorCh
import Derived.Test.YtapibckmdpdljaaDoorCl
import Derived.Test.YtapibckmdpdljaaDoorCk
set_option linter.unusedSimpArgs false
set_option linter.unusedVariables false
set_option linter.unusedSectionVars false
/- The law SkelBuilds in M2. -/
namespace Go.Proofs.YtapibckmdpdljaaDoor.M2
open Go
attribute [local simp] ev1 M2.get put A.ev ld sub part elems bin arith un opt idx fillC cellsO splice over newOb sto fillR laidOwn appTo appRow touch touchN touchM touchE touchA plainU flatU plainAs allM rowAt stoRow accM_nil accM_cons accMM_nil accMM_cons frz_int frz_bool frz_str frz_slt frz_nils frz_nilI frz_nilF frz_own frzRow_row frzRow_frow Ob.blw blw_bool blw_int blw_str blw_nils blw_nilI blw_nilF blw_nilp blw_nilm blw_sl blw_own blw_bp blw_rp blw_mp blw_it params
attribute [local simp] frz_agg frz_tup frz_iface frzS_agg frzS_iface accMS_cons frzS_int frzS_bool frzS_str frzS_slt frzS_nils frzS_nilI beq_dec bne_dec
attribute [local irreducible] Typed TypedA

theorem knows10_call (st : List Ob) : Cl T 23 [] st (.bool true) st := Cl.at (n := 100) (by kernel_rfl) rfl st
/-- The two skeletons are one. -/
theorem skel_same {l : List Ins} {cut : List Bool} (hr : rightF l = true) : (pNodes l cut).map rN = (rPlaces l cut).map (rNode l cut (rPlaces l cut)) := by
  obtain ⟨h1, _⟩ := nodes_spec (cut := cut) hr
  rw [h1, List.map_map]
  refine List.map_congr_left fun i _ => ?_
  simp only [Function.comp, rN, rNode, rOuts, fsC]
  split <;> rfl
theorem skel_facts {l : List Ins} {cut : List Bool} (hr : rightF l = true) : (pNodes l cut).length ≤ 200 ∧ (∀ x ∈ pNodes l cut, (x.2.getD []).length ≤ 2 ∧ ∀ o ∈ x.2.getD [], o.2.length = 24) ∧ (pEntry l).2.length = 24 := by
  obtain ⟨h1, h2, h3, h4, h5, h6⟩ := nodes_spec (cut := cut) hr
  have h200 := (right_facts hr).1
  refine ⟨by rw [h1, List.length_map]; omega, fun x hx => ?_, by rw [h2]; exact wq_t hr (right_facts hr).2.1 _⟩
  rw [h1] at hx
  obtain ⟨i, hi, rfl⟩ := List.mem_map.1 hx
  obtain ⟨k1, k2⟩ := h5 i hi
  simp only
  split
  · simp
  · simp only [Option.getD_some, List.length_map]
    refine ⟨fs_len l i, fun o ho => ?_⟩
    obtain ⟨a, ha, rfl⟩ := List.mem_map.1 ho
    exact wq_t hr ((fsAt_ok hr k1 k2).1 a ha) _
set_option maxHeartbeats 4000000 in
theorem law7_call (l : List Ins) (cut : List Bool) : Cl T 7 [insL true l, boolU true cut] [] (.bool true) [] := by
  refine Wp.pure (fn := c_joinerylaw10_SkelBuilds) rfl rfl rfl («as» := [insL true l, boolU true cut]) rfl ?_
  have kno := knows10_call
  by_cases h1 : 300 < l.length
  · have d1 : decide ((300 : Int) < l.length) = true := decide_eq_true (by omega)
    repeat' (first | apply Wp.seq | apply Wp.skip | apply Wp.block | (apply Wp.op0; ((simp [M2.keep]) <;> rfl)) | ((first | (apply Wp.pickT; (exact rfl); (first | exact rfl | assumption)) | (apply Wp.pickF; (exact rfl); (first | exact rfl | assumption))); ((simp) <;> exact rfl)) | ((first | apply Wp.op | apply Wp.opN); (apply Evt.all; intro; (simp [insL]) <;> (try simp (disch := omega) only [wrap_id]) <;> first | exact ⟨rfl, rfl⟩ | exact rfl)) | (apply Wp.call; exact kno _) | (first | (apply Wp.ung; (exact rfl); (first | exact rfl | assumption)) | (apply Wp.opSt; (exact rfl); (first | exact rfl | assumption)) | (apply Wp.opSf; (exact rfl); (first | exact rfl | assumption))) | (apply Wp.opS0; (exact rfl)) | (first | (apply Wp.condT; (exact rfl); (first | exact rfl | assumption)) | (apply Wp.condF; (exact rfl); (first | exact rfl | assumption))) | ((first | apply Wp.grdT | apply Wp.grdF | apply Wp.cond); (exact rfl); (intro); rotate_left 1; (intro); rotate_right 1))
    refine Wp.ret ?_
    simp [Res, resU, res1, c_joinerylaw10_SkelBuilds]
  have d1 : decide ((300 : Int) < l.length) = false := decide_eq_false (by omega)
  by_cases h2 : 300 < cut.length
  · have d2 : decide ((300 : Int) < cut.length) = true := decide_eq_true (by omega)
    repeat' (first | apply Wp.seq | apply Wp.skip | apply Wp.block | (apply Wp.op0; ((simp [M2.keep]) <;> rfl)) | ((first | (apply Wp.pickT; (exact rfl); (first | exact rfl | assumption)) | (apply Wp.pickF; (exact rfl); (first | exact rfl | assumption))); ((simp) <;> exact rfl)) | ((first | apply Wp.op | apply Wp.opN); (apply Evt.all; intro; (simp [insL, boolU]) <;> (try simp (disch := omega) only [wrap_id]) <;> first | exact ⟨rfl, rfl⟩ | exact rfl)) | (apply Wp.call; exact kno _) | (first | (apply Wp.ung; (exact rfl); (first | exact rfl | assumption)) | (apply Wp.opSt; (exact rfl); (first | exact rfl | assumption)) | (apply Wp.opSf; (exact rfl); (first | exact rfl | assumption))) | (apply Wp.opS0; (exact rfl)) | (first | (apply Wp.condT; (exact rfl); (first | exact rfl | assumption)) | (apply Wp.condF; (exact rfl); (first | exact rfl | assumption))) | ((first | apply Wp.grdT | apply Wp.grdF | apply Wp.cond); (exact rfl); (intro); rotate_left 1; (intro); rotate_right 1))
    refine Wp.ret ?_
    simp [Res, resU, res1, c_joinerylaw10_SkelBuilds]
  have d2 : decide ((300 : Int) < cut.length) = false := decide_eq_false (by omega)
  have hri := fun st => right4_call true l st (insL true l) rfl
  cases hr : rightF l with
  | false =>
    rw [hr] at hri
    have hb := build_bad true l hr true cut
    simp only [List.replicate] at hb
    repeat' (first | apply Wp.seq | apply Wp.skip | apply Wp.block | (apply Wp.op0; ((simp [M2.keep]) <;> rfl)) | ((first | (apply Wp.pickT; (exact rfl); (first | exact rfl | assumption)) | (apply Wp.pickF; (exact rfl); (first | exact rfl | assumption))); ((simp) <;> exact rfl)) | ((first | apply Wp.op | apply Wp.opN); (apply Evt.all; intro; (simp [insL, boolU, over]) <;> (try simp (disch := omega) only [wrap_id]) <;> first | exact ⟨rfl, rfl⟩ | exact rfl)) | (apply Wp.call; exact hb _) | (apply Wp.call; exact hri _) | (apply Wp.call; exact kno _) | (first | (apply Wp.ung; (exact rfl); (first | exact rfl | assumption)) | (apply Wp.opSt; (exact rfl); (first | exact rfl | assumption)) | (apply Wp.opSf; (exact rfl); (first | exact rfl | assumption))) | (apply Wp.opS0; (exact rfl)) | (first | (apply Wp.condT; (exact rfl); (first | exact rfl | assumption)) | (apply Wp.condF; (exact rfl); (first | exact rfl | assumption))) | ((first | apply Wp.grdT | apply Wp.grdF | apply Wp.cond); (exact rfl); (intro); rotate_left 1; (intro); rotate_right 1))
    refine Wp.ret ?_
    simp [Res, resU, res1, c_joinerylaw10_SkelBuilds]
  | true =>
    rw [hr] at hri
    have hb := build_call true l hr true cut
    obtain ⟨f1, f2, f3⟩ := skel_facts (cut := cut) hr
    have hsame := skel_same (cut := cut) hr
    have hrb := rbuild_call true l hr true cut
    have hent : pEntry l = outP l (rPlaces l cut) 0 := (nodes_spec (cut := cut) hr).2.1
    rw [← hent, ← hsame] at hrb
    have has := asskel_call (pEntry l) f3 (pNodes l cut) f1 f2
    have hsm := sameskel_call (pEntry l) f3 ((pNodes l cut).map rN) (by rw [List.length_map]; exact f1) (fun x hx => by
      obtain ⟨y, hy, rfl⟩ := List.mem_map.1 hx
      exact f2 y hy)
    have sl := skel_len f3 (pNodes l cut)
    generalize pNodes l cut = ns at *
    generalize pEntry l = w at *
    have t26 : (skelU w ns).take 26 = skelU w ns := by rw [List.take_of_length_le]; omega
    repeat' (first | apply Wp.seq | apply Wp.skip | apply Wp.block | (apply Wp.op0; ((simp [M2.keep]) <;> rfl)) | ((first | (apply Wp.pickT; (exact rfl); (first | exact rfl | assumption)) | (apply Wp.pickF; (exact rfl); (first | exact rfl | assumption))); ((simp) <;> exact rfl)) | ((first | apply Wp.op | apply Wp.opN); (apply Evt.all; intro; (simp [insL, boolU, sl, t26, over_full]) <;> (try simp (disch := omega) only [wrap_id]) <;> first | exact ⟨rfl, rfl⟩ | exact rfl)) | (apply Wp.call; exact hb _) | (apply Wp.call; exact hri _) | (apply Wp.call; exact has _) | (apply Wp.call; exact hrb _) | (apply Wp.call; exact hsm _) | (apply Wp.call; exact kno _) | (first | (apply Wp.ung; (exact rfl); (first | exact rfl | assumption)) | (apply Wp.opSt; (exact rfl); (first | exact rfl | assumption)) | (apply Wp.opSf; (exact rfl); (first | exact rfl | assumption))) | (apply Wp.opS0; (exact rfl)) | (first | (apply Wp.condT; (exact rfl); (first | exact rfl | assumption)) | (apply Wp.condF; (exact rfl); (first | exact rfl | assumption))) | ((first | apply Wp.grdT | apply Wp.grdF | apply Wp.cond); (exact rfl); (intro); rotate_left 1; (intro); rotate_right 1))
    refine Wp.ret ?_
    simp [Res, resU, res1, c_joinerylaw10_SkelBuilds]
theorem typed_bool {P : Program} {t : TypeId} (hu : P.underlying t = some .bool) {d : Nat} {us : List U} (h : Typed P (d + 1) t us) : ∃ b, us = [.bool b] := by
  unfold Typed at h
  simp only [hu] at h
  exact h
theorem typed_booln {n : Nat} (hn : ∃ d, n = d + 2) {u : U} (h : Typed Tryd.prog n 46 [u]) : ∃ l : List Bool, u = boolU true l := by
  obtain ⟨d, rfl⟩ := hn
  obtain ⟨l, e, _⟩ := typed_sl (Q := fun _ => True) (f := fun b => [.bool b]) Tryd.underlying46 (fun x hx => by
    obtain ⟨b, e⟩ := typed_bool Tryd.underlying4 hx
    exact ⟨b, e, trivial⟩) h
  exact ⟨l, e⟩
/-- The arguments of a function and places. -/
theorem args2b {us : List U} (hl : us.length = 2) (hty : ∀ (j : Nat) t u, [22, 46][j]? = some t → us[j]? = some u → TypedA Tryd.prog 8 t u) : ∃ (l : List Ins) (cut : List Bool), us = [insL true l, boolU true cut] := by
  match us, hl with
  | [u, v], _ =>
    obtain ⟨l, rfl, hlen, hx⟩ := typed_insn ⟨5, rfl⟩ ((hty 0 22 u rfl rfl).one (by kernel_rfl))
    obtain ⟨cut, rfl⟩ := typed_booln ⟨6, rfl⟩ ((hty 1 46 v rfl rfl).one (by kernel_rfl))
    exact ⟨l, cut, rfl⟩
theorem params7 : Tryd.f7.params.toList = [22, 46] := by kernel_rfl
theorem law7 : Law 7 Tryd.f7.params.toList := by
  rw [params7]
  intro us hl hty
  obtain ⟨l, cut, rfl⟩ := args2b hl hty
  exact law_of (law7_call l cut)
end Go.Proofs.YtapibckmdpdljaaDoor.M2

/- The law SkelWays in M2. -/
namespace Go.Proofs.YtapibckmdpdljaaDoor.M2
open Go
attribute [local simp] ev1 M2.get put A.ev ld sub part elems bin arith un opt idx fillC cellsO splice over newOb sto fillR laidOwn appTo appRow touch touchN touchM touchE touchA plainU flatU plainAs allM rowAt stoRow accM_nil accM_cons accMM_nil accMM_cons frz_int frz_bool frz_str frz_slt frz_nils frz_nilI frz_nilF frz_own frzRow_row frzRow_frow Ob.blw blw_bool blw_int blw_str blw_nils blw_nilI blw_nilF blw_nilp blw_nilm blw_sl blw_own blw_bp blw_rp blw_mp blw_it params
attribute [local simp] frz_agg frz_tup frz_iface frzS_agg frzS_iface accMS_cons frzS_int frzS_bool frzS_str frzS_slt frzS_nils frzS_nilI beq_dec bne_dec
attribute [local irreducible] Typed TypedA

theorem nodeEs_from (n : Nat) : ∀ (k : Nat) (os : List Way), ∀ e ∈ nodeEs n k os, e.2.1 = (n : Int)
  | _, [], e, he => by simp [nodeEs] at he
  | k, o :: os, e, he => by
    rw [nodeEs] at he
    rcases List.mem_cons.1 he with rfl | he
    · rfl
    · exact nodeEs_from n (k + 1) os e he
theorem nodeEs_hit (n : Nat) (j : Int) : ∀ (k : Nat) (os : List Way), (∃ o ∈ os, o.1 = j) → hits j (nodeEs n k os) ≠ []
  | _, [], h => by obtain ⟨o, ho, _⟩ := h; cases ho
  | k, o :: os, h => by
    unfold hits
    rw [nodeEs, List.filter_cons]
    by_cases hj : o.1 = j
    · simp [hj]
    · rw [if_neg (by simpa using hj)]
      obtain ⟨o', ho, h2⟩ := h
      rcases List.mem_cons.1 ho with rfl | ho
      · exact absurd h2 hj
      · exact nodeEs_hit n j (k + 1) os ⟨o', ho, h2⟩
theorem hits_from {j : Int} {es : List (Int × Edge)} {n : Int} (h : ∀ e ∈ es, e.2.1 = n) : ∀ e ∈ hits j es, e.1 = n := by
  intro e he
  obtain ⟨x, hx, rfl⟩ := List.mem_map.1 he
  exact h x ((List.mem_filter.1 hx).1)
/-- The first edge to a node comes from no later one than any that leads there. -/
theorem hits_first (j : Int) : ∀ (rn : List RNode) (k m : Nat), (∃ x, rn[m]? = some x ∧ ∃ o ∈ x.2, o.1 = j) → ∃ e t, hits j (allEs k rn) = e :: t ∧ e.1 ≤ ((k + m : Nat) : Int)
  | [], k, m, h => by obtain ⟨x, hx, _⟩ := h; simp at hx
  | x :: rn, k, m, h => by
    rw [allEs, hits_app]
    cases hh : hits j (nodeEs k 0 x.2) with
    | cons e t =>
      refine ⟨e, t ++ hits j (allEs (k + 1) rn), rfl, ?_⟩
      have := hits_from (j := j) (nodeEs_from k 0 x.2) e (by rw [hh]; simp)
      omega
    | nil =>
      obtain ⟨y, hy, o, ho, h2⟩ := h
      cases m with
      | zero =>
        simp only [List.getElem?_cons_zero, Option.some.injEq] at hy
        subst hy
        exact absurd hh (nodeEs_hit k j 0 x.2 ⟨o, ho, h2⟩)
      | succ m =>
        obtain ⟨e, t, h3, h4⟩ := hits_first j rn (k + 1) m ⟨y, by simpa using hy, o, ho, h2⟩
        exact ⟨e, t, by simpa using h3, by omega⟩
theorem idxOf_at {ps : List Nat} (hn : ps.Nodup) {j p : Nat} (h : ps[j]? = some p) : ps.idxOf p = j := by
  obtain ⟨hj, rfl⟩ := List.getElem?_eq_some_iff.1 h
  exact hn.idxOf_getElem j hj
theorem to_first {l : List Ins} {cut : List Bool} (hr : rightF l = true) {n : Nat} (hn : n < (pNodes l cut).length) : ∃ e t, toF (pEntry l) ((pNodes l cut).map rN) n = e :: t ∧ e.1 < n := by
  obtain ⟨h1, h2, h3, h4, h5, h6⟩ := nodes_spec (cut := cut) hr
  rw [skel_same (cut := cut) hr, h2]
  have hlen : n < (rPlaces l cut).length := by rw [h1, List.length_map] at hn; exact hn
  have hout : ∀ a, ¬ (wq l a).1 < 0 → (rPlaces l cut)[n]? = some (wq l a).1.toNat → (outP l (rPlaces l cut) a).1 = n := fun a ha hp => by
    unfold outP
    rw [if_neg ha, idxOf_at h4 hp]
  unfold toF
  rcases places_found (l := l) (cut := cut) n hlen with ⟨k1, k2⟩ | ⟨m, i, k1, k2, a, k3, k4, k5⟩
  · have := hout 0 k1 k2
    refine ⟨(-1, 0), hits n (allEs 0 ((rPlaces l cut).map (rNode l cut (rPlaces l cut)))), ?_, by simp only; omega⟩
    unfold hits
    rw [List.filter_cons, if_pos (by simpa using this)]
    rfl
  · have := hout a k4 k5
    by_cases he : (outP l (rPlaces l cut) 0).1 = (n : Int)
    · refine ⟨(-1, 0), hits n (allEs 0 ((rPlaces l cut).map (rNode l cut (rPlaces l cut)))), ?_, by simp only; omega⟩
      unfold hits
      rw [List.filter_cons, if_pos (by simpa using he)]
      rfl
    · obtain ⟨e, t, h7, h8⟩ := hits_first (n : Int) ((rPlaces l cut).map (rNode l cut (rPlaces l cut))) 0 m ⟨_, by rw [List.getElem?_map, k2]; rfl, outP l (rPlaces l cut) a, List.mem_map.2 ⟨a, k3, rfl⟩, this⟩
      refine ⟨e, t, ?_, by omega⟩
      rw [← h7]
      unfold hits
      rw [List.filter_cons, if_neg (by simpa using he)]
def sw0S (W : List (List U)) (n : Nat) (es : List Edge) (i : Nat) (o1 o2 : Ob) : S := ⟨[(7, .sl true W), (8, .bp 1 0), (9, i64 n), (10, .sl true (edR es)), (11, i64 i)], [o1, o2]⟩
set_option maxHeartbeats 4000000 in
theorem sw0_loop (W : List (List U)) (n : Nat) (es : List Edge) (hes : es.length ≤ 1000) (hW : W[n]? = some [.sl true (edR es)]) (o1 o2 : Ob) (R : S → Prop) :
    Wp T (.loop c_joinerylaw10_SkelWays_L1) (sw0S W n es 0 o1 o2) (fun _ => False) R (fun b s' => b = 2 ∧ s' = ⟨[(7, .sl true W), (8, .bp 1 0), (9, i64 n), (10, .sl true (edR es)), (11, i64 (es.length : Nat)), (80, .bool false)], [o1, o2]⟩) := by
  have hn := (List.getElem?_eq_some_iff.1 hW).1
  have hn' : (n : Int) < W.length := by omega
  refine Wp.count es.length (fun i => sw0S W n es i o1 o2) (fun _ => True) (fun i hi _ => ?_) (fun _ => ?_) 0 (by omega) trivial
  · have hi' : (i : Int) < es.length := by omega
    have eg : es[i]? = some es[i] := List.getElem?_eq_getElem hi
    have hs : ∀ e : Edge, sameV (.tst [(1, .ti), (1, .ti)]) (.agg [i64 e.1, i64 e.2]) (.agg [i64 e.1, i64 e.2]) = some true := fun e => by
      simp [sameV, cellsS, sameD, same, same.fields]
    generalize es[i] = e at *
    simp only [sw0S]
    repeat (first | apply Wp.seq | apply Wp.skip | apply Wp.block | (apply Wp.op0; ((simp [M2.keep]) <;> rfl)) | ((first | apply Wp.op | apply Wp.opN | (apply Wp.opG; exact rfl)); (apply Evt.all; intro; (simp [hi']) <;> (try simp (disch := omega) only [wrap_id]) <;> first | exact ⟨rfl, rfl⟩ | exact rfl)) | (apply Wp.opS; exact rfl; decide) | (apply Wp.opS0; exact rfl))
    refine Wp.cond (by first | rfl | (simp; rfl)) (fun h1 => ?_) (fun h1 => ?_)
    · repeat (first | apply Wp.seq | apply Wp.skip | apply Wp.block | (apply Wp.op0; ((simp [M2.keep]) <;> rfl)) | ((first | apply Wp.op | apply Wp.opN | (apply Wp.opG; exact rfl)); (apply Evt.all; intro; (simp []) <;> (try simp (disch := omega) only [wrap_id]) <;> first | exact ⟨rfl, rfl⟩ | exact rfl)) | (apply Wp.opS; exact rfl; decide) | (apply Wp.opS0; exact rfl))
      refine Wp.draw (by (simp [c_joinerylaw10_SkelWays_D0, I.need]) <;> rfl) (by (simp [hi', hn', eg, hW, hs, edgeU]) <;> rfl) (by (simp [hi', hn', eg, hW, hs, edgeU]) <;> rfl) (by (unfold c_joinerylaw10_SkelWays_D0); (repeat (first | ((first | apply Dr.op | apply Dr.opN | (apply Dr.opG; exact rfl)); ((simp [hi', hn', eg, hW, hs, edgeU]) <;> rfl); (apply Evt.all; intro; (simp [hi', hn', eg, hW, hs, edgeU]) <;> (try simp (disch := omega) only [wrap_id]) <;> first | exact ⟨rfl, rfl⟩ | exact rfl); ((simp [I.need]) <;> rfl)) | ((first | (apply Dr.opS; exact rfl; decide) | (apply Dr.opS0; exact rfl)); ((simp [I.need]) <;> rfl)))); exact Dr.nil) (by first | decide +kernel | exact rfl) (by (simp [M2.keep]) <;> rfl) ?_
      refine Wp.cond (by first | rfl | (simp; rfl)) (fun h2 => ?_) (fun h2 => ?_)
      · simp at h2
      · repeat (first | apply Wp.seq | apply Wp.skip | apply Wp.block | (apply Wp.op0; ((simp [M2.keep]) <;> rfl)) | ((first | apply Wp.op | apply Wp.opN | (apply Wp.opG; exact rfl)); (apply Evt.all; intro; (simp [wrap_id]) <;> (try simp (disch := omega) only [wrap_id]) <;> first | exact ⟨rfl, rfl⟩ | exact rfl)) | (apply Wp.opS; exact rfl; decide) | (apply Wp.opS0; exact rfl))
        exact ⟨trimO_len rfl, trivial⟩
    · cases h1
  · simp only [sw0S]
    repeat (first | apply Wp.seq | apply Wp.skip | apply Wp.block | (apply Wp.op0; ((simp [M2.keep]) <;> rfl)) | ((first | apply Wp.op | apply Wp.opN | (apply Wp.opG; exact rfl)); (apply Evt.all; intro; (simp []) <;> (try simp (disch := omega) only [wrap_id]) <;> first | exact ⟨rfl, rfl⟩ | exact rfl)) | (apply Wp.opS; exact rfl; decide) | (apply Wp.opS0; exact rfl))
    refine Wp.cond (by first | rfl | (simp; rfl)) (fun h1 => ?_) (fun h1 => ?_)
    · simp at h1
    · exact Wp.exit ⟨rfl, rfl⟩
def sw1S (W : List (List U)) (w : Way) (ns : List Node) (n : Nat) : S := ⟨[(7, .sl true W), (8, .bp 1 0), (9, i64 n)], [.box (skelU w ns), .box (rskelU w (ns.map rN))]⟩
set_option maxHeartbeats 8000000 in
theorem sw1_loop (w : Way) (ns : List Node) (hns : ns.length ≤ 200) (hall : ∀ x ∈ ns, (x.2.getD []).length ≤ 2 ∧ ∀ o ∈ x.2.getD [], o.2.length = 24) (hfirst : ∀ n, n < ns.length → ∃ e t, toF w (ns.map rN) n = e :: t ∧ e.1 < n) (W : List (List U)) (hW : W = (List.range ns.length).map fun n => [.sl true (edR (toF w (ns.map rN) n))]) (R : S → Prop) :
    Wp T (.loop c_joinerylaw10_SkelWays_L2) (sw1S W w ns 0) (fun _ => False) R (fun b s' => b = 0 ∧ s' = ⟨[(7, .sl true W), (8, .bp 1 0), (9, i64 (ns.length : Nat)), (50, .bool false)], [.box (skelU w ns), .box (rskelU w (ns.map rN))]⟩) := by
  have hWl : W.length = ns.length := by rw [hW]; simp
  refine Wp.count ns.length (fun n => sw1S W w ns n) (fun _ => True) (fun n hn _ => ?_) (fun _ => ?_) 0 (by omega) trivial
  · have hn' : (n : Int) < ns.length := by omega
    have hto := fun st => to_call w (ns.map rN) (by rw [List.length_map]; exact hns) (fun x hx => by
      obtain ⟨y, hy, rfl⟩ := List.mem_map.1 hx
      exact (hall y hy).1) n st
    have hg : W[n]? = some [.sl true (edR (toF w (ns.map rN) n))] := by rw [hW]; simp [hn]
    have hlen : (toF w (ns.map rN) n).length ≤ 1000 := by
      unfold toF
      have h1 := hits_len n ((w.1, (-1, 0)) :: allEs 0 (ns.map rN))
      have h2 := allEs_len 0 (ns.map rN) (fun x hx => by
        obtain ⟨y, hy, rfl⟩ := List.mem_map.1 hx
        exact (hall y hy).1)
      rw [List.length_cons] at h1
      rw [List.length_map] at h2
      omega
    obtain ⟨e, t, hE, he⟩ := hfirst n hn
    have hlp := fun o1 o2 => sw0_loop W n (toF w (ns.map rN) n) hlen hg o1 o2 R
    rw [hE] at hto hg hlp
    have hl3 : (rskelU w (ns.map rN)).take 3 = rskelU w (ns.map rN) := rfl
    have hl3' : (rskelU w (ns.map rN)).length = 3 := rfl
    have de : decide ((n : Int) ≤ e.1) = false := decide_eq_false (by omega)
    have hne : ¬ ((t.length : Int) + 1 = 0) := by omega
    simp only [sw1S]
    repeat (first | apply Wp.seq | apply Wp.skip | apply Wp.block | (apply Wp.op0; ((simp [M2.keep]) <;> rfl)) | ((first | apply Wp.op | apply Wp.opN | (apply Wp.opG; exact rfl)); (apply Evt.all; intro; (simp [hWl, hn']) <;> (try simp (disch := omega) only [wrap_id]) <;> first | exact ⟨rfl, rfl⟩ | exact rfl)) | (apply Wp.opS; exact rfl; decide) | (apply Wp.opS0; exact rfl))
    refine Wp.cond (by first | rfl | (simp; rfl)) (fun h1 => ?_) (fun h1 => ?_)
    · repeat' (first | apply Wp.seq | apply Wp.skip | apply Wp.block | (apply Wp.op0; ((simp [M2.keep]) <;> rfl)) | ((first | (apply Wp.pickT; (exact rfl); (first | exact rfl | assumption)) | (apply Wp.pickF; (exact rfl); (first | exact rfl | assumption))); ((simp) <;> exact rfl)) | ((first | apply Wp.op | apply Wp.opN); (apply Evt.all; intro; (simp [hWl, hn', hl3, hl3', hg, edgeU, hne]) <;> (try simp (disch := omega) only [wrap_id]) <;> first | exact ⟨rfl, rfl⟩ | exact rfl)) | (apply Wp.call; exact hto _) | (first | (apply Wp.ung; (exact rfl); (first | exact rfl | assumption)) | (apply Wp.opSt; (exact rfl); (first | exact rfl | assumption)) | (apply Wp.opSf; (exact rfl); (first | exact rfl | assumption))) | (apply Wp.opS0; (exact rfl)) | (first | (apply Wp.condT; (exact rfl); (first | exact rfl | assumption)) | (apply Wp.condF; (exact rfl); (first | exact rfl | assumption))) | ((first | apply Wp.grdT | apply Wp.grdF | apply Wp.cond); (exact rfl); (intro); rotate_left 1; (intro); rotate_right 1))
      refine (show Wp T (.loop c_joinerylaw10_SkelWays_L1) (sw0S W n (e :: t) 0 (.box (skelU w ns)) (.box (rskelU w (ns.map rN)))) _ _ _ from (hlp _ _).imp (fun _ h => h.elim) (fun _ h => h) ?_)
      rintro b s ⟨rfl, rfl⟩
      rw [if_pos rfl]
      repeat (first | apply Wp.seq | apply Wp.skip | apply Wp.block | (apply Wp.op0; ((simp [M2.keep]) <;> rfl)) | ((first | apply Wp.op | apply Wp.opN | (apply Wp.opG; exact rfl)); (apply Evt.all; intro; (simp [wrap_id]) <;> (try simp (disch := omega) only [wrap_id]) <;> first | exact ⟨rfl, rfl⟩ | exact rfl)) | (apply Wp.opS; exact rfl; decide) | (apply Wp.opS0; exact rfl))
      exact ⟨trimO_len rfl, trivial⟩
    · cases h1
  · simp only [sw1S]
    repeat (first | apply Wp.seq | apply Wp.skip | apply Wp.block | (apply Wp.op0; ((simp [M2.keep]) <;> rfl)) | ((first | apply Wp.op | apply Wp.opN | (apply Wp.opG; exact rfl)); (apply Evt.all; intro; (simp [hWl]) <;> (try simp (disch := omega) only [wrap_id]) <;> first | exact ⟨rfl, rfl⟩ | exact rfl)) | (apply Wp.opS; exact rfl; decide) | (apply Wp.opS0; exact rfl))
    refine Wp.cond (by first | rfl | (simp; rfl)) (fun h1 => ?_) (fun h1 => ?_)
    · simp at h1
    · exact Wp.exit ⟨rfl, rfl⟩
set_option maxHeartbeats 4000000 in
theorem law8_call (l : List Ins) (cut : List Bool) : Cl T 8 [insL true l, boolU true cut] [] (.bool true) [] := by
  refine Wp.pure (fn := c_joinerylaw10_SkelWays) rfl rfl rfl («as» := [insL true l, boolU true cut]) rfl ?_
  have kno := knows10_call
  by_cases h1 : 300 < l.length
  · have d1 : decide ((300 : Int) < l.length) = true := decide_eq_true (by omega)
    repeat' (first | apply Wp.seq | apply Wp.skip | apply Wp.block | (apply Wp.op0; ((simp [M2.keep]) <;> rfl)) | ((first | (apply Wp.pickT; (exact rfl); (first | exact rfl | assumption)) | (apply Wp.pickF; (exact rfl); (first | exact rfl | assumption))); ((simp) <;> exact rfl)) | ((first | apply Wp.op | apply Wp.opN); (apply Evt.all; intro; (simp [insL]) <;> (try simp (disch := omega) only [wrap_id]) <;> first | exact ⟨rfl, rfl⟩ | exact rfl)) | (apply Wp.call; exact kno _) | (first | (apply Wp.ung; (exact rfl); (first | exact rfl | assumption)) | (apply Wp.opSt; (exact rfl); (first | exact rfl | assumption)) | (apply Wp.opSf; (exact rfl); (first | exact rfl | assumption))) | (apply Wp.opS0; (exact rfl)) | (first | (apply Wp.condT; (exact rfl); (first | exact rfl | assumption)) | (apply Wp.condF; (exact rfl); (first | exact rfl | assumption))) | ((first | apply Wp.grdT | apply Wp.grdF | apply Wp.cond); (exact rfl); (intro); rotate_left 1; (intro); rotate_right 1))
    refine Wp.ret ?_
    simp [Res, resU, res1, c_joinerylaw10_SkelWays]
  have d1 : decide ((300 : Int) < l.length) = false := decide_eq_false (by omega)
  by_cases h2 : 300 < cut.length
  · have d2 : decide ((300 : Int) < cut.length) = true := decide_eq_true (by omega)
    repeat' (first | apply Wp.seq | apply Wp.skip | apply Wp.block | (apply Wp.op0; ((simp [M2.keep]) <;> rfl)) | ((first | (apply Wp.pickT; (exact rfl); (first | exact rfl | assumption)) | (apply Wp.pickF; (exact rfl); (first | exact rfl | assumption))); ((simp) <;> exact rfl)) | ((first | apply Wp.op | apply Wp.opN); (apply Evt.all; intro; (simp [insL, boolU]) <;> (try simp (disch := omega) only [wrap_id]) <;> first | exact ⟨rfl, rfl⟩ | exact rfl)) | (apply Wp.call; exact kno _) | (first | (apply Wp.ung; (exact rfl); (first | exact rfl | assumption)) | (apply Wp.opSt; (exact rfl); (first | exact rfl | assumption)) | (apply Wp.opSf; (exact rfl); (first | exact rfl | assumption))) | (apply Wp.opS0; (exact rfl)) | (first | (apply Wp.condT; (exact rfl); (first | exact rfl | assumption)) | (apply Wp.condF; (exact rfl); (first | exact rfl | assumption))) | ((first | apply Wp.grdT | apply Wp.grdF | apply Wp.cond); (exact rfl); (intro); rotate_left 1; (intro); rotate_right 1))
    refine Wp.ret ?_
    simp [Res, resU, res1, c_joinerylaw10_SkelWays]
  have d2 : decide ((300 : Int) < cut.length) = false := decide_eq_false (by omega)
  have hri := fun st => right4_call true l st (insL true l) rfl
  cases hr : rightF l with
  | false =>
    rw [hr] at hri
    repeat' (first | apply Wp.seq | apply Wp.skip | apply Wp.block | (apply Wp.op0; ((simp [M2.keep]) <;> rfl)) | ((first | (apply Wp.pickT; (exact rfl); (first | exact rfl | assumption)) | (apply Wp.pickF; (exact rfl); (first | exact rfl | assumption))); ((simp) <;> exact rfl)) | ((first | apply Wp.op | apply Wp.opN); (apply Evt.all; intro; (simp [insL, boolU]) <;> (try simp (disch := omega) only [wrap_id]) <;> first | exact ⟨rfl, rfl⟩ | exact rfl)) | (apply Wp.call; exact hri _) | (apply Wp.call; exact kno _) | (first | (apply Wp.ung; (exact rfl); (first | exact rfl | assumption)) | (apply Wp.opSt; (exact rfl); (first | exact rfl | assumption)) | (apply Wp.opSf; (exact rfl); (first | exact rfl | assumption))) | (apply Wp.opS0; (exact rfl)) | (first | (apply Wp.condT; (exact rfl); (first | exact rfl | assumption)) | (apply Wp.condF; (exact rfl); (first | exact rfl | assumption))) | ((first | apply Wp.grdT | apply Wp.grdF | apply Wp.cond); (exact rfl); (intro); rotate_left 1; (intro); rotate_right 1))
    refine Wp.ret ?_
    simp [Res, resU, res1, c_joinerylaw10_SkelWays]
  | true =>
    rw [hr] at hri
    have hb := build_call true l hr true cut
    obtain ⟨f1, f2, f3⟩ := skel_facts (cut := cut) hr
    have hsame := skel_same (cut := cut) hr
    have hfirst := fun n hn => to_first (cut := cut) (n := n) hr hn
    have hrb := rbuild_call true l hr true cut
    have hent : pEntry l = outP l (rPlaces l cut) 0 := (nodes_spec (cut := cut) hr).2.1
    rw [← hent, ← hsame] at hrb
    have hwy := ways_call (pEntry l) f3 (pNodes l cut) f1 f2
    have sl := skel_len f3 (pNodes l cut)
    generalize pNodes l cut = ns at *
    generalize pEntry l = w at *
    have t26 : (skelU w ns).take 26 = skelU w ns := by rw [List.take_of_length_le]; omega
    have hlp := sw1_loop w ns f1 f2 hfirst _ rfl
    simp only [sw1S] at hlp
    have hrl : (ns.map rN).length = ns.length := by simp
    generalize ns.map rN = rn at *
    repeat' (first | apply Wp.seq | apply Wp.skip | apply Wp.block | (apply Wp.op0; ((simp [M2.keep]) <;> rfl)) | ((first | (apply Wp.pickT; (exact rfl); (first | exact rfl | assumption)) | (apply Wp.pickF; (exact rfl); (first | exact rfl | assumption))); ((simp) <;> exact rfl)) | ((first | apply Wp.op | apply Wp.opN); (apply Evt.all; intro; (simp [insL, boolU, sl, t26, over_full, rskelU, hrl]) <;> (try simp (disch := omega) only [wrap_id]) <;> first | exact ⟨rfl, rfl⟩ | exact rfl)) | (apply Wp.call; exact hb _) | (apply Wp.call; exact hri _) | (apply Wp.call; exact hwy _) | (apply Wp.call; exact hrb _) | (first | (apply Wp.ung; (exact rfl); (first | exact rfl | assumption)) | (apply Wp.opSt; (exact rfl); (first | exact rfl | assumption)) | (apply Wp.opSf; (exact rfl); (first | exact rfl | assumption))) | (apply Wp.opS0; (exact rfl)) | (first | (apply Wp.condT; (exact rfl); (first | exact rfl | assumption)) | (apply Wp.condF; (exact rfl); (first | exact rfl | assumption))) | ((first | apply Wp.grdT | apply Wp.grdF | apply Wp.cond); (exact rfl); (intro); rotate_left 1; (intro); rotate_right 1))
    refine ((hlp _).imp (fun _ h => h.elim) (fun _ h => h) ?_)
    rintro b s ⟨rfl, rfl⟩
    rw [if_pos rfl]
    repeat' (first | apply Wp.seq | apply Wp.skip | apply Wp.block | (apply Wp.op0; ((simp [M2.keep]) <;> rfl)) | ((first | (apply Wp.pickT; (exact rfl); (first | exact rfl | assumption)) | (apply Wp.pickF; (exact rfl); (first | exact rfl | assumption))); ((simp) <;> exact rfl)) | ((first | apply Wp.op | apply Wp.opN); (apply Evt.all; intro; (simp []) <;> (try simp (disch := omega) only [wrap_id]) <;> first | exact ⟨rfl, rfl⟩ | exact rfl)) | (apply Wp.call; exact kno _) | (first | (apply Wp.ung; (exact rfl); (first | exact rfl | assumption)) | (apply Wp.opSt; (exact rfl); (first | exact rfl | assumption)) | (apply Wp.opSf; (exact rfl); (first | exact rfl | assumption))) | (apply Wp.opS0; (exact rfl)) | (first | (apply Wp.condT; (exact rfl); (first | exact rfl | assumption)) | (apply Wp.condF; (exact rfl); (first | exact rfl | assumption))) | ((first | apply Wp.grdT | apply Wp.grdF | apply Wp.cond); (exact rfl); (intro); rotate_left 1; (intro); rotate_right 1))
    refine Wp.ret ?_
    simp [Res, resU, res1, c_joinerylaw10_SkelWays]
theorem params8 : Tryd.f8.params.toList = [22, 46] := by kernel_rfl
theorem law8 : Law 8 Tryd.f8.params.toList := by
  rw [params8]
  intro us hl hty
  obtain ⟨l, cut, rfl⟩ := args2b hl hty
  exact law_of (law8_call l cut)
end Go.Proofs.YtapibckmdpdljaaDoor.M2

/- SkelWays: the ways to each node are those that the document says. No condition. -/
namespace Go.Proofs.YtapibckmdpdljaaDoor.M2
open Go Go.ChangeShapes Go.WideShapes Go.ChangeAt Go.RowKit

theorem types8 : Tryd.f8.resultTypes = #[4] := by kernel_rfl
set_option maxRecDepth 100000 in
theorem skelWays_row (law : Law 8 Tryd.f8.params.toList) : Rows.SkelWaysSaid :=
  OpenClaim.holds_of_wide 8 Tryd.f8 rfl rfl rfl rfl rfl rfl rfl ⟨rfl, rfl, rfl, rfl, rfl⟩ rfl rfl rfl rfl rfl (by kernel_rfl) Tryd.func8 (by kernel_rfl)
    (of_decide_eq_true (by kernel_rfl)) (by unfold Func.isWrapper; first | (rw [if_pos (by decide +kernel)]; kernel_rfl) | (rw [if_neg (by decide +kernel)]; exact ⟨rfl, rfl⟩))
    (fun os started H enc _ => lifted (s := Rows.skelWaysSpec) law os started enc (by kernel_rfl) Tryd.func8 rfl (by kernel_rfl) types8 bool4
      (fun ds h => by
        have h1 : ds.length = 2 := h
        match ds, h1 with
        | [d0, d1], _ => rfl)
      (ChangeSpec.witness_shaped (enc := enc) (C := Tryd.checked) (os := os) (X := fun w _ => laidMetH Tryd.prog laid1 w) false (World.doorLaid Tryd.prog 400 os) #[.slice none 0 0, .slice none 0 0] 8 rfl (World.shaped_of_RefB (by kernel_rfl) (by kernel_rfl)) (by kernel_rfl) (by kernel_rfl) (by kernel_rfl) (door_met os _)))
theorem skelWays_card (law : Law 8 Tryd.f8.params.toList) : Rows.SkelWaysCardSaid :=
  Claim7.holds_tied_plain_at .later [] [.data] true (true, "13d9c7b0cf76a0ce59a956f6bcabe4d883017d16fd43b76b602544cf0bc1a375") true
    (skelWays_row law) (fun _ h => by cases h) (by kernel_rfl) (fun _ h => by cases h) skelWays_row_tie rfl ⟨rfl, rfl⟩ (by kernel_rfl) rfl
    (fun f fn hf hfn => by
      obtain rfl : f = 8 := Option.some.inj ((show Tryd.prog.funcNamed "joinery/joinerylaw10.SkelWays" = some 8 by kernel_rfl).symm.trans hf) |>.symm
      obtain rfl : fn = Tryd.f8 := (Option.some.inj (Tryd.func8.symm.trans hfn)).symm
      exact ⟨by kernel_rfl, fun j t ht => by
        rw [Tryd.params8] at ht
        have hm : t ∈ [22, 46] := by simpa using Array.mem_of_getElem? ht
        have hall : ([22, 46].all fun u => !Tryd.prog.wantsStandIn u) = true := by kernel_rfl
        exact (show Tryd.prog.wantsStandIn t = false by simpa using List.all_eq_true.1 hall t hm)⟩)
    (by kernel_rfl)
end Go.Proofs.YtapibckmdpdljaaDoor.M2
namespace Go.Proofs.YtapibckmdpdljaaDoor
theorem skelWays_said : Rows.SkelWaysCardSaid := M2.skelWays_card M2.law8
end Go.Proofs.YtapibckmdpdljaaDoor
