/- SkelCuts: with more places cut there are no more nodes; and each of them was one. No condition. -/
import Derived.Test.YtapibckmdpdljaaDoorCj
import Derived.Test.YtapibckmdpdljaaDoorCh
import Derived.Test.YtapibckmdpdljaaDoorCk
set_option linter.unusedSimpArgs false
set_option linter.unusedVariables false
set_option linter.unusedSectionVars false
/- The law SkelBuilds in M2. -/
namespace Go.Proofs.YtapibckmdpdljaaDoor.M2
open Go
attribute [local simp] ev1 M2.get put A.ev ld sub part elems bin arith un opt idx fillC cellsO splice over newOb sto fillR laidOwn appTo appRow touch touchN touchM touchE touchA plainU flatU plainAs allM rowAt stoRow accM_nil accM_cons accMM_nil accMM_cons frz_int frz_bool frz_str frz_slt frz_nils frz_nilI frz_nilF frz_own frzRow_row frzRow_frow Ob.blw blw_bool blw_int blw_str blw_nils blw_nilI blw_nilF blw_nilp blw_nilm blw_sl blw_own blw_bp blw_rp blw_mp blw_it params
attribute [local simp] frz_agg frz_tup frz_iface frzS_agg frzS_iface accMS_cons frzS_int frzS_bool frzS_str frzS_slt frzS_nils frzS_nilI beq_dec bne_dec
attribute [local irreducible] Typed

theorem knows10_call (st : List Ob) : Cl T 23 [] st (.bool true) st := Cl.at (n := 100) (by kernel_rfl) rfl st
/-- The two skeletons are one. -/
theorem skel_same {l : List Ins} {cut : List Bool} (hr : rightF l = true) : (pNodes l cut).map rN = (rPlaces l cut).map (rNode l cut (rPlaces l cut)) := by
  obtain ⟨h1, _⟩ := nodes_spec (cut := cut) hr
  rw [h1, List.map_map]
  refine List.map_congr_left fun i _ => ?_
  simp only [Function.comp, rN, rNode, rOuts, fsC]
  split <;> rfl
theorem skel_facts {l : List Ins} {cut : List Bool} (hr : rightF l = true) : (pNodes l cut).length ≤ 200 ∧ (∀ x ∈ pNodes l cut, (x.2.getD []).length ≤ 2 ∧ ∀ o ∈ x.2.getD [], o.2.length = 24) ∧ (pEntry l).2.length = 24 := by
  obtain ⟨h1, h2, h3, h4, h5, h6⟩ := nodes_spec (cut := cut) hr
  have h200 := (right_facts hr).1
  refine ⟨by rw [h1, List.length_map]; omega, fun x hx => ?_, by rw [h2]; exact wq_t hr (right_facts hr).2.1 _⟩
  rw [h1] at hx
  obtain ⟨i, hi, rfl⟩ := List.mem_map.1 hx
  obtain ⟨k1, k2⟩ := h5 i hi
  simp only
  split
  · simp
  · simp only [Option.getD_some, List.length_map]
    refine ⟨fs_len l i, fun o ho => ?_⟩
    obtain ⟨a, ha, rfl⟩ := List.mem_map.1 ho
    exact wq_t hr ((fsAt_ok hr k1 k2).1 a ha) _
set_option maxHeartbeats 4000000 in
theorem law7_call (l : List Ins) (cut : List Bool) : Cl T 7 [insL false l, boolU false cut] [] (.bool true) [] := by
  refine Wp.pure (fn := c_joinerylaw10_SkelBuilds) rfl rfl rfl («as» := [insL false l, boolU false cut]) rfl ?_
  have kno := knows10_call
  by_cases h1 : 300 < l.length
  · have d1 : decide ((300 : Int) < l.length) = true := decide_eq_true (by omega)
    repeat' (first | apply Wp.seq | apply Wp.skip | apply Wp.block | (apply Wp.op0; ((simp [M2.keep]) <;> rfl)) | (apply Wp.pickT; (exact rfl); (first | exact rfl | assumption); ((simp) <;> exact rfl)) | (apply Wp.pickF; (exact rfl); (first | exact rfl | assumption); ((simp) <;> exact rfl)) | (apply Wp.op; (apply Evt.all; intro; (simp [insL]) <;> (try simp (disch := omega) only [wrap_id]) <;> first | exact ⟨rfl, rfl⟩ | exact rfl)) | (apply Wp.opN; (apply Evt.all; intro; (simp [insL]) <;> (try simp (disch := omega) only [wrap_id]) <;> first | exact ⟨rfl, rfl⟩ | exact rfl)) | (apply Wp.call; exact kno _) | (apply Wp.ung; (exact rfl); (first | exact rfl | assumption)) | (apply Wp.opSt; (exact rfl); (first | exact rfl | assumption)) | (apply Wp.opSf; (exact rfl); (first | exact rfl | assumption)) | (apply Wp.opS0; (exact rfl)) | (apply Wp.grdT; (exact rfl); (intro); rotate_left 1; (intro); rotate_right 1) | (apply Wp.grdF; (exact rfl); (intro); rotate_left 1; (intro); rotate_right 1) | (apply Wp.condT; (exact rfl); (first | exact rfl | assumption)) | (apply Wp.condF; (exact rfl); (first | exact rfl | assumption)) | (apply Wp.cond; (exact rfl); (intro); rotate_left 1; (intro); rotate_right 1))
    refine Wp.ret ?_
    simp [Res, resU, res1, c_joinerylaw10_SkelBuilds]
  have d1 : decide ((300 : Int) < l.length) = false := decide_eq_false (by omega)
  by_cases h2 : 300 < cut.length
  · have d2 : decide ((300 : Int) < cut.length) = true := decide_eq_true (by omega)
    repeat' (first | apply Wp.seq | apply Wp.skip | apply Wp.block | (apply Wp.op0; ((simp [M2.keep]) <;> rfl)) | (apply Wp.pickT; (exact rfl); (first | exact rfl | assumption); ((simp) <;> exact rfl)) | (apply Wp.pickF; (exact rfl); (first | exact rfl | assumption); ((simp) <;> exact rfl)) | (apply Wp.op; (apply Evt.all; intro; (simp [insL, boolU]) <;> (try simp (disch := omega) only [wrap_id]) <;> first | exact ⟨rfl, rfl⟩ | exact rfl)) | (apply Wp.opN; (apply Evt.all; intro; (simp [insL, boolU]) <;> (try simp (disch := omega) only [wrap_id]) <;> first | exact ⟨rfl, rfl⟩ | exact rfl)) | (apply Wp.call; exact kno _) | (apply Wp.ung; (exact rfl); (first | exact rfl | assumption)) | (apply Wp.opSt; (exact rfl); (first | exact rfl | assumption)) | (apply Wp.opSf; (exact rfl); (first | exact rfl | assumption)) | (apply Wp.opS0; (exact rfl)) | (apply Wp.grdT; (exact rfl); (intro); rotate_left 1; (intro); rotate_right 1) | (apply Wp.grdF; (exact rfl); (intro); rotate_left 1; (intro); rotate_right 1) | (apply Wp.condT; (exact rfl); (first | exact rfl | assumption)) | (apply Wp.condF; (exact rfl); (first | exact rfl | assumption)) | (apply Wp.cond; (exact rfl); (intro); rotate_left 1; (intro); rotate_right 1))
    refine Wp.ret ?_
    simp [Res, resU, res1, c_joinerylaw10_SkelBuilds]
  have d2 : decide ((300 : Int) < cut.length) = false := decide_eq_false (by omega)
  have hri := fun st => right4_call false l st (insL false l) rfl
  cases hr : rightF l with
  | false =>
    rw [hr] at hri
    have hb := build_bad false l hr false cut
    simp only [List.replicate] at hb
    repeat' (first | apply Wp.seq | apply Wp.skip | apply Wp.block | (apply Wp.op0; ((simp [M2.keep]) <;> rfl)) | (apply Wp.pickT; (exact rfl); (first | exact rfl | assumption); ((simp) <;> exact rfl)) | (apply Wp.pickF; (exact rfl); (first | exact rfl | assumption); ((simp) <;> exact rfl)) | (apply Wp.op; (apply Evt.all; intro; (simp [insL, boolU, over]) <;> (try simp (disch := omega) only [wrap_id]) <;> first | exact ⟨rfl, rfl⟩ | exact rfl)) | (apply Wp.opN; (apply Evt.all; intro; (simp [insL, boolU, over]) <;> (try simp (disch := omega) only [wrap_id]) <;> first | exact ⟨rfl, rfl⟩ | exact rfl)) | (apply Wp.call; exact hb _) | (apply Wp.call; exact hri _) | (apply Wp.call; exact kno _) | (apply Wp.ung; (exact rfl); (first | exact rfl | assumption)) | (apply Wp.opSt; (exact rfl); (first | exact rfl | assumption)) | (apply Wp.opSf; (exact rfl); (first | exact rfl | assumption)) | (apply Wp.opS0; (exact rfl)) | (apply Wp.grdT; (exact rfl); (intro); rotate_left 1; (intro); rotate_right 1) | (apply Wp.grdF; (exact rfl); (intro); rotate_left 1; (intro); rotate_right 1) | (apply Wp.condT; (exact rfl); (first | exact rfl | assumption)) | (apply Wp.condF; (exact rfl); (first | exact rfl | assumption)) | (apply Wp.cond; (exact rfl); (intro); rotate_left 1; (intro); rotate_right 1))
    refine Wp.ret ?_
    simp [Res, resU, res1, c_joinerylaw10_SkelBuilds]
  | true =>
    rw [hr] at hri
    have hb := build_call false l hr false cut
    obtain ⟨f1, f2, f3⟩ := skel_facts (cut := cut) hr
    have hsame := skel_same (cut := cut) hr
    have hrb := rbuild_call false l hr false cut
    have hent : pEntry l = outP l (rPlaces l cut) 0 := (nodes_spec (cut := cut) hr).2.1
    rw [← hent, ← hsame] at hrb
    have has := asskel_call (pEntry l) f3 (pNodes l cut) f1 f2
    have hsm := sameskel_call (pEntry l) f3 ((pNodes l cut).map rN) (by rw [List.length_map]; exact f1) (fun x hx => by
      obtain ⟨y, hy, rfl⟩ := List.mem_map.1 hx
      exact f2 y hy)
    have sl := skel_len f3 (pNodes l cut)
    generalize pNodes l cut = ns at *
    generalize pEntry l = w at *
    have t26 : (skelU w ns).take 26 = skelU w ns := by rw [List.take_of_length_le]; omega
    repeat' (first | apply Wp.seq | apply Wp.skip | apply Wp.block | (apply Wp.op0; ((simp [M2.keep]) <;> rfl)) | (apply Wp.pickT; (exact rfl); (first | exact rfl | assumption); ((simp) <;> exact rfl)) | (apply Wp.pickF; (exact rfl); (first | exact rfl | assumption); ((simp) <;> exact rfl)) | (apply Wp.op; (apply Evt.all; intro; (simp [insL, boolU, sl, t26, over_full]) <;> (try simp (disch := omega) only [wrap_id]) <;> first | exact ⟨rfl, rfl⟩ | exact rfl)) | (apply Wp.opN; (apply Evt.all; intro; (simp [insL, boolU, sl, t26, over_full]) <;> (try simp (disch := omega) only [wrap_id]) <;> first | exact ⟨rfl, rfl⟩ | exact rfl)) | (apply Wp.call; exact hb _) | (apply Wp.call; exact hri _) | (apply Wp.call; exact has _) | (apply Wp.call; exact hrb _) | (apply Wp.call; exact hsm _) | (apply Wp.call; exact kno _) | (apply Wp.ung; (exact rfl); (first | exact rfl | assumption)) | (apply Wp.opSt; (exact rfl); (first | exact rfl | assumption)) | (apply Wp.opSf; (exact rfl); (first | exact rfl | assumption)) | (apply Wp.opS0; (exact rfl)) | (apply Wp.grdT; (exact rfl); (intro); rotate_left 1; (intro); rotate_right 1) | (apply Wp.grdF; (exact rfl); (intro); rotate_left 1; (intro); rotate_right 1) | (apply Wp.condT; (exact rfl); (first | exact rfl | assumption)) | (apply Wp.condF; (exact rfl); (first | exact rfl | assumption)) | (apply Wp.cond; (exact rfl); (intro); rotate_left 1; (intro); rotate_right 1))
    refine Wp.ret ?_
    simp [Res, resU, res1, c_joinerylaw10_SkelBuilds]
theorem typed_bool {P : Program} {t : TypeId} (hu : P.underlying t = some .bool) {d : Nat} {us : List U} (h : Typed P (d + 1) t us) : ∃ b, us = [.bool b] := by
  unfold Typed at h
  simp only [hu] at h
  exact h
theorem typed_booln {n : Nat} (hn : ∃ d, n = d + 2) {u : U} (h : Typed Tryd.prog n 46 [u]) : ∃ l : List Bool, u = boolU false l := by
  obtain ⟨d, rfl⟩ := hn
  obtain ⟨l, e, _⟩ := typed_sl (Q := fun _ => True) (f := fun b => [.bool b]) Tryd.underlying46 (fun x hx => by
    obtain ⟨b, e⟩ := typed_bool Tryd.underlying4 hx
    exact ⟨b, e, trivial⟩) h
  exact ⟨l, e⟩
/-- The arguments of a function and places. -/
theorem args2b {us : List U} (hl : us.length = 2) (hty : ∀ (j : Nat) t u, [22, 46][j]? = some t → us[j]? = some u → Typed Tryd.prog 8 t [u]) : ∃ (l : List Ins) (cut : List Bool), us = [insL false l, boolU false cut] := by
  match us, hl with
  | [u, v], _ =>
    obtain ⟨l, rfl, hlen, hx⟩ := typed_insn ⟨5, rfl⟩ (hty 0 22 u rfl rfl)
    obtain ⟨cut, rfl⟩ := typed_booln ⟨6, rfl⟩ (hty 1 46 v rfl rfl)
    exact ⟨l, cut, rfl⟩
theorem params7 : Tryd.f7.params.toList = [22, 46] := by kernel_rfl
theorem law7 : Law 7 Tryd.f7.params.toList := by
  rw [params7]
  intro us hl hty
  obtain ⟨l, cut, rfl⟩ := args2b hl hty
  exact law_of (law7_call l cut)
end Go.Proofs.YtapibckmdpdljaaDoor.M2

/- Plain: with more places cut there are no other nodes. -/
namespace Go.Proofs.YtapibckmdpdljaaDoor.M2
open Go

theorem addP_sub {l : List Ins} {P ps : List Nat} {a : Nat} (h : Has l P a) (hs : ∀ p ∈ ps, p ∈ P) : ∀ p ∈ addP l ps a, p ∈ P := by
  unfold addP
  split
  · exact hs
  · rename_i hn
    intro p hp
    rcases List.mem_append.1 hp with hp | hp
    · exact hs p hp
    · simp only [List.mem_singleton] at hp
      subst hp
      exact h.resolve_left fun h => hn (.inl h)
theorem fold_sub {l : List Ins} {P : List Nat} : ∀ (ls ps : List Nat), (∀ a ∈ ls, Has l P a) → (∀ p ∈ ps, p ∈ P) → ∀ p ∈ ls.foldl (addP l) ps, p ∈ P
  | [], _, _, hs => hs
  | a :: ls, ps, ha, hs => fold_sub ls _ (fun b hb => ha b (by simp [hb])) (addP_sub (ha a (by simp)) hs)
theorem rRun_sub {l : List Ins} {cut cut' : List Bool} {P : List Nat} (hP : ∀ p ∈ P, ∀ a ∈ fsC l cut p, Has l P a) (hc : ∀ i, cutF cut i = true → cutF cut' i = true) : ∀ (k n : Nat) (ps : List Nat), (∀ p ∈ ps, p ∈ P) → ∀ p ∈ rRun l cut' k n ps, p ∈ P
  | 0, _, _, hs => hs
  | k + 1, n, ps, hs => by
    rw [rRun]
    split
    · rename_i hn
      refine rRun_sub hP hc k (n + 1) _ (fold_sub _ _ (fun a ha => ?_) hs)
      have hm : ps.getD n 0 ∈ P := by
        have : ps.getD n 0 = ps[n] := by simp [hn]
        rw [this]
        exact hs _ (List.getElem_mem hn)
      refine hP _ hm a ?_
      unfold fsC at ha ⊢
      split at ha
      · cases ha
      · rename_i h1
        rw [if_neg (fun h => h1 (hc _ h))]
        exact ha
    · exact hs
theorem rRun_pre {l : List Ins} {cut : List Bool} : ∀ (k n : Nat) (ps : List Nat), ∃ qs, rRun l cut k n ps = ps ++ qs
  | 0, _, ps => ⟨[], by simp [rRun]⟩
  | k + 1, n, ps => by
    rw [rRun]
    split
    · obtain ⟨⟨qs, h1⟩, _⟩ := fold_spec l (fsC l cut (ps.getD n 0)) ps
      obtain ⟨rs, h2⟩ := rRun_pre (l := l) (cut := cut) k (n + 1) ((fsC l cut (ps.getD n 0)).foldl (addP l) ps)
      exact ⟨qs ++ rs, by rw [h2, h1, List.append_assoc]⟩
    · exact ⟨[], by simp⟩
theorem cuts_sub {l : List Ins} (hr : rightF l = true) {cut cut' : List Bool} (hc : ∀ i, cutF cut i = true → cutF cut' i = true) : (∀ p ∈ (pNodes l cut').map (·.1), p ∈ (pNodes l cut).map (·.1)) ∧ (pNodes l cut').length ≤ (pNodes l cut).length := by
  obtain ⟨h1, _, _, h4, _, h6⟩ := nodes_spec (cut := cut) hr
  obtain ⟨k1, _, _, k4, _, _⟩ := nodes_spec (cut := cut') hr
  have e1 : (pNodes l cut).map (·.1) = rPlaces l cut := by rw [h1, List.map_map]; simp [Function.comp_def]
  have e2 : (pNodes l cut').map (·.1) = rPlaces l cut' := by rw [k1, List.map_map]; simp [Function.comp_def]
  have he : Has l (rPlaces l cut) 0 := by
    obtain ⟨qs, hq⟩ := rRun_pre (l := l) (cut := cut) 201 0 (addP l [] 0)
    unfold rPlaces
    rw [hq]
    exact (addP_spec l [] 0).1.app qs
  have hs : ∀ p ∈ rPlaces l cut', p ∈ rPlaces l cut := rRun_sub h6 hc 201 0 _ (addP_sub he (by simp))
  rw [e1, e2]
  refine ⟨hs, ?_⟩
  have h5 := List.Nodup.length_le_of_subset k4 hs
  rw [← e1, ← e2, List.length_map, List.length_map] at h5
  exact h5
end Go.Proofs.YtapibckmdpdljaaDoor.M2

/- The law SkelCuts in M2. -/
namespace Go.Proofs.YtapibckmdpdljaaDoor.M2
open Go
attribute [local simp] ev1 M2.get put A.ev ld sub part elems bin arith un opt idx fillC cellsO splice over newOb sto fillR laidOwn appTo appRow touch touchN touchM touchE touchA plainU flatU plainAs allM rowAt stoRow accM_nil accM_cons accMM_nil accMM_cons frz_int frz_bool frz_str frz_slt frz_nils frz_nilI frz_nilF frz_own frzRow_row frzRow_frow Ob.blw blw_bool blw_int blw_str blw_nils blw_nilI blw_nilF blw_nilp blw_nilm blw_sl blw_own blw_bp blw_rp blw_mp blw_it params
attribute [local simp] frz_agg frz_tup frz_iface frzS_agg frzS_iface accMS_cons frzS_int frzS_bool frzS_str frzS_slt frzS_nils frzS_nilI beq_dec bne_dec
attribute [local irreducible] Typed

theorem allM_len {α β : Type} {f : α → Option β} : ∀ {xs : List α} {ys : List β}, allM f xs = some ys → ys.length = xs.length
  | [], ys, h => by simp only [M2.allM, Option.some.injEq] at h; subst h; rfl
  | x :: xs, ys, h => by
    simp only [M2.allM, Option.bind_eq_some_iff] at h
    obtain ⟨y, _, zs, hz, h⟩ := h
    cases h
    simp [allM_len hz]
/-- A pure function sees what it borrows. -/
theorem Cl.brw {f : Nat} {fn : F} {args bs : List U} {u : U} {st : List Ob} (hT : T f = some fn) (hp : fn.pure = true) (ha : allM (M2.brw frzD st) args = some bs) (ha2 : allM (M2.brw frzD st) bs = some bs) (h : Cl T f bs st u st) : Cl T f args st u st := by
  refine h.mono fun n hn => ?_
  unfold M2.call callF at hn ⊢
  rw [hT] at hn ⊢
  simp only [Option.bind_some] at hn ⊢
  rw [allM_len ha] at hn
  split at hn
  · rename_i hl
    rw [if_pos hl, if_pos hp, ha]
    rw [ha2] at hn
    exact hn
  · cases hn
def cl1S (A : List Ob) (w1 w2 : Way) (ns1 ns2 : List Node) (n x m : Nat) : S := ⟨[(8, .bp 1 0), (10, .bp 2 0), (12, i64 n), (13, .bool (decide (x ∈ (ns1.map (·.1)).take m))), (14, i64 m)], A ++ [.box (skelU w1 ns1), .box (skelU w2 ns2)]⟩
set_option maxHeartbeats 8000000 in
theorem cl1_loop (R0 : List (List U)) (w1 w2 : Way) (hw1 : w1.2.length = 24) (hw2 : w2.2.length = 24) (ns1 ns2 : List Node) (hl1 : ns1.length ≤ 200) (n x : Nat) (hn : n < ns2.length) (hl2 : ns2.length ≤ 200) (o : Option (List Way)) (hg : ns2[n]? = some (x, o)) :
    Wp T (.loop c_joinerylaw10_SkelCuts_L1) (cl1S [.row 4 1 false R0] w1 w2 ns1 ns2 n x 0) (fun _ => False) (fun _ => False) (fun b s' => b = 2 ∧ s' = ⟨[(8, .bp 1 0), (10, .bp 2 0), (12, i64 n), (13, .bool (decide (x ∈ ns1.map (·.1)))), (14, i64 (ns1.length : Nat)), (78, .bool false)], [.row 4 1 false R0, .box (skelU w1 ns1), .box (skelU w2 ns2)]⟩) := by
  have wl1 := wayU_len hw1
  have d1 := drop25 hw1
  have wl2 := wayU_len hw2
  have d2 := drop25 hw2
  have hn' : (n : Int) < ns2.length := by omega
  refine Wp.count ns1.length (fun m => cl1S [.row 4 1 false R0] w1 w2 ns1 ns2 n x m) (fun _ => True) (fun m hm _ => ?_) (fun _ => ?_) 0 (by omega) trivial
  · have hm' : (m : Int) < ns1.length := by omega
    have hgm : ns1[m]? = some ns1[m] := List.getElem?_eq_getElem hm
    have htk : (ns1.map (·.1)).take (m + 1) = (ns1.map (·.1)).take m ++ [ns1[m].1] := by
      rw [List.take_succ_eq_append_getElem (by simpa using hm)]
      simp
    generalize ns1[m] = y at *
    obtain ⟨b, o'⟩ := y
    simp only [cl1S, List.cons_append, List.nil_append]
    rw [htk]
    generalize (ns1.map (·.1)).take m = ps at *
    have hmem : decide (x ∈ ps ++ [b]) = (decide (x ∈ ps) || decide (b = x)) := by
      simp only [List.mem_append, List.mem_singleton, Bool.decide_or]
      congr 1
      exact decide_eq_decide.2 eq_comm
    have hbx : decide ((b : Int) = x) = decide (b = x) := decide_eq_decide.2 (by omega)
    rw [hmem]
    repeat (first | apply Wp.seq | apply Wp.skip | apply Wp.block | (apply Wp.op0; ((simp [M2.keep]) <;> rfl)) | (apply Wp.op; (apply Evt.all; intro; (simp [skelU, d1, wl1, hm']) <;> (try simp (disch := omega) only [wrap_id]) <;> first | exact ⟨rfl, rfl⟩ | exact rfl)) | (apply Wp.opN; (apply Evt.all; intro; (simp [skelU, d1, wl1, hm']) <;> (try simp (disch := omega) only [wrap_id]) <;> first | exact ⟨rfl, rfl⟩ | exact rfl)) | (apply Wp.opG; (exact rfl); (apply Evt.all; intro; (simp [skelU, d1, wl1, hm']) <;> (try simp (disch := omega) only [wrap_id]) <;> first | exact ⟨rfl, rfl⟩ | exact rfl)) | (apply Wp.opS; (exact rfl); decide) | (apply Wp.opS0; (exact rfl)))
    refine Wp.cond (by first | rfl | (simp; rfl)) (fun h1 => ?_) (fun h1 => ?_)
    · repeat (first | apply Wp.seq | apply Wp.skip | apply Wp.block | (apply Wp.op0; ((simp [M2.keep]) <;> rfl)) | (apply Wp.op; (apply Evt.all; intro; (simp []) <;> (try simp (disch := omega) only [wrap_id]) <;> first | exact ⟨rfl, rfl⟩ | exact rfl)) | (apply Wp.opN; (apply Evt.all; intro; (simp []) <;> (try simp (disch := omega) only [wrap_id]) <;> first | exact ⟨rfl, rfl⟩ | exact rfl)) | (apply Wp.opG; (exact rfl); (apply Evt.all; intro; (simp []) <;> (try simp (disch := omega) only [wrap_id]) <;> first | exact ⟨rfl, rfl⟩ | exact rfl)) | (apply Wp.opS; (exact rfl); decide) | (apply Wp.opS0; (exact rfl)))
      cases hd : decide (x ∈ ps) with
      | true =>
        refine Wp.draw (by (simp [c_joinerylaw10_SkelCuts_D0, I.need]) <;> rfl) (by (simp [skelU, d1, wl1, d2, wl2, hm', hn', hgm, hg, nodeU]) <;> rfl) (by (simp [skelU, d1, wl1, d2, wl2, hm', hn', hgm, hg, nodeU]) <;> rfl) (by (unfold c_joinerylaw10_SkelCuts_D0); (repeat (first | (apply Dr.op; ((simp [skelU, d1, wl1, d2, wl2, hm', hn', hgm, hg, nodeU]) <;> rfl); (apply Evt.all; intro; (simp [skelU, d1, wl1, d2, wl2, hm', hn', hgm, hg, nodeU]) <;> (try simp (disch := omega) only [wrap_id]) <;> first | exact ⟨rfl, rfl⟩ | exact rfl); ((simp [I.need]) <;> rfl)) | (apply Dr.opN; ((simp [skelU, d1, wl1, d2, wl2, hm', hn', hgm, hg, nodeU]) <;> rfl); (apply Evt.all; intro; (simp [skelU, d1, wl1, d2, wl2, hm', hn', hgm, hg, nodeU]) <;> (try simp (disch := omega) only [wrap_id]) <;> first | exact ⟨rfl, rfl⟩ | exact rfl); ((simp [I.need]) <;> rfl)) | (apply Dr.opG; (exact rfl); ((simp [skelU, d1, wl1, d2, wl2, hm', hn', hgm, hg, nodeU]) <;> rfl); (apply Evt.all; intro; (simp [skelU, d1, wl1, d2, wl2, hm', hn', hgm, hg, nodeU]) <;> (try simp (disch := omega) only [wrap_id]) <;> first | exact ⟨rfl, rfl⟩ | exact rfl); ((simp [I.need]) <;> rfl)) | (apply Dr.opS; (exact rfl); decide; ((simp [I.need]) <;> rfl)) | (apply Dr.opS0; (exact rfl); ((simp [I.need]) <;> rfl)))); exact Dr.nil) (by first | decide +kernel | exact rfl) (by (simp [M2.keep]) <;> rfl) ?_
        repeat (first | apply Wp.seq | apply Wp.skip | apply Wp.block | (apply Wp.op0; ((simp [M2.keep]) <;> rfl)) | (apply Wp.op; (apply Evt.all; intro; (simp [wrap_id]) <;> (try simp (disch := omega) only [wrap_id]) <;> first | exact ⟨rfl, rfl⟩ | exact rfl)) | (apply Wp.opN; (apply Evt.all; intro; (simp [wrap_id]) <;> (try simp (disch := omega) only [wrap_id]) <;> first | exact ⟨rfl, rfl⟩ | exact rfl)) | (apply Wp.opG; (exact rfl); (apply Evt.all; intro; (simp [wrap_id]) <;> (try simp (disch := omega) only [wrap_id]) <;> first | exact ⟨rfl, rfl⟩ | exact rfl)) | (apply Wp.opS; (exact rfl); decide) | (apply Wp.opS0; (exact rfl)))
        exact ⟨trimO_len rfl, trivial⟩
      | false =>
        refine Wp.draw (by (simp [c_joinerylaw10_SkelCuts_D0, I.need]) <;> rfl) (by (simp [skelU, d1, wl1, d2, wl2, hm', hn', hgm, hg, nodeU]) <;> rfl) (by (simp [skelU, d1, wl1, d2, wl2, hm', hn', hgm, hg, nodeU]) <;> rfl) (by (unfold c_joinerylaw10_SkelCuts_D0); (repeat (first | (apply Dr.op; ((simp [skelU, d1, wl1, d2, wl2, hm', hn', hgm, hg, nodeU]) <;> rfl); (apply Evt.all; intro; (simp [skelU, d1, wl1, d2, wl2, hm', hn', hgm, hg, nodeU]) <;> (try simp (disch := omega) only [wrap_id]) <;> first | exact ⟨rfl, rfl⟩ | exact rfl); ((simp [I.need]) <;> rfl)) | (apply Dr.opN; ((simp [skelU, d1, wl1, d2, wl2, hm', hn', hgm, hg, nodeU]) <;> rfl); (apply Evt.all; intro; (simp [skelU, d1, wl1, d2, wl2, hm', hn', hgm, hg, nodeU]) <;> (try simp (disch := omega) only [wrap_id]) <;> first | exact ⟨rfl, rfl⟩ | exact rfl); ((simp [I.need]) <;> rfl)) | (apply Dr.opG; (exact rfl); ((simp [skelU, d1, wl1, d2, wl2, hm', hn', hgm, hg, nodeU]) <;> rfl); (apply Evt.all; intro; (simp [skelU, d1, wl1, d2, wl2, hm', hn', hgm, hg, nodeU]) <;> (try simp (disch := omega) only [wrap_id]) <;> first | exact ⟨rfl, rfl⟩ | exact rfl); ((simp [I.need]) <;> rfl)) | (apply Dr.opS; (exact rfl); decide; ((simp [I.need]) <;> rfl)) | (apply Dr.opS0; (exact rfl); ((simp [I.need]) <;> rfl)))); exact Dr.nil) (by first | decide +kernel | exact rfl) (by (simp [M2.keep]) <;> rfl) ?_
        repeat (first | apply Wp.seq | apply Wp.skip | apply Wp.block | (apply Wp.op0; ((simp [M2.keep]) <;> rfl)) | (apply Wp.op; (apply Evt.all; intro; (simp [wrap_id]) <;> (try simp (disch := omega) only [wrap_id]) <;> first | exact ⟨rfl, rfl⟩ | exact rfl)) | (apply Wp.opN; (apply Evt.all; intro; (simp [wrap_id]) <;> (try simp (disch := omega) only [wrap_id]) <;> first | exact ⟨rfl, rfl⟩ | exact rfl)) | (apply Wp.opG; (exact rfl); (apply Evt.all; intro; (simp [wrap_id]) <;> (try simp (disch := omega) only [wrap_id]) <;> first | exact ⟨rfl, rfl⟩ | exact rfl)) | (apply Wp.opS; (exact rfl); decide) | (apply Wp.opS0; (exact rfl)))
        rw [hbx, Bool.false_or]
        exact ⟨trimO_len rfl, trivial⟩
    · cases h1
  · simp only [cl1S, List.cons_append, List.nil_append]
    repeat (first | apply Wp.seq | apply Wp.skip | apply Wp.block | (apply Wp.op0; ((simp [M2.keep]) <;> rfl)) | (apply Wp.op; (apply Evt.all; intro; (simp [skelU, d1, wl1]) <;> (try simp (disch := omega) only [wrap_id]) <;> first | exact ⟨rfl, rfl⟩ | exact rfl)) | (apply Wp.opN; (apply Evt.all; intro; (simp [skelU, d1, wl1]) <;> (try simp (disch := omega) only [wrap_id]) <;> first | exact ⟨rfl, rfl⟩ | exact rfl)) | (apply Wp.opG; (exact rfl); (apply Evt.all; intro; (simp [skelU, d1, wl1]) <;> (try simp (disch := omega) only [wrap_id]) <;> first | exact ⟨rfl, rfl⟩ | exact rfl)) | (apply Wp.opS; (exact rfl); decide) | (apply Wp.opS0; (exact rfl)))
    refine Wp.cond (by first | rfl | (simp; rfl)) (fun h1 => ?_) (fun h1 => ?_)
    · simp at h1
    · refine Wp.exit ⟨rfl, ?_⟩
      rw [List.take_of_length_le (by simp)]
      rfl
def cl2S (R0 : List (List U)) (w1 w2 : Way) (ns1 ns2 : List Node) (n : Nat) : S := ⟨[(8, .bp 1 0), (10, .bp 2 0), (12, i64 n)], [.row 4 1 false R0, .box (skelU w1 ns1), .box (skelU w2 ns2)]⟩
set_option maxHeartbeats 8000000 in
theorem cl2_loop (R0 : List (List U)) (w1 w2 : Way) (hw1 : w1.2.length = 24) (hw2 : w2.2.length = 24) (ns1 ns2 : List Node) (hl1 : ns1.length ≤ 200) (hl2 : ns2.length ≤ 200) (hs : ∀ p ∈ ns2.map (·.1), p ∈ ns1.map (·.1)) (R : S → Prop) :
    Wp T (.loop c_joinerylaw10_SkelCuts_L2) (cl2S R0 w1 w2 ns1 ns2 0) (fun _ => False) R (fun b s' => b = 0 ∧ s' = ⟨[(8, .bp 1 0), (10, .bp 2 0), (12, i64 (ns2.length : Nat)), (71, .bool false)], [.row 4 1 false R0, .box (skelU w1 ns1), .box (skelU w2 ns2)]⟩) := by
  have wl2 := wayU_len hw2
  have d2 := drop25 hw2
  refine Wp.count ns2.length (fun n => cl2S R0 w1 w2 ns1 ns2 n) (fun _ => True) (fun n hn _ => ?_) (fun _ => ?_) 0 (by omega) trivial
  · have hn' : (n : Int) < ns2.length := by omega
    have hg : ns2[n]? = some ns2[n] := List.getElem?_eq_getElem hn
    have hmem := hs ns2[n].1 (List.mem_map.2 ⟨_, List.getElem_mem hn, rfl⟩)
    generalize ns2[n] = y at *
    obtain ⟨x, o⟩ := y
    simp only at hmem
    have hlp := cl1_loop R0 w1 w2 hw1 hw2 ns1 ns2 hl1 n x hn hl2 o hg
    rw [decide_eq_true hmem] at hlp
    simp only [cl2S]
    repeat (first | apply Wp.seq | apply Wp.skip | apply Wp.block | (apply Wp.op0; ((simp [M2.keep]) <;> rfl)) | (apply Wp.op; (apply Evt.all; intro; (simp [skelU, d2, wl2, hn']) <;> (try simp (disch := omega) only [wrap_id]) <;> first | exact ⟨rfl, rfl⟩ | exact rfl)) | (apply Wp.opN; (apply Evt.all; intro; (simp [skelU, d2, wl2, hn']) <;> (try simp (disch := omega) only [wrap_id]) <;> first | exact ⟨rfl, rfl⟩ | exact rfl)) | (apply Wp.opG; (exact rfl); (apply Evt.all; intro; (simp [skelU, d2, wl2, hn']) <;> (try simp (disch := omega) only [wrap_id]) <;> first | exact ⟨rfl, rfl⟩ | exact rfl)) | (apply Wp.opS; (exact rfl); decide) | (apply Wp.opS0; (exact rfl)))
    refine Wp.cond (by first | rfl | (simp; rfl)) (fun h1 => ?_) (fun h1 => ?_)
    · repeat (first | apply Wp.seq | apply Wp.skip | apply Wp.block | (apply Wp.op0; ((simp [M2.keep]) <;> rfl)) | (apply Wp.op; (apply Evt.all; intro; (simp []) <;> (try simp (disch := omega) only [wrap_id]) <;> first | exact ⟨rfl, rfl⟩ | exact rfl)) | (apply Wp.opN; (apply Evt.all; intro; (simp []) <;> (try simp (disch := omega) only [wrap_id]) <;> first | exact ⟨rfl, rfl⟩ | exact rfl)) | (apply Wp.opG; (exact rfl); (apply Evt.all; intro; (simp []) <;> (try simp (disch := omega) only [wrap_id]) <;> first | exact ⟨rfl, rfl⟩ | exact rfl)) | (apply Wp.opS; (exact rfl); decide) | (apply Wp.opS0; (exact rfl)))
      refine (show Wp T (.loop c_joinerylaw10_SkelCuts_L1) (cl1S [.row 4 1 false R0] w1 w2 ns1 ns2 n x 0) _ _ _ from hlp.imp (fun _ h => h.elim) (fun _ h => h.elim) ?_)
      rintro b s ⟨rfl, rfl⟩
      rw [if_pos rfl]
      repeat (first | apply Wp.seq | apply Wp.skip | apply Wp.block | (apply Wp.op0; ((simp [M2.keep]) <;> rfl)) | (apply Wp.op; (apply Evt.all; intro; (simp []) <;> (try simp (disch := omega) only [wrap_id]) <;> first | exact ⟨rfl, rfl⟩ | exact rfl)) | (apply Wp.opN; (apply Evt.all; intro; (simp []) <;> (try simp (disch := omega) only [wrap_id]) <;> first | exact ⟨rfl, rfl⟩ | exact rfl)) | (apply Wp.opG; (exact rfl); (apply Evt.all; intro; (simp []) <;> (try simp (disch := omega) only [wrap_id]) <;> first | exact ⟨rfl, rfl⟩ | exact rfl)) | (apply Wp.opS; (exact rfl); decide) | (apply Wp.opS0; (exact rfl)))
      refine Wp.cond (by first | rfl | (simp; rfl)) (fun h2 => ?_) (fun h2 => ?_)
      · cases h2
      · repeat (first | apply Wp.seq | apply Wp.skip | apply Wp.block | (apply Wp.op0; ((simp [M2.keep]) <;> rfl)) | (apply Wp.op; (apply Evt.all; intro; (simp [wrap_id]) <;> (try simp (disch := omega) only [wrap_id]) <;> first | exact ⟨rfl, rfl⟩ | exact rfl)) | (apply Wp.opN; (apply Evt.all; intro; (simp [wrap_id]) <;> (try simp (disch := omega) only [wrap_id]) <;> first | exact ⟨rfl, rfl⟩ | exact rfl)) | (apply Wp.opG; (exact rfl); (apply Evt.all; intro; (simp [wrap_id]) <;> (try simp (disch := omega) only [wrap_id]) <;> first | exact ⟨rfl, rfl⟩ | exact rfl)) | (apply Wp.opS; (exact rfl); decide) | (apply Wp.opS0; (exact rfl)))
        exact ⟨trimO_len rfl, trivial⟩
    · cases h1
  · simp only [cl2S]
    repeat (first | apply Wp.seq | apply Wp.skip | apply Wp.block | (apply Wp.op0; ((simp [M2.keep]) <;> rfl)) | (apply Wp.op; (apply Evt.all; intro; (simp [skelU, d2, wl2]) <;> (try simp (disch := omega) only [wrap_id]) <;> first | exact ⟨rfl, rfl⟩ | exact rfl)) | (apply Wp.opN; (apply Evt.all; intro; (simp [skelU, d2, wl2]) <;> (try simp (disch := omega) only [wrap_id]) <;> first | exact ⟨rfl, rfl⟩ | exact rfl)) | (apply Wp.opG; (exact rfl); (apply Evt.all; intro; (simp [skelU, d2, wl2]) <;> (try simp (disch := omega) only [wrap_id]) <;> first | exact ⟨rfl, rfl⟩ | exact rfl)) | (apply Wp.opS; (exact rfl); decide) | (apply Wp.opS0; (exact rfl)))
    refine Wp.cond (by first | rfl | (simp; rfl)) (fun h1 => ?_) (fun h1 => ?_)
    · simp at h1
    · exact Wp.exit ⟨rfl, rfl⟩
abbrev boolR (bs : List Bool) : List (List U) := bs.map fun b => [.bool b]
theorem acc_bools (st : List Ob) : ∀ bs : List Bool, accM (accM (frz frzD)) st (boolR bs) = some (boolR bs, st)
  | [] => rfl
  | b :: bs => by
    have ih := acc_bools st bs
    simp only [List.map_cons]
    rw [accMM_cons]
    have h1 : accM (frz frzD) st [.bool b] = some ([.bool b], st) := rfl
    simp only [h1, ih, Option.bind_some]
theorem appZ_bools (cl : Nat → List U → List Ob → Option (U × List Ob)) (e : Env) (bs : List Bool) (m : Nat) (h0 : 0 < m) (hm : m ≤ 1000) (hb : bs.length ≤ 1000) (s x : A) (hs : s.ev e = .own 0 bs.length) (hx : x.ev e = .int .i64 m) (nid : Nat) :
    ev1 cl e [.row 4 1 false (boolR bs)] nid (.appendZ 4 1 1 false [.bool false] s x) = some (.own 0 (bs.length + m), [.row 4 1 false (boolR (bs ++ List.replicate m false))]) := by
  have hr : List.replicate m [U.bool false] = boolR (List.replicate m false) := by simp
  have hlim : (bs.length + (boolR (List.replicate m false)).length) * 1 ≤ 140737488355328 := by simp; omega
  have hln : (boolR bs).length = bs.length := by simp
  rw [ev1, hx]
  simp only
  rw [if_pos ⟨by omega, by omega, rfl⟩, hs]
  simp only [Int.toNat_natCast]
  rw [hr]
  unfold appTo
  simp only [List.getElem?_cons_zero]
  rw [acc_bools]
  simp only [Option.bind_some]
  unfold appRow
  simp only [List.getElem?_cons_zero]
  rw [if_pos ⟨hln, trivial, trivial, hlim⟩]
  simp only [Option.bind_some, List.length_map, List.length_replicate, List.set_cons_zero, List.map_append]
theorem app_bools (cl : Nat → List U → List Ob → Option (U × List Ob)) (e : Env) (bs : List Bool) (hb : bs.length ≤ 1000) (s x : A) (hs : s.ev e = .own 0 0) (hx : x.ev e = .sl false (boolR bs)) (nid : Nat) :
    ev1 cl e [.row 4 1 false []] nid (.append 4 1 1 false s x) = some (.own 0 bs.length, [.row 4 1 false (boolR bs)]) := by
  have hlim : (0 + (boolR bs).length) * 1 ≤ 140737488355328 := by simp; omega
  have hall : ((boolR bs).all fun y => y.length == 1) = true := by
    rw [List.all_eq_true]
    intro y hy
    obtain ⟨b, _, rfl⟩ := List.mem_map.1 hy
    rfl
  rw [ev1, hx]
  simp only [elems, Option.bind_some]
  rw [if_pos hall, hs]
  simp only
  unfold appTo
  simp only [List.getElem?_cons_zero]
  rw [acc_bools]
  simp only [Option.bind_some]
  unfold appRow
  simp only [List.getElem?_cons_zero]
  rw [if_pos ⟨rfl, trivial, trivial, hlim⟩]
  simp only [Option.bind_some, List.length_map, List.set_cons_zero, List.nil_append, Nat.zero_add]
theorem build_own (l : List Ins) (hr : rightF l = true) (c : List Bool) (N : Nat) (hN : c.length = N) (J : List Ob) : Cl T 24 [insL false l, .own 0 N] (.row 4 1 false (boolR c) :: J) (.tup [.agg (skelU (pEntry l) (pNodes l c)), i64 0]) (.row 4 1 false (boolR c) :: J) := by
  have hbo : M2.brw frzD (.row 4 1 false (boolR c) :: J) (.own 0 N) = some (boolU false c) := by
    show (if (boolR c).length = N then some (U.sl false (boolR c)) else none) = _
    rw [if_pos (by rw [List.length_map]; exact hN)]
    rfl
  refine Cl.brw (fn := c_skel_Build) (bs := [insL false l, boolU false c]) rfl rfl ?_ rfl (build_call false l hr false c _)
  simp only [M2.allM, hbo]
  rfl
set_option maxHeartbeats 8000000 in
theorem law10_call (l : List Ins) (cut : List Bool) (k : Nat) (hk : k < 256) : Cl T 10 [insL false l, boolU false cut, .int .u8 k] [] (.bool true) [] := by
  refine Wp.pure (fn := c_joinerylaw10_SkelCuts) rfl rfl rfl («as» := [insL false l, boolU false cut, .int .u8 k]) rfl ?_
  have kno := knows10_call
  by_cases h1 : 300 < l.length
  · have d1 : decide ((300 : Int) < l.length) = true := decide_eq_true (by omega)
    repeat' (first | apply Wp.seq | apply Wp.skip | apply Wp.block | (apply Wp.op0; ((simp [M2.keep]) <;> rfl)) | (apply Wp.pickT; (exact rfl); (first | exact rfl | assumption); ((simp) <;> exact rfl)) | (apply Wp.pickF; (exact rfl); (first | exact rfl | assumption); ((simp) <;> exact rfl)) | (apply Wp.op; (apply Evt.all; intro; (simp [insL]) <;> (try simp (disch := omega) only [wrap_id]) <;> first | exact ⟨rfl, rfl⟩ | exact rfl)) | (apply Wp.opN; (apply Evt.all; intro; (simp [insL]) <;> (try simp (disch := omega) only [wrap_id]) <;> first | exact ⟨rfl, rfl⟩ | exact rfl)) | (apply Wp.call; exact kno _) | (apply Wp.ung; (exact rfl); (first | exact rfl | assumption)) | (apply Wp.opSt; (exact rfl); (first | exact rfl | assumption)) | (apply Wp.opSf; (exact rfl); (first | exact rfl | assumption)) | (apply Wp.opS0; (exact rfl)) | (apply Wp.grdT; (exact rfl); (intro); rotate_left 1; (intro); rotate_right 1) | (apply Wp.grdF; (exact rfl); (intro); rotate_left 1; (intro); rotate_right 1) | (apply Wp.condT; (exact rfl); (first | exact rfl | assumption)) | (apply Wp.condF; (exact rfl); (first | exact rfl | assumption)) | (apply Wp.cond; (exact rfl); (intro); rotate_left 1; (intro); rotate_right 1))
    refine Wp.ret ?_
    simp [Res, resU, res1, c_joinerylaw10_SkelCuts]
  have d1 : decide ((300 : Int) < l.length) = false := decide_eq_false (by omega)
  by_cases h2 : 300 < cut.length
  · have d2 : decide ((300 : Int) < cut.length) = true := decide_eq_true (by omega)
    repeat' (first | apply Wp.seq | apply Wp.skip | apply Wp.block | (apply Wp.op0; ((simp [M2.keep]) <;> rfl)) | (apply Wp.pickT; (exact rfl); (first | exact rfl | assumption); ((simp) <;> exact rfl)) | (apply Wp.pickF; (exact rfl); (first | exact rfl | assumption); ((simp) <;> exact rfl)) | (apply Wp.op; (apply Evt.all; intro; (simp [insL, boolU]) <;> (try simp (disch := omega) only [wrap_id]) <;> first | exact ⟨rfl, rfl⟩ | exact rfl)) | (apply Wp.opN; (apply Evt.all; intro; (simp [insL, boolU]) <;> (try simp (disch := omega) only [wrap_id]) <;> first | exact ⟨rfl, rfl⟩ | exact rfl)) | (apply Wp.call; exact kno _) | (apply Wp.ung; (exact rfl); (first | exact rfl | assumption)) | (apply Wp.opSt; (exact rfl); (first | exact rfl | assumption)) | (apply Wp.opSf; (exact rfl); (first | exact rfl | assumption)) | (apply Wp.opS0; (exact rfl)) | (apply Wp.grdT; (exact rfl); (intro); rotate_left 1; (intro); rotate_right 1) | (apply Wp.grdF; (exact rfl); (intro); rotate_left 1; (intro); rotate_right 1) | (apply Wp.condT; (exact rfl); (first | exact rfl | assumption)) | (apply Wp.condF; (exact rfl); (first | exact rfl | assumption)) | (apply Wp.cond; (exact rfl); (intro); rotate_left 1; (intro); rotate_right 1))
    refine Wp.ret ?_
    simp [Res, resU, res1, c_joinerylaw10_SkelCuts]
  have d2 : decide ((300 : Int) < cut.length) = false := decide_eq_false (by omega)
  have hri := fun st => right4_call false l st (insL false l) rfl
  cases hr : rightF l with
  | false =>
    rw [hr] at hri
    repeat' (first | apply Wp.seq | apply Wp.skip | apply Wp.block | (apply Wp.op0; ((simp [M2.keep]) <;> rfl)) | (apply Wp.pickT; (exact rfl); (first | exact rfl | assumption); ((simp) <;> exact rfl)) | (apply Wp.pickF; (exact rfl); (first | exact rfl | assumption); ((simp) <;> exact rfl)) | (apply Wp.op; (apply Evt.all; intro; (simp [insL, boolU]) <;> (try simp (disch := omega) only [wrap_id]) <;> first | exact ⟨rfl, rfl⟩ | exact rfl)) | (apply Wp.opN; (apply Evt.all; intro; (simp [insL, boolU]) <;> (try simp (disch := omega) only [wrap_id]) <;> first | exact ⟨rfl, rfl⟩ | exact rfl)) | (apply Wp.call; exact hri _) | (apply Wp.call; exact kno _) | (apply Wp.ung; (exact rfl); (first | exact rfl | assumption)) | (apply Wp.opSt; (exact rfl); (first | exact rfl | assumption)) | (apply Wp.opSf; (exact rfl); (first | exact rfl | assumption)) | (apply Wp.opS0; (exact rfl)) | (apply Wp.grdT; (exact rfl); (intro); rotate_left 1; (intro); rotate_right 1) | (apply Wp.grdF; (exact rfl); (intro); rotate_left 1; (intro); rotate_right 1) | (apply Wp.condT; (exact rfl); (first | exact rfl | assumption)) | (apply Wp.condF; (exact rfl); (first | exact rfl | assumption)) | (apply Wp.cond; (exact rfl); (intro); rotate_left 1; (intro); rotate_right 1))
    refine Wp.ret ?_
    simp [Res, resU, res1, c_joinerylaw10_SkelCuts]
  | true =>
    rw [hr] at hri
    obtain ⟨r1, r2, _, _⟩ := right_facts hr
    repeat' (first | apply Wp.seq | apply Wp.skip | apply Wp.block | (apply Wp.op0; ((simp [M2.keep]) <;> rfl)) | (apply Wp.pickT; (exact rfl); (first | exact rfl | assumption); ((simp) <;> exact rfl)) | (apply Wp.pickF; (exact rfl); (first | exact rfl | assumption); ((simp) <;> exact rfl)) | (apply Wp.op; (apply Evt.all; intro; (simp [insL, boolU]) <;> (try simp (disch := omega) only [wrap_id]) <;> first | exact ⟨rfl, rfl⟩ | exact rfl)) | (apply Wp.opN; (apply Evt.all; intro; (simp [insL, boolU]) <;> (try simp (disch := omega) only [wrap_id]) <;> first | exact ⟨rfl, rfl⟩ | exact rfl)) | (apply Wp.call; exact hri _) | (apply Wp.ung; (exact rfl); (first | exact rfl | assumption)) | (apply Wp.opSt; (exact rfl); (first | exact rfl | assumption)) | (apply Wp.opSf; (exact rfl); (first | exact rfl | assumption)) | (apply Wp.opS0; (exact rfl)) | (apply Wp.grdT; (exact rfl); (intro); rotate_left 1; (intro); rotate_right 1) | (apply Wp.grdF; (exact rfl); (intro); rotate_left 1; (intro); rotate_right 1) | (apply Wp.condT; (exact rfl); (first | exact rfl | assumption)) | (apply Wp.condF; (exact rfl); (first | exact rfl | assumption)) | (apply Wp.cond; (exact rfl); (intro); rotate_left 1; (intro); rotate_right 1))
    refine Wp.op (Evt.all fun n => app_bools _ _ cut (by omega) _ _ rfl rfl _) ?_
    refine Wp.op (Evt.all fun n => appZ_bools _ _ cut 300 (by omega) (by omega) (by omega) _ _ rfl rfl _) ?_
    have hc0 : (cut ++ List.replicate 300 false).length = cut.length + 300 := by rw [List.length_append, List.length_replicate]
    generalize hN : cut.length + 300 = N at *
    generalize cut ++ List.replicate 300 false = c0 at *
    have hb0 := build_own l hr c0 N hc0
    obtain ⟨f1, f2, f3⟩ := skel_facts (cut := c0) hr
    have hx : k % l.length < l.length := Nat.mod_lt _ r2
    have htm : (k : Int).tmod (l.length : Int) = ((k % l.length : Nat) : Int) := (Int.ofNat_tmod k l.length).symm
    have hne : l ≠ [] := fun h => by rw [h] at r2; simp at r2
    generalize k % l.length = x at *
    have hb1 := build_own l hr (c0.set x true) N (by rw [List.length_set]; exact hc0)
    obtain ⟨g1, g2, g3⟩ := skel_facts (cut := c0.set x true) hr
    have hcut : ∀ i, cutF c0 i = true → cutF (c0.set x true) i = true := fun i hi => by
      unfold cutF at hi ⊢
      rw [List.getD_eq_getElem?_getD] at hi ⊢
      rw [List.getElem?_set]
      split
      · split
        · rfl
        · rename_i h3 h4; subst h3; rw [List.getElem?_eq_none (Nat.le_of_not_lt h4)] at hi; exact hi
      · exact hi
    obtain ⟨s1, s2⟩ := cuts_sub hr hcut
    have sl0 := skel_len f3 (pNodes l c0)
    have sl1 := skel_len f3 (pNodes l (c0.set x true))
    have wl := wayU_len f3
    have d25 := drop25 f3
    generalize hn1 : pNodes l c0 = ns1 at *
    generalize hn2 : pNodes l (c0.set x true) = ns2 at *
    generalize pEntry l = w at *
    have t26 : (skelU w ns1).take 26 = skelU w ns1 := by rw [List.take_of_length_le]; omega
    have t26' : (skelU w ns2).take 26 = skelU w ns2 := by rw [List.take_of_length_le]; omega
    have hxN : x < c0.length := by omega
    have hxN' : (x : Int) < N := by omega
    have hset : (boolR c0).set x [.bool true] = boolR (c0.set x true) := (List.map_set ..).symm
    have hlr : (boolR c0).length = N := by rw [List.length_map]; exact hc0
    have hgr : (boolR c0)[x]? = some [.bool c0[x]] := by simp [hxN]
    generalize boolR c0 = B0 at *
    generalize boolR (c0.set x true) = B1 at *
    have dle : decide (ns1.length < ns2.length) = false := decide_eq_false (by omega)
    repeat (first | apply Wp.seq | apply Wp.skip | apply Wp.block | (apply Wp.op0; ((simp [M2.keep]) <;> rfl)) | (apply Wp.op; (apply Evt.all; intro; (simp []) <;> (try simp (disch := omega) only [wrap_id]) <;> first | exact ⟨rfl, rfl⟩ | exact rfl)) | (apply Wp.opN; (apply Evt.all; intro; (simp []) <;> (try simp (disch := omega) only [wrap_id]) <;> first | exact ⟨rfl, rfl⟩ | exact rfl)) | (apply Wp.opG; (exact rfl); (apply Evt.all; intro; (simp []) <;> (try simp (disch := omega) only [wrap_id]) <;> first | exact ⟨rfl, rfl⟩ | exact rfl)) | (apply Wp.opS; (exact rfl); decide) | (apply Wp.opS0; (exact rfl)))
    apply Wp.call
    · exact hb0 _
    repeat (first | apply Wp.seq | apply Wp.skip | apply Wp.block | (apply Wp.op0; ((simp [M2.keep]) <;> rfl)) | (apply Wp.op; (apply Evt.all; intro; (simp [sl0, over_full]) <;> (try simp (disch := omega) only [wrap_id]) <;> first | exact ⟨rfl, rfl⟩ | exact rfl)) | (apply Wp.opN; (apply Evt.all; intro; (simp [sl0, over_full]) <;> (try simp (disch := omega) only [wrap_id]) <;> first | exact ⟨rfl, rfl⟩ | exact rfl)) | (apply Wp.opG; (exact rfl); (apply Evt.all; intro; (simp [sl0, over_full]) <;> (try simp (disch := omega) only [wrap_id]) <;> first | exact ⟨rfl, rfl⟩ | exact rfl)) | (apply Wp.opS; (exact rfl); decide) | (apply Wp.opS0; (exact rfl)))
    have hrem : M2.bin .rem (.int .i64 (k : Int)) (.int .i64 ((l.map insU).length : Nat)) = some (i64 x) := by
      rw [List.length_map]
      have h0 : ¬ ((l.length : Int) = 0) := by omega
      unfold M2.bin M2.arith
      simp only [if_true]
      rw [if_neg h0, htm]
    refine Wp.op (u := i64 x) (st1 := [.row 4 1 false B0, .box (skelU w ns1)]) (Evt.all fun n => ?_) ?_
    · show (M2.bin .rem (.int .i64 (k : Int)) (.int .i64 ((l.map insU).length : Nat))).bind (fun u => some (u, _)) = _
      rw [hrem]
      rfl
    repeat (first | apply Wp.seq | apply Wp.skip | apply Wp.block | (apply Wp.op0; ((simp [M2.keep]) <;> rfl)) | (apply Wp.op; (apply Evt.all; intro; (simp [hlr, hxN', hgr, hset]) <;> (try simp (disch := omega) only [wrap_id]) <;> first | exact ⟨rfl, rfl⟩ | exact rfl)) | (apply Wp.opN; (apply Evt.all; intro; (simp [hlr, hxN', hgr, hset]) <;> (try simp (disch := omega) only [wrap_id]) <;> first | exact ⟨rfl, rfl⟩ | exact rfl)) | (apply Wp.opG; (exact rfl); (apply Evt.all; intro; (simp [hlr, hxN', hgr, hset]) <;> (try simp (disch := omega) only [wrap_id]) <;> first | exact ⟨rfl, rfl⟩ | exact rfl)) | (apply Wp.opS; (exact rfl); decide) | (apply Wp.opS0; (exact rfl)))
    apply Wp.call
    · exact hb1 _
    repeat (first | apply Wp.seq | apply Wp.skip | apply Wp.block | (apply Wp.op0; ((simp [M2.keep]) <;> rfl)) | (apply Wp.op; (apply Evt.all; intro; (simp [sl1, over_full]) <;> (try simp (disch := omega) only [wrap_id]) <;> first | exact ⟨rfl, rfl⟩ | exact rfl)) | (apply Wp.opN; (apply Evt.all; intro; (simp [sl1, over_full]) <;> (try simp (disch := omega) only [wrap_id]) <;> first | exact ⟨rfl, rfl⟩ | exact rfl)) | (apply Wp.opG; (exact rfl); (apply Evt.all; intro; (simp [sl1, over_full]) <;> (try simp (disch := omega) only [wrap_id]) <;> first | exact ⟨rfl, rfl⟩ | exact rfl)) | (apply Wp.opS; (exact rfl); decide) | (apply Wp.opS0; (exact rfl)))
    have hlp := cl2_loop B1 w w f3 f3 ns1 ns2 f1 g1 s1
    repeat' (first | apply Wp.seq | apply Wp.skip | apply Wp.block | (apply Wp.op0; ((simp [M2.keep]) <;> rfl)) | (apply Wp.pickT; (exact rfl); (first | exact rfl | assumption); ((simp) <;> exact rfl)) | (apply Wp.pickF; (exact rfl); (first | exact rfl | assumption); ((simp) <;> exact rfl)) | (apply Wp.op; (apply Evt.all; intro; (simp [skelU, wl, d25]) <;> (try simp (disch := omega) only [wrap_id]) <;> first | exact ⟨rfl, rfl⟩ | exact rfl)) | (apply Wp.opN; (apply Evt.all; intro; (simp [skelU, wl, d25]) <;> (try simp (disch := omega) only [wrap_id]) <;> first | exact ⟨rfl, rfl⟩ | exact rfl)) | (apply Wp.ung; (exact rfl); (first | exact rfl | assumption)) | (apply Wp.opSt; (exact rfl); (first | exact rfl | assumption)) | (apply Wp.opSf; (exact rfl); (first | exact rfl | assumption)) | (apply Wp.opS0; (exact rfl)) | (apply Wp.grdT; (exact rfl); (intro); rotate_left 1; (intro); rotate_right 1) | (apply Wp.grdF; (exact rfl); (intro); rotate_left 1; (intro); rotate_right 1) | (apply Wp.condT; (exact rfl); (first | exact rfl | assumption)) | (apply Wp.condF; (exact rfl); (first | exact rfl | assumption)) | (apply Wp.cond; (exact rfl); (intro); rotate_left 1; (intro); rotate_right 1))
    refine (show Wp T (.loop c_joinerylaw10_SkelCuts_L2) (cl2S B1 w w ns1 ns2 0) _ _ _ from (hlp _).imp (fun _ h => h.elim) (fun _ h => h) ?_)
    rintro b s ⟨rfl, rfl⟩
    rw [if_pos rfl]
    repeat' (first | apply Wp.seq | apply Wp.skip | apply Wp.block | (apply Wp.op0; ((simp [M2.keep]) <;> rfl)) | (apply Wp.pickT; (exact rfl); (first | exact rfl | assumption); ((simp) <;> exact rfl)) | (apply Wp.pickF; (exact rfl); (first | exact rfl | assumption); ((simp) <;> exact rfl)) | (apply Wp.op; (apply Evt.all; intro; (simp []) <;> (try simp (disch := omega) only [wrap_id]) <;> first | exact ⟨rfl, rfl⟩ | exact rfl)) | (apply Wp.opN; (apply Evt.all; intro; (simp []) <;> (try simp (disch := omega) only [wrap_id]) <;> first | exact ⟨rfl, rfl⟩ | exact rfl)) | (apply Wp.call; exact kno _) | (apply Wp.ung; (exact rfl); (first | exact rfl | assumption)) | (apply Wp.opSt; (exact rfl); (first | exact rfl | assumption)) | (apply Wp.opSf; (exact rfl); (first | exact rfl | assumption)) | (apply Wp.opS0; (exact rfl)) | (apply Wp.grdT; (exact rfl); (intro); rotate_left 1; (intro); rotate_right 1) | (apply Wp.grdF; (exact rfl); (intro); rotate_left 1; (intro); rotate_right 1) | (apply Wp.condT; (exact rfl); (first | exact rfl | assumption)) | (apply Wp.condF; (exact rfl); (first | exact rfl | assumption)) | (apply Wp.cond; (exact rfl); (intro); rotate_left 1; (intro); rotate_right 1))
    refine Wp.ret ?_
    simp [Res, resU, res1, c_joinerylaw10_SkelCuts]
theorem typed_u8 {P : Program} {t : TypeId} (hu : P.underlying t = some (.int .u8)) {d : Nat} {us : List U} (h : Typed P (d + 1) t us) : ∃ k : Nat, us = [.int .u8 k] ∧ k < 256 := by
  unfold Typed at h
  simp only [hu] at h
  obtain ⟨n, e, hw⟩ := h
  simp [Lit.wf, IntKind.min, IntKind.max, IntKind.bits, IntKind.signed] at hw
  obtain ⟨k, rfl⟩ := Int.eq_ofNat_of_zero_le hw.1
  exact ⟨k, e, by omega⟩
theorem params10 : Tryd.f10.params.toList = [22, 46, 5] := by kernel_rfl
theorem law10 : Law 10 Tryd.f10.params.toList := by
  rw [params10]
  intro us hl hty
  match us, hl with
  | [u, v, y], _ =>
    obtain ⟨l, rfl, hlen, hx⟩ := typed_insn ⟨5, rfl⟩ (hty 0 22 u rfl rfl)
    obtain ⟨cut, rfl⟩ := typed_booln ⟨6, rfl⟩ (hty 1 46 v rfl rfl)
    obtain ⟨k, e, hk⟩ := typed_u8 (d := 7) Tryd.underlying5 (hty 2 5 y rfl rfl)
    injection e with e
    subst e
    exact law_of (law10_call l cut k hk)
end Go.Proofs.YtapibckmdpdljaaDoor.M2

/- SkelCuts: with more places cut there are no more nodes; and each of them was one. No condition. -/
namespace Go.Proofs.YtapibckmdpdljaaDoor.M2
open Go Go.ChangeShapes Go.WideShapes Go.ChangeAt Go.RowKit

theorem types10 : Tryd.f10.resultTypes = #[4] := by kernel_rfl
set_option maxRecDepth 100000 in
theorem skelCuts_row (law : Law 10 Tryd.f10.params.toList) : Rows.SkelCutsSaid :=
  OpenClaim.holds_of_wide 10 Tryd.f10 rfl rfl rfl rfl rfl rfl rfl ⟨rfl, rfl, rfl, rfl, rfl⟩ rfl rfl rfl rfl rfl (by kernel_rfl) Tryd.func10 (by kernel_rfl)
    (of_decide_eq_true (by kernel_rfl)) (by unfold Func.isWrapper; first | (rw [if_pos (by decide +kernel)]; kernel_rfl) | (rw [if_neg (by decide +kernel)]; exact ⟨rfl, rfl⟩))
    (fun os started H enc _ => lifted (s := Rows.skelCutsSpec) law os started enc (by kernel_rfl) Tryd.func10 rfl (by kernel_rfl) types10 bool4
      (fun ds h => by
        have h1 : ds.length = 3 := h
        match ds, h1 with
        | [d0, d1, d2], _ => rfl)
      (ChangeSpec.witness_shaped (enc := enc) (C := Tryd.checked) (os := os) (X := fun w _ => laidMetH Tryd.prog laid1 w) false (World.doorLaid Tryd.prog 400 os) #[.slice none 0 0, .slice none 0 0, .int .u8 0] 8 rfl (World.shaped_of_RefB (by kernel_rfl) (by kernel_rfl)) (by kernel_rfl) (by kernel_rfl) (by kernel_rfl) (door_met os _)))
theorem skelCuts_card (law : Law 10 Tryd.f10.params.toList) : Rows.SkelCutsCardSaid :=
  Claim7.holds_tied_plain_at .later [] [.data] true (true, "13d9c7b0cf76a0ce59a956f6bcabe4d883017d16fd43b76b602544cf0bc1a375") true
    (skelCuts_row law) (fun _ h => by cases h) (by kernel_rfl) (fun _ h => by cases h) skelCuts_row_tie rfl ⟨rfl, rfl⟩ (by kernel_rfl) rfl
    (fun f fn hf hfn => by
      obtain rfl : f = 10 := Option.some.inj ((show Tryd.prog.funcNamed "joinery/joinerylaw10.SkelCuts" = some 10 by kernel_rfl).symm.trans hf) |>.symm
      obtain rfl : fn = Tryd.f10 := (Option.some.inj (Tryd.func10.symm.trans hfn)).symm
      exact ⟨by kernel_rfl, fun j t ht => by
        rw [Tryd.params10] at ht
        have hm : t ∈ [22, 46, 5] := by simpa using Array.mem_of_getElem? ht
        have hall : ([22, 46, 5].all fun u => !Tryd.prog.wantsStandIn u) = true := by kernel_rfl
        exact (show Tryd.prog.wantsStandIn t = false by simpa using List.all_eq_true.1 hall t hm)⟩)
    (by kernel_rfl)
end Go.Proofs.YtapibckmdpdljaaDoor.M2
namespace Go.Proofs.YtapibckmdpdljaaDoor
theorem skelCuts_said : Rows.SkelCutsCardSaid := M2.skelCuts_card M2.law10
end Go.Proofs.YtapibckmdpdljaaDoor
