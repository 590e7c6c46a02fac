/- SkelPlaces: nodes are at unlike places, each of which does more than move, and has as many ways as its instruction has, or none, if it is cut. No condition. -/
import Derived.Test.YtapibckmdpdljaaDoorCj
import Derived.Test.YtapibckmdpdljaaDoorCh
import Derived.Test.YtapibckmdpdljaaDoorCk
set_option linter.unusedSimpArgs false
set_option linter.unusedVariables false
set_option linter.unusedSectionVars false
/- The law SkelBuilds in M2. -/
namespace Go.Proofs.YtapibckmdpdljaaDoor.M2
open Go
attribute [local simp] ev1 M2.get put A.ev ld sub part elems bin arith un opt idx fillC cellsO splice over newOb sto fillR laidOwn appTo appRow touch touchN touchM touchE touchA plainU flatU plainAs allM rowAt stoRow accM_nil accM_cons accMM_nil accMM_cons frz_int frz_bool frz_str frz_slt frz_nils frz_nilI frz_nilF frz_own frzRow_row frzRow_frow Ob.blw blw_bool blw_int blw_str blw_nils blw_nilI blw_nilF blw_nilp blw_nilm blw_sl blw_own blw_bp blw_rp blw_mp blw_it params
attribute [local simp] frz_agg frz_tup frz_iface frzS_agg frzS_iface accMS_cons frzS_int frzS_bool frzS_str frzS_slt frzS_nils frzS_nilI beq_dec bne_dec
attribute [local irreducible] Typed

theorem knows10_call (st : List Ob) : Cl T 23 [] st (.bool true) st := Cl.at (n := 100) (by kernel_rfl) rfl st
/-- The two skeletons are one. -/
theorem skel_same {l : List Ins} {cut : List Bool} (hr : rightF l = true) : (pNodes l cut).map rN = (rPlaces l cut).map (rNode l cut (rPlaces l cut)) := by
  obtain ⟨h1, _⟩ := nodes_spec (cut := cut) hr
  rw [h1, List.map_map]
  refine List.map_congr_left fun i _ => ?_
  simp only [Function.comp, rN, rNode, rOuts, fsC]
  split <;> rfl
theorem skel_facts {l : List Ins} {cut : List Bool} (hr : rightF l = true) : (pNodes l cut).length ≤ 200 ∧ (∀ x ∈ pNodes l cut, (x.2.getD []).length ≤ 2 ∧ ∀ o ∈ x.2.getD [], o.2.length = 24) ∧ (pEntry l).2.length = 24 := by
  obtain ⟨h1, h2, h3, h4, h5, h6⟩ := nodes_spec (cut := cut) hr
  have h200 := (right_facts hr).1
  refine ⟨by rw [h1, List.length_map]; omega, fun x hx => ?_, by rw [h2]; exact wq_t hr (right_facts hr).2.1 _⟩
  rw [h1] at hx
  obtain ⟨i, hi, rfl⟩ := List.mem_map.1 hx
  obtain ⟨k1, k2⟩ := h5 i hi
  simp only
  split
  · simp
  · simp only [Option.getD_some, List.length_map]
    refine ⟨fs_len l i, fun o ho => ?_⟩
    obtain ⟨a, ha, rfl⟩ := List.mem_map.1 ho
    exact wq_t hr ((fsAt_ok hr k1 k2).1 a ha) _
set_option maxHeartbeats 4000000 in
theorem law7_call (l : List Ins) (cut : List Bool) : Cl T 7 [insL false l, boolU false cut] [] (.bool true) [] := by
  refine Wp.pure (fn := c_joinerylaw10_SkelBuilds) rfl rfl rfl («as» := [insL false l, boolU false cut]) rfl ?_
  have kno := knows10_call
  by_cases h1 : 300 < l.length
  · have d1 : decide ((300 : Int) < l.length) = true := decide_eq_true (by omega)
    repeat' (first | apply Wp.seq | apply Wp.skip | apply Wp.block | (apply Wp.op0; ((simp [M2.keep]) <;> rfl)) | (apply Wp.pickT; (exact rfl); (first | exact rfl | assumption); ((simp) <;> exact rfl)) | (apply Wp.pickF; (exact rfl); (first | exact rfl | assumption); ((simp) <;> exact rfl)) | (apply Wp.op; (apply Evt.all; intro; (simp [insL]) <;> (try simp (disch := omega) only [wrap_id]) <;> first | exact ⟨rfl, rfl⟩ | exact rfl)) | (apply Wp.opN; (apply Evt.all; intro; (simp [insL]) <;> (try simp (disch := omega) only [wrap_id]) <;> first | exact ⟨rfl, rfl⟩ | exact rfl)) | (apply Wp.call; exact kno _) | (apply Wp.ung; (exact rfl); (first | exact rfl | assumption)) | (apply Wp.opSt; (exact rfl); (first | exact rfl | assumption)) | (apply Wp.opSf; (exact rfl); (first | exact rfl | assumption)) | (apply Wp.opS0; (exact rfl)) | (apply Wp.grdT; (exact rfl); (intro); rotate_left 1; (intro); rotate_right 1) | (apply Wp.grdF; (exact rfl); (intro); rotate_left 1; (intro); rotate_right 1) | (apply Wp.condT; (exact rfl); (first | exact rfl | assumption)) | (apply Wp.condF; (exact rfl); (first | exact rfl | assumption)) | (apply Wp.cond; (exact rfl); (intro); rotate_left 1; (intro); rotate_right 1))
    refine Wp.ret ?_
    simp [Res, resU, res1, c_joinerylaw10_SkelBuilds]
  have d1 : decide ((300 : Int) < l.length) = false := decide_eq_false (by omega)
  by_cases h2 : 300 < cut.length
  · have d2 : decide ((300 : Int) < cut.length) = true := decide_eq_true (by omega)
    repeat' (first | apply Wp.seq | apply Wp.skip | apply Wp.block | (apply Wp.op0; ((simp [M2.keep]) <;> rfl)) | (apply Wp.pickT; (exact rfl); (first | exact rfl | assumption); ((simp) <;> exact rfl)) | (apply Wp.pickF; (exact rfl); (first | exact rfl | assumption); ((simp) <;> exact rfl)) | (apply Wp.op; (apply Evt.all; intro; (simp [insL, boolU]) <;> (try simp (disch := omega) only [wrap_id]) <;> first | exact ⟨rfl, rfl⟩ | exact rfl)) | (apply Wp.opN; (apply Evt.all; intro; (simp [insL, boolU]) <;> (try simp (disch := omega) only [wrap_id]) <;> first | exact ⟨rfl, rfl⟩ | exact rfl)) | (apply Wp.call; exact kno _) | (apply Wp.ung; (exact rfl); (first | exact rfl | assumption)) | (apply Wp.opSt; (exact rfl); (first | exact rfl | assumption)) | (apply Wp.opSf; (exact rfl); (first | exact rfl | assumption)) | (apply Wp.opS0; (exact rfl)) | (apply Wp.grdT; (exact rfl); (intro); rotate_left 1; (intro); rotate_right 1) | (apply Wp.grdF; (exact rfl); (intro); rotate_left 1; (intro); rotate_right 1) | (apply Wp.condT; (exact rfl); (first | exact rfl | assumption)) | (apply Wp.condF; (exact rfl); (first | exact rfl | assumption)) | (apply Wp.cond; (exact rfl); (intro); rotate_left 1; (intro); rotate_right 1))
    refine Wp.ret ?_
    simp [Res, resU, res1, c_joinerylaw10_SkelBuilds]
  have d2 : decide ((300 : Int) < cut.length) = false := decide_eq_false (by omega)
  have hri := fun st => right4_call false l st (insL false l) rfl
  cases hr : rightF l with
  | false =>
    rw [hr] at hri
    have hb := build_bad false l hr false cut
    simp only [List.replicate] at hb
    repeat' (first | apply Wp.seq | apply Wp.skip | apply Wp.block | (apply Wp.op0; ((simp [M2.keep]) <;> rfl)) | (apply Wp.pickT; (exact rfl); (first | exact rfl | assumption); ((simp) <;> exact rfl)) | (apply Wp.pickF; (exact rfl); (first | exact rfl | assumption); ((simp) <;> exact rfl)) | (apply Wp.op; (apply Evt.all; intro; (simp [insL, boolU, over]) <;> (try simp (disch := omega) only [wrap_id]) <;> first | exact ⟨rfl, rfl⟩ | exact rfl)) | (apply Wp.opN; (apply Evt.all; intro; (simp [insL, boolU, over]) <;> (try simp (disch := omega) only [wrap_id]) <;> first | exact ⟨rfl, rfl⟩ | exact rfl)) | (apply Wp.call; exact hb _) | (apply Wp.call; exact hri _) | (apply Wp.call; exact kno _) | (apply Wp.ung; (exact rfl); (first | exact rfl | assumption)) | (apply Wp.opSt; (exact rfl); (first | exact rfl | assumption)) | (apply Wp.opSf; (exact rfl); (first | exact rfl | assumption)) | (apply Wp.opS0; (exact rfl)) | (apply Wp.grdT; (exact rfl); (intro); rotate_left 1; (intro); rotate_right 1) | (apply Wp.grdF; (exact rfl); (intro); rotate_left 1; (intro); rotate_right 1) | (apply Wp.condT; (exact rfl); (first | exact rfl | assumption)) | (apply Wp.condF; (exact rfl); (first | exact rfl | assumption)) | (apply Wp.cond; (exact rfl); (intro); rotate_left 1; (intro); rotate_right 1))
    refine Wp.ret ?_
    simp [Res, resU, res1, c_joinerylaw10_SkelBuilds]
  | true =>
    rw [hr] at hri
    have hb := build_call false l hr false cut
    obtain ⟨f1, f2, f3⟩ := skel_facts (cut := cut) hr
    have hsame := skel_same (cut := cut) hr
    have hrb := rbuild_call false l hr false cut
    have hent : pEntry l = outP l (rPlaces l cut) 0 := (nodes_spec (cut := cut) hr).2.1
    rw [← hent, ← hsame] at hrb
    have has := asskel_call (pEntry l) f3 (pNodes l cut) f1 f2
    have hsm := sameskel_call (pEntry l) f3 ((pNodes l cut).map rN) (by rw [List.length_map]; exact f1) (fun x hx => by
      obtain ⟨y, hy, rfl⟩ := List.mem_map.1 hx
      exact f2 y hy)
    have sl := skel_len f3 (pNodes l cut)
    generalize pNodes l cut = ns at *
    generalize pEntry l = w at *
    have t26 : (skelU w ns).take 26 = skelU w ns := by rw [List.take_of_length_le]; omega
    repeat' (first | apply Wp.seq | apply Wp.skip | apply Wp.block | (apply Wp.op0; ((simp [M2.keep]) <;> rfl)) | (apply Wp.pickT; (exact rfl); (first | exact rfl | assumption); ((simp) <;> exact rfl)) | (apply Wp.pickF; (exact rfl); (first | exact rfl | assumption); ((simp) <;> exact rfl)) | (apply Wp.op; (apply Evt.all; intro; (simp [insL, boolU, sl, t26, over_full]) <;> (try simp (disch := omega) only [wrap_id]) <;> first | exact ⟨rfl, rfl⟩ | exact rfl)) | (apply Wp.opN; (apply Evt.all; intro; (simp [insL, boolU, sl, t26, over_full]) <;> (try simp (disch := omega) only [wrap_id]) <;> first | exact ⟨rfl, rfl⟩ | exact rfl)) | (apply Wp.call; exact hb _) | (apply Wp.call; exact hri _) | (apply Wp.call; exact has _) | (apply Wp.call; exact hrb _) | (apply Wp.call; exact hsm _) | (apply Wp.call; exact kno _) | (apply Wp.ung; (exact rfl); (first | exact rfl | assumption)) | (apply Wp.opSt; (exact rfl); (first | exact rfl | assumption)) | (apply Wp.opSf; (exact rfl); (first | exact rfl | assumption)) | (apply Wp.opS0; (exact rfl)) | (apply Wp.grdT; (exact rfl); (intro); rotate_left 1; (intro); rotate_right 1) | (apply Wp.grdF; (exact rfl); (intro); rotate_left 1; (intro); rotate_right 1) | (apply Wp.condT; (exact rfl); (first | exact rfl | assumption)) | (apply Wp.condF; (exact rfl); (first | exact rfl | assumption)) | (apply Wp.cond; (exact rfl); (intro); rotate_left 1; (intro); rotate_right 1))
    refine Wp.ret ?_
    simp [Res, resU, res1, c_joinerylaw10_SkelBuilds]
theorem typed_bool {P : Program} {t : TypeId} (hu : P.underlying t = some .bool) {d : Nat} {us : List U} (h : Typed P (d + 1) t us) : ∃ b, us = [.bool b] := by
  unfold Typed at h
  simp only [hu] at h
  exact h
theorem typed_booln {n : Nat} (hn : ∃ d, n = d + 2) {u : U} (h : Typed Tryd.prog n 46 [u]) : ∃ l : List Bool, u = boolU false l := by
  obtain ⟨d, rfl⟩ := hn
  obtain ⟨l, e, _⟩ := typed_sl (Q := fun _ => True) (f := fun b => [.bool b]) Tryd.underlying46 (fun x hx => by
    obtain ⟨b, e⟩ := typed_bool Tryd.underlying4 hx
    exact ⟨b, e, trivial⟩) h
  exact ⟨l, e⟩
/-- The arguments of a function and places. -/
theorem args2b {us : List U} (hl : us.length = 2) (hty : ∀ (j : Nat) t u, [22, 46][j]? = some t → us[j]? = some u → Typed Tryd.prog 8 t [u]) : ∃ (l : List Ins) (cut : List Bool), us = [insL false l, boolU false cut] := by
  match us, hl with
  | [u, v], _ =>
    obtain ⟨l, rfl, hlen, hx⟩ := typed_insn ⟨5, rfl⟩ (hty 0 22 u rfl rfl)
    obtain ⟨cut, rfl⟩ := typed_booln ⟨6, rfl⟩ (hty 1 46 v rfl rfl)
    exact ⟨l, cut, rfl⟩
theorem params7 : Tryd.f7.params.toList = [22, 46] := by kernel_rfl
theorem law7 : Law 7 Tryd.f7.params.toList := by
  rw [params7]
  intro us hl hty
  obtain ⟨l, cut, rfl⟩ := args2b hl hty
  exact law_of (law7_call l cut)
end Go.Proofs.YtapibckmdpdljaaDoor.M2

/- The law SkelPlaces in M2. -/
namespace Go.Proofs.YtapibckmdpdljaaDoor.M2
open Go
attribute [local simp] ev1 M2.get put A.ev ld sub part elems bin arith un opt idx fillC cellsO splice over newOb sto fillR laidOwn appTo appRow touch touchN touchM touchE touchA plainU flatU plainAs allM rowAt stoRow accM_nil accM_cons accMM_nil accMM_cons frz_int frz_bool frz_str frz_slt frz_nils frz_nilI frz_nilF frz_own frzRow_row frzRow_frow Ob.blw blw_bool blw_int blw_str blw_nils blw_nilI blw_nilF blw_nilp blw_nilm blw_sl blw_own blw_bp blw_rp blw_mp blw_it params
attribute [local simp] frz_agg frz_tup frz_iface frzS_agg frzS_iface accMS_cons frzS_int frzS_bool frzS_str frzS_slt frzS_nils frzS_nilI beq_dec bne_dec
attribute [local irreducible] Typed

def sp0S (l : List Ins) (cutU : U) (w : Way) (ns : List Node) (n at_ m : Nat) : S := ⟨[(0, insL false l), (1, cutU), (5, .bp 0 0), (6, i64 0), (7, i64 n), (8, i64 at_), (9, i64 m)], [.box (skelU w ns)]⟩
set_option maxHeartbeats 8000000 in
theorem sp0_loop (l : List Ins) (cutU : U) (w : Way) (hw : w.2.length = 24) (ns : List Node) (hnd : (ns.map (·.1)).Nodup) (hns : ns.length ≤ 200) (n at_ : Nat) (hn : n < ns.length) (o : Option (List Way)) (hg : ns[n]? = some (at_, o)) (R : S → Prop) :
    Wp T (.loop c_joinerylaw10_SkelPlaces_L0) (sp0S l cutU w ns n at_ 0) (fun _ => False) R (fun b s' => b = 2 ∧ s' = ⟨[(0, insL false l), (1, cutU), (5, .bp 0 0), (6, i64 0), (7, i64 n), (8, i64 at_), (9, i64 n), (61, .bool false)], [.box (skelU w ns)]⟩) := by
  have wl := wayU_len hw
  have d25 := drop25 hw
  refine Wp.count n (fun m => sp0S l cutU w ns n at_ m) (fun _ => True) (fun m hm _ => ?_) (fun _ => ?_) 0 (by omega) trivial
  · have hm' : (m : Int) < n := by omega
    have hml : (m : Int) < ns.length := by omega
    have hgm : ns[m]? = some ns[m] := List.getElem?_eq_getElem (by omega)
    have hne : ns[m].1 ≠ at_ := by
      intro e
      have h1 : (ns.map (·.1))[m]? = some at_ := by rw [List.getElem?_map, hgm]; simp [e]
      have h2 : (ns.map (·.1))[n]? = some at_ := by rw [List.getElem?_map, hg]; rfl
      have := (List.getElem?_inj (by simp; omega) hnd).1 (h1.trans h2.symm)
      omega
    generalize ns[m] = x at *
    obtain ⟨b, o'⟩ := x
    simp only at hne
    have hne' : ¬ (b = at_) := hne
    simp only [sp0S]
    repeat (first | apply Wp.seq | apply Wp.skip | apply Wp.block | (apply Wp.op0; ((simp [M2.keep]) <;> rfl)) | (apply Wp.op; (apply Evt.all; intro; (simp [hm']) <;> (try simp (disch := omega) only [wrap_id]) <;> first | exact ⟨rfl, rfl⟩ | exact rfl)) | (apply Wp.opN; (apply Evt.all; intro; (simp [hm']) <;> (try simp (disch := omega) only [wrap_id]) <;> first | exact ⟨rfl, rfl⟩ | exact rfl)) | (apply Wp.opG; (exact rfl); (apply Evt.all; intro; (simp [hm']) <;> (try simp (disch := omega) only [wrap_id]) <;> first | exact ⟨rfl, rfl⟩ | exact rfl)) | (apply Wp.opS; (exact rfl); decide) | (apply Wp.opS0; (exact rfl)))
    refine Wp.cond (by first | rfl | (simp; rfl)) (fun h1 => ?_) (fun h1 => ?_)
    · repeat (first | apply Wp.seq | apply Wp.skip | apply Wp.block | (apply Wp.op0; ((simp [M2.keep]) <;> rfl)) | (apply Wp.op; (apply Evt.all; intro; (simp [skelU, d25, wl, hml, hgm, nodeU, hne']) <;> (try simp (disch := omega) only [wrap_id]) <;> first | exact ⟨rfl, rfl⟩ | exact rfl)) | (apply Wp.opN; (apply Evt.all; intro; (simp [skelU, d25, wl, hml, hgm, nodeU, hne']) <;> (try simp (disch := omega) only [wrap_id]) <;> first | exact ⟨rfl, rfl⟩ | exact rfl)) | (apply Wp.opG; (exact rfl); (apply Evt.all; intro; (simp [skelU, d25, wl, hml, hgm, nodeU, hne']) <;> (try simp (disch := omega) only [wrap_id]) <;> first | exact ⟨rfl, rfl⟩ | exact rfl)) | (apply Wp.opS; (exact rfl); decide) | (apply Wp.opS0; (exact rfl)))
      refine Wp.cond (by first | rfl | (simp; rfl)) (fun h2 => ?_) (fun h2 => ?_)
      · simp at h2; omega
      · repeat (first | apply Wp.seq | apply Wp.skip | apply Wp.block | (apply Wp.op0; ((simp [M2.keep]) <;> rfl)) | (apply Wp.op; (apply Evt.all; intro; (simp [wrap_id]) <;> (try simp (disch := omega) only [wrap_id]) <;> first | exact ⟨rfl, rfl⟩ | exact rfl)) | (apply Wp.opN; (apply Evt.all; intro; (simp [wrap_id]) <;> (try simp (disch := omega) only [wrap_id]) <;> first | exact ⟨rfl, rfl⟩ | exact rfl)) | (apply Wp.opG; (exact rfl); (apply Evt.all; intro; (simp [wrap_id]) <;> (try simp (disch := omega) only [wrap_id]) <;> first | exact ⟨rfl, rfl⟩ | exact rfl)) | (apply Wp.opS; (exact rfl); decide) | (apply Wp.opS0; (exact rfl)))
        exact ⟨trimO_len rfl, trivial⟩
    · cases h1
  · simp only [sp0S]
    repeat (first | apply Wp.seq | apply Wp.skip | apply Wp.block | (apply Wp.op0; ((simp [M2.keep]) <;> rfl)) | (apply Wp.op; (apply Evt.all; intro; (simp []) <;> (try simp (disch := omega) only [wrap_id]) <;> first | exact ⟨rfl, rfl⟩ | exact rfl)) | (apply Wp.opN; (apply Evt.all; intro; (simp []) <;> (try simp (disch := omega) only [wrap_id]) <;> first | exact ⟨rfl, rfl⟩ | exact rfl)) | (apply Wp.opG; (exact rfl); (apply Evt.all; intro; (simp []) <;> (try simp (disch := omega) only [wrap_id]) <;> first | exact ⟨rfl, rfl⟩ | exact rfl)) | (apply Wp.opS; (exact rfl); decide) | (apply Wp.opS0; (exact rfl)))
    refine Wp.cond (by first | rfl | (simp; rfl)) (fun h1 => ?_) (fun h1 => ?_)
    · simp at h1
    · exact Wp.exit ⟨rfl, rfl⟩
def sp1S (l : List Ins) (cutU : U) (w : Way) (ns : List Node) (n : Nat) : S := ⟨[(0, insL false l), (1, cutU), (5, .bp 0 0), (6, i64 0), (7, i64 n)], [.box (skelU w ns)]⟩
set_option maxHeartbeats 16000000 in
theorem sp1_loop (l : List Ins) (hl : l.length ≤ 200) (cut : List Bool) (w : Way) (hw : w.2.length = 24) (ns : List Node) (hnd : (ns.map (·.1)).Nodup) (hns : ns.length ≤ 200) (hat : ∀ x ∈ ns, x.1 < l.length ∧ movesF (l.getD x.1 default) = false ∧ (x.2.getD []).length = if (l.getD x.1 default).op = 18 ∨ cutF cut x.1 = true then 0 else if (l.getD x.1 default).op = 17 then 2 else 1) (R : S → Prop) :
    Wp T (.loop c_joinerylaw10_SkelPlaces_L1) (sp1S l (boolU false cut) w ns 0) (fun _ => False) R (fun b s' => b = 0 ∧ s' = ⟨[(0, insL false l), (1, boolU false cut), (5, .bp 0 0), (6, i64 0), (7, i64 (ns.length : Nat)), (35, .bool false)], [.box (skelU w ns)]⟩) := by
  have wl := wayU_len hw
  have d25 := drop25 hw
  refine Wp.count ns.length (fun n => sp1S l (boolU false cut) w ns n) (fun _ => True) (fun n hn _ => ?_) (fun _ => ?_) 0 (by omega) trivial
  · have hn' : (n : Int) < ns.length := by omega
    have hg : ns[n]? = some ns[n] := List.getElem?_eq_getElem hn
    obtain ⟨hat, hmv, hW⟩ := hat _ (List.getElem_mem hn)
    generalize ns[n] = x at *
    obtain ⟨at_, o⟩ := x
    simp only at hat hmv hW
    have hx : l.getD at_ default = l[at_] := by simp [hat]
    rw [hx] at hmv hW
    have hcm := moves3_call l[at_]
    rw [hmv] at hcm
    have hlp := sp0_loop l (boolU false cut) w hw ns hnd hns n at_ hn o hg R
    have dneg : decide ((at_ : Int) < 0) = false := decide_eq_false (by omega)
    have dge : decide (l.length ≤ at_) = false := decide_eq_false (by omega)
    simp only [sp1S]
    repeat (first | apply Wp.seq | apply Wp.skip | apply Wp.block | (apply Wp.op0; ((simp [M2.keep]) <;> rfl)) | (apply Wp.op; (apply Evt.all; intro; (simp [skelU, d25, wl, hn']) <;> (try simp (disch := omega) only [wrap_id]) <;> first | exact ⟨rfl, rfl⟩ | exact rfl)) | (apply Wp.opN; (apply Evt.all; intro; (simp [skelU, d25, wl, hn']) <;> (try simp (disch := omega) only [wrap_id]) <;> first | exact ⟨rfl, rfl⟩ | exact rfl)) | (apply Wp.opG; (exact rfl); (apply Evt.all; intro; (simp [skelU, d25, wl, hn']) <;> (try simp (disch := omega) only [wrap_id]) <;> first | exact ⟨rfl, rfl⟩ | exact rfl)) | (apply Wp.opS; (exact rfl); decide) | (apply Wp.opS0; (exact rfl)))
    refine Wp.cond (by first | rfl | (simp; rfl)) (fun h1 => ?_) (fun h1 => ?_)
    · repeat' (first | apply Wp.seq | apply Wp.skip | apply Wp.block | (apply Wp.op0; ((simp [M2.keep]) <;> rfl)) | (apply Wp.pickT; (exact rfl); (first | exact rfl | assumption); ((simp) <;> exact rfl)) | (apply Wp.pickF; (exact rfl); (first | exact rfl | assumption); ((simp) <;> exact rfl)) | (apply Wp.op; (apply Evt.all; intro; (simp [skelU, d25, wl, hn', hg, nodeU, insL, hat, insU_len, insU_take, over_full]) <;> (try simp (disch := omega) only [wrap_id]) <;> first | exact ⟨rfl, rfl⟩ | exact rfl)) | (apply Wp.opN; (apply Evt.all; intro; (simp [skelU, d25, wl, hn', hg, nodeU, insL, hat, insU_len, insU_take, over_full]) <;> (try simp (disch := omega) only [wrap_id]) <;> first | exact ⟨rfl, rfl⟩ | exact rfl)) | (apply Wp.call; exact hcm _) | (apply Wp.ung; (exact rfl); (first | exact rfl | assumption)) | (apply Wp.opSt; (exact rfl); (first | exact rfl | assumption)) | (apply Wp.opSf; (exact rfl); (first | exact rfl | assumption)) | (apply Wp.opS0; (exact rfl)) | (apply Wp.grdT; (exact rfl); (intro); rotate_left 1; (intro); rotate_right 1) | (apply Wp.grdF; (exact rfl); (intro); rotate_left 1; (intro); rotate_right 1) | (apply Wp.condT; (exact rfl); (first | exact rfl | assumption)) | (apply Wp.condF; (exact rfl); (first | exact rfl | assumption)) | (apply Wp.cond; (exact rfl); (intro); rotate_left 1; (intro); rotate_right 1))
      refine (show Wp T (.loop c_joinerylaw10_SkelPlaces_L0) (sp0S l (boolU false cut) w ns n at_ 0) _ _ _ from hlp.imp (fun _ h => h.elim) (fun _ h => h) ?_)
      rintro b s ⟨rfl, rfl⟩
      rw [if_pos rfl]
      by_cases h18 : l[at_].op = 18
      · have d18 : decide (l[at_].op = 18) = true := decide_eq_true h18
        have d17 : decide (l[at_].op = 17) = false := decide_eq_false (by omega)
        have hwant : (o.getD []).length = 0 := by rw [hW]; simp [h18]
        repeat' (first | apply Wp.seq | apply Wp.skip | apply Wp.block | (apply Wp.op0; ((simp [M2.keep]) <;> rfl)) | (apply Wp.pickT; (exact rfl); (first | exact rfl | assumption); ((simp) <;> exact rfl)) | (apply Wp.pickF; (exact rfl); (first | exact rfl | assumption); ((simp) <;> exact rfl)) | (apply Wp.op; (apply Evt.all; intro; (simp [skelU, d25, wl, hn', hg, nodeU, outsU, List.length_map, insL, insU, hat, hwant]) <;> (try simp (disch := omega) only [wrap_id]) <;> first | exact ⟨rfl, rfl⟩ | exact rfl)) | (apply Wp.opN; (apply Evt.all; intro; (simp [skelU, d25, wl, hn', hg, nodeU, outsU, List.length_map, insL, insU, hat, hwant]) <;> (try simp (disch := omega) only [wrap_id]) <;> first | exact ⟨rfl, rfl⟩ | exact rfl)) | (apply Wp.ung; (exact rfl); (first | exact rfl | assumption)) | (apply Wp.opSt; (exact rfl); (first | exact rfl | assumption)) | (apply Wp.opSf; (exact rfl); (first | exact rfl | assumption)) | (apply Wp.opS0; (exact rfl)) | (apply Wp.grdT; (exact rfl); (intro); rotate_left 1; (intro); rotate_right 1) | (apply Wp.grdF; (exact rfl); (intro); rotate_left 1; (intro); rotate_right 1) | (apply Wp.condT; (exact rfl); (first | exact rfl | assumption)) | (apply Wp.condF; (exact rfl); (first | exact rfl | assumption)) | (apply Wp.cond; (exact rfl); (intro); rotate_left 1; (intro); rotate_right 1))
        refine ⟨trimO_len rfl, trivial⟩
      have d18 : decide (l[at_].op = 18) = false := decide_eq_false h18
      by_cases hc : at_ < cut.length
      · have hcl : (at_ : Int) < cut.length := by omega
        have dc : decide (at_ < cut.length) = true := decide_eq_true hc
        have hcg0 : cutF cut at_ = cut[at_] := by simp [cutF, hc]
        cases hb : cut[at_] with
        | true =>
          have hcg : cutF cut at_ = true := by rw [hcg0, hb]
          have eb : cut[at_]? = some true := by rw [List.getElem?_eq_getElem hc, hb]
          by_cases h17 : l[at_].op = 17
          · have d17 : decide (l[at_].op = 17) = true := decide_eq_true h17
            have hwant : (o.getD []).length = 0 := by rw [hW]; simp [h17, h18, hcg]
            repeat' (first | apply Wp.seq | apply Wp.skip | apply Wp.block | (apply Wp.op0; ((simp [M2.keep]) <;> rfl)) | (apply Wp.pickT; (exact rfl); (first | exact rfl | assumption); ((simp) <;> exact rfl)) | (apply Wp.pickF; (exact rfl); (first | exact rfl | assumption); ((simp) <;> exact rfl)) | (apply Wp.op; (apply Evt.all; intro; (simp [skelU, d25, wl, hn', hg, nodeU, outsU, List.length_map, insL, insU, hat, boolU, hwant, hcl, eb]) <;> (try simp (disch := omega) only [wrap_id]) <;> first | exact ⟨rfl, rfl⟩ | exact rfl)) | (apply Wp.opN; (apply Evt.all; intro; (simp [skelU, d25, wl, hn', hg, nodeU, outsU, List.length_map, insL, insU, hat, boolU, hwant, hcl, eb]) <;> (try simp (disch := omega) only [wrap_id]) <;> first | exact ⟨rfl, rfl⟩ | exact rfl)) | (apply Wp.ung; (exact rfl); (first | exact rfl | assumption)) | (apply Wp.opSt; (exact rfl); (first | exact rfl | assumption)) | (apply Wp.opSf; (exact rfl); (first | exact rfl | assumption)) | (apply Wp.opS0; (exact rfl)) | (apply Wp.grdT; (exact rfl); (intro); rotate_left 1; (intro); rotate_right 1) | (apply Wp.grdF; (exact rfl); (intro); rotate_left 1; (intro); rotate_right 1) | (apply Wp.condT; (exact rfl); (first | exact rfl | assumption)) | (apply Wp.condF; (exact rfl); (first | exact rfl | assumption)) | (apply Wp.cond; (exact rfl); (intro); rotate_left 1; (intro); rotate_right 1))
            refine ⟨trimO_len rfl, trivial⟩
          · have d17 : decide (l[at_].op = 17) = false := decide_eq_false h17
            have hwant : (o.getD []).length = 0 := by rw [hW]; simp [h17, h18, hcg]
            repeat' (first | apply Wp.seq | apply Wp.skip | apply Wp.block | (apply Wp.op0; ((simp [M2.keep]) <;> rfl)) | (apply Wp.pickT; (exact rfl); (first | exact rfl | assumption); ((simp) <;> exact rfl)) | (apply Wp.pickF; (exact rfl); (first | exact rfl | assumption); ((simp) <;> exact rfl)) | (apply Wp.op; (apply Evt.all; intro; (simp [skelU, d25, wl, hn', hg, nodeU, outsU, List.length_map, insL, insU, hat, boolU, hwant, hcl, eb]) <;> (try simp (disch := omega) only [wrap_id]) <;> first | exact ⟨rfl, rfl⟩ | exact rfl)) | (apply Wp.opN; (apply Evt.all; intro; (simp [skelU, d25, wl, hn', hg, nodeU, outsU, List.length_map, insL, insU, hat, boolU, hwant, hcl, eb]) <;> (try simp (disch := omega) only [wrap_id]) <;> first | exact ⟨rfl, rfl⟩ | exact rfl)) | (apply Wp.ung; (exact rfl); (first | exact rfl | assumption)) | (apply Wp.opSt; (exact rfl); (first | exact rfl | assumption)) | (apply Wp.opSf; (exact rfl); (first | exact rfl | assumption)) | (apply Wp.opS0; (exact rfl)) | (apply Wp.grdT; (exact rfl); (intro); rotate_left 1; (intro); rotate_right 1) | (apply Wp.grdF; (exact rfl); (intro); rotate_left 1; (intro); rotate_right 1) | (apply Wp.condT; (exact rfl); (first | exact rfl | assumption)) | (apply Wp.condF; (exact rfl); (first | exact rfl | assumption)) | (apply Wp.cond; (exact rfl); (intro); rotate_left 1; (intro); rotate_right 1))
            refine ⟨trimO_len rfl, trivial⟩
        | false =>
          have hcg : cutF cut at_ = false := by rw [hcg0, hb]
          have eb : cut[at_]? = some false := by rw [List.getElem?_eq_getElem hc, hb]
          by_cases h17 : l[at_].op = 17
          · have d17 : decide (l[at_].op = 17) = true := decide_eq_true h17
            have hwant : (o.getD []).length = 2 := by rw [hW]; simp [h17, h18, hcg]
            repeat' (first | apply Wp.seq | apply Wp.skip | apply Wp.block | (apply Wp.op0; ((simp [M2.keep]) <;> rfl)) | (apply Wp.pickT; (exact rfl); (first | exact rfl | assumption); ((simp) <;> exact rfl)) | (apply Wp.pickF; (exact rfl); (first | exact rfl | assumption); ((simp) <;> exact rfl)) | (apply Wp.op; (apply Evt.all; intro; (simp [skelU, d25, wl, hn', hg, nodeU, outsU, List.length_map, insL, insU, hat, boolU, hwant, hcl, eb]) <;> (try simp (disch := omega) only [wrap_id]) <;> first | exact ⟨rfl, rfl⟩ | exact rfl)) | (apply Wp.opN; (apply Evt.all; intro; (simp [skelU, d25, wl, hn', hg, nodeU, outsU, List.length_map, insL, insU, hat, boolU, hwant, hcl, eb]) <;> (try simp (disch := omega) only [wrap_id]) <;> first | exact ⟨rfl, rfl⟩ | exact rfl)) | (apply Wp.ung; (exact rfl); (first | exact rfl | assumption)) | (apply Wp.opSt; (exact rfl); (first | exact rfl | assumption)) | (apply Wp.opSf; (exact rfl); (first | exact rfl | assumption)) | (apply Wp.opS0; (exact rfl)) | (apply Wp.grdT; (exact rfl); (intro); rotate_left 1; (intro); rotate_right 1) | (apply Wp.grdF; (exact rfl); (intro); rotate_left 1; (intro); rotate_right 1) | (apply Wp.condT; (exact rfl); (first | exact rfl | assumption)) | (apply Wp.condF; (exact rfl); (first | exact rfl | assumption)) | (apply Wp.cond; (exact rfl); (intro); rotate_left 1; (intro); rotate_right 1))
            refine ⟨trimO_len rfl, trivial⟩
          · have d17 : decide (l[at_].op = 17) = false := decide_eq_false h17
            have hwant : (o.getD []).length = 1 := by rw [hW]; simp [h17, h18, hcg]
            repeat' (first | apply Wp.seq | apply Wp.skip | apply Wp.block | (apply Wp.op0; ((simp [M2.keep]) <;> rfl)) | (apply Wp.pickT; (exact rfl); (first | exact rfl | assumption); ((simp) <;> exact rfl)) | (apply Wp.pickF; (exact rfl); (first | exact rfl | assumption); ((simp) <;> exact rfl)) | (apply Wp.op; (apply Evt.all; intro; (simp [skelU, d25, wl, hn', hg, nodeU, outsU, List.length_map, insL, insU, hat, boolU, hwant, hcl, eb]) <;> (try simp (disch := omega) only [wrap_id]) <;> first | exact ⟨rfl, rfl⟩ | exact rfl)) | (apply Wp.opN; (apply Evt.all; intro; (simp [skelU, d25, wl, hn', hg, nodeU, outsU, List.length_map, insL, insU, hat, boolU, hwant, hcl, eb]) <;> (try simp (disch := omega) only [wrap_id]) <;> first | exact ⟨rfl, rfl⟩ | exact rfl)) | (apply Wp.ung; (exact rfl); (first | exact rfl | assumption)) | (apply Wp.opSt; (exact rfl); (first | exact rfl | assumption)) | (apply Wp.opSf; (exact rfl); (first | exact rfl | assumption)) | (apply Wp.opS0; (exact rfl)) | (apply Wp.grdT; (exact rfl); (intro); rotate_left 1; (intro); rotate_right 1) | (apply Wp.grdF; (exact rfl); (intro); rotate_left 1; (intro); rotate_right 1) | (apply Wp.condT; (exact rfl); (first | exact rfl | assumption)) | (apply Wp.condF; (exact rfl); (first | exact rfl | assumption)) | (apply Wp.cond; (exact rfl); (intro); rotate_left 1; (intro); rotate_right 1))
            refine ⟨trimO_len rfl, trivial⟩
      · have dc : decide (at_ < cut.length) = false := decide_eq_false hc
        have hcg : cutF cut at_ = false := by simp [cutF, List.getElem?_eq_none (Nat.le_of_not_lt hc)]
        by_cases h17 : l[at_].op = 17
        · have d17 : decide (l[at_].op = 17) = true := decide_eq_true h17
          have hwant : (o.getD []).length = 2 := by rw [hW]; simp [h17, h18, hcg]
          repeat' (first | apply Wp.seq | apply Wp.skip | apply Wp.block | (apply Wp.op0; ((simp [M2.keep]) <;> rfl)) | (apply Wp.pickT; (exact rfl); (first | exact rfl | assumption); ((simp) <;> exact rfl)) | (apply Wp.pickF; (exact rfl); (first | exact rfl | assumption); ((simp) <;> exact rfl)) | (apply Wp.op; (apply Evt.all; intro; (simp [skelU, d25, wl, hn', hg, nodeU, outsU, List.length_map, insL, insU, hat, boolU, hwant]) <;> (try simp (disch := omega) only [wrap_id]) <;> first | exact ⟨rfl, rfl⟩ | exact rfl)) | (apply Wp.opN; (apply Evt.all; intro; (simp [skelU, d25, wl, hn', hg, nodeU, outsU, List.length_map, insL, insU, hat, boolU, hwant]) <;> (try simp (disch := omega) only [wrap_id]) <;> first | exact ⟨rfl, rfl⟩ | exact rfl)) | (apply Wp.ung; (exact rfl); (first | exact rfl | assumption)) | (apply Wp.opSt; (exact rfl); (first | exact rfl | assumption)) | (apply Wp.opSf; (exact rfl); (first | exact rfl | assumption)) | (apply Wp.opS0; (exact rfl)) | (apply Wp.grdT; (exact rfl); (intro); rotate_left 1; (intro); rotate_right 1) | (apply Wp.grdF; (exact rfl); (intro); rotate_left 1; (intro); rotate_right 1) | (apply Wp.condT; (exact rfl); (first | exact rfl | assumption)) | (apply Wp.condF; (exact rfl); (first | exact rfl | assumption)) | (apply Wp.cond; (exact rfl); (intro); rotate_left 1; (intro); rotate_right 1))
          refine ⟨trimO_len rfl, trivial⟩
        · have d17 : decide (l[at_].op = 17) = false := decide_eq_false h17
          have hwant : (o.getD []).length = 1 := by rw [hW]; simp [h17, h18, hcg]
          repeat' (first | apply Wp.seq | apply Wp.skip | apply Wp.block | (apply Wp.op0; ((simp [M2.keep]) <;> rfl)) | (apply Wp.pickT; (exact rfl); (first | exact rfl | assumption); ((simp) <;> exact rfl)) | (apply Wp.pickF; (exact rfl); (first | exact rfl | assumption); ((simp) <;> exact rfl)) | (apply Wp.op; (apply Evt.all; intro; (simp [skelU, d25, wl, hn', hg, nodeU, outsU, List.length_map, insL, insU, hat, boolU, hwant]) <;> (try simp (disch := omega) only [wrap_id]) <;> first | exact ⟨rfl, rfl⟩ | exact rfl)) | (apply Wp.opN; (apply Evt.all; intro; (simp [skelU, d25, wl, hn', hg, nodeU, outsU, List.length_map, insL, insU, hat, boolU, hwant]) <;> (try simp (disch := omega) only [wrap_id]) <;> first | exact ⟨rfl, rfl⟩ | exact rfl)) | (apply Wp.ung; (exact rfl); (first | exact rfl | assumption)) | (apply Wp.opSt; (exact rfl); (first | exact rfl | assumption)) | (apply Wp.opSf; (exact rfl); (first | exact rfl | assumption)) | (apply Wp.opS0; (exact rfl)) | (apply Wp.grdT; (exact rfl); (intro); rotate_left 1; (intro); rotate_right 1) | (apply Wp.grdF; (exact rfl); (intro); rotate_left 1; (intro); rotate_right 1) | (apply Wp.condT; (exact rfl); (first | exact rfl | assumption)) | (apply Wp.condF; (exact rfl); (first | exact rfl | assumption)) | (apply Wp.cond; (exact rfl); (intro); rotate_left 1; (intro); rotate_right 1))
          refine ⟨trimO_len rfl, trivial⟩
    · cases h1
  · simp only [sp1S]
    repeat (first | apply Wp.seq | apply Wp.skip | apply Wp.block | (apply Wp.op0; ((simp [M2.keep]) <;> rfl)) | (apply Wp.op; (apply Evt.all; intro; (simp [skelU, d25, wl]) <;> (try simp (disch := omega) only [wrap_id]) <;> first | exact ⟨rfl, rfl⟩ | exact rfl)) | (apply Wp.opN; (apply Evt.all; intro; (simp [skelU, d25, wl]) <;> (try simp (disch := omega) only [wrap_id]) <;> first | exact ⟨rfl, rfl⟩ | exact rfl)) | (apply Wp.opG; (exact rfl); (apply Evt.all; intro; (simp [skelU, d25, wl]) <;> (try simp (disch := omega) only [wrap_id]) <;> first | exact ⟨rfl, rfl⟩ | exact rfl)) | (apply Wp.opS; (exact rfl); decide) | (apply Wp.opS0; (exact rfl)))
    refine Wp.cond (by first | rfl | (simp; rfl)) (fun h1 => ?_) (fun h1 => ?_)
    · simp at h1
    · exact Wp.exit ⟨rfl, rfl⟩
theorem places_facts {l : List Ins} {cut : List Bool} (hr : rightF l = true) : ((pNodes l cut).map (·.1)).Nodup ∧ ∀ x ∈ pNodes l cut, x.1 < l.length ∧ movesF (l.getD x.1 default) = false ∧ (x.2.getD []).length = if (l.getD x.1 default).op = 18 ∨ cutF cut x.1 = true then 0 else if (l.getD x.1 default).op = 17 then 2 else 1 := by
  obtain ⟨h1, h2, h3, h4, h5, h6⟩ := nodes_spec (cut := cut) hr
  rw [h1]
  refine ⟨by rw [List.map_map]; simpa [Function.comp_def] using h4, fun x hx => ?_⟩
  obtain ⟨i, hi, rfl⟩ := List.mem_map.1 hx
  obtain ⟨k1, k2⟩ := h5 i hi
  refine ⟨k1, k2, ?_⟩
  simp only
  cases hc : cutF cut i with
  | true => simp
  | false =>
    simp only [Bool.false_eq_true, if_false, Option.getD_some, List.length_map, or_false]
    unfold fsAt fsN
    split
    · rfl
    · split <;> rfl
set_option maxHeartbeats 4000000 in
theorem law9_call (l : List Ins) (cut : List Bool) : Cl T 9 [insL false l, boolU false cut] [] (.bool true) [] := by
  refine Wp.pure (fn := c_joinerylaw10_SkelPlaces) rfl rfl rfl («as» := [insL false l, boolU false cut]) rfl ?_
  have kno := knows10_call
  by_cases h1 : 300 < l.length
  · have d1 : decide ((300 : Int) < l.length) = true := decide_eq_true (by omega)
    repeat' (first | apply Wp.seq | apply Wp.skip | apply Wp.block | (apply Wp.op0; ((simp [M2.keep]) <;> rfl)) | (apply Wp.pickT; (exact rfl); (first | exact rfl | assumption); ((simp) <;> exact rfl)) | (apply Wp.pickF; (exact rfl); (first | exact rfl | assumption); ((simp) <;> exact rfl)) | (apply Wp.op; (apply Evt.all; intro; (simp [insL]) <;> (try simp (disch := omega) only [wrap_id]) <;> first | exact ⟨rfl, rfl⟩ | exact rfl)) | (apply Wp.opN; (apply Evt.all; intro; (simp [insL]) <;> (try simp (disch := omega) only [wrap_id]) <;> first | exact ⟨rfl, rfl⟩ | exact rfl)) | (apply Wp.call; exact kno _) | (apply Wp.ung; (exact rfl); (first | exact rfl | assumption)) | (apply Wp.opSt; (exact rfl); (first | exact rfl | assumption)) | (apply Wp.opSf; (exact rfl); (first | exact rfl | assumption)) | (apply Wp.opS0; (exact rfl)) | (apply Wp.grdT; (exact rfl); (intro); rotate_left 1; (intro); rotate_right 1) | (apply Wp.grdF; (exact rfl); (intro); rotate_left 1; (intro); rotate_right 1) | (apply Wp.condT; (exact rfl); (first | exact rfl | assumption)) | (apply Wp.condF; (exact rfl); (first | exact rfl | assumption)) | (apply Wp.cond; (exact rfl); (intro); rotate_left 1; (intro); rotate_right 1))
    refine Wp.ret ?_
    simp [Res, resU, res1, c_joinerylaw10_SkelPlaces]
  have d1 : decide ((300 : Int) < l.length) = false := decide_eq_false (by omega)
  by_cases h2 : 300 < cut.length
  · have d2 : decide ((300 : Int) < cut.length) = true := decide_eq_true (by omega)
    repeat' (first | apply Wp.seq | apply Wp.skip | apply Wp.block | (apply Wp.op0; ((simp [M2.keep]) <;> rfl)) | (apply Wp.pickT; (exact rfl); (first | exact rfl | assumption); ((simp) <;> exact rfl)) | (apply Wp.pickF; (exact rfl); (first | exact rfl | assumption); ((simp) <;> exact rfl)) | (apply Wp.op; (apply Evt.all; intro; (simp [insL, boolU]) <;> (try simp (disch := omega) only [wrap_id]) <;> first | exact ⟨rfl, rfl⟩ | exact rfl)) | (apply Wp.opN; (apply Evt.all; intro; (simp [insL, boolU]) <;> (try simp (disch := omega) only [wrap_id]) <;> first | exact ⟨rfl, rfl⟩ | exact rfl)) | (apply Wp.call; exact kno _) | (apply Wp.ung; (exact rfl); (first | exact rfl | assumption)) | (apply Wp.opSt; (exact rfl); (first | exact rfl | assumption)) | (apply Wp.opSf; (exact rfl); (first | exact rfl | assumption)) | (apply Wp.opS0; (exact rfl)) | (apply Wp.grdT; (exact rfl); (intro); rotate_left 1; (intro); rotate_right 1) | (apply Wp.grdF; (exact rfl); (intro); rotate_left 1; (intro); rotate_right 1) | (apply Wp.condT; (exact rfl); (first | exact rfl | assumption)) | (apply Wp.condF; (exact rfl); (first | exact rfl | assumption)) | (apply Wp.cond; (exact rfl); (intro); rotate_left 1; (intro); rotate_right 1))
    refine Wp.ret ?_
    simp [Res, resU, res1, c_joinerylaw10_SkelPlaces]
  have d2 : decide ((300 : Int) < cut.length) = false := decide_eq_false (by omega)
  have hri := fun st => right4_call false l st (insL false l) rfl
  cases hr : rightF l with
  | false =>
    rw [hr] at hri
    repeat' (first | apply Wp.seq | apply Wp.skip | apply Wp.block | (apply Wp.op0; ((simp [M2.keep]) <;> rfl)) | (apply Wp.pickT; (exact rfl); (first | exact rfl | assumption); ((simp) <;> exact rfl)) | (apply Wp.pickF; (exact rfl); (first | exact rfl | assumption); ((simp) <;> exact rfl)) | (apply Wp.op; (apply Evt.all; intro; (simp [insL, boolU]) <;> (try simp (disch := omega) only [wrap_id]) <;> first | exact ⟨rfl, rfl⟩ | exact rfl)) | (apply Wp.opN; (apply Evt.all; intro; (simp [insL, boolU]) <;> (try simp (disch := omega) only [wrap_id]) <;> first | exact ⟨rfl, rfl⟩ | exact rfl)) | (apply Wp.call; exact hri _) | (apply Wp.call; exact kno _) | (apply Wp.ung; (exact rfl); (first | exact rfl | assumption)) | (apply Wp.opSt; (exact rfl); (first | exact rfl | assumption)) | (apply Wp.opSf; (exact rfl); (first | exact rfl | assumption)) | (apply Wp.opS0; (exact rfl)) | (apply Wp.grdT; (exact rfl); (intro); rotate_left 1; (intro); rotate_right 1) | (apply Wp.grdF; (exact rfl); (intro); rotate_left 1; (intro); rotate_right 1) | (apply Wp.condT; (exact rfl); (first | exact rfl | assumption)) | (apply Wp.condF; (exact rfl); (first | exact rfl | assumption)) | (apply Wp.cond; (exact rfl); (intro); rotate_left 1; (intro); rotate_right 1))
    refine Wp.ret ?_
    simp [Res, resU, res1, c_joinerylaw10_SkelPlaces]
  | true =>
    rw [hr] at hri
    have hb := build_call false l hr false cut
    obtain ⟨f1, f2, f3⟩ := skel_facts (cut := cut) hr
    obtain ⟨g1, g2⟩ := places_facts (cut := cut) hr
    have hlp := sp1_loop l (right_facts hr).1 cut (pEntry l) f3 (pNodes l cut) g1 f1 g2
    have sl := skel_len f3 (pNodes l cut)
    generalize pNodes l cut = ns at *
    generalize pEntry l = w at *
    have t26 : (skelU w ns).take 26 = skelU w ns := by rw [List.take_of_length_le]; omega
    repeat' (first | apply Wp.seq | apply Wp.skip | apply Wp.block | (apply Wp.op0; ((simp [M2.keep]) <;> rfl)) | (apply Wp.pickT; (exact rfl); (first | exact rfl | assumption); ((simp) <;> exact rfl)) | (apply Wp.pickF; (exact rfl); (first | exact rfl | assumption); ((simp) <;> exact rfl)) | (apply Wp.op; (apply Evt.all; intro; (simp [insL, boolU, sl, t26, over_full]) <;> (try simp (disch := omega) only [wrap_id]) <;> first | exact ⟨rfl, rfl⟩ | exact rfl)) | (apply Wp.opN; (apply Evt.all; intro; (simp [insL, boolU, sl, t26, over_full]) <;> (try simp (disch := omega) only [wrap_id]) <;> first | exact ⟨rfl, rfl⟩ | exact rfl)) | (apply Wp.call; exact hb _) | (apply Wp.call; exact hri _) | (apply Wp.ung; (exact rfl); (first | exact rfl | assumption)) | (apply Wp.opSt; (exact rfl); (first | exact rfl | assumption)) | (apply Wp.opSf; (exact rfl); (first | exact rfl | assumption)) | (apply Wp.opS0; (exact rfl)) | (apply Wp.grdT; (exact rfl); (intro); rotate_left 1; (intro); rotate_right 1) | (apply Wp.grdF; (exact rfl); (intro); rotate_left 1; (intro); rotate_right 1) | (apply Wp.condT; (exact rfl); (first | exact rfl | assumption)) | (apply Wp.condF; (exact rfl); (first | exact rfl | assumption)) | (apply Wp.cond; (exact rfl); (intro); rotate_left 1; (intro); rotate_right 1))
    refine (show Wp T (.loop c_joinerylaw10_SkelPlaces_L1) (sp1S l (boolU false cut) w ns 0) _ _ _ from (hlp _).imp (fun _ h => h.elim) (fun _ h => h) ?_)
    rintro b s ⟨rfl, rfl⟩
    rw [if_pos rfl]
    repeat' (first | apply Wp.seq | apply Wp.skip | apply Wp.block | (apply Wp.op0; ((simp [M2.keep]) <;> rfl)) | (apply Wp.pickT; (exact rfl); (first | exact rfl | assumption); ((simp) <;> exact rfl)) | (apply Wp.pickF; (exact rfl); (first | exact rfl | assumption); ((simp) <;> exact rfl)) | (apply Wp.op; (apply Evt.all; intro; (simp []) <;> (try simp (disch := omega) only [wrap_id]) <;> first | exact ⟨rfl, rfl⟩ | exact rfl)) | (apply Wp.opN; (apply Evt.all; intro; (simp []) <;> (try simp (disch := omega) only [wrap_id]) <;> first | exact ⟨rfl, rfl⟩ | exact rfl)) | (apply Wp.call; exact kno _) | (apply Wp.ung; (exact rfl); (first | exact rfl | assumption)) | (apply Wp.opSt; (exact rfl); (first | exact rfl | assumption)) | (apply Wp.opSf; (exact rfl); (first | exact rfl | assumption)) | (apply Wp.opS0; (exact rfl)) | (apply Wp.grdT; (exact rfl); (intro); rotate_left 1; (intro); rotate_right 1) | (apply Wp.grdF; (exact rfl); (intro); rotate_left 1; (intro); rotate_right 1) | (apply Wp.condT; (exact rfl); (first | exact rfl | assumption)) | (apply Wp.condF; (exact rfl); (first | exact rfl | assumption)) | (apply Wp.cond; (exact rfl); (intro); rotate_left 1; (intro); rotate_right 1))
    refine Wp.ret ?_
    simp [Res, resU, res1, c_joinerylaw10_SkelPlaces]
theorem params9 : Tryd.f9.params.toList = [22, 46] := by kernel_rfl
theorem law9 : Law 9 Tryd.f9.params.toList := by
  rw [params9]
  intro us hl hty
  obtain ⟨l, cut, rfl⟩ := args2b hl hty
  exact law_of (law9_call l cut)
end Go.Proofs.YtapibckmdpdljaaDoor.M2

/- SkelPlaces: nodes are at unlike places, each of which does more than move, and has as many ways as its instruction has, or none, if it is cut. No condition. -/
namespace Go.Proofs.YtapibckmdpdljaaDoor.M2
open Go Go.ChangeShapes Go.WideShapes Go.ChangeAt Go.RowKit

theorem types9 : Tryd.f9.resultTypes = #[4] := by kernel_rfl
set_option maxRecDepth 100000 in
theorem skelPlaces_row (law : Law 9 Tryd.f9.params.toList) : Rows.SkelPlacesSaid :=
  OpenClaim.holds_of_wide 9 Tryd.f9 rfl rfl rfl rfl rfl rfl rfl ⟨rfl, rfl, rfl, rfl, rfl⟩ rfl rfl rfl rfl rfl (by kernel_rfl) Tryd.func9 (by kernel_rfl)
    (of_decide_eq_true (by kernel_rfl)) (by unfold Func.isWrapper; first | (rw [if_pos (by decide +kernel)]; kernel_rfl) | (rw [if_neg (by decide +kernel)]; exact ⟨rfl, rfl⟩))
    (fun os started H enc _ => lifted (s := Rows.skelPlacesSpec) law os started enc (by kernel_rfl) Tryd.func9 rfl (by kernel_rfl) types9 bool4
      (fun ds h => by
        have h1 : ds.length = 2 := h
        match ds, h1 with
        | [d0, d1], _ => rfl)
      (ChangeSpec.witness_shaped (enc := enc) (C := Tryd.checked) (os := os) (X := fun w _ => laidMetH Tryd.prog laid1 w) false (World.doorLaid Tryd.prog 400 os) #[.slice none 0 0, .slice none 0 0] 8 rfl (World.shaped_of_RefB (by kernel_rfl) (by kernel_rfl)) (by kernel_rfl) (by kernel_rfl) (by kernel_rfl) (door_met os _)))
theorem skelPlaces_card (law : Law 9 Tryd.f9.params.toList) : Rows.SkelPlacesCardSaid :=
  Claim7.holds_tied_plain_at .later [] [.data] true (true, "13d9c7b0cf76a0ce59a956f6bcabe4d883017d16fd43b76b602544cf0bc1a375") true
    (skelPlaces_row law) (fun _ h => by cases h) (by kernel_rfl) (fun _ h => by cases h) skelPlaces_row_tie rfl ⟨rfl, rfl⟩ (by kernel_rfl) rfl
    (fun f fn hf hfn => by
      obtain rfl : f = 9 := Option.some.inj ((show Tryd.prog.funcNamed "joinery/joinerylaw10.SkelPlaces" = some 9 by kernel_rfl).symm.trans hf) |>.symm
      obtain rfl : fn = Tryd.f9 := (Option.some.inj (Tryd.func9.symm.trans hfn)).symm
      exact ⟨by kernel_rfl, fun j t ht => by
        rw [Tryd.params9] at ht
        have hm : t ∈ [22, 46] := by simpa using Array.mem_of_getElem? ht
        have hall : ([22, 46].all fun u => !Tryd.prog.wantsStandIn u) = true := by kernel_rfl
        exact (show Tryd.prog.wantsStandIn t = false by simpa using List.all_eq_true.1 hall t hm)⟩)
    (by kernel_rfl)
end Go.Proofs.YtapibckmdpdljaaDoor.M2
namespace Go.Proofs.YtapibckmdpdljaaDoor
theorem skelPlaces_said : Rows.SkelPlacesCardSaid := M2.skelPlaces_card M2.law9
end Go.Proofs.YtapibckmdpdljaaDoor
