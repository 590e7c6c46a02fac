/- Typed arguments, as this chapter's data. -/
import Derived.KernelRfl
import Derived.Test.YtapibckmdpdljaaDoorCg
import Derived.Test.YtapibckmdpdljaaDoorCk
import Derived.Test.YtapibckmdpdljaaDoorCe
set_option linter.unusedSimpArgs false
set_option linter.unusedVariables false
set_option linter.unusedSectionVars false
/- What the functions answer in M2. Part 14: the document's tables. -/
namespace Go.Proofs.YtapibckmdpdljaaDoor.M2
open Go
attribute [local simp] ev1 M2.get put A.ev ld sub part elems bin arith un opt idx fillC cellsO splice over newOb sto fillR laidOwn appTo appRow touch touchN touchM touchE touchA plainU flatU plainAs allM rowAt stoRow accM_nil accM_cons accMM_nil accMM_cons frz_int frz_bool frz_str frz_slt frz_nils frz_nilI frz_nilF frz_own frzRow_row frzRow_frow Ob.blw blw_bool blw_int blw_str blw_nils blw_nilI blw_nilF blw_nilp blw_nilm blw_sl blw_own blw_bp blw_rp blw_mp blw_it params
attribute [local simp] frz_agg frz_tup frz_iface frzS_agg frzS_iface accMS_cons frzS_int frzS_bool frzS_str frzS_slt frzS_nils frzS_nilI beq_dec bne_dec

/-- A table as the document writes it. -/
def asU : Src → List U
  | .was l => [i64 0, i64 l]
  | .is n => [i64 1, i64 n]
  | .no => [i64 2, i64 0]
def refT (p : Bool) (t : List Src) : U := .sl p (t.map asU)
theorem asSource_call (s : Src) (st : List Ob) : Cl T 37 [srcU s] st (.agg (asU s)) st := by
  cases s with
  | was l =>
    refine Wp.pure (fn := c_joinerylaw05_AsSource) rfl rfl rfl («as» := [srcU (.was l)]) rfl ?_
    repeat' (first | apply Wp.seq | apply Wp.skip | apply Wp.block | (apply Wp.op0; ((simp [M2.keep]) <;> rfl)) | ((first | (apply Wp.pickT; (exact rfl); (first | exact rfl | assumption)) | (apply Wp.pickF; (exact rfl); (first | exact rfl | assumption))); ((simp) <;> exact rfl)) | ((first | apply Wp.op | apply Wp.opN); (apply Evt.all; intro; (simp [srcU]) <;> (try simp (disch := omega) only [wrap_id]) <;> first | exact ⟨rfl, rfl⟩ | exact rfl)) | (first | (apply Wp.ung; (exact rfl); (first | exact rfl | assumption)) | (apply Wp.opSt; (exact rfl); (first | exact rfl | assumption)) | (apply Wp.opSf; (exact rfl); (first | exact rfl | assumption))) | (apply Wp.opS0; (exact rfl)) | (first | (apply Wp.condT; (exact rfl); (first | exact rfl | assumption)) | (apply Wp.condF; (exact rfl); (first | exact rfl | assumption))) | ((first | apply Wp.grdT | apply Wp.grdF | apply Wp.cond); (exact rfl); (intro); rotate_left 1; (intro); rotate_right 1))
    (all_goals refine Wp.ret ?_); (all_goals (try simp_all [Res, resU, res1, c_joinerylaw05_AsSource, asU])); (all_goals (try omega))
  | is n =>
    refine Wp.pure (fn := c_joinerylaw05_AsSource) rfl rfl rfl («as» := [srcU (.is n)]) rfl ?_
    repeat' (first | apply Wp.seq | apply Wp.skip | apply Wp.block | (apply Wp.op0; ((simp [M2.keep]) <;> rfl)) | ((first | (apply Wp.pickT; (exact rfl); (first | exact rfl | assumption)) | (apply Wp.pickF; (exact rfl); (first | exact rfl | assumption))); ((simp) <;> exact rfl)) | ((first | apply Wp.op | apply Wp.opN); (apply Evt.all; intro; (simp [srcU]) <;> (try simp (disch := omega) only [wrap_id]) <;> first | exact ⟨rfl, rfl⟩ | exact rfl)) | (first | (apply Wp.ung; (exact rfl); (first | exact rfl | assumption)) | (apply Wp.opSt; (exact rfl); (first | exact rfl | assumption)) | (apply Wp.opSf; (exact rfl); (first | exact rfl | assumption))) | (apply Wp.opS0; (exact rfl)) | (first | (apply Wp.condT; (exact rfl); (first | exact rfl | assumption)) | (apply Wp.condF; (exact rfl); (first | exact rfl | assumption))) | ((first | apply Wp.grdT | apply Wp.grdF | apply Wp.cond); (exact rfl); (intro); rotate_left 1; (intro); rotate_right 1))
    (all_goals refine Wp.ret ?_); (all_goals (try simp_all [Res, resU, res1, c_joinerylaw05_AsSource, asU])); (all_goals (try omega))
  | no =>
    refine Wp.pure (fn := c_joinerylaw05_AsSource) rfl rfl rfl («as» := [srcU .no]) rfl ?_
    repeat' (first | apply Wp.seq | apply Wp.skip | apply Wp.block | (apply Wp.op0; ((simp [M2.keep]) <;> rfl)) | ((first | (apply Wp.pickT; (exact rfl); (first | exact rfl | assumption)) | (apply Wp.pickF; (exact rfl); (first | exact rfl | assumption))); ((simp) <;> exact rfl)) | ((first | apply Wp.op | apply Wp.opN); (apply Evt.all; intro; (simp [srcU]) <;> (try simp (disch := omega) only [wrap_id]) <;> first | exact ⟨rfl, rfl⟩ | exact rfl)) | (first | (apply Wp.ung; (exact rfl); (first | exact rfl | assumption)) | (apply Wp.opSt; (exact rfl); (first | exact rfl | assumption)) | (apply Wp.opSf; (exact rfl); (first | exact rfl | assumption))) | (apply Wp.opS0; (exact rfl)) | (first | (apply Wp.condT; (exact rfl); (first | exact rfl | assumption)) | (apply Wp.condF; (exact rfl); (first | exact rfl | assumption))) | ((first | apply Wp.grdT | apply Wp.grdF | apply Wp.cond); (exact rfl); (intro); rotate_left 1; (intro); rotate_right 1))
    (all_goals refine Wp.ret ?_); (all_goals (try simp_all [Res, resU, res1, c_joinerylaw05_AsSource, asU])); (all_goals (try omega))
theorem new5_call (st : List Ob) : Cl T 41 [] st (refT true newT) st := Cl.at (n := 60) (by kernel_rfl) rfl st
theorem asU_len (s : Src) : (asU s).length = 2 := by cases s <;> rfl
theorem acc_asU (st : List Ob) (s : Src) : accM (frz frzD) st (asU s) = some (asU s, st) := by cases s <;> rfl
def asSt (t : List Src) (i : Nat) : S := ⟨[(1, .bp 0 0), (3, .own 1 i), (4, i64 i)], [.box (tabU t), .row 96 2 false ((t.map asU).take i)]⟩
theorem as_loop (t : List Src) (ht : t.length = 24) : Wp T (.loop c_joinerylaw05_As_L0) (asSt t (0 : Nat)) (fun _ => False) (fun _ => False) (fun b s' => b = 0 ∧ s' = ⟨[(1, .bp 0 0), (3, .own 1 24), (4, i64 (24 : Nat)), (6, .bool false)], [.box (tabU t), .row 96 2 false (t.map asU)]⟩) := by
  refine Wp.count 24 (fun i => asSt t i) (fun _ => True) (fun i hi _ => ?_) (fun _ => ?_) 0 (by omega) trivial
  · have hit : i < t.length := by omega
    have hi' : (i : Int) < 24 := by omega
    have h2 := Nat.min_eq_left (Nat.le_of_lt hit)
    have h3 : (i + 1) * 16 ≤ 140737488355328 := by omega
    have hsub : M2.sub (tabU t) i 1 = some [srcU t[i]] := tab_sub hit
    simp only [asSt]
    repeat (first | apply Wp.seq | apply Wp.skip | apply Wp.block | (apply Wp.op0; ((simp [M2.keep]) <;> rfl)) | ((first | apply Wp.op | apply Wp.opN | (apply Wp.opG; exact rfl)); (apply Evt.all; intro; (simp [hi']) <;> (try simp (disch := omega) only [wrap_id]) <;> first | exact ⟨rfl, rfl⟩ | exact rfl)) | (apply Wp.opS; exact rfl; decide) | (apply Wp.opS0; exact rfl))
    refine Wp.cond (by first | rfl | (simp; rfl)) (fun h1 => ?_) (fun h1 => ?_)
    · repeat (first | apply Wp.seq | apply Wp.skip | apply Wp.block | (apply Wp.op0; ((simp [M2.keep]) <;> rfl)) | ((first | apply Wp.op | apply Wp.opN | (apply Wp.opG; exact rfl)); (apply Evt.all; intro; (simp [-sub, hsub, hi']) <;> (try simp (disch := omega) only [wrap_id]) <;> first | exact ⟨rfl, rfl⟩ | exact rfl)) | (apply Wp.opS; exact rfl; decide) | (apply Wp.opS0; exact rfl))
      apply Wp.call
      · exact asSource_call t[i] _
      have h5 : (t.map asU).take (i + 1) = (t.map asU).take i ++ [asU t[i]] := by rw [List.take_succ_eq_append_getElem (by simpa using hit)]; simp
      repeat (first | apply Wp.seq | apply Wp.skip | apply Wp.block | (apply Wp.op0; ((simp [M2.keep]) <;> rfl)) | ((first | apply Wp.op | apply Wp.opN | (apply Wp.opG; exact rfl)); (apply Evt.all; intro; (simp [asU_len, acc_asU, h2, h3, wrap_id, over_full]) <;> (try simp (disch := omega) only [wrap_id]) <;> first | exact ⟨rfl, rfl⟩ | exact rfl)) | (apply Wp.opS; exact rfl; decide) | (apply Wp.opS0; exact rfl))
      refine ⟨?_, trivial⟩
      rw [h5]
      simp [trimO, trim]
      rw [if_pos (tab_blw 2 t)]
      rfl
    · cases h1
  · simp only [asSt]
    repeat (first | apply Wp.seq | apply Wp.skip | apply Wp.block | (apply Wp.op0; ((simp [M2.keep]) <;> rfl)) | ((first | apply Wp.op | apply Wp.opN | (apply Wp.opG; exact rfl)); (apply Evt.all; intro; (simp []) <;> (try simp (disch := omega) only [wrap_id]) <;> first | exact ⟨rfl, rfl⟩ | exact rfl)) | (apply Wp.opS; exact rfl; decide) | (apply Wp.opS0; exact rfl))
    refine Wp.cond (by first | rfl | (simp; rfl)) (fun h1 => ?_) (fun h1 => ?_)
    · cases h1
    · refine Wp.exit ⟨rfl, ?_⟩
      rw [List.take_of_length_le (by simp [ht])]
      rfl
theorem as_call (t : List Src) (ht : t.length = 24) (st : List Ob) : Cl T 18 [.agg (tabU t)] st (refT true t) st := by
  refine Wp.pure (fn := c_joinerylaw05_As) rfl rfl rfl («as» := [.agg (tabU t)]) (by simp [brw_tab]) ?_
  repeat (first | apply Wp.seq | apply Wp.skip | apply Wp.block | (apply Wp.op0; ((simp [M2.keep]) <;> rfl)) | ((first | apply Wp.op | apply Wp.opN | (apply Wp.opG; exact rfl)); (apply Evt.all; intro; (simp []) <;> (try simp (disch := omega) only [wrap_id]) <;> first | exact ⟨rfl, rfl⟩ | exact rfl)) | (apply Wp.opS; exact rfl; decide) | (apply Wp.opS0; exact rfl))
  refine (show Wp T (.loop c_joinerylaw05_As_L0) (asSt t (0 : Nat)) _ _ _ from (as_loop t ht).impB ?_)
  rintro b s ⟨rfl, rfl⟩
  rw [if_pos rfl]
  repeat (first | apply Wp.seq | apply Wp.skip | apply Wp.block | (apply Wp.op0; ((simp [M2.keep]) <;> rfl)) | ((first | apply Wp.op | apply Wp.opN | (apply Wp.opG; exact rfl)); (apply Evt.all; intro; (simp []) <;> (try simp (disch := omega) only [wrap_id]) <;> first | exact ⟨rfl, rfl⟩ | exact rfl)) | (apply Wp.opS; exact rfl; decide) | (apply Wp.opS0; exact rfl))
  refine Wp.ret ?_
  simp [Res, resU, res1, c_joinerylaw05_As, ht, refT]
end Go.Proofs.YtapibckmdpdljaaDoor.M2

/- What the functions answer in M2. Part 15: the document's tables, behind an instruction. -/
namespace Go.Proofs.YtapibckmdpdljaaDoor.M2
open Go
attribute [local simp] ev1 M2.get put A.ev ld sub part elems bin arith un opt idx fillC cellsO splice over newOb sto fillR laidOwn appTo appRow touch touchN touchM touchE touchA plainU flatU plainAs allM rowAt stoRow accM_nil accM_cons accMM_nil accMM_cons frz_int frz_bool frz_str frz_slt frz_nils frz_nilI frz_nilF frz_own frzRow_row frzRow_frow Ob.blw blw_bool blw_int blw_str blw_nils blw_nilI blw_nilF blw_nilp blw_nilm blw_sl blw_own blw_bp blw_rp blw_mp blw_it params
attribute [local simp] frz_agg frz_tup frz_iface frzS_agg frzS_iface accMS_cons frzS_int frzS_bool frzS_str frzS_slt frzS_nils frzS_nilI beq_dec bne_dec

def g5S (p : Bool) (t : List Src) (i : Nat) : S := ⟨[(0, refT p t), (3, i64 i)], []⟩
theorem good5_loop (p : Bool) (t : List Src) (ht : t.length = 24) : Wp T (.loop c_joineryref05_Good_L0) (g5S p t (0 : Nat)) (fun _ => False) (Res c_joineryref05_Good (.bool (t.all mayF))) (fun b s' => b = 0 ∧ s' = ⟨[(0, refT p t), (3, i64 (24 : Nat)), (7, .bool false)], []⟩ ∧ t.all mayF = true) := by
  refine Wp.count 24 (fun i => g5S p t i) (fun i => ∀ j (h : j < t.length), j < i → mayF t[j] = true) (fun i hi hP => ?_) (fun hP => ?_) 0 (by omega) (fun j _ h => absurd h (by omega))
  · have hit : i < t.length := by omega
    have hi' : (i : Int) < 24 := by omega
    have hstep : mayF t[i] = true → ∀ j (h : j < t.length), j < i + 1 → mayF t[j] = true := fun hm j hj hji => by
      by_cases e : j = i
      · subst e; exact hm
      · exact hP j hj (by omega)
    have hbad : mayF t[i] = false → t.all mayF = false := fun hm => by
      rw [List.all_eq_false]
      exact ⟨t[i], List.getElem_mem hit, by rw [hm]; decide⟩
    simp only [g5S]
    cases hs : t[i] with
    | was l =>
      rw [hs] at hstep hbad
      cases hm : mayF (.was l) with
      | false =>
        rw [hbad hm]
        simp [mayF, locF] at hm
        repeat' (first | apply Wp.seq | apply Wp.skip | apply Wp.block | (apply Wp.op0; ((simp [M2.keep]) <;> rfl)) | ((first | (apply Wp.pickT; (exact rfl); (first | exact rfl | assumption)) | (apply Wp.pickF; (exact rfl); (first | exact rfl | assumption))); ((simp) <;> exact rfl)) | ((first | apply Wp.op | apply Wp.opN); (apply Evt.all; intro; (simp [refT, hit, hs, asU, asU_len]) <;> (try simp (disch := omega) only [wrap_id]) <;> first | exact ⟨rfl, rfl⟩ | exact rfl)) | (first | (apply Wp.ung; (exact rfl); (first | exact rfl | assumption)) | (apply Wp.opSt; (exact rfl); (first | exact rfl | assumption)) | (apply Wp.opSf; (exact rfl); (first | exact rfl | assumption))) | (apply Wp.opS0; (exact rfl)) | (first | (apply Wp.condT; (exact rfl); (first | exact rfl | assumption)) | (apply Wp.condF; (exact rfl); (first | exact rfl | assumption))) | ((first | apply Wp.grdT | apply Wp.grdF | apply Wp.cond); (exact rfl); (intro); rotate_left 1; (intro); rotate_right 1))
        all_goals first
          | (exfalso; simp_all; omega)
          | (refine Wp.ret ?_; simp [Res, resU, res1, c_joineryref05_Good]; done)
      | true =>
        have hst := hstep hm
        simp [mayF, locF] at hm
        repeat' (first | apply Wp.seq | apply Wp.skip | apply Wp.block | (apply Wp.op0; ((simp [M2.keep]) <;> rfl)) | ((first | (apply Wp.pickT; (exact rfl); (first | exact rfl | assumption)) | (apply Wp.pickF; (exact rfl); (first | exact rfl | assumption))); ((simp) <;> exact rfl)) | ((first | apply Wp.op | apply Wp.opN); (apply Evt.all; intro; (simp [refT, hit, hs, asU, asU_len]) <;> (try simp (disch := omega) only [wrap_id]) <;> first | exact ⟨rfl, rfl⟩ | exact rfl)) | (first | (apply Wp.ung; (exact rfl); (first | exact rfl | assumption)) | (apply Wp.opSt; (exact rfl); (first | exact rfl | assumption)) | (apply Wp.opSf; (exact rfl); (first | exact rfl | assumption))) | (apply Wp.opS0; (exact rfl)) | (first | (apply Wp.condT; (exact rfl); (first | exact rfl | assumption)) | (apply Wp.condF; (exact rfl); (first | exact rfl | assumption))) | ((first | apply Wp.grdT | apply Wp.grdF | apply Wp.cond); (exact rfl); (intro); rotate_left 1; (intro); rotate_right 1))
        all_goals first
          | (exfalso; simp_all; omega)
          | (refine ⟨?_, hst⟩; simp [trimO, trim, refT]; done)
    | is n =>
      rw [hs] at hstep hbad
      repeat' (first | apply Wp.seq | apply Wp.skip | apply Wp.block | (apply Wp.op0; ((simp [M2.keep]) <;> rfl)) | ((first | (apply Wp.pickT; (exact rfl); (first | exact rfl | assumption)) | (apply Wp.pickF; (exact rfl); (first | exact rfl | assumption))); ((simp) <;> exact rfl)) | ((first | apply Wp.op | apply Wp.opN); (apply Evt.all; intro; (simp [refT, hit, hs, asU, asU_len]) <;> (try simp (disch := omega) only [wrap_id]) <;> first | exact ⟨rfl, rfl⟩ | exact rfl)) | (first | (apply Wp.ung; (exact rfl); (first | exact rfl | assumption)) | (apply Wp.opSt; (exact rfl); (first | exact rfl | assumption)) | (apply Wp.opSf; (exact rfl); (first | exact rfl | assumption))) | (apply Wp.opS0; (exact rfl)) | (first | (apply Wp.condT; (exact rfl); (first | exact rfl | assumption)) | (apply Wp.condF; (exact rfl); (first | exact rfl | assumption))) | ((first | apply Wp.grdT | apply Wp.grdF | apply Wp.cond); (exact rfl); (intro); rotate_left 1; (intro); rotate_right 1))
      all_goals first
        | (refine ⟨?_, hstep rfl⟩; simp [trimO, trim, refT]; done)
    | no =>
      rw [hs] at hstep hbad
      repeat' (first | apply Wp.seq | apply Wp.skip | apply Wp.block | (apply Wp.op0; ((simp [M2.keep]) <;> rfl)) | ((first | (apply Wp.pickT; (exact rfl); (first | exact rfl | assumption)) | (apply Wp.pickF; (exact rfl); (first | exact rfl | assumption))); ((simp) <;> exact rfl)) | ((first | apply Wp.op | apply Wp.opN); (apply Evt.all; intro; (simp [refT, hit, hs, asU, asU_len]) <;> (try simp (disch := omega) only [wrap_id]) <;> first | exact ⟨rfl, rfl⟩ | exact rfl)) | (first | (apply Wp.ung; (exact rfl); (first | exact rfl | assumption)) | (apply Wp.opSt; (exact rfl); (first | exact rfl | assumption)) | (apply Wp.opSf; (exact rfl); (first | exact rfl | assumption))) | (apply Wp.opS0; (exact rfl)) | (first | (apply Wp.condT; (exact rfl); (first | exact rfl | assumption)) | (apply Wp.condF; (exact rfl); (first | exact rfl | assumption))) | ((first | apply Wp.grdT | apply Wp.grdF | apply Wp.cond); (exact rfl); (intro); rotate_left 1; (intro); rotate_right 1))
      all_goals first
        | (refine Wp.ret ?_; rw [hbad rfl]; simp [Res, resU, res1, c_joineryref05_Good]; done)
  · simp only [g5S]
    repeat (first | apply Wp.seq | apply Wp.skip | apply Wp.block | (apply Wp.op0; ((simp [M2.keep]) <;> rfl)) | ((first | apply Wp.op | apply Wp.opN | (apply Wp.opG; exact rfl)); (apply Evt.all; intro; (simp [refT, ht]) <;> (try simp (disch := omega) only [wrap_id]) <;> first | exact ⟨rfl, rfl⟩ | exact rfl)) | (apply Wp.opS; exact rfl; decide) | (apply Wp.opS0; exact rfl))
    refine Wp.cond (by first | rfl | (simp; rfl)) (fun h1 => ?_) (fun h1 => ?_)
    · cases h1
    · refine Wp.exit ⟨rfl, rfl, ?_⟩
      rw [List.all_eq_true]
      intro s hs
      obtain ⟨j, hj, rfl⟩ := List.mem_iff_getElem.1 hs
      exact hP j hj (by omega)
theorem goodQ5_call (p : Bool) (t : List Src) (ht : t.length = 24) (st : List Ob) : Cl T 79 [refT p t] st (.bool (t.all mayF)) st := by
  refine Wp.pure (fn := c_joineryref05_Good) rfl rfl rfl («as» := [refT p t]) rfl ?_
  repeat (first | apply Wp.seq | apply Wp.skip | apply Wp.block | (apply Wp.op0; ((simp [M2.keep]) <;> rfl)) | ((first | apply Wp.op | apply Wp.opN | (apply Wp.opG; exact rfl)); (apply Evt.all; intro; (simp []) <;> (try simp (disch := omega) only [wrap_id]) <;> first | exact ⟨rfl, rfl⟩ | exact rfl)) | (apply Wp.opS; exact rfl; decide) | (apply Wp.opS0; exact rfl))
  refine (show Wp T (.loop c_joineryref05_Good_L0) (g5S p t (0 : Nat)) _ _ _ from (good5_loop p t ht).imp (fun _ h => h.elim) (fun _ h => h) ?_)
  rintro b s ⟨rfl, rfl, hall⟩
  rw [if_pos rfl]
  repeat (first | apply Wp.seq | apply Wp.skip | apply Wp.block | (apply Wp.op0; ((simp [M2.keep]) <;> rfl)) | ((first | apply Wp.op | apply Wp.opN | (apply Wp.opG; exact rfl)); (apply Evt.all; intro; (simp [refT, ht]) <;> (try simp (disch := omega) only [wrap_id]) <;> first | exact ⟨rfl, rfl⟩ | exact rfl)) | (apply Wp.opS; exact rfl; decide) | (apply Wp.opS0; exact rfl))
  refine Wp.ret ?_
  simp [Res, resU, res1, c_joineryref05_Good, hall]
theorem good5_call (t : List Src) (ht : t.length = 24) (st : List Ob) : Cl T 61 [refT true t] st (refT true (goodF t)) st := by
  refine Wp.pure (fn := c_joineryref05_good) rfl rfl rfl («as» := [refT true t]) rfl ?_
  repeat (first | apply Wp.seq | apply Wp.skip | apply Wp.block | (apply Wp.op0; ((simp [M2.keep]) <;> rfl)) | ((first | apply Wp.op | apply Wp.opN | (apply Wp.opG; exact rfl)); (apply Evt.all; intro; (simp []) <;> (try simp (disch := omega) only [wrap_id]) <;> first | exact ⟨rfl, rfl⟩ | exact rfl)) | (apply Wp.opS; exact rfl; decide) | (apply Wp.opS0; exact rfl))
  apply Wp.call
  · exact goodQ5_call true t ht _
  cases hg : t.all mayF with
  | true =>
    have hgf : goodF t = t := by unfold goodF; rw [if_pos hg]
    repeat (first | apply Wp.seq | apply Wp.skip | apply Wp.block | (apply Wp.op0; ((simp [M2.keep]) <;> rfl)) | ((first | apply Wp.op | apply Wp.opN | (apply Wp.opG; exact rfl)); (apply Evt.all; intro; (simp []) <;> (try simp (disch := omega) only [wrap_id]) <;> first | exact ⟨rfl, rfl⟩ | exact rfl)) | (apply Wp.opS; exact rfl; decide) | (apply Wp.opS0; exact rfl))
    refine Wp.cond (by first | rfl | (simp; rfl)) (fun h1 => ?_) (fun h1 => ?_)
    · repeat (first | apply Wp.seq | apply Wp.skip | apply Wp.block | (apply Wp.op0; ((simp [M2.keep]) <;> rfl)) | ((first | apply Wp.op | apply Wp.opN | (apply Wp.opG; exact rfl)); (apply Evt.all; intro; (simp []) <;> (try simp (disch := omega) only [wrap_id]) <;> first | exact ⟨rfl, rfl⟩ | exact rfl)) | (apply Wp.opS; exact rfl; decide) | (apply Wp.opS0; exact rfl))
      refine Wp.ret ?_
      rw [hgf]
      simp [Res, resU, res1, c_joineryref05_good, refT]
    · cases h1
  | false =>
    have hgf : goodF t = newT := by unfold goodF; rw [hg]; rfl
    repeat (first | apply Wp.seq | apply Wp.skip | apply Wp.block | (apply Wp.op0; ((simp [M2.keep]) <;> rfl)) | ((first | apply Wp.op | apply Wp.opN | (apply Wp.opG; exact rfl)); (apply Evt.all; intro; (simp []) <;> (try simp (disch := omega) only [wrap_id]) <;> first | exact ⟨rfl, rfl⟩ | exact rfl)) | (apply Wp.opS; exact rfl; decide) | (apply Wp.opS0; exact rfl))
    refine Wp.cond (by first | rfl | (simp; rfl)) (fun h1 => ?_) (fun h1 => ?_)
    · cases h1
    repeat (first | apply Wp.seq | apply Wp.skip | apply Wp.block | (apply Wp.op0; ((simp [M2.keep]) <;> rfl)) | ((first | apply Wp.op | apply Wp.opN | (apply Wp.opG; exact rfl)); (apply Evt.all; intro; (simp []) <;> (try simp (disch := omega) only [wrap_id]) <;> first | exact ⟨rfl, rfl⟩ | exact rfl)) | (apply Wp.opS; exact rfl; decide) | (apply Wp.opS0; exact rfl))
    apply Wp.call
    · exact new5_call _
    repeat (first | apply Wp.seq | apply Wp.skip | apply Wp.block | (apply Wp.op0; ((simp [M2.keep]) <;> rfl)) | ((first | apply Wp.op | apply Wp.opN | (apply Wp.opG; exact rfl)); (apply Evt.all; intro; (simp []) <;> (try simp (disch := omega) only [wrap_id]) <;> first | exact ⟨rfl, rfl⟩ | exact rfl)) | (apply Wp.opS; exact rfl; decide) | (apply Wp.opS0; exact rfl))
    refine Wp.ret ?_
    rw [hgf]
    simp [Res, resU, res1, c_joineryref05_good, refT]
end Go.Proofs.YtapibckmdpdljaaDoor.M2

/- What the functions answer in M2. Part 16: the document's tables behind an instruction; are two alike. -/
namespace Go.Proofs.YtapibckmdpdljaaDoor.M2
open Go
attribute [local simp] ev1 M2.get put A.ev ld sub part elems bin arith un opt idx fillC cellsO splice over newOb sto fillR laidOwn appTo appRow touch touchN touchM touchE touchA plainU flatU plainAs allM rowAt stoRow accM_nil accM_cons accMM_nil accMM_cons frz_int frz_bool frz_str frz_slt frz_nils frz_nilI frz_nilF frz_own frzRow_row frzRow_frow Ob.blw blw_bool blw_int blw_str blw_nils blw_nilI blw_nilF blw_nilp blw_nilm blw_sl blw_own blw_bp blw_rp blw_mp blw_it params
attribute [local simp] frz_agg frz_tup frz_iface frzS_agg frzS_iface accMS_cons frzS_int frzS_bool frzS_str frzS_slt frzS_nils frzS_nilI beq_dec bne_dec

def afterR (t : List Src) (x : Ins) : List Src :=
  if locF 24 x.d && locF 24 x.a then
    (if x.op = 1 then (goodF t).set x.d.toNat (.is x.n) else if x.op = 2 then (goodF t).set x.d.toNat ((goodF t).getD x.a.toNat .no)
      else if x.op = 3 then ((goodF t).set x.d.toNat ((goodF t).getD x.a.toNat .no)).set x.a.toNat ((goodF t).getD x.d.toNat .no) else goodF t)
  else goodF t
theorem afterR_eq {t : List Src} {x : Ins} (h : movesF x = true) : afterR t x = afterF t x := by
  unfold afterR afterF
  rw [h, Bool.true_and]
theorem over_asU (s : Src) (a b : U) : over (asU s) [a, b] = asU s := by cases s <;> rfl
theorem splice_asU (s : Src) (a b : U) : splice (asU s) 0 [a, b] = [a, b] := by cases s <;> rfl
theorem splice_asU2 (s s' : Src) : splice (asU s) 0 (asU s') = asU s' := by cases s <;> cases s' <;> rfl
theorem over_asU2 (s s' : Src) : over (asU s) (asU s') = asU s := by cases s <;> cases s' <;> rfl
theorem over_asU3 (s : Src) (a b : U) : over [a, b] (asU s) = [a, b] := by cases s <;> rfl
theorem take_asU (s : Src) : (asU s).take 2 = asU s := by cases s <;> rfl
theorem is_asU (n : Int) : [U.int .i64 1, U.int .i64 n] = asU (.is n) := rfl
theorem acc_asUs (st : List Ob) : ∀ t : List Src, accM (accM (frz frzD)) st (t.map asU) = some (t.map asU, st)
  | [] => rfl
  | s :: t => by rw [List.map_cons, accMM_cons, acc_asU, Option.bind_some, acc_asUs st t]; rfl
set_option maxHeartbeats 4000000 in
theorem after5_call (t : List Src) (x : Ins) (ht : t.length = 24) (st : List Ob) : Cl T 42 [refT true t, .agg (insU x)] st (refT true (afterR t x)) st := by
  refine Wp.pure (fn := c_joineryref05_After) rfl rfl rfl («as» := [refT true t, .agg (insU x)]) rfl ?_
  have hg := goodF_len ht
  have hgood := good5_call t ht
  unfold afterR
  generalize goodF t = g at *
  obtain ⟨op, d, a, b, n, to⟩ := x
  have hd := place5_call d
  have ha := place5_call a
  simp only
  cases m2 : locF 24 d with
  | false =>
    rw [m2] at hd
    repeat' (first | apply Wp.seq | apply Wp.skip | apply Wp.block | (apply Wp.op0; ((simp [M2.keep]) <;> rfl)) | ((first | (apply Wp.pickT; (exact rfl); (first | exact rfl | assumption)) | (apply Wp.pickF; (exact rfl); (first | exact rfl | assumption))); ((simp) <;> exact rfl)) | ((first | apply Wp.op | apply Wp.opN); (apply Evt.all; intro; (simp [insU, refT, asU_len, acc_asUs, hg]) <;> (try simp (disch := omega) only [wrap_id]) <;> first | exact ⟨rfl, rfl⟩ | exact rfl)) | (apply Wp.call; exact hgood _) | (apply Wp.call; exact hd _) | (apply Wp.call; exact ha _) | (first | (apply Wp.ung; (exact rfl); (first | exact rfl | assumption)) | (apply Wp.opSt; (exact rfl); (first | exact rfl | assumption)) | (apply Wp.opSf; (exact rfl); (first | exact rfl | assumption))) | (apply Wp.opS0; (exact rfl)) | (first | (apply Wp.condT; (exact rfl); (first | exact rfl | assumption)) | (apply Wp.condF; (exact rfl); (first | exact rfl | assumption))) | ((first | apply Wp.grdT | apply Wp.grdF | apply Wp.cond); (exact rfl); (intro); rotate_left 1; (intro); rotate_right 1))
    all_goals refine Wp.ret ?_
    all_goals simp [Res, resU, res1, c_joineryref05_After, refT, hg]
  | true =>
  cases m3 : locF 24 a with
  | false =>
    rw [m2] at hd
    rw [m3] at ha
    repeat' (first | apply Wp.seq | apply Wp.skip | apply Wp.block | (apply Wp.op0; ((simp [M2.keep]) <;> rfl)) | ((first | (apply Wp.pickT; (exact rfl); (first | exact rfl | assumption)) | (apply Wp.pickF; (exact rfl); (first | exact rfl | assumption))); ((simp) <;> exact rfl)) | ((first | apply Wp.op | apply Wp.opN); (apply Evt.all; intro; (simp [insU, refT, asU_len, acc_asUs, hg]) <;> (try simp (disch := omega) only [wrap_id]) <;> first | exact ⟨rfl, rfl⟩ | exact rfl)) | (apply Wp.call; exact hgood _) | (apply Wp.call; exact hd _) | (apply Wp.call; exact ha _) | (first | (apply Wp.ung; (exact rfl); (first | exact rfl | assumption)) | (apply Wp.opSt; (exact rfl); (first | exact rfl | assumption)) | (apply Wp.opSf; (exact rfl); (first | exact rfl | assumption))) | (apply Wp.opS0; (exact rfl)) | (first | (apply Wp.condT; (exact rfl); (first | exact rfl | assumption)) | (apply Wp.condF; (exact rfl); (first | exact rfl | assumption))) | ((first | apply Wp.grdT | apply Wp.grdF | apply Wp.cond); (exact rfl); (intro); rotate_left 1; (intro); rotate_right 1))
    all_goals refine Wp.ret ?_
    all_goals simp [Res, resU, res1, c_joineryref05_After, refT, hg]
  | true =>
  rw [m2] at hd
  rw [m3] at ha
  simp only [locF, Bool.and_eq_true, decide_eq_true_eq] at m2 m3
  obtain ⟨D, rfl⟩ := Int.eq_ofNat_of_zero_le m2.1
  obtain ⟨A, rfl⟩ := Int.eq_ofNat_of_zero_le m3.1
  have D1 : D < 24 := by omega
  have A1 : A < 24 := by omega
  have D3 : D < g.length := by omega
  have A3 : A < g.length := by omega
  have gA : g.getD A .no = g[A] := by simp [A3]
  have gD : g.getD D .no = g[D] := by simp [D3]
  simp only [Int.toNat_natCast, gA, gD]
  have D2 : (D : Int) < 24 := by omega
  have A2 : (A : Int) < 24 := by omega
  have eD : g[D]? = some g[D] := List.getElem?_eq_getElem D3
  have eA : g[A]? = some g[A] := List.getElem?_eq_getElem A3
  have dr : ∀ (K R : S → Prop) (B : Nat → S → Prop), K ⟨[(3, .bp 0 0), (5, .own 1 24), (6, .bp 2 0), (7, .bp 3 0)], [.box [i64 op, i64 D, i64 A, i64 b, i64 n, i64 to], .row 96 2 false (g.map asU), .box (asU g[D]), .box (asU g[A])]⟩ →
      Wp T (.opsD c_joineryref05_After_D0 [0, 0, 2, 7, 15, 0, 0, 64, 224, 480, 0, 0, 3103, 8191] [3, 5, 6, 7]) ⟨[(3, .bp 0 0), (5, .own 1 24), (21, .bool false)], [.box [i64 op, i64 D, i64 A, i64 b, i64 n, i64 to], .row 96 2 false (g.map asU)]⟩ K R B := fun K R B hk => by
    refine Wp.draw (by (simp [c_joineryref05_After_D0, I.need]) <;> rfl) (by (simp [D2, A2, eD, eA, hg, asU_len, take_asU, over_asU]) <;> rfl) (by (simp [D2, A2, eD, eA, hg, asU_len, take_asU, over_asU]) <;> rfl) (by (unfold c_joineryref05_After_D0); (repeat (first | ((first | apply Dr.op | apply Dr.opN | (apply Dr.opG; exact rfl)); ((simp [D2, A2, eD, eA, hg, asU_len, take_asU, over_asU]) <;> rfl); (apply Evt.all; intro; (simp [D2, A2, eD, eA, hg, asU_len, take_asU, over_asU]) <;> (try simp (disch := omega) only [wrap_id]) <;> first | exact ⟨rfl, rfl⟩ | exact rfl); ((simp [I.need]) <;> rfl)) | ((first | (apply Dr.opS; exact rfl; decide) | (apply Dr.opS0; exact rfl)); ((simp [I.need]) <;> rfl)))); exact Dr.nil) (by first | decide +kernel | exact rfl) (by (simp [M2.keep]) <;> rfl) ?_
    exact hk
  rw [if_pos (show (true && true) = true from rfl)]
  by_cases c1 : op = 1
  · subst c1
    obtain ⟨h, hh⟩ : ∃ h, h = g.set D (.is n) := ⟨_, rfl⟩
    have h24 : h.length = 24 := by rw [hh, List.length_set]; exact hg
    have s1 : (g.map asU).set D [.int .i64 1, i64 n] = h.map asU := by rw [hh, List.map_set]; rfl
    have a1 : ∀ st, accM (frz frzD) st [.int .i64 1, i64 n] = some ([.int .i64 1, i64 n], st) := fun _ => rfl
    rw [if_pos rfl, ← hh]
    repeat' (first | apply Wp.seq | apply Wp.skip | apply Wp.block | (apply Wp.op0; ((simp [M2.keep]) <;> rfl)) | ((first | (apply Wp.pickT; (exact rfl); (first | exact rfl | assumption)) | (apply Wp.pickF; (exact rfl); (first | exact rfl | assumption))); ((simp) <;> exact rfl)) | ((first | apply Wp.op | apply Wp.opN); (apply Evt.all; intro; (simp [-List.map_set, insU, refT, asU_len, acc_asUs, acc_asU, hg, D2, A2, eD, eA, over_asU, splice_asU, splice_asU2, over_asU2, over_asU3, take_asU, s1, a1, h24]) <;> (try simp (disch := omega) only [wrap_id]) <;> first | exact ⟨rfl, rfl⟩ | exact rfl)) | (apply Wp.call; exact hgood _) | (apply Wp.call; exact hd _) | (apply Wp.call; exact ha _) | (apply dr) | (first | (apply Wp.ung; (exact rfl); (first | exact rfl | assumption)) | (apply Wp.opSt; (exact rfl); (first | exact rfl | assumption)) | (apply Wp.opSf; (exact rfl); (first | exact rfl | assumption))) | (apply Wp.opS0; (exact rfl)) | (first | (apply Wp.condT; (exact rfl); (first | exact rfl | assumption)) | (apply Wp.condF; (exact rfl); (first | exact rfl | assumption))) | ((first | apply Wp.grdT | apply Wp.grdF | apply Wp.cond); (exact rfl); (intro); rotate_left 1; (intro); rotate_right 1))
    all_goals refine Wp.ret ?_
    all_goals simp [Res, resU, res1, c_joineryref05_After, refT, h24]
  by_cases c2 : op = 2
  · subst c2
    obtain ⟨h, hh⟩ : ∃ h, h = g.set D g[A] := ⟨_, rfl⟩
    have h24 : h.length = 24 := by rw [hh, List.length_set]; exact hg
    have s1 : (g.map asU).set D (asU g[A]) = h.map asU := by rw [hh, List.map_set]
    rw [if_neg (by decide), if_pos rfl, ← hh]
    repeat' (first | apply Wp.seq | apply Wp.skip | apply Wp.block | (apply Wp.op0; ((simp [M2.keep]) <;> rfl)) | ((first | (apply Wp.pickT; (exact rfl); (first | exact rfl | assumption)) | (apply Wp.pickF; (exact rfl); (first | exact rfl | assumption))); ((simp) <;> exact rfl)) | ((first | apply Wp.op | apply Wp.opN); (apply Evt.all; intro; (simp [-List.map_set, insU, refT, asU_len, acc_asUs, acc_asU, hg, D2, A2, eD, eA, over_asU, splice_asU, splice_asU2, over_asU2, over_asU3, take_asU, s1, h24]) <;> (try simp (disch := omega) only [wrap_id]) <;> first | exact ⟨rfl, rfl⟩ | exact rfl)) | (apply Wp.call; exact hgood _) | (apply Wp.call; exact hd _) | (apply Wp.call; exact ha _) | (apply dr) | (first | (apply Wp.ung; (exact rfl); (first | exact rfl | assumption)) | (apply Wp.opSt; (exact rfl); (first | exact rfl | assumption)) | (apply Wp.opSf; (exact rfl); (first | exact rfl | assumption))) | (apply Wp.opS0; (exact rfl)) | (first | (apply Wp.condT; (exact rfl); (first | exact rfl | assumption)) | (apply Wp.condF; (exact rfl); (first | exact rfl | assumption))) | ((first | apply Wp.grdT | apply Wp.grdF | apply Wp.cond); (exact rfl); (intro); rotate_left 1; (intro); rotate_right 1))
    all_goals refine Wp.ret ?_
    all_goals simp [Res, resU, res1, c_joineryref05_After, refT, h24]
  by_cases c3 : op = 3
  · subst c3
    obtain ⟨h, hh⟩ : ∃ h, h = g.set D g[A] := ⟨_, rfl⟩
    have h24 : h.length = 24 := by rw [hh, List.length_set]; exact hg
    have s1 : (g.map asU).set D (asU g[A]) = h.map asU := by rw [hh, List.map_set]
    obtain ⟨k, hk⟩ : ∃ k, k = h.set A g[D] := ⟨_, rfl⟩
    have k24 : k.length = 24 := by rw [hk, List.length_set]; exact h24
    have s2 : (h.map asU).set A (asU g[D]) = k.map asU := by rw [hk, List.map_set]
    have eh : h[A]? = some (h[A]'(by omega)) := List.getElem?_eq_getElem (by omega)
    rw [if_neg (by decide), if_neg (by decide), if_pos rfl, ← hh, ← hk]
    repeat' (first | apply Wp.seq | apply Wp.skip | apply Wp.block | (apply Wp.op0; ((simp [M2.keep]) <;> rfl)) | ((first | (apply Wp.pickT; (exact rfl); (first | exact rfl | assumption)) | (apply Wp.pickF; (exact rfl); (first | exact rfl | assumption))); ((simp) <;> exact rfl)) | ((first | apply Wp.op | apply Wp.opN); (apply Evt.all; intro; (simp [-List.map_set, insU, refT, asU_len, acc_asUs, acc_asU, hg, D2, A2, eD, eA, over_asU, splice_asU, splice_asU2, over_asU2, over_asU3, take_asU, s1, s2, h24, k24, eh]) <;> (try simp (disch := omega) only [wrap_id]) <;> first | exact ⟨rfl, rfl⟩ | exact rfl)) | (apply Wp.call; exact hgood _) | (apply Wp.call; exact hd _) | (apply Wp.call; exact ha _) | (apply dr) | (first | (apply Wp.ung; (exact rfl); (first | exact rfl | assumption)) | (apply Wp.opSt; (exact rfl); (first | exact rfl | assumption)) | (apply Wp.opSf; (exact rfl); (first | exact rfl | assumption))) | (apply Wp.opS0; (exact rfl)) | (first | (apply Wp.condT; (exact rfl); (first | exact rfl | assumption)) | (apply Wp.condF; (exact rfl); (first | exact rfl | assumption))) | ((first | apply Wp.grdT | apply Wp.grdF | apply Wp.cond); (exact rfl); (intro); rotate_left 1; (intro); rotate_right 1))
    all_goals refine Wp.ret ?_
    all_goals simp [Res, resU, res1, c_joineryref05_After, refT, k24]
  · rw [if_neg c1, if_neg c2, if_neg c3]
    repeat' (first | apply Wp.seq | apply Wp.skip | apply Wp.block | (apply Wp.op0; ((simp [M2.keep]) <;> rfl)) | ((first | (apply Wp.pickT; (exact rfl); (first | exact rfl | assumption)) | (apply Wp.pickF; (exact rfl); (first | exact rfl | assumption))); ((simp) <;> exact rfl)) | ((first | apply Wp.op | apply Wp.opN); (apply Evt.all; intro; (simp [-List.map_set, insU, refT, asU_len, acc_asUs, acc_asU, hg, D2, A2, eD, eA, over_asU, splice_asU, splice_asU2, over_asU2, over_asU3, take_asU, c1, c2, c3]) <;> (try simp (disch := omega) only [wrap_id]) <;> first | exact ⟨rfl, rfl⟩ | exact rfl)) | (apply Wp.call; exact hgood _) | (apply Wp.call; exact hd _) | (apply Wp.call; exact ha _) | (apply dr) | (first | (apply Wp.ung; (exact rfl); (first | exact rfl | assumption)) | (apply Wp.opSt; (exact rfl); (first | exact rfl | assumption)) | (apply Wp.opSf; (exact rfl); (first | exact rfl | assumption))) | (apply Wp.opS0; (exact rfl)) | (first | (apply Wp.condT; (exact rfl); (first | exact rfl | assumption)) | (apply Wp.condF; (exact rfl); (first | exact rfl | assumption))) | ((first | apply Wp.grdT | apply Wp.grdF | apply Wp.cond); (exact rfl); (intro); rotate_left 1; (intro); rotate_right 1))
    all_goals refine Wp.ret ?_
    all_goals simp [Res, resU, res1, c_joineryref05_After, refT, hg]
end Go.Proofs.YtapibckmdpdljaaDoor.M2

/- What the functions answer in M2. Part 17: are two tables alike; the document's path. -/
namespace Go.Proofs.YtapibckmdpdljaaDoor.M2
open Go
attribute [local simp] ev1 M2.get put A.ev ld sub part elems bin arith un opt idx fillC cellsO splice over newOb sto fillR laidOwn appTo appRow touch touchN touchM touchE touchA plainU flatU plainAs allM rowAt stoRow accM_nil accM_cons accMM_nil accMM_cons frz_int frz_bool frz_str frz_slt frz_nils frz_nilI frz_nilF frz_own frzRow_row frzRow_frow Ob.blw blw_bool blw_int blw_str blw_nils blw_nilI blw_nilF blw_nilp blw_nilm blw_sl blw_own blw_bp blw_rp blw_mp blw_it params
attribute [local simp] frz_agg frz_tup frz_iface frzS_agg frzS_iface accMS_cons frzS_int frzS_bool frzS_str frzS_slt frzS_nils frzS_nilI beq_dec bne_dec

theorem asU_same (x y : Src) : sameV (.tst [(1, .ti), (1, .ti)]) (.agg (asU x)) (.agg (asU y)) = some (decide (x = y)) := by
  cases x <;> cases y <;> simp only [sameV, cellsS, Option.bind_some, asU, sameD, same, same.fields, List.length_cons, List.length_nil, List.take, List.drop, i64] <;> simp
  all_goals (rename_i a b; by_cases h : a = b <;> simp [h])
def s5S (p q : Bool) (a b : List Src) (i : Nat) : S := ⟨[(0, refT p a), (1, refT q b), (5, i64 i)], []⟩
theorem same5_loop (p q : Bool) (a b : List Src) (hl : a.length = b.length) (ha : a.length < 1000) : Wp T (.loop c_joineryref05_Same_L1) (s5S p q a b (0 : Nat)) (fun _ => False) (Res c_joineryref05_Same (.bool (decide (a = b)))) (fun k s' => k = 0 ∧ a = b) := by
  refine Wp.count a.length (fun i => s5S p q a b i) (fun i => ∀ j (h : j < a.length), j < i → a[j] = b[j]'(hl ▸ h)) (fun i hi hP => ?_) (fun hP => ?_) 0 (by omega) (fun j _ h => absurd h (by omega))
  · have hib : i < b.length := by omega
    simp only [s5S]
    repeat (first | apply Wp.seq | apply Wp.skip | apply Wp.block | (apply Wp.op0; ((simp [M2.keep]) <;> rfl)) | ((first | apply Wp.op | apply Wp.opN | (apply Wp.opG; exact rfl)); (apply Evt.all; intro; (simp [refT, hi]) <;> (try simp (disch := omega) only [wrap_id]) <;> first | exact ⟨rfl, rfl⟩ | exact rfl)) | (apply Wp.opS; exact rfl; decide) | (apply Wp.opS0; exact rfl))
    refine Wp.cond (by first | rfl | (simp; rfl)) (fun h1 => ?_) (fun h1 => ?_)
    · repeat (first | apply Wp.seq | apply Wp.skip | apply Wp.block | (apply Wp.op0; ((simp [M2.keep]) <;> rfl)) | ((first | apply Wp.op | apply Wp.opN | (apply Wp.opG; exact rfl)); (apply Evt.all; intro; (simp []) <;> (try simp (disch := omega) only [wrap_id]) <;> first | exact ⟨rfl, rfl⟩ | exact rfl)) | (apply Wp.opS; exact rfl; decide) | (apply Wp.opS0; exact rfl))
      refine Wp.draw (by (simp [c_joineryref05_Same_D0, I.need]) <;> rfl) (by (simp [refT, hi, hib, asU_len, take_asU, asU_same]) <;> rfl) (by (simp [refT, hi, hib, asU_len, take_asU, asU_same]) <;> rfl) (by (unfold c_joineryref05_Same_D0); (repeat (first | ((first | apply Dr.op | apply Dr.opN | (apply Dr.opG; exact rfl)); ((simp [refT, hi, hib, asU_len, take_asU, asU_same]) <;> rfl); (apply Evt.all; intro; (simp [refT, hi, hib, asU_len, take_asU, asU_same]) <;> (try simp (disch := omega) only [wrap_id]) <;> first | exact ⟨rfl, rfl⟩ | exact rfl); ((simp [I.need]) <;> rfl)) | ((first | (apply Dr.opS; exact rfl; decide) | (apply Dr.opS0; exact rfl)); ((simp [I.need]) <;> rfl)))); exact Dr.nil) (by first | decide +kernel | exact rfl) (by (simp [M2.keep]) <;> rfl) ?_
      by_cases he : a[i] = b[i]
      · refine Wp.cond (by first | rfl | (simp; rfl)) (fun h2 => ?_) (fun h2 => ?_)
        · simp [he] at h2
        repeat (first | apply Wp.seq | apply Wp.skip | apply Wp.block | (apply Wp.op0; ((simp [M2.keep]) <;> rfl)) | ((first | apply Wp.op | apply Wp.opN | (apply Wp.opG; exact rfl)); (apply Evt.all; intro; (simp [wrap_id]) <;> (try simp (disch := omega) only [wrap_id]) <;> first | exact ⟨rfl, rfl⟩ | exact rfl)) | (apply Wp.opS; exact rfl; decide) | (apply Wp.opS0; exact rfl))
        refine ⟨?_, fun j hj hji => ?_⟩
        · simp [trimO, trim, refT]
        · by_cases e : j = i
          · subst e; exact he
          · exact hP j hj (by omega)
      · refine Wp.cond (by first | rfl | (simp; rfl)) (fun h2 => ?_) (fun h2 => ?_)
        · repeat (first | apply Wp.seq | apply Wp.skip | apply Wp.block | (apply Wp.op0; ((simp [M2.keep]) <;> rfl)) | ((first | apply Wp.op | apply Wp.opN | (apply Wp.opG; exact rfl)); (apply Evt.all; intro; (simp []) <;> (try simp (disch := omega) only [wrap_id]) <;> first | exact ⟨rfl, rfl⟩ | exact rfl)) | (apply Wp.opS; exact rfl; decide) | (apply Wp.opS0; exact rfl))
          refine Wp.ret ?_
          have : a ≠ b := fun e => he (by subst e; rfl)
          simp [Res, resU, res1, c_joineryref05_Same, this]
        · simp [he] at h2
    · cases h1
  · simp only [s5S]
    repeat (first | apply Wp.seq | apply Wp.skip | apply Wp.block | (apply Wp.op0; ((simp [M2.keep]) <;> rfl)) | ((first | apply Wp.op | apply Wp.opN | (apply Wp.opG; exact rfl)); (apply Evt.all; intro; (simp [refT]) <;> (try simp (disch := omega) only [wrap_id]) <;> first | exact ⟨rfl, rfl⟩ | exact rfl)) | (apply Wp.opS; exact rfl; decide) | (apply Wp.opS0; exact rfl))
    refine Wp.cond (by first | rfl | (simp; rfl)) (fun h1 => ?_) (fun h1 => ?_)
    · cases h1
    · exact Wp.exit ⟨rfl, List.ext_getElem hl fun j h1 h2 => hP j h1 h1⟩
theorem same5_call (p q : Bool) (a b : List Src) (ha : a.length = 24) (hb : b.length = 24) (st : List Ob) : Cl T 17 [refT p a, refT q b] st (.bool (decide (a = b))) st := by
  refine Wp.pure (fn := c_joineryref05_Same) rfl rfl rfl («as» := [refT p a, refT q b]) rfl ?_
  repeat (first | apply Wp.seq | apply Wp.skip | apply Wp.block | (apply Wp.op0; ((simp [M2.keep]) <;> rfl)) | ((first | apply Wp.op | apply Wp.opN | (apply Wp.opG; exact rfl)); (apply Evt.all; intro; (simp [refT]) <;> (try simp (disch := omega) only [wrap_id]) <;> first | exact ⟨rfl, rfl⟩ | exact rfl)) | (apply Wp.opS; exact rfl; decide) | (apply Wp.opS0; exact rfl))
  refine Wp.cond (by first | rfl | (simp; rfl)) (fun h1 => ?_) (fun h1 => ?_)
  · simp [ha, hb] at h1
  repeat (first | apply Wp.seq | apply Wp.skip | apply Wp.block | (apply Wp.op0; ((simp [M2.keep]) <;> rfl)) | ((first | apply Wp.op | apply Wp.opN | (apply Wp.opG; exact rfl)); (apply Evt.all; intro; (simp [refT]) <;> (try simp (disch := omega) only [wrap_id]) <;> first | exact ⟨rfl, rfl⟩ | exact rfl)) | (apply Wp.opS; exact rfl; decide) | (apply Wp.opS0; exact rfl))
  refine (show Wp T (.loop c_joineryref05_Same_L1) (s5S p q a b (0 : Nat)) _ _ _ from (same5_loop p q a b (by omega) (by omega)).imp (fun _ h => h.elim) (fun _ h => h) ?_)
  rintro k s ⟨rfl, rfl⟩
  rw [if_pos rfl]
  obtain ⟨e, st2⟩ := s
  repeat (first | apply Wp.seq | apply Wp.skip | apply Wp.block | (apply Wp.op0; ((simp [M2.keep]) <;> rfl)) | ((first | apply Wp.op | apply Wp.opN | (apply Wp.opG; exact rfl)); (apply Evt.all; intro; (simp []) <;> (try simp (disch := omega) only [wrap_id]) <;> first | exact ⟨rfl, rfl⟩ | exact rfl)) | (apply Wp.opS; exact rfl; decide) | (apply Wp.opS0; exact rfl))
  refine Wp.ret ?_
  simp [Res, resU, res1, c_joineryref05_Same]
/-- The document's path: where it is, its table, how many steps. -/
structure RP where
  to : Nat
  t : List Src
  steps : Nat
def refStep (l : List Ins) (s : RP) : RP := ⟨nextTo (l.getD s.to default) s.to, afterF s.t (l.getD s.to default), s.steps + 1⟩
def refRun (l : List Ins) : Nat → RP → Option RP
  | 0, _ => none
  | n + 1, s => if movesF (l.getD s.to default) then refRun l n (refStep l s) else some s
def rpU (s : RP) : List U := [i64 s.to, refT true s.t, i64 s.steps]
def refAns (l : List Ins) (a : Nat) : U := match refRun l (l.length + 1) ⟨a, newT, 0⟩ with
  | some s => .agg (rpU s)
  | none => .agg [i64 (-1), refT true newT, i64 0]
def rfS (p : Bool) (l : List Ins) (i : Nat) (s : RP) : S := ⟨[(0, insL p l), (4, .bp 0 0), (5, .bp 1 0), (6, i64 i)], [.box [i64 0, .nils, i64 0], .box (rpU s)]⟩
theorem pf42 : pfT T 42 = true := rfl
set_option maxHeartbeats 4000000 in
theorem rf_step (p : Bool) (l : List Ins) (hr : rightF l = true) (i : Nat) (hi : i ≤ l.length) (s : RP) (hto : s.to < l.length) (hs : s.steps ≤ i) (ht : s.t.length = 24) (u : U) (hu : movesF (l.getD s.to default) = false → u = .agg (rpU s)) :
    Wp T c_joineryref09_From_L1 (rfS p l i s) (fun s' => movesF (l.getD s.to default) = true ∧ trimO 2 s' = rfS p l (i + 1) (refStep l s)) (Res c_joineryref09_From u) (fun _ _ => False) := by
  have h200 := (right_facts hr).1
  have hx : l.getD s.to default = l[s.to] := by simp [hto]
  have hnx := nextTo_ok hr hto
  have hmv := moves3_call (l.getD s.to default)
  have haf := after5_call s.t (l.getD s.to default) ht
  unfold refStep
  rw [hx] at hnx hu hmv haf ⊢
  have hii : (i : Int) ≤ l.length := by omega
  obtain ⟨to, t, steps⟩ := s
  simp only at hto hs ht hnx hu hmv haf ⊢
  simp only [rfS, rpU]
  have hnn : ((nextTo l[to] to : Nat) : Int) = if l[to].op = 16 then l[to].to else (to : Int) + 1 := by
    unfold nextTo
    split
    · rename_i h16
      have := (hnx (by rw [movesF]; simp [h16])).2 h16
      omega
    · omega
  repeat (first | apply Wp.seq | apply Wp.skip | apply Wp.block | (apply Wp.op0; ((simp [M2.keep]) <;> rfl)) | ((first | apply Wp.op | apply Wp.opN | (apply Wp.opG; exact rfl)); (apply Evt.all; intro; (simp [insL, hii]) <;> (try simp (disch := omega) only [wrap_id]) <;> first | exact ⟨rfl, rfl⟩ | exact rfl)) | (apply Wp.opS; exact rfl; decide) | (apply Wp.opS0; exact rfl))
  refine Wp.cond (by first | rfl | (simp; rfl)) (fun h1 => ?_) (fun h1 => ?_)
  · repeat (first | apply Wp.seq | apply Wp.skip | apply Wp.block | (apply Wp.op0; ((simp [M2.keep]) <;> rfl)) | ((first | apply Wp.op | apply Wp.opN | (apply Wp.opG; exact rfl)); (apply Evt.all; intro; (simp [insL, hto, insU_len, insU_take, over_full]) <;> (try simp (disch := omega) only [wrap_id]) <;> first | exact ⟨rfl, rfl⟩ | exact rfl)) | (apply Wp.opS; exact rfl; decide) | (apply Wp.opS0; exact rfl))
    apply Wp.call
    · exact hmv _
    cases hm : movesF l[to] with
    | false =>
      rw [hu hm]
      repeat (first | apply Wp.seq | apply Wp.skip | apply Wp.block | (apply Wp.op0; ((simp [M2.keep]) <;> rfl)) | ((first | apply Wp.op | apply Wp.opN | (apply Wp.opG; exact rfl)); (apply Evt.all; intro; (simp []) <;> (try simp (disch := omega) only [wrap_id]) <;> first | exact ⟨rfl, rfl⟩ | exact rfl)) | (apply Wp.opS; exact rfl; decide) | (apply Wp.opS0; exact rfl))
      refine Wp.cond (by first | rfl | (simp; rfl)) (fun h2 => ?_) (fun h2 => ?_)
      · repeat (first | apply Wp.seq | apply Wp.skip | apply Wp.block | (apply Wp.op0; ((simp [M2.keep]) <;> rfl)) | ((first | apply Wp.op | apply Wp.opN | (apply Wp.opG; exact rfl)); (apply Evt.all; intro; (simp []) <;> (try simp (disch := omega) only [wrap_id]) <;> first | exact ⟨rfl, rfl⟩ | exact rfl)) | (apply Wp.opS; exact rfl; decide) | (apply Wp.opS0; exact rfl))
        refine Wp.ret ?_
        simp [Res, resU, res1, c_joineryref09_From, refT, rpU]
      · cases h2
    | true =>
      rw [afterR_eq hm] at haf
      repeat (first | apply Wp.seq | apply Wp.skip | apply Wp.block | (apply Wp.op0; ((simp [M2.keep]) <;> rfl)) | ((first | apply Wp.op | apply Wp.opN | (apply Wp.opG; exact rfl)); (apply Evt.all; intro; (simp []) <;> (try simp (disch := omega) only [wrap_id]) <;> first | exact ⟨rfl, rfl⟩ | exact rfl)) | (apply Wp.opS; exact rfl; decide) | (apply Wp.opS0; exact rfl))
      refine Wp.cond (by first | rfl | (simp; rfl)) (fun h2 => ?_) (fun h2 => ?_)
      · cases h2
      repeat (first | apply Wp.seq | apply Wp.skip | apply Wp.block | (apply Wp.op0; ((simp [M2.keep]) <;> rfl)) | ((first | apply Wp.op | apply Wp.opN | (apply Wp.opG; exact rfl)); (apply Evt.all; intro; (simp [wrap_id, insU]) <;> (try simp (disch := omega) only [wrap_id]) <;> first | exact ⟨rfl, rfl⟩ | exact rfl)) | (apply Wp.opS; exact rfl; decide) | (apply Wp.opS0; exact rfl))
      have fin : ∀ b v, (trimO 2 ⟨[(0, .sl p (l.map insU)), (4, .bp 0 0), (5, .bp 1 0), (6, i64 ((i : Int) + 1))], [.box [i64 0, .nils, i64 0], .box [i64 b, refT true (afterF t l[to]), i64 ((steps : Int) + 1)], v]⟩) = ⟨[(0, .sl p (l.map insU)), (4, .bp 0 0), (5, .bp 1 0), (6, i64 ((i : Int) + 1))], [.box [i64 0, .nils, i64 0], .box [i64 b, refT true (afterF t l[to]), i64 ((steps : Int) + 1)]]⟩ := fun b v => by
        simp [trimO, trim, refT]
      rw [hnn]
      refine Wp.cond (by first | rfl | (simp; rfl)) (fun hc => ?_) (fun hc => ?_)
      · have h16 : l[to].op = 16 := by simpa using hc
        rw [if_pos h16]
        repeat (first | apply Wp.seq | apply Wp.skip | apply Wp.block | (apply Wp.op0; ((simp [M2.keep]) <;> rfl)) | ((first | apply Wp.op | apply Wp.opN | (apply Wp.opG; exact rfl)); (apply Evt.all; intro; (simp []) <;> (try simp (disch := omega) only [wrap_id]) <;> first | exact ⟨rfl, rfl⟩ | exact rfl)) | (apply Wp.opS; exact rfl; decide) | (apply Wp.opS0; exact rfl))
        refine Wp.draw (by (simp [c_joineryref09_From_D0, I.need]) <;> rfl) (by (simp [wrap_id, refT, pf42]) <;> rfl) (by (simp [wrap_id, refT, pf42]) <;> rfl) (by (unfold c_joineryref09_From_D0); (repeat (first | ((first | apply Dr.op | apply Dr.opN | (apply Dr.opG; exact rfl)); ((simp [wrap_id, refT, pf42]) <;> rfl); (apply Evt.all; intro; (simp [wrap_id, refT, pf42]) <;> (try simp (disch := omega) only [wrap_id]) <;> first | exact ⟨rfl, rfl⟩ | exact rfl); ((simp [I.need]) <;> rfl)) | ((first | (apply Dr.opS; exact rfl; decide) | (apply Dr.opS0; exact rfl)); ((simp [I.need]) <;> rfl)) | (apply Dr.call; ((simp [wrap_id, refT, pf42]) <;> rfl); exact haf _) | (apply Dr.callG; (exact rfl); ((simp [wrap_id, refT, pf42]) <;> rfl); exact haf _))); exact Dr.nil) (by first | decide +kernel | exact rfl) (by (simp [M2.keep]) <;> rfl) ?_
        repeat (first | apply Wp.seq | apply Wp.skip | apply Wp.block | (apply Wp.op0; ((simp [M2.keep]) <;> rfl)) | ((first | apply Wp.op | apply Wp.opN | (apply Wp.opG; exact rfl)); (apply Evt.all; intro; (simp [wrap_id]) <;> (try simp (disch := omega) only [wrap_id]) <;> first | exact ⟨rfl, rfl⟩ | exact rfl)) | (apply Wp.opS; exact rfl; decide) | (apply Wp.opS0; exact rfl))
        exact ⟨rfl, fin _ _⟩
      · have h16 : ¬ l[to].op = 16 := by simpa using hc
        rw [if_neg h16]
        repeat (first | apply Wp.seq | apply Wp.skip | apply Wp.block | (apply Wp.op0; ((simp [M2.keep]) <;> rfl)) | ((first | apply Wp.op | apply Wp.opN | (apply Wp.opG; exact rfl)); (apply Evt.all; intro; (simp []) <;> (try simp (disch := omega) only [wrap_id]) <;> first | exact ⟨rfl, rfl⟩ | exact rfl)) | (apply Wp.opS; exact rfl; decide) | (apply Wp.opS0; exact rfl))
        refine Wp.draw (by (simp [c_joineryref09_From_D0, I.need]) <;> rfl) (by (simp [wrap_id, refT, pf42]) <;> rfl) (by (simp [wrap_id, refT, pf42]) <;> rfl) (by (unfold c_joineryref09_From_D0); (repeat (first | ((first | apply Dr.op | apply Dr.opN | (apply Dr.opG; exact rfl)); ((simp [wrap_id, refT, pf42]) <;> rfl); (apply Evt.all; intro; (simp [wrap_id, refT, pf42]) <;> (try simp (disch := omega) only [wrap_id]) <;> first | exact ⟨rfl, rfl⟩ | exact rfl); ((simp [I.need]) <;> rfl)) | ((first | (apply Dr.opS; exact rfl; decide) | (apply Dr.opS0; exact rfl)); ((simp [I.need]) <;> rfl)) | (apply Dr.call; ((simp [wrap_id, refT, pf42]) <;> rfl); exact haf _) | (apply Dr.callG; (exact rfl); ((simp [wrap_id, refT, pf42]) <;> rfl); exact haf _))); exact Dr.nil) (by first | decide +kernel | exact rfl) (by (simp [M2.keep]) <;> rfl) ?_
        repeat (first | apply Wp.seq | apply Wp.skip | apply Wp.block | (apply Wp.op0; ((simp [M2.keep]) <;> rfl)) | ((first | apply Wp.op | apply Wp.opN | (apply Wp.opG; exact rfl)); (apply Evt.all; intro; (simp [wrap_id]) <;> (try simp (disch := omega) only [wrap_id]) <;> first | exact ⟨rfl, rfl⟩ | exact rfl)) | (apply Wp.opS; exact rfl; decide) | (apply Wp.opS0; exact rfl))
        exact ⟨rfl, fin _ _⟩
  · cases h1
end Go.Proofs.YtapibckmdpdljaaDoor.M2

/- What the functions answer in M2. Part 18: the document's path. -/
namespace Go.Proofs.YtapibckmdpdljaaDoor.M2
open Go
attribute [local simp] ev1 M2.get put A.ev ld sub part elems bin arith un opt idx fillC cellsO splice over newOb sto fillR laidOwn appTo appRow touch touchN touchM touchE touchA plainU flatU plainAs allM rowAt stoRow accM_nil accM_cons accMM_nil accMM_cons frz_int frz_bool frz_str frz_slt frz_nils frz_nilI frz_nilF frz_own frzRow_row frzRow_frow Ob.blw blw_bool blw_int blw_str blw_nils blw_nilI blw_nilF blw_nilp blw_nilm blw_sl blw_own blw_bp blw_rp blw_mp blw_it params
attribute [local simp] frz_agg frz_tup frz_iface frzS_agg frzS_iface accMS_cons frzS_int frzS_bool frzS_str frzS_slt frzS_nils frzS_nilI beq_dec bne_dec

theorem rf_out (p : Bool) (l : List Ins) (i : Nat) (hi : l.length < i) (s : RP) : Wp T c_joineryref09_From_L1 (rfS p l i s) (fun _ => False) (fun _ => False) (fun b s' => b = 0 ∧ s' = ⟨[(0, insL p l), (4, .bp 0 0), (5, .bp 1 0), (6, i64 i), (15, .bool false)], [.box [i64 0, .nils, i64 0], .box (rpU s)]⟩) := by
  have hii : ¬ (i : Int) ≤ l.length := by omega
  have hii2 : ¬ i ≤ l.length := by omega
  simp only [rfS]
  repeat (first | apply Wp.seq | apply Wp.skip | apply Wp.block | (apply Wp.op0; ((simp [M2.keep]) <;> rfl)) | ((first | apply Wp.op | apply Wp.opN | (apply Wp.opG; exact rfl)); (apply Evt.all; intro; (simp [insL, hii, hii2]) <;> (try simp (disch := omega) only [wrap_id]) <;> first | exact ⟨rfl, rfl⟩ | exact rfl)) | (apply Wp.opS; exact rfl; decide) | (apply Wp.opS0; exact rfl))
  refine Wp.cond (by first | rfl | (simp; rfl)) (fun h1 => ?_) (fun h1 => ?_)
  · cases h1
  · exact Wp.exit ⟨rfl, rfl⟩
structure RInv (l : List Ins) (i : Nat) (s : RP) : Prop where
  le : i ≤ l.length + 1
  to : s.to < l.length
  steps : s.steps ≤ i
  t : s.t.length = 24
theorem rf_loop (p : Bool) (l : List Ins) (hr : rightF l = true) (a : Nat) (ha : a < l.length) :
    Wp T (.loop c_joineryref09_From_L1) (rfS p l (0 : Nat) ⟨a, newT, 0⟩) (fun _ => False) (Res c_joineryref09_From (refAns l a)) (fun b s' => b = 0 ∧ ∃ s : RP, s' = ⟨[(0, insL p l), (4, .bp 0 0), (5, .bp 1 0), (6, i64 (l.length + 1 : Nat)), (15, .bool false)], [.box [i64 0, .nils, i64 0], .box (rpU s)]⟩ ∧ refRun l (l.length + 1) ⟨a, newT, 0⟩ = none) := by
  refine Wp.loop (fun x : Nat × RP => l.length + 1 - x.1) (fun x => rfS p l x.1 x.2) (fun x => RInv l x.1 x.2 ∧ refRun l (l.length + 1 - x.1) x.2 = refRun l (l.length + 1) ⟨a, newT, 0⟩) (fun x ⟨hx, hrun⟩ => ?_) (0, ⟨a, newT, 0⟩) ⟨⟨by simp, ha, Nat.le_refl _, rfl⟩, rfl⟩
  obtain ⟨i, s⟩ := x
  have hi := hx.le
  simp only at hi hrun ⊢
  by_cases h : i = l.length + 1
  · subst h
    refine (rf_out p l _ (by omega) s).imp (fun _ h => h.elim) (fun _ h => h.elim) ?_
    rintro b s' ⟨rfl, rfl⟩
    refine ⟨rfl, s, rfl, ?_⟩
    rw [← hrun, Nat.sub_self]
    rfl
  · have hle : i ≤ l.length := by omega
    have hn : l.length + 1 - i = (l.length - i) + 1 := by omega
    rw [hn, refRun] at hrun
    refine (rf_step p l hr i hle s hx.to hx.steps hx.t (refAns l a) (fun hm => ?_)).imp (fun s' h => ?_) (fun _ h => h) (fun _ _ h => h.elim)
    · rw [hm, if_neg (by simp)] at hrun
      unfold refAns
      rw [← hrun]
    · obtain ⟨hm, htr⟩ := h
      rw [hm, if_pos rfl] at hrun
      refine ⟨(i + 1, refStep l s), htr, by simp only; omega, ⟨by simp only; omega, (nextTo_ok hr hx.to hm).1, ?_, ?_⟩, ?_⟩
      · have := hx.steps
        simp only [refStep] at this ⊢; omega
      · exact afterF_len hx.t _
      · rw [← hrun, show l.length + 1 - (i + 1) = l.length - i by omega]
theorem reffrom_call (p : Bool) (l : List Ins) (hr : rightF l = true) (a : Nat) (ha : a < l.length) (st : List Ob) : Cl T 16 [insL p l, i64 a] st (refAns l a) st := by
  refine Wp.pure (fn := c_joineryref09_From) rfl rfl rfl («as» := [insL p l, i64 a]) rfl ?_
  repeat (first | apply Wp.seq | apply Wp.skip | apply Wp.block | (apply Wp.op0; ((simp [M2.keep]) <;> rfl)) | ((first | apply Wp.op | apply Wp.opN | (apply Wp.opG; exact rfl)); (apply Evt.all; intro; (simp []) <;> (try simp (disch := omega) only [wrap_id]) <;> first | exact ⟨rfl, rfl⟩ | exact rfl)) | (apply Wp.opS; exact rfl; decide) | (apply Wp.opS0; exact rfl))
  apply Wp.call
  · exact new5_call _
  repeat (first | apply Wp.seq | apply Wp.skip | apply Wp.block | (apply Wp.op0; ((simp [M2.keep]) <;> rfl)) | ((first | apply Wp.op | apply Wp.opN | (apply Wp.opG; exact rfl)); (apply Evt.all; intro; (simp [refT]) <;> (try simp (disch := omega) only [wrap_id]) <;> first | exact ⟨rfl, rfl⟩ | exact rfl)) | (apply Wp.opS; exact rfl; decide) | (apply Wp.opS0; exact rfl))
  refine (show Wp T (.loop c_joineryref09_From_L1) (rfS p l (0 : Nat) ⟨a, newT, 0⟩) _ _ _ from (rf_loop p l hr a ha).imp (fun _ h => h.elim) (fun _ h => h) ?_)
  rintro b s ⟨rfl, s, rfl, hn⟩
  rw [if_pos rfl]
  unfold refAns
  rw [hn]
  repeat (first | apply Wp.seq | apply Wp.skip | apply Wp.block | (apply Wp.op0; ((simp [M2.keep]) <;> rfl)) | ((first | apply Wp.op | apply Wp.opN | (apply Wp.opG; exact rfl)); (apply Evt.all; intro; (simp []) <;> (try simp (disch := omega) only [wrap_id]) <;> first | exact ⟨rfl, rfl⟩ | exact rfl)) | (apply Wp.opS; exact rfl; decide) | (apply Wp.opS0; exact rfl))
  apply Wp.call
  · exact new5_call _
  repeat (first | apply Wp.seq | apply Wp.skip | apply Wp.block | (apply Wp.op0; ((simp [M2.keep]) <;> rfl)) | ((first | apply Wp.op | apply Wp.opN | (apply Wp.opG; exact rfl)); (apply Evt.all; intro; (simp [refT]) <;> (try simp (disch := omega) only [wrap_id]) <;> first | exact ⟨rfl, rfl⟩ | exact rfl)) | (apply Wp.opS; exact rfl; decide) | (apply Wp.opS0; exact rfl))
  refine Wp.ret ?_
  simp [Res, resU, res1, c_joineryref09_From, refT]
theorem knows_call (st : List Ob) : Cl T 13 [] st (.bool true) st := Cl.at (n := 100) (by kernel_rfl) rfl st
end Go.Proofs.YtapibckmdpdljaaDoor.M2

/- What the functions answer in M2. Part 19: one table behind another. -/
namespace Go.Proofs.YtapibckmdpdljaaDoor.M2
open Go
attribute [local simp] ev1 M2.get put A.ev ld sub part elems bin arith un opt idx fillC cellsO splice over newOb sto fillR laidOwn appTo appRow touch touchN touchM touchE touchA plainU flatU plainAs allM rowAt stoRow accM_nil accM_cons accMM_nil accMM_cons frz_int frz_bool frz_str frz_slt frz_nils frz_nilI frz_nilF frz_own frzRow_row frzRow_frow Ob.blw blw_bool blw_int blw_str blw_nils blw_nilI blw_nilF blw_nilp blw_nilm blw_sl blw_own blw_bp blw_rp blw_mp blw_it params
attribute [local simp] frz_agg frz_tup frz_iface frzS_agg frzS_iface accMS_cons frzS_int frzS_bool frzS_str frzS_slt frzS_nils frzS_nilI beq_dec bne_dec

theorem pf43 : pfT T 43 = true := rfl
def thenS (a : List Src) : Src → Src
  | .was l => a.getD l.toNat .no
  | s => s
def thenF (a b : List Src) : List Src := (goodF b).map (thenS (goodF a))
theorem goodF_may {t : List Src} : (goodF t).all mayF = true := by
  unfold goodF
  split
  · assumption
  · exact newT_good
theorem plain_tab (t : List Src) : plainU (.agg (tabU t)) = true := by
  show (tabU t).all (flatU 5) = true
  rw [List.all_eq_true]
  intro u hu
  obtain ⟨s, _, rfl⟩ := List.mem_map.1 hu
  cases s <;> rfl
def midT (a b : List Src) (i : Nat) : List Src := (b.map (thenS a)).take i ++ b.drop i
theorem midT_len {a b : List Src} {i : Nat} (hi : i ≤ b.length) : (midT a b i).length = b.length := by simp [midT]; omega
theorem midT_set {a b : List Src} {i : Nat} (hi : i < b.length) : (midT a b i).set i (thenS a b[i]) = midT a b (i + 1) := by
  have h1 : ((b.map (thenS a)).take i).length = i := by simp; omega
  unfold midT
  rw [List.drop_eq_getElem_cons hi, List.set_append_right _ _ (by omega), h1, Nat.sub_self, List.set_cons_zero, List.take_succ_eq_append_getElem (by simpa using hi)]
  simp
theorem midT_get {a b : List Src} {i : Nat} (hi : i < b.length) : (midT a b i)[i]? = some b[i] := by
  have h1 : ((b.map (thenS a)).take i).length = i := by simp; omega
  unfold midT
  rw [List.getElem?_append_right (by omega), h1, Nat.sub_self, List.drop_eq_getElem_cons hi]
  rfl
theorem midT_stay {a b : List Src} {i : Nat} (hi : i < b.length) (h : thenS a b[i] = b[i]) : midT a b (i + 1) = midT a b i := by
  rw [← midT_set hi, h]
  have h2 := midT_get (a := a) hi
  apply List.ext_getElem?
  intro j
  by_cases hj : i = j
  · subst hj
    rw [List.getElem?_set_self (by rw [midT_len (by omega)]; exact hi), h2]
  · rw [List.getElem?_set_ne hj]
abbrev nil24 : List U := [.nilI, .nilI, .nilI, .nilI, .nilI, .nilI, .nilI, .nilI, .nilI, .nilI, .nilI, .nilI, .nilI, .nilI, .nilI, .nilI, .nilI, .nilI, .nilI, .nilI, .nilI, .nilI, .nilI, .nilI]
def thS (a b : List Src) (i : Nat) : S := ⟨[(2, .bp 0 0), (4, .bp 2 0), (5, .bp 3 0), (14, .agg (tabU b)), (15, i64 i)], [.box (tabU a), .box (tabU b), .box nil24, .box (tabU (midT a b i))]⟩
theorem blw_tab (L : Nat) (t : List Src) : blw blwD L (.agg (tabU t)) = true := by
  show (tabU t).all (blw 11 L) = true
  rw [List.all_eq_true]
  intro u hu
  obtain ⟨s, _, rfl⟩ := List.mem_map.1 hu
  cases s <;> rfl
theorem box_tab (L : Nat) (t : List Src) : Ob.blw L (.box (tabU t)) = true := by
  show (tabU t).all (blw blwD L) = true
  rw [List.all_eq_true]
  exact fun u hu => tab_blw L t u hu
theorem th_fin (a b c : List Src) (i : Int) (v : Ob) : trimO 4 ⟨[(2, .bp 0 0), (4, .bp 2 0), (5, .bp 3 0), (14, .agg (tabU b)), (15, i64 i)], [.box (tabU a), .box (tabU b), .box nil24, .box (tabU c), v]⟩ = ⟨[(2, .bp 0 0), (4, .bp 2 0), (5, .bp 3 0), (14, .agg (tabU b)), (15, i64 i)], [.box (tabU a), .box (tabU b), .box nil24, .box (tabU c)]⟩ :=
  trim_back (st := [.box (tabU a), .box (tabU b), .box nil24, .box (tabU c)]) (b := v) (e := [(2, .bp 0 0), (4, .bp 2 0), (5, .bp 3 0), (14, .agg (tabU b)), (15, i64 i)])
    (show (true && (true && (true && (blw blwD 4 (.agg (tabU b)) && (true && true))))) = true by rw [blw_tab]; rfl)
    (show (Ob.blw 4 (.box (tabU a)) && (Ob.blw 4 (.box (tabU b)) && (true && (Ob.blw 4 (.box (tabU c)) && true)))) = true by rw [box_tab, box_tab, box_tab]; rfl)
theorem th_fin0 (a b c : List Src) (i : Int) : trimO 4 ⟨[(2, .bp 0 0), (4, .bp 2 0), (5, .bp 3 0), (14, .agg (tabU b)), (15, i64 i)], [.box (tabU a), .box (tabU b), .box nil24, .box (tabU c)]⟩ = ⟨[(2, .bp 0 0), (4, .bp 2 0), (5, .bp 3 0), (14, .agg (tabU b)), (15, i64 i)], [.box (tabU a), .box (tabU b), .box nil24, .box (tabU c)]⟩ := trimO_len rfl
set_option maxHeartbeats 4000000 in
theorem then_loop (a b : List Src) (ha : a.length = 24) (hb : b.length = 24) (hm : b.all mayF = true) :
    Wp T (.loop c_env_Then_L1) (thS a b (0 : Nat)) (fun _ => False) (fun _ => False) (fun k s' => k = 0 ∧ s' = ⟨[(2, .bp 0 0), (4, .bp 2 0), (5, .bp 3 0), (14, .agg (tabU b)), (15, i64 (24 : Nat)), (16, .bool false)], [.box (tabU a), .box (tabU b), .box nil24, .box (tabU (b.map (thenS a)))]⟩) := by
  refine Wp.count 24 (fun i => thS a b i) (fun _ => True) (fun i hi _ => ?_) (fun _ => ?_) 0 (by omega) trivial
  · have hit : i < b.length := by omega
    have hi' : (i : Int) < 24 := by omega
    have hi2 : i + 1 ≤ 24 := by omega
    have hsub : M2.sub (tabU b) i 1 = some [srcU b[i]] := tab_sub hit
    have hml : (midT a b i).length = 24 := by rw [midT_len (by omega)]; exact hb
    have hst := midT_stay (a := a) hit
    have hset := midT_set (a := a) hit
    have hmay : mayF b[i] = true := List.all_eq_true.1 hm _ (List.getElem_mem hit)
    simp only [thS]
    repeat (first | apply Wp.seq | apply Wp.skip | apply Wp.block | (apply Wp.op0; ((simp [M2.keep]) <;> rfl)) | ((first | apply Wp.op | apply Wp.opN | (apply Wp.opG; exact rfl)); (apply Evt.all; intro; (simp [hi']) <;> (try simp (disch := omega) only [wrap_id]) <;> first | exact ⟨rfl, rfl⟩ | exact rfl)) | (apply Wp.opS; exact rfl; decide) | (apply Wp.opS0; exact rfl))
    refine Wp.cond (by first | rfl | (simp; rfl)) (fun h1 => ?_) (fun h1 => ?_)
    · cases hbi : b[i] with
      | was L =>
        rw [hbi] at hsub hset hmay
        simp only [mayF, locF, Bool.and_eq_true, decide_eq_true_eq] at hmay
        obtain ⟨L, rfl⟩ := Int.eq_ofNat_of_zero_le hmay.1
        have hL : L < a.length := by omega
        have hL' : (L : Int) < 24 := hmay.2
        have hL2 : L + 1 ≤ 24 := by omega
        have hse : thenS a (.was (L : Int)) = a[L] := by simp [thenS, hL]
        rw [hse] at hset
        have ta := tabU_sub hL
        have hsp := tab_splice (t := midT a b i) (n := i) (by omega) a[L]
        rw [hset] at hsp
        repeat (first | apply Wp.seq | apply Wp.skip | apply Wp.block | (apply Wp.op0; ((simp [M2.keep]) <;> rfl)) | ((first | apply Wp.op | apply Wp.opN | (apply Wp.opG; exact rfl)); (apply Evt.all; intro; (simp [-sub, hsub, hi', srcU]) <;> (try simp (disch := omega) only [wrap_id]) <;> first | exact ⟨rfl, rfl⟩ | exact rfl)) | (apply Wp.opS; exact rfl; decide) | (apply Wp.opS0; exact rfl))
        refine Wp.cond (by first | rfl | (simp; rfl)) (fun h2 => ?_) (fun h2 => ?_)
        · repeat (first | apply Wp.seq | apply Wp.skip | apply Wp.block | (apply Wp.op0; ((simp [M2.keep]) <;> rfl)) | ((first | apply Wp.op | apply Wp.opN | (apply Wp.opG; exact rfl)); (apply Evt.all; intro; (simp [hL', hi', hL2, hi2, tabU_len, ha, hb, hml, ta, hsp, src_one, -cellsO, wrap_id]) <;> (try simp (disch := omega) only [wrap_id]) <;> first | exact ⟨rfl, rfl⟩ | exact rfl)) | (apply Wp.opS; exact rfl; decide) | (apply Wp.opS0; exact rfl))
          exact ⟨th_fin _ _ _ _ _, trivial⟩
        · cases h2
      | is n =>
        rw [hbi] at hsub hst
        repeat (first | apply Wp.seq | apply Wp.skip | apply Wp.block | (apply Wp.op0; ((simp [M2.keep]) <;> rfl)) | ((first | apply Wp.op | apply Wp.opN | (apply Wp.opG; exact rfl)); (apply Evt.all; intro; (simp [-sub, hsub, hi', srcU]) <;> (try simp (disch := omega) only [wrap_id]) <;> first | exact ⟨rfl, rfl⟩ | exact rfl)) | (apply Wp.opS; exact rfl; decide) | (apply Wp.opS0; exact rfl))
        refine Wp.cond (by first | rfl | (simp; rfl)) (fun h2 => ?_) (fun h2 => ?_)
        · cases h2
        · repeat (first | apply Wp.seq | apply Wp.skip | apply Wp.block | (apply Wp.op0; ((simp [M2.keep]) <;> rfl)) | ((first | apply Wp.op | apply Wp.opN | (apply Wp.opG; exact rfl)); (apply Evt.all; intro; (simp [wrap_id]) <;> (try simp (disch := omega) only [wrap_id]) <;> first | exact ⟨rfl, rfl⟩ | exact rfl)) | (apply Wp.opS; exact rfl; decide) | (apply Wp.opS0; exact rfl))
          rw [hst rfl]
          exact ⟨th_fin0 _ _ _ _, trivial⟩
      | no => rw [hbi] at hmay; cases hmay
    · cases h1
  · simp only [thS]
    repeat (first | apply Wp.seq | apply Wp.skip | apply Wp.block | (apply Wp.op0; ((simp [M2.keep]) <;> rfl)) | ((first | apply Wp.op | apply Wp.opN | (apply Wp.opG; exact rfl)); (apply Evt.all; intro; (simp []) <;> (try simp (disch := omega) only [wrap_id]) <;> first | exact ⟨rfl, rfl⟩ | exact rfl)) | (apply Wp.opS; exact rfl; decide) | (apply Wp.opS0; exact rfl))
    refine Wp.cond (by first | rfl | (simp; rfl)) (fun h1 => ?_) (fun h1 => ?_)
    · cases h1
    · refine Wp.exit ⟨rfl, ?_⟩
      have : midT a b 24 = b.map (thenS a) := by
        unfold midT
        rw [List.take_of_length_le (by simp [hb]), List.drop_eq_nil_of_le (by omega), List.append_nil]
      rw [this]
      rfl
set_option maxHeartbeats 4000000 in
theorem then_call (a b : List Src) (ha : a.length = 24) (hb : b.length = 24) (st : List Ob) : Cl T 21 [.agg (tabU a), .agg (tabU b)] st (.agg (tabU (thenF a b))) st := by
  refine Wp.pure (fn := c_env_Then) rfl rfl rfl («as» := [.agg (tabU a), .agg (tabU b)]) (by simp [brw_tab]) ?_
  unfold thenF
  have ga := good_call a ha
  have gb := good_call b hb
  have la := goodF_len ha
  have lb := goodF_len hb
  have hm := goodF_may (t := b)
  have ta := tab24 la
  have tb := tab24 lb
  have t1 := tab24 ha
  have t2 := tab24 hb
  generalize goodF a = a' at *
  generalize goodF b = b' at *
  repeat (first | apply Wp.seq | apply Wp.skip | apply Wp.block | (apply Wp.op0; ((simp [M2.keep]) <;> rfl)) | ((first | apply Wp.op | apply Wp.opN | (apply Wp.opG; exact rfl)); (apply Evt.all; intro; (simp []) <;> (try simp (disch := omega) only [wrap_id]) <;> first | exact ⟨rfl, rfl⟩ | exact rfl)) | (apply Wp.opS; exact rfl; decide) | (apply Wp.opS0; exact rfl))
  refine Wp.draw (by (simp [c_env_Then_D0, I.need]) <;> rfl) (by (simp [tabU_len, ha, hb, la, lb, ta, tb, t1, t2, over_full, pf43, -plainU, plain_tab]) <;> rfl) (by (simp [tabU_len, ha, hb, la, lb, ta, tb, t1, t2, over_full, pf43, -plainU, plain_tab]) <;> rfl) (by (unfold c_env_Then_D0); (repeat (first | ((first | apply Dr.op | apply Dr.opN | (apply Dr.opG; exact rfl)); ((simp [tabU_len, ha, hb, la, lb, ta, tb, t1, t2, over_full, pf43, -plainU, plain_tab]) <;> rfl); (apply Evt.all; intro; (simp [tabU_len, ha, hb, la, lb, ta, tb, t1, t2, over_full, pf43, -plainU, plain_tab]) <;> (try simp (disch := omega) only [wrap_id]) <;> first | exact ⟨rfl, rfl⟩ | exact rfl); ((simp [I.need]) <;> rfl)) | ((first | (apply Dr.opS; exact rfl; decide) | (apply Dr.opS0; exact rfl)); ((simp [I.need]) <;> rfl)) | (apply Dr.call; ((simp [tabU_len, ha, hb, la, lb, ta, tb, t1, t2, over_full, pf43, -plainU, plain_tab]) <;> rfl); exact ga _) | (apply Dr.callG; (exact rfl); ((simp [tabU_len, ha, hb, la, lb, ta, tb, t1, t2, over_full, pf43, -plainU, plain_tab]) <;> rfl); exact ga _) | (apply Dr.call; ((simp [tabU_len, ha, hb, la, lb, ta, tb, t1, t2, over_full, pf43, -plainU, plain_tab]) <;> rfl); exact gb _) | (apply Dr.callG; (exact rfl); ((simp [tabU_len, ha, hb, la, lb, ta, tb, t1, t2, over_full, pf43, -plainU, plain_tab]) <;> rfl); exact gb _))); exact Dr.nil) (by first | decide +kernel | exact rfl) (by (simp [M2.keep]) <;> rfl) ?_
  repeat (first | apply Wp.seq | apply Wp.skip | apply Wp.block | (apply Wp.op0; ((simp [M2.keep]) <;> rfl)) | ((first | apply Wp.op | apply Wp.opN | (apply Wp.opG; exact rfl)); (apply Evt.all; intro; (simp [tabU_len, la, lb, ta, tb, over_full]) <;> (try simp (disch := omega) only [wrap_id]) <;> first | exact ⟨rfl, rfl⟩ | exact rfl)) | (apply Wp.opS; exact rfl; decide) | (apply Wp.opS0; exact rfl))
  refine (show Wp T (.loop c_env_Then_L1) (thS a' b' (0 : Nat)) _ _ _ from (then_loop a' b' la lb hm).imp (fun _ h => h.elim) (fun _ h => h.elim) ?_)
  rintro k s ⟨rfl, rfl⟩
  rw [if_pos rfl]
  have lm : (b'.map (thenS a')).length = 24 := by simp [lb]
  have tm := tab24 lm
  repeat (first | apply Wp.seq | apply Wp.skip | apply Wp.block | (apply Wp.op0; ((simp [M2.keep]) <;> rfl)) | ((first | apply Wp.op | apply Wp.opN | (apply Wp.opG; exact rfl)); (apply Evt.all; intro; (simp [tabU_len, lm, tm, over_full]) <;> (try simp (disch := omega) only [wrap_id]) <;> first | exact ⟨rfl, rfl⟩ | exact rfl)) | (apply Wp.opS; exact rfl; decide) | (apply Wp.opS0; exact rfl))
  refine Wp.ret ?_
  simp [Res, resU, res1, c_env_Then, tabU_len, lm, tm, acc_tab]
end Go.Proofs.YtapibckmdpdljaaDoor.M2

/- Plain: the program's path is the document's. -/
namespace Go.Proofs.YtapibckmdpdljaaDoor.M2
open Go

theorem refRun_none {l : List Ins} {P : Nat → Prop} (h : ∀ j, P j → movesF (l.getD j default) = true ∧ P (nextTo (l.getD j default) j)) : ∀ (n : Nat) (s : RP), P s.to → refRun l n s = none
  | 0, _, _ => rfl
  | n + 1, s, hs => by
    rw [refRun, (h _ hs).1, if_pos rfl]
    exact refRun_none h n _ (h _ hs).2
structure CInv (l : List Ins) (a : Nat) (s : PS) : Prop where
  base : PInv l s
  cl : ∀ j, s.met.getD j false = true → j < l.length ∧ movesF (l.getD j default) = true ∧ (nextTo (l.getD j default) j = s.to ∨ s.met.getD (nextTo (l.getD j default) j) false = true)
  st : s.met.getD a false = true ∨ s.to = a
  run : refRun l (l.length + 1) ⟨a, newT, 0⟩ = refRun l (l.length + 1 - s.steps) ⟨s.to, s.t, s.steps⟩
theorem frees_app (a b : List Bool) : frees (a ++ b) = frees a + frees b := by simp [frees]
theorem frees_all {m : List Bool} (h : ∀ b ∈ m, b = false) : frees m = m.length := by
  unfold frees
  rw [List.filter_eq_self.2]
  intro b hb
  rw [h b hb]
  rfl
theorem steps_le {l : List Ins} {a : Nat} {s : PS} (h : CInv l a s) (h200 : l.length ≤ 200) : s.steps ≤ l.length := by
  have h1 : frees s.met = frees (s.met.take l.length) + frees (s.met.drop l.length) := by rw [← frees_app, List.take_append_drop]
  have h2 : frees (s.met.drop l.length) = (s.met.drop l.length).length := frees_all (fun b hb => by
    obtain ⟨j, hj, rfl⟩ := List.mem_iff_getElem.1 hb
    rw [List.getElem_drop]
    rw [List.length_drop] at hj
    cases hb : s.met[l.length + j] with
    | false => rfl
    | true =>
      have := (h.cl (l.length + j) (by rw [List.getD_eq_getElem?_getD, List.getElem?_eq_getElem (by omega), Option.getD_some, hb])).1
      omega)
  rw [List.length_drop] at h2
  have := h.base.steps
  have := h.base.met
  omega
theorem follow_cinv {l : List Ins} (hr : rightF l = true) {a : Nat} {s : PS} (h : CInv l a s) (hf : followsF l s = true) : CInv l a (followF l s) := by
  have h200 := (right_facts hr).1
  have hle := steps_le h h200
  have hb := (follow_inv hr h.base hf).1
  unfold followsF at hf
  simp only [Bool.and_eq_true, Bool.not_eq_true'] at hf
  have hmt : s.to < s.met.length := by have := h.base.to; have := h.base.met; omega
  have get : ∀ j, (s.met.set s.to true).getD j false = (decide (s.to = j) || s.met.getD j false) := fun j => by
    simp only [List.getD_eq_getElem?_getD, List.getElem?_set]
    by_cases e : s.to = j
    · subst e; simp [hmt]
    · simp [e]
  refine ⟨hb, fun j hj => ?_, ?_, ?_⟩
  · simp only [followF] at hj ⊢
    rw [get] at hj
    by_cases e : s.to = j
    · subst e
      exact ⟨h.base.to, hf.1, .inl rfl⟩
    · simp only [e, decide_false, Bool.false_or] at hj
      obtain ⟨h1, h2, h3⟩ := h.cl j hj
      refine ⟨h1, h2, .inr ?_⟩
      rw [get]
      rcases h3 with h3 | h3
      · rw [h3, decide_eq_true rfl, Bool.true_or]
      · rw [h3, Bool.or_true]
  · left
    simp only [followF]
    rw [get]
    rcases h.st with h1 | h1
    · rw [h1, Bool.or_true]
    · simp [h1]
  · rw [h.run]
    have : l.length + 1 - s.steps = (l.length - s.steps) + 1 := by omega
    rw [this, refRun, hf.1, if_pos rfl]
    simp only [followF, refStep]
    rw [show l.length + 1 - (s.steps + 1) = l.length - s.steps by omega]
theorem pathRun_end {l : List Ins} (hr : rightF l = true) {a : Nat} : ∀ (n : Nat) (s : PS), CInv l a s → frees s.met < n → CInv l a (pathRun l n s) ∧ followsF l (pathRun l n s) = false
  | 0, _, _, h => absurd h (by omega)
  | n + 1, s, h, hn => by
    rw [pathRun]
    cases hf : followsF l s with
    | false => rw [if_neg (by simp)]; exact ⟨h, hf⟩
    | true =>
      rw [if_pos rfl]
      exact pathRun_end hr n _ (follow_cinv hr h hf) (by have := (follow_inv hr h.base hf).2; omega)
theorem start_cinv {l : List Ins} {a : Nat} (ha : a < l.length) : CInv l a (ps0 a) := by
  refine ⟨⟨ha, rfl, List.length_replicate, by
    show 0 + ((List.replicate 200 false).filter (!·)).length = 200
    rw [List.filter_replicate_of_pos rfl, List.length_replicate]⟩, fun j hj => ?_, .inr rfl, rfl⟩
  have : (ps0 a).met.getD j false = false := by
    show (List.replicate 200 false).getD j false = false
    rw [List.getD_eq_getElem?_getD, List.getElem?_replicate]
    split <;> rfl
  rw [this] at hj
  cases hj
theorem path_end {l : List Ins} (hr : rightF l = true) {a : Nat} (ha : a < l.length) : CInv l a (pathRun l 201 (ps0 a)) ∧ followsF l (pathRun l 201 (ps0 a)) = false :=
  pathRun_end hr 201 _ (start_cinv ha) (by
    have := (start_cinv (l := l) ha).base.steps
    omega)
/-- The program's path is the document's. -/
theorem from_ref {l : List Ins} (hr : rightF l = true) {a : Nat} (ha : a < l.length) :
    refRun l (l.length + 1) ⟨a, newT, 0⟩ = if (pathRun l 201 (ps0 a)).met.getD (pathRun l 201 (ps0 a)).to false then none else some ⟨(pathRun l 201 (ps0 a)).to, (pathRun l 201 (ps0 a)).t, (pathRun l 201 (ps0 a)).steps⟩ := by
  obtain ⟨h, hf⟩ := path_end hr ha
  generalize pathRun l 201 (ps0 a) = s at *
  cases hm : s.met.getD s.to false with
  | true =>
    rw [if_pos rfl]
    refine refRun_none (P := fun j => s.met.getD j false = true) (fun j hj => ?_) _ _ ?_
    · obtain ⟨_, h2, h3⟩ := h.cl j hj
      exact ⟨h2, h3.elim (fun h3 => by rw [h3]; exact hm) (fun h3 => h3)⟩
    · rcases h.st with h1 | h1
      · exact h1
      · rw [h1] at hm; exact hm
  | false =>
    rw [if_neg (by simp), h.run]
    have hle := steps_le h (right_facts hr).1
    have hmv : movesF (l.getD s.to default) = false := by
      unfold followsF at hf
      rw [hm] at hf
      simpa using hf
    rw [show l.length + 1 - s.steps = (l.length - s.steps) + 1 by omega, refRun, hmv, if_neg (by simp)]
end Go.Proofs.YtapibckmdpdljaaDoor.M2

/- Plain: a path by its places. -/
namespace Go.Proofs.YtapibckmdpdljaaDoor.M2
open Go

/-- Where a path leads, and its steps. -/
def pr (l : List Ins) : Nat → Nat → Option (Nat × Nat)
  | 0, _ => none
  | n + 1, a => if movesF (l.getD a default) then (pr l n (nextTo (l.getD a default) a)).map (fun r => (r.1, r.2 + 1)) else some (a, 0)
theorem refRun_pr (l : List Ins) : ∀ (n : Nat) (s : RP), (refRun l n s).map (fun x => (x.to, x.steps)) = (pr l n s.to).map fun r => (r.1, s.steps + r.2)
  | 0, _ => rfl
  | n + 1, s => by
    rw [refRun, pr]
    split
    · rw [refRun_pr l n, Option.map_map]
      simp only [refStep]
      congr 1
      funext r
      simp only [Function.comp]
      rw [show s.steps + 1 + r.2 = s.steps + (r.2 + 1) by omega]
    · simp
theorem pr_lt {l : List Ins} : ∀ {n a : Nat} {r : Nat × Nat}, pr l n a = some r → r.2 < n
  | 0, _, _, h => by cases h
  | n + 1, a, r, h => by
    rw [pr] at h
    split at h
    · obtain ⟨q, hq, rfl⟩ := Option.map_eq_some_iff.1 h
      have := pr_lt hq
      simp only
      omega
    · simp only [Option.some.injEq] at h
      subst h
      simp
theorem pr_mono {l : List Ins} : ∀ {n m a : Nat} {r : Nat × Nat}, pr l n a = some r → r.2 < m → pr l m a = some r
  | 0, _, _, _, h, _ => by cases h
  | n + 1, 0, a, r, h, hm => by omega
  | n + 1, m + 1, a, r, h, hm => by
    rw [pr] at h ⊢
    split at h
    · rename_i hmv
      rw [if_pos hmv]
      obtain ⟨q, hq, rfl⟩ := Option.map_eq_some_iff.1 h
      rw [pr_mono hq (by simp only at hm; omega)]
      rfl
    · rename_i hmv
      rw [if_neg hmv]
      exact h
theorem pr_end {l : List Ins} : ∀ {n a : Nat} {r : Nat × Nat}, pr l n a = some r → movesF (l.getD r.1 default) = false
  | 0, _, _, h => by cases h
  | n + 1, a, r, h => by
    rw [pr] at h
    split at h
    · obtain ⟨q, hq, rfl⟩ := Option.map_eq_some_iff.1 h
      have := pr_end hq
      exact this
    · rename_i hmv
      simp only [Option.some.injEq] at h
      subst h
      simpa using hmv
theorem pr_to {l : List Ins} (hr : rightF l = true) : ∀ {n a : Nat} {r : Nat × Nat}, a < l.length → pr l n a = some r → r.1 < l.length
  | 0, _, _, _, h => by cases h
  | n + 1, a, r, ha, h => by
    rw [pr] at h
    split at h
    · rename_i hmv
      obtain ⟨q, hq, rfl⟩ := Option.map_eq_some_iff.1 h
      have := pr_to hr (nextTo_ok hr ha hmv).1 hq
      exact this
    · simp only [Option.some.injEq] at h
      subst h
      exact ha
/-- A path that doesn't end soon never ends. -/
theorem refRun_never {l : List Ins} (hr : rightF l = true) {a : Nat} (ha : a < l.length) (h : refRun l (l.length + 1) ⟨a, newT, 0⟩ = none) (n : Nat) (t : List Src) (k : Nat) : refRun l n ⟨a, t, k⟩ = none := by
  have he := from_ref hr ha
  rw [h] at he
  obtain ⟨hc, hf⟩ := path_end hr ha
  generalize pathRun l 201 (ps0 a) = s at *
  cases hm : s.met.getD s.to false with
  | false => rw [hm] at he; simp at he
  | true =>
    refine refRun_none (P := fun j => s.met.getD j false = true) (fun j hj => ?_) _ _ ?_
    · obtain ⟨_, h2, h3⟩ := hc.cl j hj
      exact ⟨h2, h3.elim (fun h3 => by rw [h3]; exact hm) (fun h3 => h3)⟩
    · rcases hc.st with h1 | h1
      · exact h1
      · rw [h1] at hm; exact hm
theorem pr_never {l : List Ins} (hr : rightF l = true) {a : Nat} (ha : a < l.length) (h : pr l (l.length + 1) a = none) (n : Nat) : pr l n a = none := by
  have h1 := refRun_pr l (l.length + 1) ⟨a, newT, 0⟩
  rw [h] at h1
  simp only [Option.map_none, Option.map_eq_none_iff] at h1
  have h2 := refRun_pr l n ⟨a, newT, 0⟩
  rw [refRun_never hr ha h1 n newT 0] at h2
  simp only [Option.map_none] at h2
  exact Option.map_eq_none_iff.1 h2.symm
/-- What is told of a run of the document. -/
def rpT : Option RP → Int × List Src × Int
  | some s => ((s.to : Int), s.t, (s.steps : Int))
  | none => (-1, newT, 0)
theorem fair_run {l : List Ins} (hr : rightF l = true) {a : Nat} (ha : a < l.length) : fromF l a = (rpT (refRun l (l.length + 1) ⟨a, newT, 0⟩), 0) := by
  have e : fromF l a = ((if (pathRun l 201 (ps0 a)).met.getD (pathRun l 201 (ps0 a)).to false then (-1, newT, 0) else (((pathRun l 201 (ps0 a)).to : Int), (pathRun l 201 (ps0 a)).t, ((pathRun l 201 (ps0 a)).steps : Int))), 0) := by
    unfold fromF
    rw [if_pos (by simp [hr, ha])]
    rfl
  rw [e, from_ref hr ha]
  split <;> rfl
def prI : Option (Nat × Nat) → Int × Int
  | some r => ((r.1 : Int), (r.2 : Int))
  | none => (-1, 0)
theorem refRun_len {l : List Ins} : ∀ (n : Nat) (s s' : RP), s.t.length = 24 → refRun l n s = some s' → s'.t.length = 24
  | 0, _, _, _, h => by cases h
  | n + 1, s, s', ht, h => by
    rw [refRun] at h
    split at h
    · exact refRun_len n _ _ (afterF_len ht _) h
    · simp only [Option.some.injEq] at h
      subst h
      exact ht
theorem fair_pr {l : List Ins} (hr : rightF l = true) {a : Nat} (ha : a < l.length) : ∃ t : List Src, t.length = 24 ∧ fromF l a = (((prI (pr l (l.length + 1) a)).1, t, (prI (pr l (l.length + 1) a)).2), 0) := by
  have h1 := refRun_pr l (l.length + 1) ⟨a, newT, 0⟩
  rw [fair_run hr ha]
  cases h : refRun l (l.length + 1) ⟨a, newT, 0⟩ with
  | none =>
    rw [h] at h1
    simp only [Option.map_none] at h1
    rw [Option.map_eq_none_iff.1 h1.symm]
    exact ⟨newT, rfl, rfl⟩
  | some s =>
    rw [h] at h1
    simp only [Option.map_some] at h1
    obtain ⟨r, hr', he⟩ := Option.map_eq_some_iff.1 h1.symm
    rw [hr']
    simp only [Nat.zero_add, Prod.mk.injEq] at he
    refine ⟨s.t, refRun_len _ _ _ rfl h, ?_⟩
    simp only [rpT, prI, he.1, he.2]
end Go.Proofs.YtapibckmdpdljaaDoor.M2

/- Plain: a path, and the one from its next place. -/
namespace Go.Proofs.YtapibckmdpdljaaDoor.M2
open Go

/-- A table that may be. -/
structure GoodT (t : List Src) : Prop where
  len : t.length = 24
  may : t.all mayF = true
theorem newT_ok : GoodT newT := ⟨rfl, newT_good⟩
theorem GoodT.eq {t : List Src} (h : GoodT t) : goodF t = t := by unfold goodF; rw [if_pos h.may]
theorem GoodT.get {t : List Src} (h : GoodT t) {i : Nat} (hi : i < 24) : mayF (t.getD i .no) = true := by
  rw [List.getD_eq_getElem?_getD, List.getElem?_eq_getElem (by rw [h.len]; exact hi)]
  exact List.all_eq_true.1 h.may _ (List.getElem_mem _)
theorem GoodT.set {t : List Src} (h : GoodT t) (i : Nat) {s : Src} (hs : mayF s = true) : GoodT (t.set i s) := by
  refine ⟨by rw [List.length_set]; exact h.len, ?_⟩
  rw [List.all_eq_true]
  intro x hx
  rcases List.mem_or_eq_of_mem_set hx with hx | rfl
  · exact List.all_eq_true.1 h.may x hx
  · exact hs
theorem loc_lt {x : Int} (h : locF 24 x = true) : x.toNat < 24 := by
  simp only [locF, Bool.and_eq_true, decide_eq_true_eq] at h
  omega
theorem GoodT.after {t : List Src} (h : GoodT t) (x : Ins) : GoodT (afterF t x) := by
  unfold afterF
  rw [h.eq]
  split
  · rename_i hc
    simp only [Bool.and_eq_true] at hc
    have hd := loc_lt hc.1.2
    have ha := loc_lt hc.2
    split
    · exact h.set _ rfl
    · split
      · exact h.set _ (h.get ha)
      · split
        · exact (h.set _ (h.get ha)).set _ (h.get hd)
        · exact h
  · exact h
theorem GoodT.then {a b : List Src} (ha : GoodT a) (hb : GoodT b) : GoodT (b.map (thenS a)) := by
  refine ⟨by rw [List.length_map]; exact hb.len, ?_⟩
  rw [List.all_eq_true]
  intro x hx
  obtain ⟨s, hs, rfl⟩ := List.mem_map.1 hx
  have := List.all_eq_true.1 hb.may s hs
  cases s with
  | was l => exact ha.get (loc_lt this)
  | is n => rfl
  | no => cases this
theorem thenF_eq {a b : List Src} (ha : GoodT a) (hb : GoodT b) : thenF a b = b.map (thenS a) := by unfold thenF; rw [ha.eq, hb.eq]
theorem then_new {a : List Src} (ha : GoodT a) : thenF a newT = a := by
  rw [thenF_eq ha newT_ok]
  apply List.ext_getElem?
  intro i
  simp only [newT, List.map_map, List.getElem?_map]
  by_cases hi : i < 24
  · rw [List.getElem?_range hi]
    simp [thenS, ha.len, hi]
  · rw [List.getElem?_eq_none (by simp; omega), List.getElem?_eq_none (by rw [ha.len]; omega)]
    rfl
theorem map_getD {a t : List Src} {i : Nat} (hi : i < t.length) : (t.map (thenS a)).getD i .no = thenS a (t.getD i .no) := by
  simp [hi]
theorem after_then {a t : List Src} (ha : GoodT a) (ht : GoodT t) (x : Ins) : afterF (thenF a t) x = thenF a (afterF t x) := by
  have h1 := ha.then ht
  rw [thenF_eq ha (ht.after x), thenF_eq ha ht]
  unfold afterF
  rw [h1.eq, ht.eq]
  split
  · rename_i hc
    simp only [Bool.and_eq_true] at hc
    have hd := loc_lt hc.1.2
    have hA := loc_lt hc.2
    have e1 := map_getD (a := a) (t := t) (i := x.a.toNat) (by rw [ht.len]; exact hA)
    have e2 := map_getD (a := a) (t := t) (i := x.d.toNat) (by rw [ht.len]; exact hd)
    rw [e1, e2]
    split
    · rw [List.map_set]; rfl
    · split
      · rw [List.map_set]
      · split
        · rw [List.map_set, List.map_set]
        · rfl
  · rfl
theorem refRun_good {l : List Ins} : ∀ {n : Nat} {s s' : RP}, GoodT s.t → refRun l n s = some s' → GoodT s'.t
  | 0, _, _, _, h => by cases h
  | n + 1, s, s', ht, h => by
    rw [refRun] at h
    split at h
    · exact refRun_good (s := refStep l s) (ht.after _) h
    · simp only [Option.some.injEq] at h
      subst h
      exact ht
theorem refRun_mono {l : List Ins} : ∀ {n : Nat} {s s' : RP}, refRun l n s = some s' → ∀ {m : Nat}, n ≤ m → refRun l m s = some s'
  | 0, _, _, h, _, _ => by cases h
  | n + 1, s, s', h, 0, hm => by omega
  | n + 1, s, s', h, m + 1, hm => by
    rw [refRun] at h ⊢
    split at h
    · rename_i hmv
      rw [if_pos hmv]
      exact refRun_mono h (by omega)
    · rename_i hmv
      rw [if_neg hmv]
      exact h
/-- A run behind a table. -/
theorem refRun_behind {l : List Ins} {a : List Src} (ha : GoodT a) (k : Nat) : ∀ (n : Nat) (i : Nat) (t : List Src) (j : Nat), GoodT t →
    refRun l n ⟨i, thenF a t, k + j⟩ = (refRun l n ⟨i, t, j⟩).map fun s => ⟨s.to, thenF a s.t, k + s.steps⟩
  | 0, _, _, _, _ => rfl
  | n + 1, i, t, j, ht => by
    rw [refRun, refRun]
    simp only
    split
    · simp only [refStep]
      rw [after_then ha ht]
      exact refRun_behind ha k n _ _ (j + 1) (ht.after _)
    · rfl
theorem fair_steps {l : List Ins} (hr : rightF l = true) {a : Nat} (ha : a < l.length) (hm : movesF (l.getD a default) = true) :
    (fromF l a = ((-1, newT, 0), 0) ∧ fromF l (nextTo (l.getD a default) a) = ((-1, newT, 0), 0)) ∨
    ∃ s : RP, fromF l (nextTo (l.getD a default) a) = (((s.to : Int), s.t, (s.steps : Int)), 0) ∧ fromF l a = (((s.to : Int), thenF (afterF newT (l.getD a default)) s.t, ((s.steps + 1 : Nat) : Int)), 0) ∧ GoodT s.t ∧ s.steps ≤ l.length := by
  have hn := (nextTo_ok hr ha hm).1
  rw [fair_run hr ha, fair_run hr hn]
  have hA := newT_ok.after (l.getD a default)
  have h1 : refRun l (l.length + 1) ⟨a, newT, 0⟩ = (refRun l l.length ⟨nextTo (l.getD a default) a, newT, 0⟩).map fun s => ⟨s.to, thenF (afterF newT (l.getD a default)) s.t, 1 + s.steps⟩ := by
    rw [refRun]
    simp only [hm, if_true, refStep]
    have := refRun_behind (l := l) hA 1 l.length (nextTo (l.getD a default) a) newT 0 newT_ok
    rw [then_new hA] at this
    exact this
  cases hq : refRun l l.length ⟨nextTo (l.getD a default) a, newT, 0⟩ with
  | none =>
    rw [hq] at h1
    left
    have h2 := refRun_never hr ha h1 (l.length + 2) newT 0
    rw [refRun] at h2
    simp only [hm, if_true, refStep] at h2
    have := refRun_behind (l := l) hA 1 (l.length + 1) (nextTo (l.getD a default) a) newT 0 newT_ok
    rw [then_new hA] at this
    rw [show (0 : Nat) + 1 = 1 + 0 from rfl, this] at h2
    rw [h1, Option.map_eq_none_iff.1 h2]
    exact ⟨rfl, rfl⟩
  | some s =>
    rw [hq] at h1
    right
    refine ⟨s, ?_, ?_, refRun_good newT_ok hq, ?_⟩
    · rw [refRun_mono hq (by omega)]
      rfl
    · rw [h1]
      simp only [Option.map_some, rpT, Nat.add_comm 1]
    · have h3 := refRun_pr l l.length ⟨nextTo (l.getD a default) a, newT, 0⟩
      rw [hq] at h3
      simp only [Option.map_some] at h3
      obtain ⟨r, hr', he⟩ := Option.map_eq_some_iff.1 h3.symm
      have := pr_lt hr'
      simp only [Prod.mk.injEq] at he
      omega
end Go.Proofs.YtapibckmdpdljaaDoor.M2

/- Typed arguments, as this chapter's data. -/
namespace Go.Proofs.YtapibckmdpdljaaDoor.M2
open Go

def rng (n : Int) : Prop := -9223372036854775808 ≤ n ∧ n < 9223372036854775808
section
variable {P : Program}
theorem typed_i64 {t : TypeId} (hu : P.underlying t = some (.int .i64)) {d : Nat} {us : List U} (h : Typed P (d + 1) t us) : ∃ n, us = [i64 n] ∧ rng n := by
  simp only [Typed, hu] at h
  obtain ⟨n, e, hw⟩ := h
  refine ⟨n, e, ?_⟩
  simp [Lit.wf, IntKind.min, IntKind.max, IntKind.bits, IntKind.signed] at hw
  unfold rng
  omega
theorem typed_slice {t e : TypeId} (hu : P.underlying t = some (.slice e)) {d : Nat} {us : List U} (h : Typed P (d + 1) t us) : ∃ xs, us = [.sl true xs] ∧ xs.length ≤ maxLen ∧ ∀ x ∈ xs, Typed P d e x ∧ x.length = P.cellsOf e := by
  simp only [Typed, hu] at h
  exact h
theorem typed_struct {t : TypeId} {fs : Array Field} (hu : P.underlying t = some (.struct fs)) {d : Nat} {us : List U} (h : Typed P (d + 1) t us) : us.length = P.cellsOf t ∧ ∀ f ∈ fs.toList, Typed P d f.type ((us.drop f.offset).take (P.cellsOf f.type)) := by
  simp only [Typed, hu] at h
  exact h
def InsR (x : Ins) : Prop := rng x.op ∧ rng x.d ∧ rng x.a ∧ rng x.b ∧ rng x.n ∧ rng x.to
theorem typed_ins6 {t t1 t2 : TypeId} {a1 a2 a3 a4 a5 a6 : Field} (hu : P.underlying t = some (.struct #[a1, a2, a3, a4, a5, a6])) (o : [a1.offset, a2.offset, a3.offset, a4.offset, a5.offset, a6.offset] = [0, 1, 2, 3, 4, 5]) (ty : [a1.type, a2.type, a3.type, a4.type, a5.type, a6.type] = [t1, t1, t1, t1, t2, t1])
    (h1 : P.underlying t1 = some (.int .i64)) (h2 : P.underlying t2 = some (.int .i64)) (c : P.cellsOf t = 6) (c1 : P.cellsOf t1 = 1) (c2 : P.cellsOf t2 = 1) {d : Nat} {us : List U} (h : Typed P (d + 2) t us) : ∃ x : Ins, us = insU x ∧ InsR x := by
  obtain ⟨hl, h⟩ := typed_struct hu h
  rw [c] at hl
  simp only [List.cons.injEq, and_true] at o ty
  obtain ⟨o1, o2, o3, o4, o5, o6⟩ := o
  obtain ⟨y1, y2, y3, y4, y5, y6⟩ := ty
  match us, hl with
  | [a, b, e, f, g, k], _ =>
    have k1 := h a1 (by simp)
    have k2 := h a2 (by simp)
    have k3 := h a3 (by simp)
    have k4 := h a4 (by simp)
    have k5 := h a5 (by simp)
    have k6 := h a6 (by simp)
    simp only [o1, o2, o3, o4, o5, o6, y1, y2, y3, y4, y5, y6, c1, c2, List.drop, List.take] at k1 k2 k3 k4 k5 k6
    obtain ⟨n1, e1, r1⟩ := typed_i64 h1 k1
    obtain ⟨n2, e2, r2⟩ := typed_i64 h1 k2
    obtain ⟨n3, e3, r3⟩ := typed_i64 h1 k3
    obtain ⟨n4, e4, r4⟩ := typed_i64 h1 k4
    obtain ⟨n5, e5, r5⟩ := typed_i64 h2 k5
    obtain ⟨n6, e6, r6⟩ := typed_i64 h1 k6
    injection e1 with e1
    injection e2 with e2
    injection e3 with e3
    injection e4 with e4
    injection e5 with e5
    injection e6 with e6
    exact ⟨⟨n1, n2, n3, n4, n5, n6⟩, by rw [e1, e2, e3, e4, e5, e6]; rfl, r1, r2, r3, r4, r5, r6⟩
theorem map_of {α : Type} {P : List U → Prop} {Q : α → Prop} (f : α → List U) : ∀ {xs : List (List U)}, (∀ x ∈ xs, ∃ r, x = f r ∧ Q r) → ∃ l : List α, xs = l.map f ∧ ∀ r ∈ l, Q r
  | [], _ => ⟨[], rfl, by simp⟩
  | x :: xs, h => by
    obtain ⟨r, e, q⟩ := h x (by simp)
    obtain ⟨l, hl, hq⟩ := map_of (P := P) f (xs := xs) (fun y hy => h y (by simp [hy]))
    exact ⟨r :: l, by rw [List.map_cons, e, hl], fun y hy => by
      rcases List.mem_cons.1 hy with rfl | hy
      · exact q
      · exact hq y hy⟩
theorem typed_sl {α : Type} {Q : α → Prop} {f : α → List U} {t e : TypeId} (hu : P.underlying t = some (.slice e)) {d : Nat} {u : U} (hf : ∀ x, Typed P d e x → ∃ r, x = f r ∧ Q r) (h : Typed P (d + 1) t [u]) : ∃ l : List α, u = .sl true (l.map f) ∧ l.length < 9223372036854775808 ∧ ∀ x ∈ l, Q x := by
  obtain ⟨xs, e, hm, h⟩ := typed_slice hu h
  obtain ⟨l, hl, hq⟩ := map_of (P := fun _ => True) f (xs := xs) (fun x hx => hf x (h x hx).1)
  injection e with e
  refine ⟨l, by rw [e, hl], ?_, hq⟩
  rw [hl, List.length_map] at hm
  simp only [maxLen] at hm
  omega
end
attribute [local irreducible] Typed
theorem cells43 : Tryd.prog.cellsOf 43 = 6 := by kernel_rfl
theorem cells3 : Tryd.prog.cellsOf 3 = 1 := by kernel_rfl
theorem cells2 : Tryd.prog.cellsOf 2 = 1 := by kernel_rfl
theorem typed_insn {n : Nat} (hn : ∃ d, n = d + 3) {u : U} (h : Typed Tryd.prog n 22 [u]) : ∃ l : List Ins, u = insL true l ∧ l.length < 9223372036854775808 ∧ ∀ x ∈ l, InsR x := by
  obtain ⟨d, rfl⟩ := hn
  exact typed_sl (f := insU) Tryd.underlying22 (fun _ hx => typed_ins6 Tryd.underlying43 rfl rfl Tryd.underlying3 Tryd.underlying2 cells43 cells3 cells2 hx) h
theorem typed_intn {n : Nat} (hn : ∃ d, n = d + 1) {u : U} (h : Typed Tryd.prog n 3 [u]) : ∃ n, u = i64 n ∧ rng n := by
  obtain ⟨d, rfl⟩ := hn
  obtain ⟨n, e, hn⟩ := typed_i64 Tryd.underlying3 h
  injection e with e
  exact ⟨n, e, hn⟩
theorem law_of {f : Nat} {us : List U} (h : Cl T f us [] (.bool true) []) : ∃ n, M2.call T n f us [] = some (.bool true, []) := by
  obtain ⟨N, h⟩ := h
  exact ⟨N, h N (Nat.le_refl _)⟩
end Go.Proofs.YtapibckmdpdljaaDoor.M2
