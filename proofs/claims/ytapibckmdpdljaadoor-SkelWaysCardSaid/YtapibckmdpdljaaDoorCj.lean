/- What the functions answer in M2. Part 27: the program's skeleton turned to the document's. -/
import Derived.Test.YtapibckmdpdljaaDoorCi
set_option linter.unusedSimpArgs false
set_option linter.unusedVariables false
set_option linter.unusedSectionVars false
/- What the functions answer in M2. Part 24: the document's skeleton is built. -/
namespace Go.Proofs.YtapibckmdpdljaaDoor.M2
open Go
attribute [local simp] ev1 M2.get put A.ev ld sub part elems bin arith un opt idx fillC cellsO splice over newOb sto fillR laidOwn appTo appRow touch touchN touchM touchE touchA plainU flatU plainAs allM rowAt stoRow accM_nil accM_cons accMM_nil accMM_cons frz_int frz_bool frz_str frz_slt frz_nils frz_nilI frz_nilF frz_own frzRow_row frzRow_frow Ob.blw blw_bool blw_int blw_str blw_nils blw_nilI blw_nilF blw_nilp blw_nilm blw_sl blw_own blw_bp blw_rp blw_mp blw_it params
attribute [local simp] frz_agg frz_tup frz_iface frzS_agg frzS_iface accMS_cons frzS_int frzS_bool frzS_str frzS_slt frzS_nils frzS_nilI beq_dec bne_dec

theorem pf51 : pfT T 51 = true := rfl
abbrev RNode := Nat × List Way
def rnodeU (x : RNode) : List U := [i64 x.1, .sl true (x.2.map rwayU)]
def rskelU (w : Way) (rn : List RNode) : List U := [i64 w.1, refT true w.2, .sl true (rn.map rnodeU)]
abbrev res3 : Ob := .box [.int .i64 0, .nils, .nils]
def rb1S (p : Bool) (l : List Ins) (cutU : U) (ps : List Nat) (w : Way) (rn : List RNode) (n at_ : Nat) (fs : List Nat) (i : Nat) : S :=
  ⟨[(0, insL p l), (1, cutU), (4, .bp 0 0), (5, natU true ps), (6, .bp 1 0), (7, i64 n), (8, .bp 3 0), (9, natU true fs), (10, i64 i)],
    [res3, .box [i64 w.1, refT true w.2, .own 2 rn.length], .row 117 2 false (rn.map rnodeU), .box [i64 at_, .own 4 i], .row 57 2 false ((fs.map fun a => rwayU (outP l ps a)).take i)]⟩
set_option maxHeartbeats 8000000 in
theorem rb1_loop (p : Bool) (l : List Ins) (hr : rightF l = true) (q : Bool) (cut : List Bool) (ps : List Nat) (hps : ps.length ≤ 200) (w : Way) (rn : List RNode) (n at_ : Nat) (fs : List Nat) (hfl : fs.length ≤ 2) (hfs : ∀ a ∈ fs, a < l.length) :
    Wp T (.loop c_joineryref10_Build_L1) (rb1S p l (boolU q cut) ps w rn n at_ fs 0) (fun _ => False) (fun _ => False)
      (fun b s' => b = 2 ∧ s' = ⟨[(0, insL p l), (1, boolU q cut), (4, .bp 0 0), (5, natU true ps), (6, .bp 1 0), (7, i64 n), (8, .bp 3 0), (9, natU true fs), (10, i64 (fs.length : Nat)), (39, .bool false)],
        [res3, .box [i64 w.1, refT true w.2, .own 2 rn.length], .row 117 2 false (rn.map rnodeU), .box [i64 at_, .own 4 fs.length], .row 57 2 false (fs.map fun a => rwayU (outP l ps a))]⟩) := by
  refine Wp.count fs.length (fun i => rb1S p l (boolU q cut) ps w rn n at_ fs i) (fun _ => True) (fun i hi _ => ?_) (fun _ => ?_) 0 (by omega) trivial
  · have hi' : (i : Int) < fs.length := by omega
    have eg : fs[i]? = some fs[i] := List.getElem?_eq_getElem hi
    have hfi := hfs _ (List.getElem_mem hi)
    have hw := fun st => rway_call p l hr fs[i] hfi ps (by omega) true (natU true ps) st rfl
    have hos : (fs.map fun a => rwayU (outP l ps a)).take (i + 1) = (fs.map fun a => rwayU (outP l ps a)).take i ++ [rwayU (outP l ps fs[i])] := by
      rw [List.take_succ_eq_append_getElem (by simpa using hi)]
      simp
    have hlen : ((fs.map fun a => rwayU (outP l ps a)).take i).length = i := by simp; omega
    have lim : (i + 1) * 32 ≤ 140737488355328 := by omega
    generalize outP l ps fs[i] = o at *
    generalize fs[i] = a at *
    simp only [rb1S]
    rw [hos]
    generalize (fs.map fun a => rwayU (outP l ps a)).take i = R at *
    repeat (first | apply Wp.seq | apply Wp.skip | apply Wp.block | (apply Wp.op0; ((simp [M2.keep]) <;> rfl)) | ((first | apply Wp.op | apply Wp.opN | (apply Wp.opG; exact rfl)); (apply Evt.all; intro; (simp [natU, hi']) <;> (try simp (disch := omega) only [wrap_id]) <;> first | exact ⟨rfl, rfl⟩ | exact rfl)) | (apply Wp.opS; exact rfl; decide) | (apply Wp.opS0; exact rfl))
    refine Wp.cond (by first | rfl | (simp; rfl)) (fun h1 => ?_) (fun h1 => ?_)
    · repeat (first | apply Wp.seq | apply Wp.skip | apply Wp.block | (apply Wp.op0; ((simp [M2.keep]) <;> rfl)) | ((first | apply Wp.op | apply Wp.opN | (apply Wp.opG; exact rfl)); (apply Evt.all; intro; (simp []) <;> (try simp (disch := omega) only [wrap_id]) <;> first | exact ⟨rfl, rfl⟩ | exact rfl)) | (apply Wp.opS; exact rfl; decide) | (apply Wp.opS0; exact rfl))
      refine Wp.draw (by (simp [c_joineryref10_Build_D0, I.need]) <;> rfl) (by (simp [natU, rwayU, refT, hi', eg, hlen, lim, pf51]) <;> rfl) (by (simp [natU, rwayU, refT, hi', eg, hlen, lim, pf51]) <;> rfl) (by (unfold c_joineryref10_Build_D0); (repeat (first | ((first | apply Dr.op | apply Dr.opN | (apply Dr.opG; exact rfl)); ((simp [natU, rwayU, refT, hi', eg, hlen, lim, pf51]) <;> rfl); (apply Evt.all; intro; (simp [natU, rwayU, refT, hi', eg, hlen, lim, pf51]) <;> (try simp (disch := omega) only [wrap_id]) <;> first | exact ⟨rfl, rfl⟩ | exact rfl); ((simp [I.need]) <;> rfl)) | ((first | (apply Dr.opS; exact rfl; decide) | (apply Dr.opS0; exact rfl)); ((simp [I.need]) <;> rfl)) | (apply Dr.call; ((simp [natU, rwayU, refT, hi', eg, hlen, lim, pf51]) <;> rfl); exact hw _) | (apply Dr.callG; (exact rfl); ((simp [natU, rwayU, refT, hi', eg, hlen, lim, pf51]) <;> rfl); exact hw _))); exact Dr.nil) (by first | decide +kernel | exact rfl) (by (simp [M2.keep]) <;> rfl) ?_
      repeat (first | apply Wp.seq | apply Wp.skip | apply Wp.block | (apply Wp.op0; ((simp [M2.keep]) <;> rfl)) | ((first | apply Wp.op | apply Wp.opN | (apply Wp.opG; exact rfl)); (apply Evt.all; intro; (simp [wrap_id]) <;> (try simp (disch := omega) only [wrap_id]) <;> first | exact ⟨rfl, rfl⟩ | exact rfl)) | (apply Wp.opS; exact rfl; decide) | (apply Wp.opS0; exact rfl))
      exact ⟨trim_backs (st := [res3, .box [i64 w.1, refT true w.2, .own 2 rn.length], .row 117 2 false (rn.map rnodeU), .box [i64 at_, .own 4 (i + 1)], .row 57 2 false (R ++ [rwayU o])]) (l := [.row 57 2 false [rwayU o], .hole]) rfl rfl, trivial⟩
    · cases h1
  · simp only [rb1S]
    repeat (first | apply Wp.seq | apply Wp.skip | apply Wp.block | (apply Wp.op0; ((simp [M2.keep]) <;> rfl)) | ((first | apply Wp.op | apply Wp.opN | (apply Wp.opG; exact rfl)); (apply Evt.all; intro; (simp [natU]) <;> (try simp (disch := omega) only [wrap_id]) <;> first | exact ⟨rfl, rfl⟩ | exact rfl)) | (apply Wp.opS; exact rfl; decide) | (apply Wp.opS0; exact rfl))
    refine Wp.cond (by first | rfl | (simp; rfl)) (fun h1 => ?_) (fun h1 => ?_)
    · simp at h1
    · refine Wp.exit ⟨rfl, ?_⟩
      rw [List.take_of_length_le (by simp)]
def rNode (l : List Ins) (cut : List Bool) (ps : List Nat) (i : Nat) : RNode := (i, rOuts l cut ps i)
def rb2S (p : Bool) (l : List Ins) (q : Bool) (cut : List Bool) (ps : List Nat) (w : Way) (n : Nat) : S :=
  ⟨[(0, insL p l), (1, boolU q cut), (4, .bp 0 0), (5, natU true ps), (6, .bp 1 0), (7, i64 n)], [res3, .box [i64 w.1, refT true w.2, .own 2 n], .row 117 2 false ((ps.map fun i => rnodeU (rNode l cut ps i)).take n)]⟩
set_option maxHeartbeats 8000000 in
theorem rb2_loop (p : Bool) (l : List Ins) (hr : rightF l = true) (q : Bool) (cut : List Bool) (ps : List Nat) (hok : POK l ps) (w : Way) :
    Wp T (.loop c_joineryref10_Build_L2) (rb2S p l q cut ps w 0) (fun _ => False) (fun _ => False)
      (fun b s' => b = 0 ∧ s' = ⟨[(0, insL p l), (1, boolU q cut), (4, .bp 0 0), (5, natU true ps), (6, .bp 1 0), (7, i64 (ps.length : Nat)), (21, .bool false)],
        [res3, .box [i64 w.1, refT true w.2, .own 2 ps.length], .row 117 2 false (ps.map fun i => rnodeU (rNode l cut ps i))]⟩) := by
  have h200 := (right_facts hr).1
  have hfew := hok.few
  refine Wp.count ps.length (fun n => rb2S p l q cut ps w n) (fun _ => True) (fun n hn _ => ?_) (fun _ => ?_) 0 (by omega) trivial
  · have hn' : (n : Int) < ps.length := by omega
    have eg : ps[n]? = some ps[n] := List.getElem?_eq_getElem hn
    have hmem := List.getElem_mem hn
    have hos : (ps.map fun i => rnodeU (rNode l cut ps i)).take (n + 1) = (ps.map fun i => rnodeU (rNode l cut ps i)).take n ++ [rnodeU (rNode l cut ps ps[n])] := by
      rw [List.take_succ_eq_append_getElem (by simpa using hn)]
      simp
    have hlen : ((ps.map fun i => rnodeU (rNode l cut ps i)).take n).length = n := by simp; omega
    have lim : (n + 1) * 32 ≤ 140737488355328 := by omega
    obtain ⟨h1, h2⟩ := hok.lt ps[n] hmem
    obtain ⟨k1, k2⟩ := fsC_ok hr hok (cut := cut) hmem
    have hfr := froms_call p l q cut ps[n] h1 (by omega) (fsAt_ok hr h1 h2).2
    have hrn : rnodeU (rNode l cut ps ps[n]) = [i64 (ps[n] : Nat), .sl true ((fsC l cut ps[n]).map fun a => rwayU (outP l ps a))] := by simp [rnodeU, rNode, rOuts, Function.comp_def]
    rw [hrn] at hos
    have hlp := fun (rn : List RNode) => rb1_loop p l hr q cut ps (by omega) w rn n ps[n] (fsC l cut ps[n]) k2 k1
    have hlp' := hlp ((ps.take n).map (rNode l cut ps))
    have e1 : ((ps.take n).map (rNode l cut ps)).map rnodeU = (ps.map fun i => rnodeU (rNode l cut ps i)).take n := by simp [Function.comp_def]
    have e2 : ((ps.take n).map (rNode l cut ps)).length = n := by simp; omega
    simp only [rb1S, e1, e2] at hlp'
    generalize ps[n] = at_ at *
    generalize hfsx : fsC l cut at_ = fs at *
    simp only [rb2S]
    rw [hos]
    generalize (ps.map fun i => rnodeU (rNode l cut ps i)).take n = R at *
    repeat (first | apply Wp.seq | apply Wp.skip | apply Wp.block | (apply Wp.op0; ((simp [M2.keep]) <;> rfl)) | ((first | apply Wp.op | apply Wp.opN | (apply Wp.opG; exact rfl)); (apply Evt.all; intro; (simp [natU, hn']) <;> (try simp (disch := omega) only [wrap_id]) <;> first | exact ⟨rfl, rfl⟩ | exact rfl)) | (apply Wp.opS; exact rfl; decide) | (apply Wp.opS0; exact rfl))
    refine Wp.cond (by first | rfl | (simp; rfl)) (fun hc => ?_) (fun hc => ?_)
    · repeat (first | apply Wp.seq | apply Wp.skip | apply Wp.block | (apply Wp.op0; ((simp [M2.keep]) <;> rfl)) | ((first | apply Wp.op | apply Wp.opN | (apply Wp.opG; exact rfl)); (apply Evt.all; intro; (simp [natU, hn', eg, over]) <;> (try simp (disch := omega) only [wrap_id]) <;> first | exact ⟨rfl, rfl⟩ | exact rfl)) | (apply Wp.opS; exact rfl; decide) | (apply Wp.opS0; exact rfl))
      apply Wp.call
      · exact hfr _
      repeat (first | apply Wp.seq | apply Wp.skip | apply Wp.block | (apply Wp.op0; ((simp [M2.keep]) <;> rfl)) | ((first | apply Wp.op | apply Wp.opN | (apply Wp.opG; exact rfl)); (apply Evt.all; intro; (simp []) <;> (try simp (disch := omega) only [wrap_id]) <;> first | exact ⟨rfl, rfl⟩ | exact rfl)) | (apply Wp.opS; exact rfl; decide) | (apply Wp.opS0; exact rfl))
      refine hlp'.imp (fun _ h => h.elim) (fun _ h => h.elim) ?_
      rintro b s ⟨rfl, rfl⟩
      rw [if_pos rfl]
      repeat (first | apply Wp.seq | apply Wp.skip | apply Wp.block | (apply Wp.op0; ((simp [M2.keep]) <;> rfl)) | ((first | apply Wp.op | apply Wp.opN | (apply Wp.opG; exact rfl)); (apply Evt.all; intro; (simp [hlen, lim, wrap_id, over]) <;> (try simp (disch := omega) only [wrap_id]) <;> first | exact ⟨rfl, rfl⟩ | exact rfl)) | (apply Wp.opS; exact rfl; decide) | (apply Wp.opS0; exact rfl))
      exact ⟨trim_backs (st := [res3, .box [i64 w.1, refT true w.2, .own 2 (n + 1)], .row 117 2 false (R ++ [[i64 at_, .sl true (fs.map fun a => rwayU (outP l ps a))]])]) (l := [_, _, _]) rfl rfl, trivial⟩
    · cases hc
  · simp only [rb2S]
    repeat (first | apply Wp.seq | apply Wp.skip | apply Wp.block | (apply Wp.op0; ((simp [M2.keep]) <;> rfl)) | ((first | apply Wp.op | apply Wp.opN | (apply Wp.opG; exact rfl)); (apply Evt.all; intro; (simp [natU]) <;> (try simp (disch := omega) only [wrap_id]) <;> first | exact ⟨rfl, rfl⟩ | exact rfl)) | (apply Wp.opS; exact rfl; decide) | (apply Wp.opS0; exact rfl))
    refine Wp.cond (by first | rfl | (simp; rfl)) (fun h1 => ?_) (fun h1 => ?_)
    · simp at h1
    · refine Wp.exit ⟨rfl, ?_⟩
      rw [List.take_of_length_le (by simp)]
set_option maxHeartbeats 4000000 in
/-- The document's skeleton. -/
theorem rbuild_call (p : Bool) (l : List Ins) (hr : rightF l = true) (q : Bool) (cut : List Bool) (st : List Ob) : Cl T 28 [insL p l, boolU q cut] st (.agg (rskelU (outP l (rPlaces l cut) 0) ((rPlaces l cut).map (rNode l cut (rPlaces l cut))))) st := by
  refine Wp.pure (fn := c_joineryref10_Build) rfl rfl rfl («as» := [insL p l, boolU q cut]) rfl ?_
  obtain ⟨h1, h2, h3, h4⟩ := right_facts hr
  have hpl := places_call p l hr q cut
  have hsp := nodes_spec (cut := cut) hr
  have hok : POK l (rPlaces l cut) := ⟨hsp.2.2.2.1, hsp.2.2.2.2.1⟩
  have hfew := hok.few
  have hw := fun st => rway_call p l hr 0 h2 (rPlaces l cut) (by omega) true (natU true (rPlaces l cut)) st rfl
  have hlp := rb2_loop p l hr q cut (rPlaces l cut) hok (outP l (rPlaces l cut) 0)
  generalize rPlaces l cut = ps at *
  generalize outP l ps 0 = w at *
  repeat' (first | apply Wp.seq | apply Wp.skip | apply Wp.block | (apply Wp.op0; ((simp [M2.keep]) <;> rfl)) | ((first | (apply Wp.pickT; (exact rfl); (first | exact rfl | assumption)) | (apply Wp.pickF; (exact rfl); (first | exact rfl | assumption))); ((simp) <;> exact rfl)) | ((first | apply Wp.op | apply Wp.opN); (apply Evt.all; intro; (simp [insL, boolU, rwayU, refT, over]) <;> (try simp (disch := omega) only [wrap_id]) <;> first | exact ⟨rfl, rfl⟩ | exact rfl)) | (apply Wp.call; exact hpl _) | (apply Wp.call; exact hw _) | (first | (apply Wp.ung; (exact rfl); (first | exact rfl | assumption)) | (apply Wp.opSt; (exact rfl); (first | exact rfl | assumption)) | (apply Wp.opSf; (exact rfl); (first | exact rfl | assumption))) | (apply Wp.opS0; (exact rfl)) | (first | (apply Wp.condT; (exact rfl); (first | exact rfl | assumption)) | (apply Wp.condF; (exact rfl); (first | exact rfl | assumption))) | ((first | apply Wp.grdT | apply Wp.grdF | apply Wp.cond); (exact rfl); (intro); rotate_left 1; (intro); rotate_right 1))
  refine (show Wp T (.loop c_joineryref10_Build_L2) (rb2S p l q cut ps w 0) _ _ _ from hlp.imp (fun _ h => h.elim) (fun _ h => h.elim) ?_)
  rintro b s ⟨rfl, rfl⟩
  rw [if_pos rfl]
  repeat (first | apply Wp.seq | apply Wp.skip | apply Wp.block | (apply Wp.op0; ((simp [M2.keep]) <;> rfl)) | ((first | apply Wp.op | apply Wp.opN | (apply Wp.opG; exact rfl)); (apply Evt.all; intro; (simp [over]) <;> (try simp (disch := omega) only [wrap_id]) <;> first | exact ⟨rfl, rfl⟩ | exact rfl)) | (apply Wp.opS; exact rfl; decide) | (apply Wp.opS0; exact rfl))
  refine Wp.ret ?_
  have hz : ∀ (A B : Ob) (R : List (List U)), R.length = ps.length → frz 11 [A, B, .row 117 2 false R] (.own 2 ps.length) = some (.sl true R, [A, B, .frow R]) := fun A B R hR => by
    show (if R.length = ps.length then some (U.sl true R, [A, B, Ob.frow R]) else none) = _
    rw [if_pos hR]
  simp [Res, resU, res1, c_joineryref10_Build, rskelU, refT, Function.comp_def, hz]
end Go.Proofs.YtapibckmdpdljaaDoor.M2

/- What the functions answer in M2. Part 25: the program's skeleton as the document's. -/
namespace Go.Proofs.YtapibckmdpdljaaDoor.M2
open Go
attribute [local simp] ev1 M2.get put A.ev ld sub part elems bin arith un opt idx fillC cellsO splice over newOb sto fillR laidOwn appTo appRow touch touchN touchM touchE touchA plainU flatU plainAs allM rowAt stoRow accM_nil accM_cons accMM_nil accMM_cons frz_int frz_bool frz_str frz_slt frz_nils frz_nilI frz_nilF frz_own frzRow_row frzRow_frow Ob.blw blw_bool blw_int blw_str blw_nils blw_nilI blw_nilF blw_nilp blw_nilm blw_sl blw_own blw_bp blw_rp blw_mp blw_it params
attribute [local simp] frz_agg frz_tup frz_iface frzS_agg frzS_iface accMS_cons frzS_int frzS_bool frzS_str frzS_slt frzS_nils frzS_nilI beq_dec bne_dec

theorem pf49 : pfT T 49 = true := rfl
theorem pf18' : pfT T 18 = true := rfl
set_option maxHeartbeats 4000000 in
theorem asway_call (w : Way) (hw : w.2.length = 24) (st : List Ob) : Cl T 49 [.agg (wayU w)] st (.agg (rwayU w)) st := by
  have hbr : brw frzD st (.agg (wayU w)) = some (.agg (wayU w)) := by
    have h := brw_tab st w.2
    rw [frzD, brw] at h ⊢
    simp only [Option.bind_eq_some_iff, Option.some.injEq, U.agg.injEq] at h ⊢
    obtain ⟨cs, h1, rfl⟩ := h
    refine ⟨wayU w, ?_, rfl⟩
    unfold wayU
    simp only [M2.allM, h1, Option.bind_some]
    rfl
  refine Wp.pure (fn := c_joinerylaw10_as) rfl rfl rfl («as» := [.agg (wayU w)]) (by simp [hbr]) ?_
  have has := as_call w.2 hw
  have h24 := tab24 hw
  unfold wayU rwayU
  repeat (first | apply Wp.seq | apply Wp.skip | apply Wp.block | (apply Wp.op0; ((simp [M2.keep]) <;> rfl)) | ((first | apply Wp.op | apply Wp.opN | (apply Wp.opG; exact rfl)); (apply Evt.all; intro; (simp []) <;> (try simp (disch := omega) only [wrap_id]) <;> first | exact ⟨rfl, rfl⟩ | exact rfl)) | (apply Wp.opS; exact rfl; decide) | (apply Wp.opS0; exact rfl))
  refine Wp.draw (by (simp [c_joinerylaw10_as_D0, I.need]) <;> rfl) (by (simp [tabU_len, hw, h24, pf18', -plainU, plain_tab]) <;> rfl) (by (simp [tabU_len, hw, h24, pf18', -plainU, plain_tab]) <;> rfl) (by (unfold c_joinerylaw10_as_D0); (repeat (first | ((first | apply Dr.op | apply Dr.opN | (apply Dr.opG; exact rfl)); ((simp [tabU_len, hw, h24, pf18', -plainU, plain_tab]) <;> rfl); (apply Evt.all; intro; (simp [tabU_len, hw, h24, pf18', -plainU, plain_tab]) <;> (try simp (disch := omega) only [wrap_id]) <;> first | exact ⟨rfl, rfl⟩ | exact rfl); ((simp [I.need]) <;> rfl)) | ((first | (apply Dr.opS; exact rfl; decide) | (apply Dr.opS0; exact rfl)); ((simp [I.need]) <;> rfl)) | (apply Dr.call; ((simp [tabU_len, hw, h24, pf18', -plainU, plain_tab]) <;> rfl); exact has _) | (apply Dr.callG; (exact rfl); ((simp [tabU_len, hw, h24, pf18', -plainU, plain_tab]) <;> rfl); exact has _))); exact Dr.nil) (by first | decide +kernel | exact rfl) (by (simp [M2.keep]) <;> rfl) ?_
  refine Wp.ret ?_
  simp [Res, resU, res1, c_joinerylaw10_as, refT]
end Go.Proofs.YtapibckmdpdljaaDoor.M2

/- What the functions answer in M2. Part 26: a skeleton is like itself. -/
namespace Go.Proofs.YtapibckmdpdljaaDoor.M2
open Go
attribute [local simp] ev1 M2.get put A.ev ld sub part elems bin arith un opt idx fillC cellsO splice over newOb sto fillR laidOwn appTo appRow touch touchN touchM touchE touchA plainU flatU plainAs allM rowAt stoRow accM_nil accM_cons accMM_nil accMM_cons frz_int frz_bool frz_str frz_slt frz_nils frz_nilI frz_nilF frz_own frzRow_row frzRow_frow Ob.blw blw_bool blw_int blw_str blw_nils blw_nilI blw_nilF blw_nilp blw_nilm blw_sl blw_own blw_bp blw_rp blw_mp blw_it params
attribute [local simp] frz_agg frz_tup frz_iface frzS_agg frzS_iface accMS_cons frzS_int frzS_bool frzS_str frzS_slt frzS_nils frzS_nilI beq_dec bne_dec

theorem pf48 : pfT T 48 = true := rfl
theorem sameway_call (w : Way) (hw : w.2.length = 24) (st : List Ob) : Cl T 48 [.agg (rwayU w), .agg (rwayU w)] st (.bool true) st := by
  refine Wp.pure (fn := c_joineryref10_same) rfl rfl rfl («as» := [.agg (rwayU w), .agg (rwayU w)]) rfl ?_
  have hs : ∀ st, Cl T 17 [refT true w.2, refT true w.2] st (.bool true) st := fun st => by
    have := same5_call true true w.2 w.2 hw hw st
    rwa [decide_eq_true rfl] at this
  obtain ⟨to, t⟩ := w
  repeat' (first | apply Wp.seq | apply Wp.skip | apply Wp.block | (apply Wp.op0; ((simp [M2.keep]) <;> rfl)) | ((first | (apply Wp.pickT; (exact rfl); (first | exact rfl | assumption)) | (apply Wp.pickF; (exact rfl); (first | exact rfl | assumption))); ((simp) <;> exact rfl)) | ((first | apply Wp.op | apply Wp.opN); (apply Evt.all; intro; (simp [rwayU]) <;> (try simp (disch := omega) only [wrap_id]) <;> first | exact ⟨rfl, rfl⟩ | exact rfl)) | (apply Wp.call; exact hs _) | (first | (apply Wp.ung; (exact rfl); (first | exact rfl | assumption)) | (apply Wp.opSt; (exact rfl); (first | exact rfl | assumption)) | (apply Wp.opSf; (exact rfl); (first | exact rfl | assumption))) | (apply Wp.opS0; (exact rfl)) | (first | (apply Wp.condT; (exact rfl); (first | exact rfl | assumption)) | (apply Wp.condF; (exact rfl); (first | exact rfl | assumption))) | ((first | apply Wp.grdT | apply Wp.grdF | apply Wp.cond); (exact rfl); (intro); rotate_left 1; (intro); rotate_right 1))
  refine Wp.ret ?_
  simp [Res, resU, res1, c_joineryref10_same]
def sl2S (w : Way) (rn : List RNode) (n i : Nat) : S := ⟨[(2, .bp 0 0), (3, .bp 1 0), (5, i64 n), (6, i64 i)], [.box (rskelU w rn), .box (rskelU w rn)]⟩
set_option maxHeartbeats 8000000 in
theorem sl2_loop (w : Way) (rn : List RNode) (n : Nat) (hn : n < rn.length) (hn2 : rn.length ≤ 200) (at_ : Nat) (os : List Way) (hg : rn[n]? = some (at_, os)) (hos : os.length ≤ 2) (ho : ∀ o ∈ os, o.2.length = 24) :
    Wp T (.loop c_joineryref10_Same_L2) (sl2S w rn n 0) (fun _ => False) (fun _ => False) (fun b s' => b = 2 ∧ s' = ⟨[(2, .bp 0 0), (3, .bp 1 0), (5, i64 n), (6, i64 (os.length : Nat)), (67, .bool false)], [.box (rskelU w rn), .box (rskelU w rn)]⟩) := by
  have hn' : (n : Int) < rn.length := by omega
  refine Wp.count os.length (fun i => sl2S w rn n i) (fun _ => True) (fun i hi _ => ?_) (fun _ => ?_) 0 (by omega) trivial
  · have hi' : (i : Int) < os.length := by omega
    have eg : os[i]? = some os[i] := List.getElem?_eq_getElem hi
    have hl := ho _ (List.getElem_mem hi)
    have hs := sameway_call os[i] hl
    generalize os[i] = o at *
    simp only [sl2S]
    repeat (first | apply Wp.seq | apply Wp.skip | apply Wp.block | (apply Wp.op0; ((simp [M2.keep]) <;> rfl)) | ((first | apply Wp.op | apply Wp.opN | (apply Wp.opG; exact rfl)); (apply Evt.all; intro; (simp [rskelU, rnodeU, hn', hg, hi']) <;> (try simp (disch := omega) only [wrap_id]) <;> first | exact ⟨rfl, rfl⟩ | exact rfl)) | (apply Wp.opS; exact rfl; decide) | (apply Wp.opS0; exact rfl))
    refine Wp.cond (by first | rfl | (simp; rfl)) (fun h1 => ?_) (fun h1 => ?_)
    · repeat (first | apply Wp.seq | apply Wp.skip | apply Wp.block | (apply Wp.op0; ((simp [M2.keep]) <;> rfl)) | ((first | apply Wp.op | apply Wp.opN | (apply Wp.opG; exact rfl)); (apply Evt.all; intro; (simp []) <;> (try simp (disch := omega) only [wrap_id]) <;> first | exact ⟨rfl, rfl⟩ | exact rfl)) | (apply Wp.opS; exact rfl; decide) | (apply Wp.opS0; exact rfl))
      refine Wp.draw (by (simp [c_joineryref10_Same_D1, I.need]) <;> rfl) (by (simp [rskelU, rnodeU, rwayU, refT, hn', hg, hi', eg, pf48]) <;> rfl) (by (simp [rskelU, rnodeU, rwayU, refT, hn', hg, hi', eg, pf48]) <;> rfl) (by (unfold c_joineryref10_Same_D1); (repeat (first | ((first | apply Dr.op | apply Dr.opN | (apply Dr.opG; exact rfl)); ((simp [rskelU, rnodeU, rwayU, refT, hn', hg, hi', eg, pf48]) <;> rfl); (apply Evt.all; intro; (simp [rskelU, rnodeU, rwayU, refT, hn', hg, hi', eg, pf48]) <;> (try simp (disch := omega) only [wrap_id]) <;> first | exact ⟨rfl, rfl⟩ | exact rfl); ((simp [I.need]) <;> rfl)) | ((first | (apply Dr.opS; exact rfl; decide) | (apply Dr.opS0; exact rfl)); ((simp [I.need]) <;> rfl)) | (apply Dr.call; ((simp [rskelU, rnodeU, rwayU, refT, hn', hg, hi', eg, pf48]) <;> rfl); exact hs _) | (apply Dr.callG; (exact rfl); ((simp [rskelU, rnodeU, rwayU, refT, hn', hg, hi', eg, pf48]) <;> rfl); exact hs _))); exact Dr.nil) (by first | decide +kernel | exact rfl) (by (simp [M2.keep]) <;> rfl) ?_
      refine Wp.cond (by first | rfl | (simp; rfl)) (fun h2 => ?_) (fun h2 => ?_)
      · cases h2
      · repeat (first | apply Wp.seq | apply Wp.skip | apply Wp.block | (apply Wp.op0; ((simp [M2.keep]) <;> rfl)) | ((first | apply Wp.op | apply Wp.opN | (apply Wp.opG; exact rfl)); (apply Evt.all; intro; (simp [wrap_id]) <;> (try simp (disch := omega) only [wrap_id]) <;> first | exact ⟨rfl, rfl⟩ | exact rfl)) | (apply Wp.opS; exact rfl; decide) | (apply Wp.opS0; exact rfl))
        exact ⟨trimO_len rfl, trivial⟩
    · cases h1
  · simp only [sl2S]
    repeat (first | apply Wp.seq | apply Wp.skip | apply Wp.block | (apply Wp.op0; ((simp [M2.keep]) <;> rfl)) | ((first | apply Wp.op | apply Wp.opN | (apply Wp.opG; exact rfl)); (apply Evt.all; intro; (simp [rskelU, rnodeU, hn', hg]) <;> (try simp (disch := omega) only [wrap_id]) <;> first | exact ⟨rfl, rfl⟩ | exact rfl)) | (apply Wp.opS; exact rfl; decide) | (apply Wp.opS0; exact rfl))
    refine Wp.cond (by first | rfl | (simp; rfl)) (fun h1 => ?_) (fun h1 => ?_)
    · simp at h1
    · exact Wp.exit ⟨rfl, rfl⟩
def sl3S (w : Way) (rn : List RNode) (n : Nat) : S := ⟨[(2, .bp 0 0), (3, .bp 1 0), (5, i64 n)], [.box (rskelU w rn), .box (rskelU w rn)]⟩
set_option maxHeartbeats 8000000 in
theorem sl3_loop (w : Way) (rn : List RNode) (hn2 : rn.length ≤ 200) (hos : ∀ x ∈ rn, x.2.length ≤ 2 ∧ ∀ o ∈ x.2, o.2.length = 24) :
    Wp T (.loop c_joineryref10_Same_L3) (sl3S w rn 0) (fun _ => False) (fun _ => False) (fun b s' => b = 0 ∧ s' = ⟨[(2, .bp 0 0), (3, .bp 1 0), (5, i64 (rn.length : Nat)), (26, .bool false)], [.box (rskelU w rn), .box (rskelU w rn)]⟩) := by
  refine Wp.count rn.length (fun n => sl3S w rn n) (fun _ => True) (fun n hn _ => ?_) (fun _ => ?_) 0 (by omega) trivial
  · have hn' : (n : Int) < rn.length := by omega
    have eg : rn[n]? = some rn[n] := List.getElem?_eq_getElem hn
    have hx := hos _ (List.getElem_mem hn)
    generalize rn[n] = x at *
    obtain ⟨at_, os⟩ := x
    have hlp := sl2_loop w rn n hn hn2 at_ os eg hx.1 hx.2
    simp only [sl3S]
    repeat (first | apply Wp.seq | apply Wp.skip | apply Wp.block | (apply Wp.op0; ((simp [M2.keep]) <;> rfl)) | ((first | apply Wp.op | apply Wp.opN | (apply Wp.opG; exact rfl)); (apply Evt.all; intro; (simp [rskelU, hn']) <;> (try simp (disch := omega) only [wrap_id]) <;> first | exact ⟨rfl, rfl⟩ | exact rfl)) | (apply Wp.opS; exact rfl; decide) | (apply Wp.opS0; exact rfl))
    refine Wp.cond (by first | rfl | (simp; rfl)) (fun h1 => ?_) (fun h1 => ?_)
    · repeat (first | apply Wp.seq | apply Wp.skip | apply Wp.block | (apply Wp.op0; ((simp [M2.keep]) <;> rfl)) | ((first | apply Wp.op | apply Wp.opN | (apply Wp.opG; exact rfl)); (apply Evt.all; intro; (simp []) <;> (try simp (disch := omega) only [wrap_id]) <;> first | exact ⟨rfl, rfl⟩ | exact rfl)) | (apply Wp.opS; exact rfl; decide) | (apply Wp.opS0; exact rfl))
      refine Wp.draw (by (simp [c_joineryref10_Same_D0, I.need]) <;> rfl) (by (simp [rskelU, rnodeU, hn', eg]) <;> rfl) (by (simp [rskelU, rnodeU, hn', eg]) <;> rfl) (by (unfold c_joineryref10_Same_D0); (repeat (first | ((first | apply Dr.op | apply Dr.opN | (apply Dr.opG; exact rfl)); ((simp [rskelU, rnodeU, hn', eg]) <;> rfl); (apply Evt.all; intro; (simp [rskelU, rnodeU, hn', eg]) <;> (try simp (disch := omega) only [wrap_id]) <;> first | exact ⟨rfl, rfl⟩ | exact rfl); ((simp [I.need]) <;> rfl)) | ((first | (apply Dr.opS; exact rfl; decide) | (apply Dr.opS0; exact rfl)); ((simp [I.need]) <;> rfl)))); exact Dr.nil) (by first | decide +kernel | exact rfl) (by (simp [M2.keep]) <;> rfl) ?_
      refine Wp.cond (by first | rfl | (simp; rfl)) (fun h2 => ?_) (fun h2 => ?_)
      · cases h2
      repeat (first | apply Wp.seq | apply Wp.skip | apply Wp.block | (apply Wp.op0; ((simp [M2.keep]) <;> rfl)) | ((first | apply Wp.op | apply Wp.opN | (apply Wp.opG; exact rfl)); (apply Evt.all; intro; (simp []) <;> (try simp (disch := omega) only [wrap_id]) <;> first | exact ⟨rfl, rfl⟩ | exact rfl)) | (apply Wp.opS; exact rfl; decide) | (apply Wp.opS0; exact rfl))
      refine (show Wp T (.loop c_joineryref10_Same_L2) (sl2S w rn n 0) _ _ _ from hlp.imp (fun _ h => h.elim) (fun _ h => h.elim) ?_)
      rintro b s ⟨rfl, rfl⟩
      rw [if_pos rfl]
      repeat (first | apply Wp.seq | apply Wp.skip | apply Wp.block | (apply Wp.op0; ((simp [M2.keep]) <;> rfl)) | ((first | apply Wp.op | apply Wp.opN | (apply Wp.opG; exact rfl)); (apply Evt.all; intro; (simp [wrap_id]) <;> (try simp (disch := omega) only [wrap_id]) <;> first | exact ⟨rfl, rfl⟩ | exact rfl)) | (apply Wp.opS; exact rfl; decide) | (apply Wp.opS0; exact rfl))
      exact ⟨trimO_len rfl, trivial⟩
    · cases h1
  · simp only [sl3S]
    repeat (first | apply Wp.seq | apply Wp.skip | apply Wp.block | (apply Wp.op0; ((simp [M2.keep]) <;> rfl)) | ((first | apply Wp.op | apply Wp.opN | (apply Wp.opG; exact rfl)); (apply Evt.all; intro; (simp [rskelU]) <;> (try simp (disch := omega) only [wrap_id]) <;> first | exact ⟨rfl, rfl⟩ | exact rfl)) | (apply Wp.opS; exact rfl; decide) | (apply Wp.opS0; exact rfl))
    refine Wp.cond (by first | rfl | (simp; rfl)) (fun h1 => ?_) (fun h1 => ?_)
    · simp at h1
    · exact Wp.exit ⟨rfl, rfl⟩
set_option maxHeartbeats 4000000 in
theorem sameskel_call (w : Way) (hw : w.2.length = 24) (rn : List RNode) (hn2 : rn.length ≤ 200) (hos : ∀ x ∈ rn, x.2.length ≤ 2 ∧ ∀ o ∈ x.2, o.2.length = 24) (st : List Ob) : Cl T 26 [.agg (rskelU w rn), .agg (rskelU w rn)] st (.bool true) st := by
  refine Wp.pure (fn := c_joineryref10_Same) rfl rfl rfl («as» := [.agg (rskelU w rn), .agg (rskelU w rn)]) rfl ?_
  have hs := sameway_call w hw
  have hlp := sl3_loop w rn hn2 hos
  have hl : ∀ st, Cl T 48 [.agg [i64 w.1, refT true w.2], .agg [i64 w.1, refT true w.2]] st (.bool true) st := hs
  repeat' (first | apply Wp.seq | apply Wp.skip | apply Wp.block | (apply Wp.op0; ((simp [M2.keep]) <;> rfl)) | ((first | (apply Wp.pickT; (exact rfl); (first | exact rfl | assumption)) | (apply Wp.pickF; (exact rfl); (first | exact rfl | assumption))); ((simp) <;> exact rfl)) | ((first | apply Wp.op | apply Wp.opN); (apply Evt.all; intro; (simp [rskelU]) <;> (try simp (disch := omega) only [wrap_id]) <;> first | exact ⟨rfl, rfl⟩ | exact rfl)) | (apply Wp.call; exact hl _) | (first | (apply Wp.ung; (exact rfl); (first | exact rfl | assumption)) | (apply Wp.opSt; (exact rfl); (first | exact rfl | assumption)) | (apply Wp.opSf; (exact rfl); (first | exact rfl | assumption))) | (apply Wp.opS0; (exact rfl)) | (first | (apply Wp.condT; (exact rfl); (first | exact rfl | assumption)) | (apply Wp.condF; (exact rfl); (first | exact rfl | assumption))) | ((first | apply Wp.grdT | apply Wp.grdF | apply Wp.cond); (exact rfl); (intro); rotate_left 1; (intro); rotate_right 1))
  refine (show Wp T (.loop c_joineryref10_Same_L3) (sl3S w rn 0) _ _ _ from hlp.imp (fun _ h => h.elim) (fun _ h => h.elim) ?_)
  rintro b s ⟨rfl, rfl⟩
  rw [if_pos rfl]
  repeat (first | apply Wp.seq | apply Wp.skip | apply Wp.block | (apply Wp.op0; ((simp [M2.keep]) <;> rfl)) | ((first | apply Wp.op | apply Wp.opN | (apply Wp.opG; exact rfl)); (apply Evt.all; intro; (simp []) <;> (try simp (disch := omega) only [wrap_id]) <;> first | exact ⟨rfl, rfl⟩ | exact rfl)) | (apply Wp.opS; exact rfl; decide) | (apply Wp.opS0; exact rfl))
  refine Wp.ret ?_
  simp [Res, resU, res1, c_joineryref10_Same]
end Go.Proofs.YtapibckmdpdljaaDoor.M2

/- What the functions answer in M2. Part 27: the program's skeleton turned to the document's. -/
namespace Go.Proofs.YtapibckmdpdljaaDoor.M2
open Go
attribute [local simp] ev1 M2.get put A.ev ld sub part elems bin arith un opt idx fillC cellsO splice over newOb sto fillR laidOwn appTo appRow touch touchN touchM touchE touchA plainU flatU plainAs allM rowAt stoRow accM_nil accM_cons accMM_nil accMM_cons frz_int frz_bool frz_str frz_slt frz_nils frz_nilI frz_nilF frz_own frzRow_row frzRow_frow Ob.blw blw_bool blw_int blw_str blw_nils blw_nilI blw_nilF blw_nilp blw_nilm blw_sl blw_own blw_bp blw_rp blw_mp blw_it params
attribute [local simp] frz_agg frz_tup frz_iface frzS_agg frzS_iface accMS_cons frzS_int frzS_bool frzS_str frzS_slt frzS_nils frzS_nilI beq_dec bne_dec

def rN (x : Node) : RNode := (x.1, x.2.getD [])
theorem skel_len {w : Way} (hw : w.2.length = 24) (ns : List Node) : (skelU w ns).length = 26 := by simp [skelU, wayU_len hw]
theorem skel_blw (w : Way) (ns : List Node) (L : Nat) : Ob.blw L (.box (skelU w ns)) = true := by
  show (wayU w ++ [U.sl true (ns.map nodeU)]).all (blw blwD L) = true
  rw [List.all_append]
  have : (wayU w).all (blw blwD L) = true := by
    rw [List.all_eq_true]
    intro u hu
    rcases List.mem_cons.1 hu with rfl | hu
    · rfl
    · exact tab_blw L w.2 u hu
  rw [this]
  rfl
theorem a_blw {w : Way} (hw : w.2.length = 24) (ns : List Node) (rn : List RNode) (at_ : Int) (i : Nat) (R : List (List U)) :
    [Ob.box (skelU w ns), res3, .box [i64 w.1, refT true w.2, .own 3 rn.length], .row 117 2 false (rn.map rnodeU), .box [i64 at_, .own 5 i], .row 57 2 false R].all (Ob.blw 6) = true := by
  show (Ob.blw 6 (.box (skelU w ns)) && true) = true
  rw [skel_blw]
  rfl
def a1S (w : Way) (ns : List Node) (rn : List RNode) (n at_ : Nat) (os : List Way) (i : Nat) : S :=
  ⟨[(1, .bp 0 0), (2, .bp 1 0), (3, .bp 2 0), (4, i64 n), (5, .bp 4 0), (6, i64 i)],
    [.box (skelU w ns), res3, .box [i64 w.1, refT true w.2, .own 3 rn.length], .row 117 2 false (rn.map rnodeU), .box [i64 at_, .own 5 i], .row 57 2 false ((os.map rwayU).take i)]⟩
set_option maxHeartbeats 8000000 in
theorem a1_loop (w : Way) (hw : w.2.length = 24) (ns : List Node) (rn : List RNode) (n at_ : Nat) (hn : n < ns.length) (o : Option (List Way)) (hg : ns[n]? = some (at_, o)) (hl : (o.getD []).length ≤ 2) (ho : ∀ x ∈ o.getD [], x.2.length = 24) :
    Wp T (.loop c_joinerylaw10_As_L1) (a1S w ns rn n at_ (o.getD []) 0) (fun _ => False) (fun _ => False)
      (fun b s' => b = 2 ∧ s' = ⟨[(1, .bp 0 0), (2, .bp 1 0), (3, .bp 2 0), (4, i64 n), (5, .bp 4 0), (6, i64 ((o.getD []).length : Nat)), (33, .bool false)],
        [.box (skelU w ns), res3, .box [i64 w.1, refT true w.2, .own 3 rn.length], .row 117 2 false (rn.map rnodeU), .box [i64 at_, .own 5 (o.getD []).length], .row 57 2 false ((o.getD []).map rwayU)]⟩) := by
  have hn' : (n : Int) < ns.length := by omega
  have wl := wayU_len hw
  have d25 := drop25 hw
  have hou : outsU o = .sl true ((o.getD []).map wayU) := rfl
  generalize o.getD [] = os at *
  refine Wp.count os.length (fun i => a1S w ns rn n at_ os i) (fun _ => True) (fun i hi _ => ?_) (fun _ => ?_) 0 (by omega) trivial
  · have hi' : (i : Int) < os.length := by omega
    have eg : os[i]? = some os[i] := List.getElem?_eq_getElem hi
    have hoi := ho _ (List.getElem_mem hi)
    have hw2 := asway_call os[i] hoi
    have hos : (os.map rwayU).take (i + 1) = (os.map rwayU).take i ++ [rwayU os[i]] := by
      rw [List.take_succ_eq_append_getElem (by simpa using hi)]
      simp
    have hlen : ((os.map rwayU).take i).length = i := by simp; omega
    have lim : (i + 1) * 32 ≤ 140737488355328 := by omega
    have ol := wayU_len hoi
    have ot : (wayU os[i]).take 25 = wayU os[i] := by rw [List.take_of_length_le]; omega
    have hpl : plainU (.agg (wayU os[i])) = true := by
      have := plain_tab os[i].2
      have h2 : (tabU os[i].2).all (flatU 5) = true := this
      show (true && (tabU os[i].2).all (flatU 5)) = true
      rw [h2]
      rfl
    generalize os[i] = x at *
    simp only [a1S]
    rw [hos]
    generalize (os.map rwayU).take i = R at *
    repeat (first | apply Wp.seq | apply Wp.skip | apply Wp.block | (apply Wp.op0; ((simp [M2.keep]) <;> rfl)) | ((first | apply Wp.op | apply Wp.opN | (apply Wp.opG; exact rfl)); (apply Evt.all; intro; (simp [skelU, d25, wl, hn', hg, nodeU, hou, hi']) <;> (try simp (disch := omega) only [wrap_id]) <;> first | exact ⟨rfl, rfl⟩ | exact rfl)) | (apply Wp.opS; exact rfl; decide) | (apply Wp.opS0; exact rfl))
    refine Wp.cond (by first | rfl | (simp; rfl)) (fun h1 => ?_) (fun h1 => ?_)
    · repeat (first | apply Wp.seq | apply Wp.skip | apply Wp.block | (apply Wp.op0; ((simp [M2.keep]) <;> rfl)) | ((first | apply Wp.op | apply Wp.opN | (apply Wp.opG; exact rfl)); (apply Evt.all; intro; (simp []) <;> (try simp (disch := omega) only [wrap_id]) <;> first | exact ⟨rfl, rfl⟩ | exact rfl)) | (apply Wp.opS; exact rfl; decide) | (apply Wp.opS0; exact rfl))
      refine Wp.draw (by (simp [c_joinerylaw10_As_D0, I.need]) <;> rfl) (by (simp [skelU, d25, wl, hn', hg, nodeU, hou, hi', eg, ol, ot, rwayU, refT, hlen, lim, pf49, -plainU, hpl]) <;> rfl) (by (simp [skelU, d25, wl, hn', hg, nodeU, hou, hi', eg, ol, ot, rwayU, refT, hlen, lim, pf49, -plainU, hpl]) <;> rfl) (by (unfold c_joinerylaw10_As_D0); (repeat (first | ((first | apply Dr.op | apply Dr.opN | (apply Dr.opG; exact rfl)); ((simp [skelU, d25, wl, hn', hg, nodeU, hou, hi', eg, ol, ot, rwayU, refT, hlen, lim, pf49, -plainU, hpl]) <;> rfl); (apply Evt.all; intro; (simp [skelU, d25, wl, hn', hg, nodeU, hou, hi', eg, ol, ot, rwayU, refT, hlen, lim, pf49, -plainU, hpl]) <;> (try simp (disch := omega) only [wrap_id]) <;> first | exact ⟨rfl, rfl⟩ | exact rfl); ((simp [I.need]) <;> rfl)) | ((first | (apply Dr.opS; exact rfl; decide) | (apply Dr.opS0; exact rfl)); ((simp [I.need]) <;> rfl)) | (apply Dr.call; ((simp [skelU, d25, wl, hn', hg, nodeU, hou, hi', eg, ol, ot, rwayU, refT, hlen, lim, pf49, -plainU, hpl]) <;> rfl); exact hw2 _) | (apply Dr.callG; (exact rfl); ((simp [skelU, d25, wl, hn', hg, nodeU, hou, hi', eg, ol, ot, rwayU, refT, hlen, lim, pf49, -plainU, hpl]) <;> rfl); exact hw2 _))); exact Dr.nil) (by first | decide +kernel | exact rfl) (by (simp [M2.keep]) <;> rfl) ?_
      repeat (first | apply Wp.seq | apply Wp.skip | apply Wp.block | (apply Wp.op0; ((simp [M2.keep]) <;> rfl)) | ((first | apply Wp.op | apply Wp.opN | (apply Wp.opG; exact rfl)); (apply Evt.all; intro; (simp [wrap_id]) <;> (try simp (disch := omega) only [wrap_id]) <;> first | exact ⟨rfl, rfl⟩ | exact rfl)) | (apply Wp.opS; exact rfl; decide) | (apply Wp.opS0; exact rfl))
      exact ⟨trim_backs (st := [.box (skelU w ns), res3, .box [i64 w.1, refT true w.2, .own 3 rn.length], .row 117 2 false (rn.map rnodeU), .box [i64 at_, .own 5 (i + 1)], .row 57 2 false (R ++ [rwayU x])]) (l := [.row 57 2 false [rwayU x], .hole]) rfl (a_blw hw ns _ _ _ _), trivial⟩
    · cases h1
  · simp only [a1S]
    repeat (first | apply Wp.seq | apply Wp.skip | apply Wp.block | (apply Wp.op0; ((simp [M2.keep]) <;> rfl)) | ((first | apply Wp.op | apply Wp.opN | (apply Wp.opG; exact rfl)); (apply Evt.all; intro; (simp [skelU, d25, wl, hn', hg, nodeU, hou]) <;> (try simp (disch := omega) only [wrap_id]) <;> first | exact ⟨rfl, rfl⟩ | exact rfl)) | (apply Wp.opS; exact rfl; decide) | (apply Wp.opS0; exact rfl))
    refine Wp.cond (by first | rfl | (simp; rfl)) (fun h1 => ?_) (fun h1 => ?_)
    · simp at h1
    · refine Wp.exit ⟨rfl, ?_⟩
      rw [List.take_of_length_le (by simp)]
      rfl
theorem allM_app {α β : Type} {f : α → Option β} : ∀ {xs ys : List α} {xs' ys' : List β}, allM f xs = some xs' → allM f ys = some ys' → allM f (xs ++ ys) = some (xs' ++ ys')
  | [], ys, xs', ys', h1, h2 => by
    simp only [M2.allM, Option.some.injEq] at h1
    subst h1
    exact h2
  | x :: xs, ys, xs', ys', h1, h2 => by
    simp only [M2.allM, Option.bind_eq_some_iff] at h1
    obtain ⟨y, hy, zs, hz, h1⟩ := h1
    cases h1
    rw [List.cons_append, M2.allM, hy, Option.bind_some, allM_app hz h2]
    rfl
theorem brw_skel (st : List Ob) (w : Way) (ns : List Node) : brw frzD st (.agg (skelU w ns)) = some (.agg (skelU w ns)) := by
  have h := brw_tab st w.2
  rw [frzD, brw] at h ⊢
  simp only [Option.bind_eq_some_iff, Option.some.injEq, U.agg.injEq] at h ⊢
  obtain ⟨cs, h1, rfl⟩ := h
  refine ⟨skelU w ns, ?_, rfl⟩
  refine allM_app (xs := wayU w) (ys := [.sl true (ns.map nodeU)]) ?_ rfl
  unfold wayU
  simp only [M2.allM, h1, Option.bind_some]
  rfl
def a2S (w : Way) (ns : List Node) (n : Nat) : S :=
  ⟨[(1, .bp 0 0), (2, .bp 1 0), (3, .bp 2 0), (4, i64 n)], [.box (skelU w ns), res3, .box [i64 w.1, refT true w.2, .own 3 n], .row 117 2 false ((ns.map fun x => rnodeU (rN x)).take n)]⟩
set_option maxHeartbeats 8000000 in
theorem a2_loop (w : Way) (hw : w.2.length = 24) (ns : List Node) (hns : ns.length ≤ 200) (hall : ∀ x ∈ ns, (x.2.getD []).length ≤ 2 ∧ ∀ o ∈ x.2.getD [], o.2.length = 24) :
    Wp T (.loop c_joinerylaw10_As_L2) (a2S w ns 0) (fun _ => False) (fun _ => False)
      (fun b s' => b = 0 ∧ s' = ⟨[(1, .bp 0 0), (2, .bp 1 0), (3, .bp 2 0), (4, i64 (ns.length : Nat)), (15, .bool false)], [.box (skelU w ns), res3, .box [i64 w.1, refT true w.2, .own 3 ns.length], .row 117 2 false (ns.map fun x => rnodeU (rN x))]⟩) := by
  have wl := wayU_len hw
  have d25 := drop25 hw
  refine Wp.count ns.length (fun n => a2S w ns n) (fun _ => True) (fun n hn _ => ?_) (fun _ => ?_) 0 (by omega) trivial
  · have hn' : (n : Int) < ns.length := by omega
    have hg : ns[n]? = some ns[n] := List.getElem?_eq_getElem hn
    have hx := hall _ (List.getElem_mem hn)
    have hos : (ns.map fun x => rnodeU (rN x)).take (n + 1) = (ns.map fun x => rnodeU (rN x)).take n ++ [rnodeU (rN ns[n])] := by
      rw [List.take_succ_eq_append_getElem (by simpa using hn)]
      simp
    have hlen : ((ns.map fun x => rnodeU (rN x)).take n).length = n := by simp; omega
    have lim : (n + 1) * 32 ≤ 140737488355328 := by omega
    have e1 : ((ns.take n).map rN).map rnodeU = (ns.map fun x => rnodeU (rN x)).take n := by simp [Function.comp_def]
    have e2 : ((ns.take n).map rN).length = n := by simp; omega
    generalize ns[n] = x at *
    obtain ⟨at_, o⟩ := x
    have hrn : rnodeU (rN (at_, o)) = [i64 (at_ : Int), .sl true ((o.getD []).map rwayU)] := rfl
    rw [hrn] at hos
    have hlp := a1_loop w hw ns ((ns.take n).map rN) n at_ hn o hg hx.1 hx.2
    simp only [a1S, e1, e2] at hlp
    have hou : outsU o = .sl true ((o.getD []).map wayU) := rfl
    simp only at hx
    generalize o.getD [] = os at *
    simp only [a2S]
    rw [hos]
    generalize (ns.map fun x => rnodeU (rN x)).take n = R at *
    repeat (first | apply Wp.seq | apply Wp.skip | apply Wp.block | (apply Wp.op0; ((simp [M2.keep]) <;> rfl)) | ((first | apply Wp.op | apply Wp.opN | (apply Wp.opG; exact rfl)); (apply Evt.all; intro; (simp [skelU, d25, wl, hn']) <;> (try simp (disch := omega) only [wrap_id]) <;> first | exact ⟨rfl, rfl⟩ | exact rfl)) | (apply Wp.opS; exact rfl; decide) | (apply Wp.opS0; exact rfl))
    refine Wp.cond (by first | rfl | (simp; rfl)) (fun hc => ?_) (fun hc => ?_)
    · repeat (first | apply Wp.seq | apply Wp.skip | apply Wp.block | (apply Wp.op0; ((simp [M2.keep]) <;> rfl)) | ((first | apply Wp.op | apply Wp.opN | (apply Wp.opG; exact rfl)); (apply Evt.all; intro; (simp [skelU, d25, wl, hn', hg, nodeU, over]) <;> (try simp (disch := omega) only [wrap_id]) <;> first | exact ⟨rfl, rfl⟩ | exact rfl)) | (apply Wp.opS; exact rfl; decide) | (apply Wp.opS0; exact rfl))
      refine hlp.imp (fun _ h => h.elim) (fun _ h => h.elim) ?_
      rintro b s ⟨rfl, rfl⟩
      rw [if_pos rfl]
      repeat (first | apply Wp.seq | apply Wp.skip | apply Wp.block | (apply Wp.op0; ((simp [M2.keep]) <;> rfl)) | ((first | apply Wp.op | apply Wp.opN | (apply Wp.opG; exact rfl)); (apply Evt.all; intro; (simp [hlen, lim, wrap_id, over]) <;> (try simp (disch := omega) only [wrap_id]) <;> first | exact ⟨rfl, rfl⟩ | exact rfl)) | (apply Wp.opS; exact rfl; decide) | (apply Wp.opS0; exact rfl))
      refine ⟨trim_backs (st := [.box (skelU w ns), res3, .box [i64 w.1, refT true w.2, .own 3 (n + 1)], .row 117 2 false (R ++ [[i64 at_, .sl true (os.map rwayU)]])]) (l := [_, _, _]) rfl ?_, trivial⟩
      show (Ob.blw 4 (.box (skelU w ns)) && true) = true
      rw [skel_blw]
      rfl
    · cases hc
  · simp only [a2S]
    repeat (first | apply Wp.seq | apply Wp.skip | apply Wp.block | (apply Wp.op0; ((simp [M2.keep]) <;> rfl)) | ((first | apply Wp.op | apply Wp.opN | (apply Wp.opG; exact rfl)); (apply Evt.all; intro; (simp [skelU, d25, wl]) <;> (try simp (disch := omega) only [wrap_id]) <;> first | exact ⟨rfl, rfl⟩ | exact rfl)) | (apply Wp.opS; exact rfl; decide) | (apply Wp.opS0; exact rfl))
    refine Wp.cond (by first | rfl | (simp; rfl)) (fun h1 => ?_) (fun h1 => ?_)
    · simp at h1
    · refine Wp.exit ⟨rfl, ?_⟩
      rw [List.take_of_length_le (by simp)]
      rfl
set_option maxHeartbeats 4000000 in
theorem asskel_call (w : Way) (hw : w.2.length = 24) (ns : List Node) (hns : ns.length ≤ 200) (hall : ∀ x ∈ ns, (x.2.getD []).length ≤ 2 ∧ ∀ o ∈ x.2.getD [], o.2.length = 24) (st : List Ob) : Cl T 27 [.agg (skelU w ns)] st (.agg (rskelU w (ns.map rN))) st := by
  have hbr : brw frzD st (.agg (skelU w ns)) = some (.agg (skelU w ns)) := brw_skel st w ns
  refine Wp.pure (fn := c_joinerylaw10_As) rfl rfl rfl («as» := [.agg (skelU w ns)]) (by simp [hbr]) ?_
  have hw2 := asway_call w hw
  have hlp := a2_loop w hw ns hns hall
  have wl := wayU_len hw
  have sl := skel_len hw ns
  have t25 : (skelU w ns).take 25 = wayU w := by
    unfold skelU
    rw [List.take_append_of_le_length (by omega), List.take_of_length_le (by omega)]
  repeat' (first | apply Wp.seq | apply Wp.skip | apply Wp.block | (apply Wp.op0; ((simp [M2.keep]) <;> rfl)) | ((first | (apply Wp.pickT; (exact rfl); (first | exact rfl | assumption)) | (apply Wp.pickF; (exact rfl); (first | exact rfl | assumption))); ((simp) <;> exact rfl)) | ((first | apply Wp.op | apply Wp.opN); (apply Evt.all; intro; (simp [sl, t25, rwayU, refT, over]) <;> (try simp (disch := omega) only [wrap_id]) <;> first | exact ⟨rfl, rfl⟩ | exact rfl)) | (apply Wp.call; exact hw2 _) | (first | (apply Wp.ung; (exact rfl); (first | exact rfl | assumption)) | (apply Wp.opSt; (exact rfl); (first | exact rfl | assumption)) | (apply Wp.opSf; (exact rfl); (first | exact rfl | assumption))) | (apply Wp.opS0; (exact rfl)) | (first | (apply Wp.condT; (exact rfl); (first | exact rfl | assumption)) | (apply Wp.condF; (exact rfl); (first | exact rfl | assumption))) | ((first | apply Wp.grdT | apply Wp.grdF | apply Wp.cond); (exact rfl); (intro); rotate_left 1; (intro); rotate_right 1))
  refine (show Wp T (.loop c_joinerylaw10_As_L2) (a2S w ns 0) _ _ _ from hlp.imp (fun _ h => h.elim) (fun _ h => h.elim) ?_)
  rintro b s ⟨rfl, rfl⟩
  rw [if_pos rfl]
  repeat (first | apply Wp.seq | apply Wp.skip | apply Wp.block | (apply Wp.op0; ((simp [M2.keep]) <;> rfl)) | ((first | apply Wp.op | apply Wp.opN | (apply Wp.opG; exact rfl)); (apply Evt.all; intro; (simp [over]) <;> (try simp (disch := omega) only [wrap_id]) <;> first | exact ⟨rfl, rfl⟩ | exact rfl)) | (apply Wp.opS; exact rfl; decide) | (apply Wp.opS0; exact rfl))
  refine Wp.ret ?_
  have hz : ∀ (A B C : Ob) (R : List (List U)), R.length = ns.length → frz 11 [A, B, C, .row 117 2 false R] (.own 3 ns.length) = some (.sl true R, [A, B, C, .frow R]) := fun A B C R hR => by
    show (if R.length = ns.length then some (U.sl true R, [A, B, C, Ob.frow R]) else none) = _
    rw [if_pos hR]
  simp [Res, resU, res1, c_joinerylaw10_As, rskelU, refT, Function.comp_def, hz]
end Go.Proofs.YtapibckmdpdljaaDoor.M2
