/- The law PathRuns in M2. -/
import Derived.Test.YtapibckmdpdljaaDoorCg
import Derived.Test.YtapibckmdpdljaaDoorCh
set_option linter.unusedSimpArgs false
set_option linter.unusedVariables false
set_option linter.unusedSectionVars false
/- What the functions answer in M2. States: words, and what only moves. -/
namespace Go.Proofs.YtapibckmdpdljaaDoor.M2
open Go
attribute [local simp] ev1 M2.get put A.ev ld sub part elems bin arith un opt idx fillC cellsO splice over newOb sto fillR laidOwn appTo appRow touch touchN touchM touchE touchA plainU flatU plainAs allM rowAt stoRow accM_nil accM_cons accMM_nil accMM_cons frz_int frz_bool frz_str frz_slt frz_nils frz_nilI frz_nilF frz_own frzRow_row frzRow_frow Ob.blw blw_bool blw_int blw_str blw_nils blw_nilI blw_nilF blw_nilp blw_nilm blw_sl blw_own blw_bp blw_rp blw_mp blw_it params
attribute [local simp] frz_agg frz_tup frz_iface frzS_agg frzS_iface accMS_cons frzS_int frzS_bool frzS_str frzS_slt frzS_nils frzS_nilI beq_dec bne_dec

theorem trim_list {st l : List Ob} {e : Env} (he : e.all (fun p => blw blwD st.length p.2) = true) (hB : st.all (Ob.blw st.length) = true) : trimO st.length ⟨e, st ++ l⟩ = ⟨e, st⟩ := by
  unfold trimO trim
  simp only [List.take_left, he, hB, Bool.and_self, if_true, Option.getD_some]
abbrev Wd := Bool × Int
def wdU (w : Wd) : List U := [.bool w.1, i64 w.2]
def wdsU (L : List Wd) : List U := L.flatMap wdU
theorem wds_len (L : List Wd) : (wdsU L).length = 2 * L.length := by
  induction L with
  | nil => rfl
  | cons w L ih => rw [wdsU, List.flatMap_cons, List.length_append, ← wdsU, ih]; simp [wdU]; omega
theorem wdsU_cons (w : Wd) (L : List Wd) : wdsU (w :: L) = .bool w.1 :: i64 w.2 :: wdsU L := rfl
theorem wds_get : ∀ (L : List Wd) (d : Nat) (h : d < L.length) (r : List U), ((wdsU L ++ r).drop (d * 2)).take 2 = [.bool L[d].1, i64 L[d].2]
  | w :: L, 0, _, r => rfl
  | w :: L, d + 1, h, r => by
    rw [wdsU_cons, show (d + 1) * 2 = d * 2 + 2 by omega]
    exact wds_get L d (by simpa using h) r
theorem wds_get1 (L : List Wd) (d : Nat) (h : d < L.length) (r : List U) : ((wdsU L ++ r).drop (d * 2 + 1)).take 1 = [i64 L[d].2] := by
  have h1 := wds_get L d h r
  have h2 : ((wdsU L ++ r).drop (d * 2 + 1)).take 1 = (((wdsU L ++ r).drop (d * 2)).take 2).drop 1 := by rw [List.drop_take, List.drop_drop]
  rw [h2, h1]
  rfl
theorem wds_get0 (L : List Wd) (d : Nat) (h : d < L.length) (r : List U) : ((wdsU L ++ r).drop (d * 2)).take 1 = [.bool L[d].1] := by
  have h1 := wds_get L d h r
  have h2 : ((wdsU L ++ r).drop (d * 2)).take 1 = (((wdsU L ++ r).drop (d * 2)).take 2).take 1 := by rw [List.take_take]; rfl
  rw [h2, h1]
  rfl
theorem wds_set : ∀ (L : List Wd) (d : Nat) (_ : d < L.length) (b : Bool) (v : Int) (r : List U), splice (wdsU L ++ r) (d * 2) [.bool b, i64 v] = wdsU (L.set d (b, v)) ++ r
  | w :: L, 0, _, b, v, r => by simp [wdsU_cons]
  | w :: L, d + 1, h, b, v, r => by
    rw [wdsU_cons, show (d + 1) * 2 = d * 2 + 1 + 1 by omega, List.set_cons_succ, wdsU_cons]
    simp only [List.cons_append, splice]
    rw [wds_set L d (by simpa using h)]
theorem wds_drop {L : List Wd} (hL : L.length = 24) (n : Nat) (hn : 48 ≤ n) (r : List U) : (wdsU L ++ r).drop n = r.drop (n - 48) := by
  rw [List.drop_append, List.drop_eq_nil_of_le (by rw [wds_len]; omega), wds_len, hL, List.nil_append]
theorem splice_app : ∀ (a r : List U) (n : Nat) (_ : a.length ≤ n) (us : List U), splice (a ++ r) n us = a ++ splice r (n - a.length) us
  | [], r, n, _, us => rfl
  | x :: a, r, n + 1, h, us => by
    simp only [List.cons_append, splice, List.length_cons]
    rw [splice_app a r n (by simpa using h), show n + 1 - (a.length + 1) = n - a.length by omega]
theorem wds_splice {L : List Wd} (hL : L.length = 24) (n : Nat) (hn : 48 ≤ n) (r us : List U) : splice (wdsU L ++ r) n us = wdsU L ++ splice r (n - 48) us := by
  rw [splice_app _ _ _ (by rw [wds_len]; omega), wds_len, hL]
theorem wds_take {L : List Wd} (hL : L.length = 24) (r : List U) : (wdsU L ++ r).take 48 = wdsU L := by
  rw [List.take_append, List.take_of_length_le (by rw [wds_len]; omega), wds_len, hL]
  simp
theorem wds_takeMore {L : List Wd} (hL : L.length = 24) (n : Nat) (hn : 48 ≤ n) (r : List U) : (wdsU L ++ r).take n = wdsU L ++ r.take (n - 48) := by
  rw [List.take_append, List.take_of_length_le (by rw [wds_len]; omega), wds_len, hL]
theorem wds48 {L : List Wd} (hL : L.length = 24) : (wdsU L).length = 48 := by rw [wds_len, hL]
theorem wds_blw (n : Nat) (L : List Wd) : (wdsU L).all (blw blwD n) = true := by
  induction L with
  | nil => rfl
  | cons w L ih => rw [wdsU_cons]; simp [ih]
theorem wds_blw1 (n : Nat) (L : List Wd) : blw blwD n (.agg (wdsU L)) = true := by
  show (wdsU L).all (blw 11 n) = true
  induction L with
  | nil => rfl
  | cons w L ih =>
    rw [wdsU_cons, List.all_cons, List.all_cons, ih]
    rfl
theorem wds_plain (L : List Wd) : (wdsU L).all plainU = true := by
  induction L with
  | nil => rfl
  | cons w L ih =>
    rw [wdsU_cons, List.all_cons, List.all_cons, ih]
    rfl
/-- A state. -/
structure Stt where
  L : List Wd
  h : List Int
  at_ : Int
  asked : Int
def heapU (p : Bool) (h : List Int) : U := .sl p (h.map fun v => [i64 v])
def stU (p : Bool) (s : Stt) : List U := wdsU s.L ++ [heapU p s.h, i64 s.at_, i64 s.asked]
theorem accWds (d : Nat) (st : List Ob) (r : List U) (r' : List U) (st' : List Ob) (hr : accM (frz (d + 1)) st r = some (r', st')) : ∀ L : List Wd, accM (frz (d + 1)) st (wdsU L ++ r) = some (wdsU L ++ r', st')
  | [] => hr
  | w :: L => by
    rw [wdsU_cons]
    simp only [List.cons_append]
    rw [accMS_cons, frzS_bool]
    simp only [Option.bind_some]
    rw [accMS_cons, frzS_int]
    simp only [Option.bind_some, accWds d st r r' st' hr L]
theorem frz_stt (st : List Ob) (s : Stt) : frz frzD st (.agg (stU true s)) = some (.agg (stU true s), st) := by
  rw [frz_agg, stU, accWds 10 st _ _ _ rfl s.L]
  rfl
theorem brwWds (d : Nat) (st : List Ob) (r : List U) (r' : List U) (hr : allM (brw (d + 1) st) r = some r') : ∀ L : List Wd, allM (brw (d + 1) st) (wdsU L ++ r) = some (wdsU L ++ r')
  | [] => hr
  | w :: L => by
    rw [wdsU_cons]
    simp only [List.cons_append, M2.allM]
    rw [show brw (d + 1) st (.bool w.1) = some (.bool w.1) from rfl, show brw (d + 1) st (i64 w.2) = some (i64 w.2) from rfl, brwWds d st r r' hr L]
    rfl
theorem brw_stt (st : List Ob) (p : Bool) (s : Stt) : brw frzD st (.agg (stU p s)) = some (.agg (stU p s)) := by
  show (allM (brw 11 st) (stU p s)).bind (fun cs => some (U.agg cs)) = _
  rw [stU, brwWds 10 st _ _ rfl s.L]
  rfl
/-- What is in a step's hands. -/
structure Work where
  s : Stt
  x : Ins
  ask : U
  ev : U
  how : Int
  val : Int
def workU (w : Work) : List U := wdsU w.s.L ++ [heapU true w.s.h, i64 w.s.at_, i64 w.s.asked, i64 w.x.op, i64 w.x.d, i64 w.x.a, i64 w.x.b, i64 w.x.n, i64 w.x.to, w.ask, w.ev, i64 w.how, i64 w.val]
/-- What only moves. -/
def moveF (L : List Wd) (x : Ins) : List Wd :=
  if x.op = 1 then L.set x.d.toNat (true, x.n) else if x.op = 2 then L.set x.d.toNat (L.getD x.a.toNat (false, 0)) else if x.op = 3 then (L.set x.d.toNat (L.getD x.a.toNat (false, 0))).set x.a.toNat (L.getD x.d.toNat (false, 0)) else L
theorem moveF_len (L : List Wd) (x : Ins) : (moveF L x).length = L.length := by
  unfold moveF
  split
  · rw [List.length_set]
  · split
    · rw [List.length_set]
    · split
      · rw [List.length_set, List.length_set]
      · rfl
theorem lent_work (o1 o2 o3 : Ob) (s : Stt) (x : Ins) (A : List (List U)) (how val : Int) : brwA frzD [o1, o2, o3, .box (workU ⟨s, x, .sl true A, .nils, how, val⟩)] (.bp 3 0) = some (.fp (workU ⟨s, x, .sl true A, .sl true [], how, val⟩)) := by
  show (if 0 ≤ (workU ⟨s, x, .sl true A, .nils, how, val⟩).length then (allM (brw frzD _) (workU ⟨s, x, .sl true A, .nils, how, val⟩)).map U.fp else none) = _
  rw [if_pos (Nat.zero_le _), workU, frzD, brwWds 11 _ _ _ rfl s.L]
  rfl
theorem number_call (o1 o2 o3 : Ob) (s : Stt) (x : Ins) (A : List (List U)) (how val : Int) (hL : s.L.length = 24) (D : Nat) (hD : D < 24) : Cl T n_step_work_number [.bp 3 0, i64 D] [o1, o2, o3, .box (workU ⟨s, x, .sl true A, .nils, how, val⟩)] (i64 (s.L.getD D (false, 0)).2) [o1, o2, o3, .box (workU ⟨s, x, .sl true A, .nils, how, val⟩)] := by
  have hln := lent_work o1 o2 o3 s x A how val
  refine Wp.pureA (fn := c_step_work_number) rfl rfl rfl («as» := [.fp (workU ⟨s, x, .sl true A, .sl true [], how, val⟩), i64 D]) (by rw [M2.allM, hln]; rfl) ?_
  have hD' : (D : Int) < 24 := by omega
  have l48 := wds48 hL
  have g1 := wds_get1 s.L D (by omega)
  have gd : s.L.getD D (false, 0) = s.L[D] := by simp [hL, hD]
  have hle : D * 2 < 61 := by omega
  have hle1 : D * 2 + 1 + 1 ≤ 61 := by omega
  rw [gd]
  simp only [workU]
  have hle2 : 1 < 61 - D * 2 := by omega
  have hle3 : 1 ≤ 60 - D * 2 := by omega
  repeat' (first | apply Wp.seq | apply Wp.skip | apply Wp.block | (apply Wp.op0; ((simp [M2.keep]) <;> rfl)) | ((first | (apply Wp.pickT; (exact rfl); (first | exact rfl | assumption)) | (apply Wp.pickF; (exact rfl); (first | exact rfl | assumption))); ((simp) <;> exact rfl)) | ((first | apply Wp.op | apply Wp.opN); (apply Evt.all; intro; (simp [hD', l48, g1, hle, hle1, hle2, hle3, List.drop_drop]) <;> (try simp (disch := omega) only [wrap_id]) <;> first | exact ⟨rfl, rfl⟩ | exact rfl)) | (first | (apply Wp.ung; (exact rfl); (first | exact rfl | assumption)) | (apply Wp.opSt; (exact rfl); (first | exact rfl | assumption)) | (apply Wp.opSf; (exact rfl); (first | exact rfl | assumption))) | (apply Wp.opS0; (exact rfl)) | (first | (apply Wp.condT; (exact rfl); (first | exact rfl | assumption)) | (apply Wp.condF; (exact rfl); (first | exact rfl | assumption))) | ((first | apply Wp.grdT | apply Wp.grdF | apply Wp.cond); (exact rfl); (intro); rotate_left 1; (intro); rotate_right 1))
  refine Wp.ret ?_
  simp [Res, resU, res1, c_step_work_number]
end Go.Proofs.YtapibckmdpdljaaDoor.M2

/- What the functions answer in M2. A step that only moves: the words. -/
namespace Go.Proofs.YtapibckmdpdljaaDoor.M2
open Go
attribute [local simp] ev1 M2.get put A.ev ld sub part elems bin arith un opt idx fillC cellsO splice over newOb sto fillR laidOwn appTo appRow touch touchN touchM touchE touchA plainU flatU plainAs allM rowAt stoRow accM_nil accM_cons accMM_nil accMM_cons frz_int frz_bool frz_str frz_slt frz_nils frz_nilI frz_nilF frz_own frzRow_row frzRow_frow Ob.blw blw_bool blw_int blw_str blw_nils blw_nilI blw_nilF blw_nilp blw_nilm blw_sl blw_own blw_bp blw_rp blw_mp blw_it params
attribute [local simp] frz_agg frz_tup frz_iface frzS_agg frzS_iface accMS_cons frzS_int frzS_bool frzS_str frzS_slt frzS_nils frzS_nilI beq_dec bne_dec

set_option maxHeartbeats 8000000 in
theorem move_call (o1 o2 o3 : Ob) (w : Work) (hL : w.s.L.length = 24) (hd : locF 24 w.x.d = true) (ha : locF 24 w.x.a = true) : Cl T n_step_work_move [.bp 3 0] [o1, o2, o3, .box (workU w)] (.tup []) [o1, o2, o3, .box (workU { w with s := { w.s with L := moveF w.s.L w.x } })] := by
  refine Wp.impure (fn := c_step_work_move) rfl rfl rfl ?_
  obtain ⟨⟨L, h, at_, asked⟩, ⟨op, d, a, b, n, to⟩, ask, ev, how, val⟩ := w
  simp only at hL hd ha
  simp only [locF, Bool.and_eq_true, decide_eq_true_eq] at hd ha
  obtain ⟨D, rfl⟩ := Int.eq_ofNat_of_zero_le hd.1
  obtain ⟨A, rfl⟩ := Int.eq_ofNat_of_zero_le ha.1
  have D1 : D < L.length := by omega
  have A1 : A < L.length := by omega
  have D2 : (D : Int) < 24 := by omega
  have A2 : (A : Int) < 24 := by omega
  have l48 := wds48 hL
  have hle : D * 2 + 2 ≤ 61 := by omega
  have hle2 : A * 2 + 2 ≤ 61 := by omega
  have gA := wds_get L A A1
  have gD := wds_get L D D1
  have sD := fun (M : List Wd) (hM : M.length = 24) => wds_set M D (by omega)
  have sA := fun (M : List Wd) (hM : M.length = 24) => wds_set M A (by omega)
  have dr := fun (M : List Wd) (hM : M.length = 24) => wds_drop hM
  have eA : L.getD A (false, 0) = L[A] := by simp [A1]
  have eD : L.getD D (false, 0) = L[D] := by simp [D1]
  simp only [moveF, Int.toNat_natCast, eA, eD, workU]
  have dr0 := dr L hL
  have sD0 := sD L hL
  have e24 : ∀ w, (L.set D w).length = 24 := fun w => by rw [List.length_set]; exact hL
  by_cases c1 : op = 1
  · subst c1
    repeat' (first | apply Wp.seq | apply Wp.skip | apply Wp.block | (apply Wp.op0; ((simp [M2.keep]) <;> rfl)) | ((first | (apply Wp.pickT; (exact rfl); (first | exact rfl | assumption)) | (apply Wp.pickF; (exact rfl); (first | exact rfl | assumption))); ((simp) <;> exact rfl)) | ((first | apply Wp.op | apply Wp.opN); (apply Evt.all; intro; (simp [l48, dr0]) <;> (try simp (disch := omega) only [wrap_id]) <;> first | exact ⟨rfl, rfl⟩ | exact rfl)) | (first | (apply Wp.ung; (exact rfl); (first | exact rfl | assumption)) | (apply Wp.opSt; (exact rfl); (first | exact rfl | assumption)) | (apply Wp.opSf; (exact rfl); (first | exact rfl | assumption))) | (apply Wp.opS0; (exact rfl)) | (first | (apply Wp.condT; (exact rfl); (first | exact rfl | assumption)) | (apply Wp.condF; (exact rfl); (first | exact rfl | assumption))) | ((first | apply Wp.grdT | apply Wp.grdF | apply Wp.cond); (exact rfl); (intro); rotate_left 1; (intro); rotate_right 1))
    refine Wp.draw (by (simp [c_step_work_move_D0, I.need]) <;> rfl) (by (simp [D2, hle, l48, dr0, sD0]) <;> rfl) (by (simp [D2, hle, l48, dr0, sD0]) <;> rfl) (by (unfold c_step_work_move_D0); (repeat (first | ((first | apply Dr.op | apply Dr.opN | (apply Dr.opG; exact rfl)); ((simp [D2, hle, l48, dr0, sD0]) <;> rfl); (apply Evt.all; intro; (simp [D2, hle, l48, dr0, sD0]) <;> (try simp (disch := omega) only [wrap_id]) <;> first | exact ⟨rfl, rfl⟩ | exact rfl); ((simp [I.need]) <;> rfl)) | ((first | (apply Dr.opS; exact rfl; decide) | (apply Dr.opS0; exact rfl)); ((simp [I.need]) <;> rfl)))); exact Dr.nil) (by first | decide +kernel | exact rfl) (by (simp [M2.keep]) <;> rfl) ?_
    refine ⟨rfl, ?_⟩
    exact congrArg S.st (trimO_len rfl)
  by_cases c2 : op = 2
  · subst c2
    repeat' (first | apply Wp.seq | apply Wp.skip | apply Wp.block | (apply Wp.op0; ((simp [M2.keep]) <;> rfl)) | ((first | (apply Wp.pickT; (exact rfl); (first | exact rfl | assumption)) | (apply Wp.pickF; (exact rfl); (first | exact rfl | assumption))); ((simp) <;> exact rfl)) | ((first | apply Wp.op | apply Wp.opN); (apply Evt.all; intro; (simp [l48, dr0]) <;> (try simp (disch := omega) only [wrap_id]) <;> first | exact ⟨rfl, rfl⟩ | exact rfl)) | (first | (apply Wp.ung; (exact rfl); (first | exact rfl | assumption)) | (apply Wp.opSt; (exact rfl); (first | exact rfl | assumption)) | (apply Wp.opSf; (exact rfl); (first | exact rfl | assumption))) | (apply Wp.opS0; (exact rfl)) | (first | (apply Wp.condT; (exact rfl); (first | exact rfl | assumption)) | (apply Wp.condF; (exact rfl); (first | exact rfl | assumption))) | ((first | apply Wp.grdT | apply Wp.grdF | apply Wp.cond); (exact rfl); (intro); rotate_left 1; (intro); rotate_right 1))
    refine Wp.draw (by (simp [c_step_work_move_D1, I.need]) <;> rfl) (by (simp [D2, A2, hle, hle2, l48, dr0, gA, sD0]) <;> rfl) (by (simp [D2, A2, hle, hle2, l48, dr0, gA, sD0]) <;> rfl) (by (unfold c_step_work_move_D1); (repeat (first | ((first | apply Dr.op | apply Dr.opN | (apply Dr.opG; exact rfl)); ((simp [D2, A2, hle, hle2, l48, dr0, gA, sD0]) <;> rfl); (apply Evt.all; intro; (simp [D2, A2, hle, hle2, l48, dr0, gA, sD0]) <;> (try simp (disch := omega) only [wrap_id]) <;> first | exact ⟨rfl, rfl⟩ | exact rfl); ((simp [I.need]) <;> rfl)) | ((first | (apply Dr.opS; exact rfl; decide) | (apply Dr.opS0; exact rfl)); ((simp [I.need]) <;> rfl)))); exact Dr.nil) (by first | decide +kernel | exact rfl) (by (simp [M2.keep]) <;> rfl) ?_
    refine ⟨rfl, ?_⟩
    exact congrArg S.st (trimO_len rfl)
  by_cases c3 : op = 3
  · subst c3
    have l48' := wds48 (e24 L[A])
    have sA0 := sA (L.set D L[A]) (e24 _)
    have dr1 := dr (L.set D L[A]) (e24 _)
    repeat' (first | apply Wp.seq | apply Wp.skip | apply Wp.block | (apply Wp.op0; ((simp [M2.keep]) <;> rfl)) | ((first | (apply Wp.pickT; (exact rfl); (first | exact rfl | assumption)) | (apply Wp.pickF; (exact rfl); (first | exact rfl | assumption))); ((simp) <;> exact rfl)) | ((first | apply Wp.op | apply Wp.opN); (apply Evt.all; intro; (simp [l48, dr0]) <;> (try simp (disch := omega) only [wrap_id]) <;> first | exact ⟨rfl, rfl⟩ | exact rfl)) | (first | (apply Wp.ung; (exact rfl); (first | exact rfl | assumption)) | (apply Wp.opSt; (exact rfl); (first | exact rfl | assumption)) | (apply Wp.opSf; (exact rfl); (first | exact rfl | assumption))) | (apply Wp.opS0; (exact rfl)) | (first | (apply Wp.condT; (exact rfl); (first | exact rfl | assumption)) | (apply Wp.condF; (exact rfl); (first | exact rfl | assumption))) | ((first | apply Wp.grdT | apply Wp.grdF | apply Wp.cond); (exact rfl); (intro); rotate_left 1; (intro); rotate_right 1))
    refine Wp.draw (by (simp [c_step_work_move_D2, I.need]) <;> rfl) (by (simp [D2, A2, hle, hle2, l48, l48', dr0, dr1, gA, gD, sD0, sA0]) <;> rfl) (by (simp [D2, A2, hle, hle2, l48, l48', dr0, dr1, gA, gD, sD0, sA0]) <;> rfl) (by (unfold c_step_work_move_D2); (repeat (first | ((first | apply Dr.op | apply Dr.opN | (apply Dr.opG; exact rfl)); ((simp [D2, A2, hle, hle2, l48, l48', dr0, dr1, gA, gD, sD0, sA0]) <;> rfl); (apply Evt.all; intro; (simp [D2, A2, hle, hle2, l48, l48', dr0, dr1, gA, gD, sD0, sA0]) <;> (try simp (disch := omega) only [wrap_id]) <;> first | exact ⟨rfl, rfl⟩ | exact rfl); ((simp [I.need]) <;> rfl)) | ((first | (apply Dr.opS; exact rfl; decide) | (apply Dr.opS0; exact rfl)); ((simp [I.need]) <;> rfl)))); exact Dr.nil) (by first | decide +kernel | exact rfl) (by (simp [M2.keep]) <;> rfl) ?_
    refine ⟨rfl, ?_⟩
    exact congrArg S.st (trimO_len rfl)
  · rw [if_neg c1, if_neg c2, if_neg c3]
    repeat' (first | apply Wp.seq | apply Wp.skip | apply Wp.block | (apply Wp.op0; ((simp [M2.keep]) <;> rfl)) | ((first | (apply Wp.pickT; (exact rfl); (first | exact rfl | assumption)) | (apply Wp.pickF; (exact rfl); (first | exact rfl | assumption))); ((simp) <;> exact rfl)) | ((first | apply Wp.op | apply Wp.opN); (apply Evt.all; intro; (simp [l48, dr0, c1, c2, c3]) <;> (try simp (disch := omega) only [wrap_id]) <;> first | exact ⟨rfl, rfl⟩ | exact rfl)) | (first | (apply Wp.ung; (exact rfl); (first | exact rfl | assumption)) | (apply Wp.opSt; (exact rfl); (first | exact rfl | assumption)) | (apply Wp.opSf; (exact rfl); (first | exact rfl | assumption))) | (apply Wp.opS0; (exact rfl)) | (first | (apply Wp.condT; (exact rfl); (first | exact rfl | assumption)) | (apply Wp.condF; (exact rfl); (first | exact rfl | assumption))) | ((first | apply Wp.grdT | apply Wp.grdF | apply Wp.cond); (exact rfl); (intro); rotate_left 1; (intro); rotate_right 1))
    refine ⟨rfl, ?_⟩
    exact congrArg S.st (trimO_len rfl)
end Go.Proofs.YtapibckmdpdljaaDoor.M2

/- What the functions answer in M2. A step that only moves. -/
namespace Go.Proofs.YtapibckmdpdljaaDoor.M2
open Go
attribute [local simp] ev1 M2.get put A.ev ld sub part elems bin arith un opt idx fillC cellsO splice over newOb sto fillR laidOwn appTo appRow touch touchN touchM touchE touchA plainU flatU plainAs allM rowAt stoRow accM_nil accM_cons accMM_nil accMM_cons frz_int frz_bool frz_str frz_slt frz_nils frz_nilI frz_nilF frz_own frzRow_row frzRow_frow Ob.blw blw_bool blw_int blw_str blw_nils blw_nilI blw_nilF blw_nilp blw_nilm blw_sl blw_own blw_bp blw_rp blw_mp blw_it params
attribute [local simp] frz_agg frz_tup frz_iface frzS_agg frzS_iface accMS_cons frzS_int frzS_bool frzS_str frzS_slt frzS_nils frzS_nilI beq_dec bne_dec

theorem heapRight_call (p : Bool) (h : List Int) (st : List Ob) : Cl T n_heap_Right [heapU p h] st (.bool (decide (h.length ≤ 16))) st := by
  refine Wp.pure (fn := c_heap_Right) rfl rfl rfl («as» := [heapU p h]) rfl ?_
  simp only [heapU]
  repeat' (first | apply Wp.seq | apply Wp.skip | apply Wp.block | (apply Wp.op0; ((simp [M2.keep]) <;> rfl)) | ((first | (apply Wp.pickT; (exact rfl); (first | exact rfl | assumption)) | (apply Wp.pickF; (exact rfl); (first | exact rfl | assumption))); ((simp) <;> exact rfl)) | ((first | apply Wp.op | apply Wp.opN); (apply Evt.all; intro; (simp []) <;> (try simp (disch := omega) only [wrap_id]) <;> first | exact ⟨rfl, rfl⟩ | exact rfl)) | (first | (apply Wp.ung; (exact rfl); (first | exact rfl | assumption)) | (apply Wp.opSt; (exact rfl); (first | exact rfl | assumption)) | (apply Wp.opSf; (exact rfl); (first | exact rfl | assumption))) | (apply Wp.opS0; (exact rfl)) | (first | (apply Wp.condT; (exact rfl); (first | exact rfl | assumption)) | (apply Wp.condF; (exact rfl); (first | exact rfl | assumption))) | ((first | apply Wp.grdT | apply Wp.grdF | apply Wp.cond); (exact rfl); (intro); rotate_left 1; (intro); rotate_right 1))
  refine Wp.ret ?_
  simp [Res, resU, res1, c_heap_Right]
  try omega
theorem acc_ints (st : List Ob) : ∀ h : List Int, accM (accM (frz frzD)) st (h.map fun v => [i64 v]) = some (h.map fun v => [i64 v], st)
  | [] => rfl
  | v :: h => by
    have ih := acc_ints st h
    simp only [List.map_cons]
    rw [accMM_cons]
    have h1 : accM (frz frzD) st [i64 v] = some ([i64 v], st) := rfl
    simp only [h1, ih, Option.bind_some]
theorem app_ints (cl : Nat → List U → List Ob → Option (U × List Ob)) (e : Env) (st : List Ob) (i : Nat) (p : Bool) (h : List Int) (hh : h.length ≤ 1000) (s x : A) (hs : s.ev e = .own i 0) (hx : x.ev e = heapU p h) (hi : st[i]? = some (.row 2 1 false [])) (nid : Nat) :
    ev1 cl e st nid (.append 2 1 8 false s x) = some (.own i h.length, st.set i (.row 2 1 false (h.map fun v => [i64 v]))) := by
  have hall : ((h.map fun v => [i64 v]).all fun y => y.length == 1) = true := by
    rw [List.all_eq_true]
    intro y hy
    obtain ⟨b, _, rfl⟩ := List.mem_map.1 hy
    rfl
  have hlim : (0 + (h.map fun v => [i64 v]).length) * 8 ≤ 140737488355328 := by simp; omega
  rw [ev1, hx]
  simp only [heapU, elems, Option.bind_some]
  rw [if_pos hall, hs]
  simp only
  unfold appTo
  simp only [hi]
  rw [acc_ints]
  simp only [Option.bind_some]
  unfold appRow
  simp only [hi]
  rw [if_pos ⟨rfl, trivial, trivial, hlim⟩]
  simp only [Option.bind_some, List.length_map, List.nil_append, Nat.zero_add]
theorem stU_len {p : Bool} {s : Stt} (hL : s.L.length = 24) : (stU p s).length = 51 := by simp [stU, wds48 hL]
set_option maxHeartbeats 8000000 in
theorem own_call (p : Bool) (s : Stt) (hL : s.L.length = 24) (hh : s.h.length ≤ 1000) (st : List Ob) : Cl T n_step_own [.agg (stU p s)] st (.agg (stU true s)) st := by
  have hbr := brw_stt st p s
  refine Wp.pure (fn := c_step_own) rfl rfl rfl («as» := [.agg (stU p s)]) (by simp [hbr]) ?_
  obtain ⟨L, h, at_, asked⟩ := s
  simp only at hL hh
  have l48 := wds48 hL
  have dr := wds_drop hL
  have sp := wds_splice hL
  have tk := wds_takeMore hL
  simp only [stU]
  repeat' (first | apply Wp.seq | apply Wp.skip | apply Wp.block | (apply Wp.op0; ((simp [M2.keep]) <;> rfl)) | ((first | (apply Wp.pickT; (exact rfl); (first | exact rfl | assumption)) | (apply Wp.pickF; (exact rfl); (first | exact rfl | assumption))); ((simp) <;> exact rfl)) | ((first | apply Wp.op | apply Wp.opN); (apply Evt.all; intro; (simp [l48, dr]) <;> (try simp (disch := omega) only [wrap_id]) <;> first | exact ⟨rfl, rfl⟩ | exact rfl)) | (first | (apply Wp.ung; (exact rfl); (first | exact rfl | assumption)) | (apply Wp.opSt; (exact rfl); (first | exact rfl | assumption)) | (apply Wp.opSf; (exact rfl); (first | exact rfl | assumption))) | (apply Wp.opS0; (exact rfl)) | (first | (apply Wp.condT; (exact rfl); (first | exact rfl | assumption)) | (apply Wp.condF; (exact rfl); (first | exact rfl | assumption))) | ((first | apply Wp.grdT | apply Wp.grdF | apply Wp.cond); (exact rfl); (intro); rotate_left 1; (intro); rotate_right 1))
  refine Wp.op (Evt.all fun n => app_ints _ _ _ 2 p h hh _ _ rfl rfl rfl _) ?_
  repeat' (first | apply Wp.seq | apply Wp.skip | apply Wp.block | (apply Wp.op0; ((simp [M2.keep]) <;> rfl)) | ((first | (apply Wp.pickT; (exact rfl); (first | exact rfl | assumption)) | (apply Wp.pickF; (exact rfl); (first | exact rfl | assumption))); ((simp) <;> exact rfl)) | ((first | apply Wp.op | apply Wp.opN); (apply Evt.all; intro; (simp [l48, dr, sp, tk, over_full]) <;> (try simp (disch := omega) only [wrap_id]) <;> first | exact ⟨rfl, rfl⟩ | exact rfl)) | (first | (apply Wp.ung; (exact rfl); (first | exact rfl | assumption)) | (apply Wp.opSt; (exact rfl); (first | exact rfl | assumption)) | (apply Wp.opSf; (exact rfl); (first | exact rfl | assumption))) | (apply Wp.opS0; (exact rfl)) | (first | (apply Wp.condT; (exact rfl); (first | exact rfl | assumption)) | (apply Wp.condF; (exact rfl); (first | exact rfl | assumption))) | ((first | apply Wp.grdT | apply Wp.grdF | apply Wp.cond); (exact rfl); (intro); rotate_left 1; (intro); rotate_right 1))
  refine Wp.ret ?_
  have hf : ∀ (A B : Ob), accM (frz 11) [A, B, .row 2 1 false (h.map fun v => [i64 v])] [.own 2 h.length, i64 at_, i64 asked] = some ([.sl true (h.map fun v => [i64 v]), i64 at_, i64 asked], [A, B, .frow (h.map fun v => [i64 v])]) := fun A B => by
    have h1 : frz 11 [A, B, .row 2 1 false (h.map fun v => [i64 v])] (.own 2 h.length) = some (.sl true (h.map fun v => [i64 v]), [A, B, .frow (h.map fun v => [i64 v])]) := by
      show (if (h.map fun v => [i64 v]).length = h.length then some (U.sl true (h.map fun v => [i64 v]), [A, B, Ob.frow (h.map fun v => [i64 v])]) else none) = _
      rw [if_pos (by simp)]
    rw [accMS_cons, h1]
    rfl
  have hg := fun A B => accWds 10 _ _ _ _ (hf A B) L
  simp [Res, resU, res1, c_step_own, l48, tk, heapU, hg]
def okW (L : List Wd) : Bool := L.all fun w => w.1 || decide (w.2 = 0)
/-- May a function go on from a state? -/
def sttF (l : List Ins) (s : Stt) : Bool := rightF l && decide (0 ≤ s.at_) && decide (s.at_ < l.length) && decide (s.h.length ≤ 16) && decide (0 ≤ s.asked) && okW s.L
end Go.Proofs.YtapibckmdpdljaaDoor.M2

/- What the functions answer in M2. Which states are right. -/
namespace Go.Proofs.YtapibckmdpdljaaDoor.M2
open Go
attribute [local simp] ev1 M2.get put A.ev ld sub part elems bin arith un opt idx fillC cellsO splice over newOb sto fillR laidOwn appTo appRow touch touchN touchM touchE touchA plainU flatU plainAs allM rowAt stoRow accM_nil accM_cons accMM_nil accMM_cons frz_int frz_bool frz_str frz_slt frz_nils frz_nilI frz_nilF frz_own frzRow_row frzRow_frow Ob.blw blw_bool blw_int blw_str blw_nils blw_nilI blw_nilF blw_nilp blw_nilm blw_sl blw_own blw_bp blw_rp blw_mp blw_it params
attribute [local simp] frz_agg frz_tup frz_iface frzS_agg frzS_iface accMS_cons frzS_int frzS_bool frzS_str frzS_slt frzS_nils frzS_nilI beq_dec bne_dec

theorem stU_blw (n : Nat) (p : Bool) (s : Stt) : Ob.blw n (.box (stU p s)) = true := by
  show (stU p s).all (blw blwD n) = true
  rw [stU, List.all_append, wds_blw]
  rfl
/-- The document's state. -/
def rsU (s : Stt) : List U := [.sl true (s.L.map wdU), heapU true s.h, i64 s.at_, i64 s.asked]
def s7S (s : Stt) (i : Nat) : S := ⟨[(1, .bp 0 0), (2, .bp 1 0), (3, .bp 2 0), (4, i64 i)], [.box (stU true s), .box [.nils, .nils, i64 0, i64 0], .box [.own 3 i, heapU true s.h, i64 s.at_, i64 s.asked], .row 75 2 false ((s.L.map wdU).take i)]⟩
set_option maxHeartbeats 8000000 in
theorem s7_loop (s : Stt) (hL : s.L.length = 24) : Wp T (.loop c_joinerylaw07_As_L1) (s7S s 0) (fun _ => False) (fun _ => False)
    (fun b s' => b = 0 ∧ s' = ⟨[(1, .bp 0 0), (2, .bp 1 0), (3, .bp 2 0), (4, i64 24), (13, .bool false)], [.box (stU true s), .box [.nils, .nils, i64 0, i64 0], .box [.own 3 24, heapU true s.h, i64 s.at_, i64 s.asked], .row 75 2 false (s.L.map wdU)]⟩) := by
  have l48 := wds48 hL
  refine Wp.count 24 (fun i => s7S s i) (fun _ => True) (fun i hi _ => ?_) (fun _ => ?_) 0 (by omega) trivial
  · have hi' : (i : Int) < 24 := by omega
    have hiL : i < s.L.length := by omega
    have g2 := wds_get s.L i hiL
    have hos : (s.L.map wdU).take (i + 1) = (s.L.map wdU).take i ++ [wdU s.L[i]] := by
      rw [List.take_succ_eq_append_getElem (by simpa using hiL)]
      simp
    have hlen : ((s.L.map wdU).take i).length = i := by simp; omega
    have lim : (i + 1) * 16 ≤ 140737488355328 := by omega
    have hle : i * 2 + 2 ≤ 51 := by omega
    simp only [s7S]
    rw [hos]
    have hbl := stU_blw 4 true s
    obtain ⟨L, h, at_, asked⟩ := s
    simp only at *
    generalize L[i] = x at *
    generalize (L.map wdU).take i = R at *
    simp only [stU] at hbl ⊢
    repeat (first | apply Wp.seq | apply Wp.skip | apply Wp.block | (apply Wp.op0; ((simp [M2.keep]) <;> rfl)) | ((first | apply Wp.op | apply Wp.opN | (apply Wp.opG; exact rfl)); (apply Evt.all; intro; (simp [hi']) <;> (try simp (disch := omega) only [wrap_id]) <;> first | exact ⟨rfl, rfl⟩ | exact rfl)) | (apply Wp.opS; exact rfl; decide) | (apply Wp.opS0; exact rfl))
    refine Wp.cond (by first | rfl | (simp; rfl)) (fun h1 => ?_) (fun h1 => ?_)
    · repeat (first | apply Wp.seq | apply Wp.skip | apply Wp.block | (apply Wp.op0; ((simp [M2.keep]) <;> rfl)) | ((first | apply Wp.op | apply Wp.opN | (apply Wp.opG; exact rfl)); (apply Evt.all; intro; (simp []) <;> (try simp (disch := omega) only [wrap_id]) <;> first | exact ⟨rfl, rfl⟩ | exact rfl)) | (apply Wp.opS; exact rfl; decide) | (apply Wp.opS0; exact rfl))
      refine Wp.draw (by (simp [c_joinerylaw07_As_D0, I.need]) <;> rfl) (by (simp [hi', l48, g2, hlen, lim, hle]) <;> rfl) (by (simp [hi', l48, g2, hlen, lim, hle]) <;> rfl) (by (unfold c_joinerylaw07_As_D0); (repeat (first | ((first | apply Dr.op | apply Dr.opN | (apply Dr.opG; exact rfl)); ((simp [hi', l48, g2, hlen, lim, hle]) <;> rfl); (apply Evt.all; intro; (simp [hi', l48, g2, hlen, lim, hle]) <;> (try simp (disch := omega) only [wrap_id]) <;> first | exact ⟨rfl, rfl⟩ | exact rfl); ((simp [I.need]) <;> rfl)) | ((first | (apply Dr.opS; exact rfl; decide) | (apply Dr.opS0; exact rfl)); ((simp [I.need]) <;> rfl)))); exact Dr.nil) (by first | decide +kernel | exact rfl) (by (simp [M2.keep]) <;> rfl) ?_
      repeat (first | apply Wp.seq | apply Wp.skip | apply Wp.block | (apply Wp.op0; ((simp [M2.keep]) <;> rfl)) | ((first | apply Wp.op | apply Wp.opN | (apply Wp.opG; exact rfl)); (apply Evt.all; intro; (simp [wrap_id]) <;> (try simp (disch := omega) only [wrap_id]) <;> first | exact ⟨rfl, rfl⟩ | exact rfl)) | (apply Wp.opS; exact rfl; decide) | (apply Wp.opS0; exact rfl))
      refine ⟨trim_list (st := [.box (wdsU L ++ [heapU true h, i64 at_, i64 asked]), .box [.nils, .nils, i64 0, i64 0], .box [.own 3 (i + 1), heapU true h, i64 at_, i64 asked], .row 75 2 false (R ++ [wdU x])]) (l := [.row 75 2 false [wdU x], .hole]) rfl ?_, trivial⟩
      show (Ob.blw 4 _ && _) = true
      rw [hbl]
      rfl
    · cases h1
  · simp only [s7S]
    repeat (first | apply Wp.seq | apply Wp.skip | apply Wp.block | (apply Wp.op0; ((simp [M2.keep]) <;> rfl)) | ((first | apply Wp.op | apply Wp.opN | (apply Wp.opG; exact rfl)); (apply Evt.all; intro; (simp []) <;> (try simp (disch := omega) only [wrap_id]) <;> first | exact ⟨rfl, rfl⟩ | exact rfl)) | (apply Wp.opS; exact rfl; decide) | (apply Wp.opS0; exact rfl))
    refine Wp.cond (by first | rfl | (simp; rfl)) (fun h1 => ?_) (fun h1 => ?_)
    · simp at h1
    · refine Wp.exit ⟨rfl, ?_⟩
      rw [List.take_of_length_le (by simp [hL])]
set_option maxHeartbeats 8000000 in
theorem as7_call (s : Stt) (hL : s.L.length = 24) (st : List Ob) : Cl T n_joinerylaw07_As [.agg (stU true s)] st (.agg (rsU s)) st := by
  have hbr := brw_stt st true s
  refine Wp.pure (fn := c_joinerylaw07_As) rfl rfl rfl («as» := [.agg (stU true s)]) (by simp [hbr]) ?_
  have hlp := s7_loop s hL
  have l48 := wds48 hL
  have dr := wds_drop hL
  obtain ⟨L, h, at_, asked⟩ := s
  simp only at *
  have l24 : (L.map wdU).length = 24 := by simpa using hL
  repeat (first | apply Wp.seq | apply Wp.skip | apply Wp.block | (apply Wp.op0; ((simp [M2.keep]) <;> rfl)) | ((first | apply Wp.op | apply Wp.opN | (apply Wp.opG; exact rfl)); (apply Evt.all; intro; (simp [stU, heapU, l48, dr]) <;> (try simp (disch := omega) only [wrap_id]) <;> first | exact ⟨rfl, rfl⟩ | exact rfl)) | (apply Wp.opS; exact rfl; decide) | (apply Wp.opS0; exact rfl))
  refine (show Wp T (.loop c_joinerylaw07_As_L1) (s7S ⟨L, h, at_, asked⟩ 0) _ _ _ from hlp.imp (fun _ h => h.elim) (fun _ h => h.elim) ?_)
  rintro b s ⟨rfl, rfl⟩
  rw [if_pos rfl]
  repeat (first | apply Wp.seq | apply Wp.skip | apply Wp.block | (apply Wp.op0; ((simp [M2.keep]) <;> rfl)) | ((first | apply Wp.op | apply Wp.opN | (apply Wp.opG; exact rfl)); (apply Evt.all; intro; (simp [over]) <;> (try simp (disch := omega) only [wrap_id]) <;> first | exact ⟨rfl, rfl⟩ | exact rfl)) | (apply Wp.opS; exact rfl; decide) | (apply Wp.opS0; exact rfl))
  refine Wp.ret ?_
  have hz : ∀ (A B C : Ob) (R : List (List U)), R.length = 24 → frz 11 [A, B, C, .row 75 2 false R] (.own 3 24) = some (.sl true R, [A, B, C, .frow R]) := fun A B C R hR => by
    show (if R.length = 24 then some (U.sl true R, [A, B, C, Ob.frow R]) else none) = _
    rw [if_pos hR]
  simp [Res, resU, res1, c_joinerylaw07_As, rsU, hz, l24, heapU]
/-! Which words are right. -/
theorem okW_cons (w : Wd) (L : List Wd) : okW (w :: L) = ((w.1 || decide (w.2 = 0)) && okW L) := rfl
theorem okW_drop {L : List Wd} {i : Nat} (hi : i < L.length) : okW (L.drop i) = ((L[i].1 || decide (L[i].2 = 0)) && okW (L.drop (i + 1))) := by
  rw [List.drop_eq_getElem_cons hi]
  rfl
def r7S (s : Stt) (i : Nat) : S := ⟨[(3, .bp 0 0), (5, i64 i)], [.box (rsU s)]⟩
set_option maxHeartbeats 8000000 in
theorem r7_loop (s : Stt) (hL : s.L.length = 24) : Wp T (.loop c_joineryref07_Right_L0) (r7S s 0) (fun _ => False) (fun s' => okW s.L = false ∧ Res c_joineryref07_Right (.bool false) s')
    (fun b s' => b = 0 ∧ okW s.L = true ∧ s' = ⟨[(3, .bp 0 0), (5, i64 24), (39, .bool false)], [.box (rsU s)]⟩) := by
  refine Wp.count 24 (fun i => r7S s i) (fun i => okW s.L = okW (s.L.drop i)) (fun i hi hP => ?_) (fun hP => ?_) 0 (by omega) rfl
  · have hi' : (i : Int) < 24 := by omega
    have hiL : i < s.L.length := by omega
    have eg : s.L[i]? = some s.L[i] := List.getElem?_eq_getElem hiL
    rw [okW_drop hiL] at hP
    obtain ⟨L, h, at_, asked⟩ := s
    simp only at *
    generalize L[i] = x at *
    obtain ⟨b, v⟩ := x
    have hl24 : (i : Int) < L.length := by omega
    simp only [r7S, rsU]
    repeat (first | apply Wp.seq | apply Wp.skip | apply Wp.block | (apply Wp.op0; ((simp [M2.keep]) <;> rfl)) | ((first | apply Wp.op | apply Wp.opN | (apply Wp.opG; exact rfl)); (apply Evt.all; intro; (simp [hi']) <;> (try simp (disch := omega) only [wrap_id]) <;> first | exact ⟨rfl, rfl⟩ | exact rfl)) | (apply Wp.opS; exact rfl; decide) | (apply Wp.opS0; exact rfl))
    refine Wp.cond (by first | rfl | (simp; rfl)) (fun h1 => ?_) (fun h1 => ?_)
    · cases b with
      | true =>
        repeat' (first | apply Wp.seq | apply Wp.skip | apply Wp.block | (apply Wp.op0; ((simp [M2.keep]) <;> rfl)) | ((first | (apply Wp.pickT; (exact rfl); (first | exact rfl | assumption)) | (apply Wp.pickF; (exact rfl); (first | exact rfl | assumption))); ((simp) <;> exact rfl)) | ((first | apply Wp.op | apply Wp.opN); (apply Evt.all; intro; (simp [hl24, eg, wdU]) <;> (try simp (disch := omega) only [wrap_id]) <;> first | exact ⟨rfl, rfl⟩ | exact rfl)) | (first | (apply Wp.ung; (exact rfl); (first | exact rfl | assumption)) | (apply Wp.opSt; (exact rfl); (first | exact rfl | assumption)) | (apply Wp.opSf; (exact rfl); (first | exact rfl | assumption))) | (apply Wp.opS0; (exact rfl)) | (first | (apply Wp.condT; (exact rfl); (first | exact rfl | assumption)) | (apply Wp.condF; (exact rfl); (first | exact rfl | assumption))) | ((first | apply Wp.grdT | apply Wp.grdF | apply Wp.cond); (exact rfl); (intro); rotate_left 1; (intro); rotate_right 1))
        repeat (first | apply Wp.seq | apply Wp.skip | apply Wp.block | (apply Wp.op0; ((simp [M2.keep]) <;> rfl)) | ((first | apply Wp.op | apply Wp.opN | (apply Wp.opG; exact rfl)); (apply Evt.all; intro; (simp [wrap_id]) <;> (try simp (disch := omega) only [wrap_id]) <;> first | exact ⟨rfl, rfl⟩ | exact rfl)) | (apply Wp.opS; exact rfl; decide) | (apply Wp.opS0; exact rfl))
        refine ⟨trimO_len rfl, ?_⟩
        simpa using hP
      | false =>
        by_cases hv : v = 0
        · have dv : decide (v = 0) = true := decide_eq_true hv
          have dn : (!decide (v = 0)) = false := by rw [dv]; rfl
          repeat' (first | apply Wp.seq | apply Wp.skip | apply Wp.block | (apply Wp.op0; ((simp [M2.keep]) <;> rfl)) | ((first | (apply Wp.pickT; (exact rfl); (first | exact rfl | assumption)) | (apply Wp.pickF; (exact rfl); (first | exact rfl | assumption))); ((simp) <;> exact rfl)) | ((first | apply Wp.op | apply Wp.opN); (apply Evt.all; intro; (simp [hl24, eg, wdU]) <;> (try simp (disch := omega) only [wrap_id]) <;> first | exact ⟨rfl, rfl⟩ | exact rfl)) | (first | (apply Wp.ung; (exact rfl); (first | exact rfl | assumption)) | (apply Wp.opSt; (exact rfl); (first | exact rfl | assumption)) | (apply Wp.opSf; (exact rfl); (first | exact rfl | assumption))) | (apply Wp.opS0; (exact rfl)) | (first | (apply Wp.condT; (exact rfl); (first | exact rfl | assumption)) | (apply Wp.condF; (exact rfl); (first | exact rfl | assumption))) | ((first | apply Wp.grdT | apply Wp.grdF | apply Wp.cond); (exact rfl); (intro); rotate_left 1; (intro); rotate_right 1))
          repeat (first | apply Wp.seq | apply Wp.skip | apply Wp.block | (apply Wp.op0; ((simp [M2.keep]) <;> rfl)) | ((first | apply Wp.op | apply Wp.opN | (apply Wp.opG; exact rfl)); (apply Evt.all; intro; (simp [wrap_id]) <;> (try simp (disch := omega) only [wrap_id]) <;> first | exact ⟨rfl, rfl⟩ | exact rfl)) | (apply Wp.opS; exact rfl; decide) | (apply Wp.opS0; exact rfl))
          refine ⟨trimO_len rfl, ?_⟩
          rw [dv] at hP
          simpa using hP
        · have dv : decide (v = 0) = false := decide_eq_false hv
          have dn : (!decide (v = 0)) = true := by rw [dv]; rfl
          repeat' (first | apply Wp.seq | apply Wp.skip | apply Wp.block | (apply Wp.op0; ((simp [M2.keep]) <;> rfl)) | ((first | (apply Wp.pickT; (exact rfl); (first | exact rfl | assumption)) | (apply Wp.pickF; (exact rfl); (first | exact rfl | assumption))); ((simp) <;> exact rfl)) | ((first | apply Wp.op | apply Wp.opN); (apply Evt.all; intro; (simp [hl24, eg, wdU]) <;> (try simp (disch := omega) only [wrap_id]) <;> first | exact ⟨rfl, rfl⟩ | exact rfl)) | (first | (apply Wp.ung; (exact rfl); (first | exact rfl | assumption)) | (apply Wp.opSt; (exact rfl); (first | exact rfl | assumption)) | (apply Wp.opSf; (exact rfl); (first | exact rfl | assumption))) | (apply Wp.opS0; (exact rfl)) | (first | (apply Wp.condT; (exact rfl); (first | exact rfl | assumption)) | (apply Wp.condF; (exact rfl); (first | exact rfl | assumption))) | ((first | apply Wp.grdT | apply Wp.grdF | apply Wp.cond); (exact rfl); (intro); rotate_left 1; (intro); rotate_right 1))
          refine Wp.ret ⟨?_, ?_⟩
          · rw [hP, dv]; rfl
          · simp [Res, resU, res1, c_joineryref07_Right]
    · cases h1
  · simp only [r7S]
    repeat (first | apply Wp.seq | apply Wp.skip | apply Wp.block | (apply Wp.op0; ((simp [M2.keep]) <;> rfl)) | ((first | apply Wp.op | apply Wp.opN | (apply Wp.opG; exact rfl)); (apply Evt.all; intro; (simp []) <;> (try simp (disch := omega) only [wrap_id]) <;> first | exact ⟨rfl, rfl⟩ | exact rfl)) | (apply Wp.opS; exact rfl; decide) | (apply Wp.opS0; exact rfl))
    refine Wp.cond (by first | rfl | (simp; rfl)) (fun h1 => ?_) (fun h1 => ?_)
    · simp at h1
    · refine Wp.exit ⟨rfl, ?_, rfl⟩
      rw [hP, List.drop_eq_nil_of_le (by omega)]
      rfl
set_option maxHeartbeats 8000000 in
theorem refRight7_call (p : Bool) (l : List Ins) (s : Stt) (hL : s.L.length = 24) (st : List Ob) : Cl T n_joineryref07_Right [insL p l, .agg (rsU s)] st (.bool (sttF l s)) st := by
  refine Wp.pure (fn := c_joineryref07_Right) rfl rfl rfl («as» := [insL p l, .agg (rsU s)]) rfl ?_
  have hri := fun st => right4_call p l st (insL p l) rfl
  have hlp := r7_loop s hL
  obtain ⟨L, h, at_, asked⟩ := s
  simp only at *
  have bad : ∀ K : S → Prop, (sttF l ⟨L, h, at_, asked⟩ = false) → True := fun _ _ => trivial
  by_cases c0 : rightF l = false
  · have e1 : rightF l = false := c0
    have hs : sttF l ⟨L, h, at_, asked⟩ = false := by simp [sttF, e1]
    rw [e1] at hri
    rw [hs]
    repeat' (first | apply Wp.seq | apply Wp.skip | apply Wp.block | (apply Wp.op0; ((simp [M2.keep]) <;> rfl)) | ((first | (apply Wp.pickT; (exact rfl); (first | exact rfl | assumption)) | (apply Wp.pickF; (exact rfl); (first | exact rfl | assumption))); ((simp) <;> exact rfl)) | ((first | apply Wp.op | apply Wp.opN); (apply Evt.all; intro; (simp [rsU, heapU]) <;> (try simp (disch := omega) only [wrap_id]) <;> first | exact ⟨rfl, rfl⟩ | exact rfl)) | (apply Wp.call; exact hri _) | (first | (apply Wp.ung; (exact rfl); (first | exact rfl | assumption)) | (apply Wp.opSt; (exact rfl); (first | exact rfl | assumption)) | (apply Wp.opSf; (exact rfl); (first | exact rfl | assumption))) | (apply Wp.opS0; (exact rfl)) | (first | (apply Wp.condT; (exact rfl); (first | exact rfl | assumption)) | (apply Wp.condF; (exact rfl); (first | exact rfl | assumption))) | ((first | apply Wp.grdT | apply Wp.grdF | apply Wp.cond); (exact rfl); (intro); rotate_left 1; (intro); rotate_right 1))
    refine Wp.ret ?_
    simp [Res, resU, res1, c_joineryref07_Right]
  have c1 : rightF l = true := by simpa using c0
  rw [c1] at hri
  by_cases c2 : at_ < 0
  · have d2 : decide (at_ < 0) = true := decide_eq_true c2
    have hs : sttF l ⟨L, h, at_, asked⟩ = false := by simp [sttF]; omega
    rw [hs]
    repeat' (first | apply Wp.seq | apply Wp.skip | apply Wp.block | (apply Wp.op0; ((simp [M2.keep]) <;> rfl)) | ((first | (apply Wp.pickT; (exact rfl); (first | exact rfl | assumption)) | (apply Wp.pickF; (exact rfl); (first | exact rfl | assumption))); ((simp) <;> exact rfl)) | ((first | apply Wp.op | apply Wp.opN); (apply Evt.all; intro; (simp [rsU, heapU]) <;> (try simp (disch := omega) only [wrap_id]) <;> first | exact ⟨rfl, rfl⟩ | exact rfl)) | (apply Wp.call; exact hri _) | (first | (apply Wp.ung; (exact rfl); (first | exact rfl | assumption)) | (apply Wp.opSt; (exact rfl); (first | exact rfl | assumption)) | (apply Wp.opSf; (exact rfl); (first | exact rfl | assumption))) | (apply Wp.opS0; (exact rfl)) | (first | (apply Wp.condT; (exact rfl); (first | exact rfl | assumption)) | (apply Wp.condF; (exact rfl); (first | exact rfl | assumption))) | ((first | apply Wp.grdT | apply Wp.grdF | apply Wp.cond); (exact rfl); (intro); rotate_left 1; (intro); rotate_right 1))
    refine Wp.ret ?_
    simp [Res, resU, res1, c_joineryref07_Right]
  have d2 : decide (at_ < 0) = false := decide_eq_false c2
  by_cases c3 : (l.length : Int) ≤ at_
  · have d3 : decide ((l.length : Int) ≤ at_) = true := decide_eq_true c3
    have hs : sttF l ⟨L, h, at_, asked⟩ = false := by simp [sttF]; omega
    rw [hs]
    repeat' (first | apply Wp.seq | apply Wp.skip | apply Wp.block | (apply Wp.op0; ((simp [M2.keep]) <;> rfl)) | ((first | (apply Wp.pickT; (exact rfl); (first | exact rfl | assumption)) | (apply Wp.pickF; (exact rfl); (first | exact rfl | assumption))); ((simp) <;> exact rfl)) | ((first | apply Wp.op | apply Wp.opN); (apply Evt.all; intro; (simp [rsU, heapU, insL]) <;> (try simp (disch := omega) only [wrap_id]) <;> first | exact ⟨rfl, rfl⟩ | exact rfl)) | (apply Wp.call; exact hri _) | (first | (apply Wp.ung; (exact rfl); (first | exact rfl | assumption)) | (apply Wp.opSt; (exact rfl); (first | exact rfl | assumption)) | (apply Wp.opSf; (exact rfl); (first | exact rfl | assumption))) | (apply Wp.opS0; (exact rfl)) | (first | (apply Wp.condT; (exact rfl); (first | exact rfl | assumption)) | (apply Wp.condF; (exact rfl); (first | exact rfl | assumption))) | ((first | apply Wp.grdT | apply Wp.grdF | apply Wp.cond); (exact rfl); (intro); rotate_left 1; (intro); rotate_right 1))
    refine Wp.ret ?_
    simp [Res, resU, res1, c_joineryref07_Right]
  have d3 : decide ((l.length : Int) ≤ at_) = false := decide_eq_false c3
  by_cases c4 : (16 : Int) < h.length
  · have d4 : decide ((16 : Int) < h.length) = true := decide_eq_true c4
    have hs : sttF l ⟨L, h, at_, asked⟩ = false := by simp [sttF]; omega
    rw [hs]
    repeat' (first | apply Wp.seq | apply Wp.skip | apply Wp.block | (apply Wp.op0; ((simp [M2.keep]) <;> rfl)) | ((first | (apply Wp.pickT; (exact rfl); (first | exact rfl | assumption)) | (apply Wp.pickF; (exact rfl); (first | exact rfl | assumption))); ((simp) <;> exact rfl)) | ((first | apply Wp.op | apply Wp.opN); (apply Evt.all; intro; (simp [rsU, heapU, insL]) <;> (try simp (disch := omega) only [wrap_id]) <;> first | exact ⟨rfl, rfl⟩ | exact rfl)) | (apply Wp.call; exact hri _) | (first | (apply Wp.ung; (exact rfl); (first | exact rfl | assumption)) | (apply Wp.opSt; (exact rfl); (first | exact rfl | assumption)) | (apply Wp.opSf; (exact rfl); (first | exact rfl | assumption))) | (apply Wp.opS0; (exact rfl)) | (first | (apply Wp.condT; (exact rfl); (first | exact rfl | assumption)) | (apply Wp.condF; (exact rfl); (first | exact rfl | assumption))) | ((first | apply Wp.grdT | apply Wp.grdF | apply Wp.cond); (exact rfl); (intro); rotate_left 1; (intro); rotate_right 1))
    refine Wp.ret ?_
    simp [Res, resU, res1, c_joineryref07_Right]
  have d4 : decide ((16 : Int) < h.length) = false := decide_eq_false c4
  by_cases c5 : asked < 0
  · have d5 : decide (asked < 0) = true := decide_eq_true c5
    have hs : sttF l ⟨L, h, at_, asked⟩ = false := by simp [sttF]; omega
    rw [hs]
    repeat' (first | apply Wp.seq | apply Wp.skip | apply Wp.block | (apply Wp.op0; ((simp [M2.keep]) <;> rfl)) | ((first | (apply Wp.pickT; (exact rfl); (first | exact rfl | assumption)) | (apply Wp.pickF; (exact rfl); (first | exact rfl | assumption))); ((simp) <;> exact rfl)) | ((first | apply Wp.op | apply Wp.opN); (apply Evt.all; intro; (simp [rsU, heapU, insL]) <;> (try simp (disch := omega) only [wrap_id]) <;> first | exact ⟨rfl, rfl⟩ | exact rfl)) | (apply Wp.call; exact hri _) | (first | (apply Wp.ung; (exact rfl); (first | exact rfl | assumption)) | (apply Wp.opSt; (exact rfl); (first | exact rfl | assumption)) | (apply Wp.opSf; (exact rfl); (first | exact rfl | assumption))) | (apply Wp.opS0; (exact rfl)) | (first | (apply Wp.condT; (exact rfl); (first | exact rfl | assumption)) | (apply Wp.condF; (exact rfl); (first | exact rfl | assumption))) | ((first | apply Wp.grdT | apply Wp.grdF | apply Wp.cond); (exact rfl); (intro); rotate_left 1; (intro); rotate_right 1))
    refine Wp.ret ?_
    simp [Res, resU, res1, c_joineryref07_Right]
  have d5 : decide (asked < 0) = false := decide_eq_false c5
  have hs : sttF l ⟨L, h, at_, asked⟩ = okW L := by
    have e1 : decide (0 ≤ at_) = true := decide_eq_true (by omega)
    have e2 : decide (at_ < l.length) = true := decide_eq_true (by omega)
    have e3 : decide (h.length ≤ 16) = true := decide_eq_true (by omega)
    have e4 : decide (0 ≤ asked) = true := decide_eq_true (by omega)
    unfold sttF
    rw [c1, e1, e2, e3, e4]
    rfl
  rw [hs]
  repeat' (first | apply Wp.seq | apply Wp.skip | apply Wp.block | (apply Wp.op0; ((simp [M2.keep]) <;> rfl)) | ((first | (apply Wp.pickT; (exact rfl); (first | exact rfl | assumption)) | (apply Wp.pickF; (exact rfl); (first | exact rfl | assumption))); ((simp) <;> exact rfl)) | ((first | apply Wp.op | apply Wp.opN); (apply Evt.all; intro; (simp [rsU, heapU, insL, hL]) <;> (try simp (disch := omega) only [wrap_id]) <;> first | exact ⟨rfl, rfl⟩ | exact rfl)) | (apply Wp.call; exact hri _) | (first | (apply Wp.ung; (exact rfl); (first | exact rfl | assumption)) | (apply Wp.opSt; (exact rfl); (first | exact rfl | assumption)) | (apply Wp.opSf; (exact rfl); (first | exact rfl | assumption))) | (apply Wp.opS0; (exact rfl)) | (first | (apply Wp.condT; (exact rfl); (first | exact rfl | assumption)) | (apply Wp.condF; (exact rfl); (first | exact rfl | assumption))) | ((first | apply Wp.grdT | apply Wp.grdF | apply Wp.cond); (exact rfl); (intro); rotate_left 1; (intro); rotate_right 1))
  refine (show Wp T (.loop c_joineryref07_Right_L0) (r7S ⟨L, h, at_, asked⟩ 0) _ _ _ from hlp.imp (fun _ h => h.elim) ?_ ?_)
  · rintro s ⟨e, hR⟩
    rw [e]
    exact hR
  · rintro b s ⟨rfl, e, rfl⟩
    rw [if_pos rfl, e]
    repeat (first | apply Wp.seq | apply Wp.skip | apply Wp.block | (apply Wp.op0; ((simp [M2.keep]) <;> rfl)) | ((first | apply Wp.op | apply Wp.opN | (apply Wp.opG; exact rfl)); (apply Evt.all; intro; (simp []) <;> (try simp (disch := omega) only [wrap_id]) <;> first | exact ⟨rfl, rfl⟩ | exact rfl)) | (apply Wp.opS; exact rfl; decide) | (apply Wp.opS0; exact rfl))
    refine Wp.ret ?_
    simp [Res, resU, res1, c_joineryref07_Right]
end Go.Proofs.YtapibckmdpdljaaDoor.M2

/- What the functions answer in M2. A step that only moves: which states are right; what is done. -/
namespace Go.Proofs.YtapibckmdpdljaaDoor.M2
open Go
attribute [local simp] ev1 M2.get put A.ev ld sub part elems bin arith un opt idx fillC cellsO splice over newOb sto fillR laidOwn appTo appRow touch touchN touchM touchE touchA plainU flatU plainAs allM rowAt stoRow accM_nil accM_cons accMM_nil accMM_cons frz_int frz_bool frz_str frz_slt frz_nils frz_nilI frz_nilF frz_own frzRow_row frzRow_frow Ob.blw blw_bool blw_int blw_str blw_nils blw_nilI blw_nilF blw_nilp blw_nilm blw_sl blw_own blw_bp blw_rp blw_mp blw_it params
attribute [local simp] frz_agg frz_tup frz_iface frzS_agg frzS_iface accMS_cons frzS_int frzS_bool frzS_str frzS_slt frzS_nils frzS_nilI beq_dec bne_dec

theorem wds_get' (L : List Wd) (d : Nat) (h : d < L.length) : ((wdsU L).drop (d * 2)).take 2 = [.bool L[d].1, i64 L[d].2] := by
  have := wds_get L d h []
  simpa using this
def srS (s : Stt) (p : Bool) (i : Nat) : S := ⟨[(34, .agg (wdsU s.L)), (35, i64 i)], [.box (stU p s)]⟩
set_option maxHeartbeats 8000000 in
theorem sr_loop (p : Bool) (s : Stt) (hL : s.L.length = 24) : Wp T (.loop c_step_Right_L0) (srS s p 0) (fun _ => False) (fun s' => okW s.L = false ∧ Res c_step_Right (.bool false) s')
    (fun b s' => b = 0 ∧ okW s.L = true ∧ s' = ⟨[(34, .agg (wdsU s.L)), (35, i64 24), (36, .bool false)], [.box (stU p s)]⟩) := by
  have l48 := wds48 hL
  refine Wp.count 24 (fun i => srS s p i) (fun i => okW s.L = okW (s.L.drop i)) (fun i hi hP => ?_) (fun hP => ?_) 0 (by omega) rfl
  · have hi' : (i : Int) < 24 := by omega
    have hiL : i < s.L.length := by omega
    have hle : i * 2 ≤ 46 := by omega
    have g2 := wds_get' s.L i hiL
    rw [okW_drop hiL] at hP
    have hbl := stU_blw 1 p s
    generalize s.L[i] = x at *
    obtain ⟨b, v⟩ := x
    simp only at g2 hP
    have htr : ∀ (e : Env) (o : Ob), e.all (fun q => blw blwD 1 q.2) = true → trimO 1 ⟨e, [.box (stU p s), o]⟩ = ⟨e, [.box (stU p s)]⟩ := fun e o he => trim_list (st := [.box (stU p s)]) (l := [o]) he (by show (Ob.blw 1 _ && true) = true; rw [hbl]; rfl)
    simp only [srS]
    generalize stU p s = BX at *
    repeat (first | apply Wp.seq | apply Wp.skip | apply Wp.block | (apply Wp.op0; ((simp [M2.keep]) <;> rfl)) | ((first | apply Wp.op | apply Wp.opN | (apply Wp.opG; exact rfl)); (apply Evt.all; intro; (simp [hi']) <;> (try simp (disch := omega) only [wrap_id]) <;> first | exact ⟨rfl, rfl⟩ | exact rfl)) | (apply Wp.opS; exact rfl; decide) | (apply Wp.opS0; exact rfl))
    refine Wp.cond (by first | rfl | (simp; rfl)) (fun h1 => ?_) (fun h1 => ?_)
    · cases b with
      | true =>
        repeat' (first | apply Wp.seq | apply Wp.skip | apply Wp.block | (apply Wp.op0; ((simp [M2.keep]) <;> rfl)) | ((first | (apply Wp.pickT; (exact rfl); (first | exact rfl | assumption)) | (apply Wp.pickF; (exact rfl); (first | exact rfl | assumption))); ((simp) <;> exact rfl)) | ((first | apply Wp.op | apply Wp.opN); (apply Evt.all; intro; (simp [l48, hi', g2, hle]) <;> (try simp (disch := omega) only [wrap_id]) <;> first | exact ⟨rfl, rfl⟩ | exact rfl)) | (first | (apply Wp.ung; (exact rfl); (first | exact rfl | assumption)) | (apply Wp.opSt; (exact rfl); (first | exact rfl | assumption)) | (apply Wp.opSf; (exact rfl); (first | exact rfl | assumption))) | (apply Wp.opS0; (exact rfl)) | (first | (apply Wp.condT; (exact rfl); (first | exact rfl | assumption)) | (apply Wp.condF; (exact rfl); (first | exact rfl | assumption))) | ((first | apply Wp.grdT | apply Wp.grdF | apply Wp.cond); (exact rfl); (intro); rotate_left 1; (intro); rotate_right 1))
        repeat (first | apply Wp.seq | apply Wp.skip | apply Wp.block | (apply Wp.op0; ((simp [M2.keep]) <;> rfl)) | ((first | apply Wp.op | apply Wp.opN | (apply Wp.opG; exact rfl)); (apply Evt.all; intro; (simp [wrap_id]) <;> (try simp (disch := omega) only [wrap_id]) <;> first | exact ⟨rfl, rfl⟩ | exact rfl)) | (apply Wp.opS; exact rfl; decide) | (apply Wp.opS0; exact rfl))
        refine ⟨htr _ _ ?_, ?_⟩
        · simp [wds_blw1]
        · simpa using hP
      | false =>
        by_cases hv : v = 0
        · have dv : decide (v = 0) = true := decide_eq_true hv
          have dn : (!decide (v = 0)) = false := by rw [dv]; rfl
          repeat' (first | apply Wp.seq | apply Wp.skip | apply Wp.block | (apply Wp.op0; ((simp [M2.keep]) <;> rfl)) | ((first | (apply Wp.pickT; (exact rfl); (first | exact rfl | assumption)) | (apply Wp.pickF; (exact rfl); (first | exact rfl | assumption))); ((simp) <;> exact rfl)) | ((first | apply Wp.op | apply Wp.opN); (apply Evt.all; intro; (simp [l48, hi', g2, hle]) <;> (try simp (disch := omega) only [wrap_id]) <;> first | exact ⟨rfl, rfl⟩ | exact rfl)) | (first | (apply Wp.ung; (exact rfl); (first | exact rfl | assumption)) | (apply Wp.opSt; (exact rfl); (first | exact rfl | assumption)) | (apply Wp.opSf; (exact rfl); (first | exact rfl | assumption))) | (apply Wp.opS0; (exact rfl)) | (first | (apply Wp.condT; (exact rfl); (first | exact rfl | assumption)) | (apply Wp.condF; (exact rfl); (first | exact rfl | assumption))) | ((first | apply Wp.grdT | apply Wp.grdF | apply Wp.cond); (exact rfl); (intro); rotate_left 1; (intro); rotate_right 1))
          repeat (first | apply Wp.seq | apply Wp.skip | apply Wp.block | (apply Wp.op0; ((simp [M2.keep]) <;> rfl)) | ((first | apply Wp.op | apply Wp.opN | (apply Wp.opG; exact rfl)); (apply Evt.all; intro; (simp [wrap_id]) <;> (try simp (disch := omega) only [wrap_id]) <;> first | exact ⟨rfl, rfl⟩ | exact rfl)) | (apply Wp.opS; exact rfl; decide) | (apply Wp.opS0; exact rfl))
          refine ⟨htr _ _ ?_, ?_⟩
          · simp [wds_blw1]
          · rw [dv] at hP
            simpa using hP
        · have dv : decide (v = 0) = false := decide_eq_false hv
          have dn : (!decide (v = 0)) = true := by rw [dv]; rfl
          repeat' (first | apply Wp.seq | apply Wp.skip | apply Wp.block | (apply Wp.op0; ((simp [M2.keep]) <;> rfl)) | ((first | (apply Wp.pickT; (exact rfl); (first | exact rfl | assumption)) | (apply Wp.pickF; (exact rfl); (first | exact rfl | assumption))); ((simp) <;> exact rfl)) | ((first | apply Wp.op | apply Wp.opN); (apply Evt.all; intro; (simp [l48, hi', g2, hle]) <;> (try simp (disch := omega) only [wrap_id]) <;> first | exact ⟨rfl, rfl⟩ | exact rfl)) | (first | (apply Wp.ung; (exact rfl); (first | exact rfl | assumption)) | (apply Wp.opSt; (exact rfl); (first | exact rfl | assumption)) | (apply Wp.opSf; (exact rfl); (first | exact rfl | assumption))) | (apply Wp.opS0; (exact rfl)) | (first | (apply Wp.condT; (exact rfl); (first | exact rfl | assumption)) | (apply Wp.condF; (exact rfl); (first | exact rfl | assumption))) | ((first | apply Wp.grdT | apply Wp.grdF | apply Wp.cond); (exact rfl); (intro); rotate_left 1; (intro); rotate_right 1))
          refine Wp.ret ⟨?_, ?_⟩
          · rw [hP, dv]; rfl
          · simp [Res, resU, res1, c_step_Right]
    · cases h1
  · simp only [srS]
    repeat (first | apply Wp.seq | apply Wp.skip | apply Wp.block | (apply Wp.op0; ((simp [M2.keep]) <;> rfl)) | ((first | apply Wp.op | apply Wp.opN | (apply Wp.opG; exact rfl)); (apply Evt.all; intro; (simp []) <;> (try simp (disch := omega) only [wrap_id]) <;> first | exact ⟨rfl, rfl⟩ | exact rfl)) | (apply Wp.opS; exact rfl; decide) | (apply Wp.opS0; exact rfl))
    refine Wp.cond (by first | rfl | (simp; rfl)) (fun h1 => ?_) (fun h1 => ?_)
    · simp at h1
    · refine Wp.exit ⟨rfl, ?_, rfl⟩
      rw [hP, List.drop_eq_nil_of_le (by omega)]
      rfl
set_option maxHeartbeats 8000000 in
theorem stepRight_call (q p : Bool) (l : List Ins) (s : Stt) (hL : s.L.length = 24) (st : List Ob) : Cl T n_step_Right [insL q l, .agg (stU p s)] st (.bool (sttF l s)) st := by
  have hbr := brw_stt st p s
  refine Wp.pure (fn := c_step_Right) rfl rfl rfl («as» := [insL q l, .agg (stU p s)]) (by simp [hbr, insL]; rfl) ?_
  have hri := fun st => asmRight_call q l st (insL q l) rfl
  have hhr := heapRight_call p s.h
  have hlp := sr_loop p s hL
  have l48 := wds48 hL
  have dr := wds_drop hL
  have tk := wds_take hL
  obtain ⟨L, h, at_, asked⟩ := s
  simp only at *
  by_cases c0 : rightF l = false
  · have e1 : rightF l = false := c0
    have hs : sttF l ⟨L, h, at_, asked⟩ = false := by simp [sttF, e1]
    rw [e1] at hri
    rw [hs]
    repeat' (first | apply Wp.seq | apply Wp.skip | apply Wp.block | (apply Wp.op0; ((simp [M2.keep]) <;> rfl)) | ((first | (apply Wp.pickT; (exact rfl); (first | exact rfl | assumption)) | (apply Wp.pickF; (exact rfl); (first | exact rfl | assumption))); ((simp) <;> exact rfl)) | ((first | apply Wp.op | apply Wp.opN); (apply Evt.all; intro; (simp [stU, l48, dr]) <;> (try simp (disch := omega) only [wrap_id]) <;> first | exact ⟨rfl, rfl⟩ | exact rfl)) | (apply Wp.call; exact hri _) | (first | (apply Wp.ung; (exact rfl); (first | exact rfl | assumption)) | (apply Wp.opSt; (exact rfl); (first | exact rfl | assumption)) | (apply Wp.opSf; (exact rfl); (first | exact rfl | assumption))) | (apply Wp.opS0; (exact rfl)) | (first | (apply Wp.condT; (exact rfl); (first | exact rfl | assumption)) | (apply Wp.condF; (exact rfl); (first | exact rfl | assumption))) | ((first | apply Wp.grdT | apply Wp.grdF | apply Wp.cond); (exact rfl); (intro); rotate_left 1; (intro); rotate_right 1))
    refine Wp.ret ?_
    simp [Res, resU, res1, c_step_Right]
  have c1 : rightF l = true := by simpa using c0
  rw [c1] at hri
  by_cases c2 : at_ < 0
  · have d2 : decide (at_ < 0) = true := decide_eq_true c2
    have hs : sttF l ⟨L, h, at_, asked⟩ = false := by simp [sttF]; omega
    rw [hs]
    repeat' (first | apply Wp.seq | apply Wp.skip | apply Wp.block | (apply Wp.op0; ((simp [M2.keep]) <;> rfl)) | ((first | (apply Wp.pickT; (exact rfl); (first | exact rfl | assumption)) | (apply Wp.pickF; (exact rfl); (first | exact rfl | assumption))); ((simp) <;> exact rfl)) | ((first | apply Wp.op | apply Wp.opN); (apply Evt.all; intro; (simp [stU, l48, dr]) <;> (try simp (disch := omega) only [wrap_id]) <;> first | exact ⟨rfl, rfl⟩ | exact rfl)) | (apply Wp.call; exact hri _) | (first | (apply Wp.ung; (exact rfl); (first | exact rfl | assumption)) | (apply Wp.opSt; (exact rfl); (first | exact rfl | assumption)) | (apply Wp.opSf; (exact rfl); (first | exact rfl | assumption))) | (apply Wp.opS0; (exact rfl)) | (first | (apply Wp.condT; (exact rfl); (first | exact rfl | assumption)) | (apply Wp.condF; (exact rfl); (first | exact rfl | assumption))) | ((first | apply Wp.grdT | apply Wp.grdF | apply Wp.cond); (exact rfl); (intro); rotate_left 1; (intro); rotate_right 1))
    refine Wp.ret ?_
    simp [Res, resU, res1, c_step_Right]
  have d2 : decide (at_ < 0) = false := decide_eq_false c2
  by_cases c3 : (l.length : Int) ≤ at_
  · have d3 : decide ((l.length : Int) ≤ at_) = true := decide_eq_true c3
    have hs : sttF l ⟨L, h, at_, asked⟩ = false := by simp [sttF]; omega
    rw [hs]
    repeat' (first | apply Wp.seq | apply Wp.skip | apply Wp.block | (apply Wp.op0; ((simp [M2.keep]) <;> rfl)) | ((first | (apply Wp.pickT; (exact rfl); (first | exact rfl | assumption)) | (apply Wp.pickF; (exact rfl); (first | exact rfl | assumption))); ((simp) <;> exact rfl)) | ((first | apply Wp.op | apply Wp.opN); (apply Evt.all; intro; (simp [stU, l48, dr, insL]) <;> (try simp (disch := omega) only [wrap_id]) <;> first | exact ⟨rfl, rfl⟩ | exact rfl)) | (apply Wp.call; exact hri _) | (first | (apply Wp.ung; (exact rfl); (first | exact rfl | assumption)) | (apply Wp.opSt; (exact rfl); (first | exact rfl | assumption)) | (apply Wp.opSf; (exact rfl); (first | exact rfl | assumption))) | (apply Wp.opS0; (exact rfl)) | (first | (apply Wp.condT; (exact rfl); (first | exact rfl | assumption)) | (apply Wp.condF; (exact rfl); (first | exact rfl | assumption))) | ((first | apply Wp.grdT | apply Wp.grdF | apply Wp.cond); (exact rfl); (intro); rotate_left 1; (intro); rotate_right 1))
    refine Wp.ret ?_
    simp [Res, resU, res1, c_step_Right]
  have d3 : decide ((l.length : Int) ≤ at_) = false := decide_eq_false c3
  by_cases c40 : ¬ h.length ≤ 16
  · have c4 := c40
    have d4 : decide (h.length ≤ 16) = false := decide_eq_false c4
    have hs : sttF l ⟨L, h, at_, asked⟩ = false := by simp [sttF, c4]
    rw [d4] at hhr
    rw [hs]
    repeat' (first | apply Wp.seq | apply Wp.skip | apply Wp.block | (apply Wp.op0; ((simp [M2.keep]) <;> rfl)) | ((first | (apply Wp.pickT; (exact rfl); (first | exact rfl | assumption)) | (apply Wp.pickF; (exact rfl); (first | exact rfl | assumption))); ((simp) <;> exact rfl)) | ((first | apply Wp.op | apply Wp.opN); (apply Evt.all; intro; (simp [stU, l48, dr, insL]) <;> (try simp (disch := omega) only [wrap_id]) <;> first | exact ⟨rfl, rfl⟩ | exact rfl)) | (apply Wp.call; exact hri _) | (apply Wp.call; exact hhr _) | (first | (apply Wp.ung; (exact rfl); (first | exact rfl | assumption)) | (apply Wp.opSt; (exact rfl); (first | exact rfl | assumption)) | (apply Wp.opSf; (exact rfl); (first | exact rfl | assumption))) | (apply Wp.opS0; (exact rfl)) | (first | (apply Wp.condT; (exact rfl); (first | exact rfl | assumption)) | (apply Wp.condF; (exact rfl); (first | exact rfl | assumption))) | ((first | apply Wp.grdT | apply Wp.grdF | apply Wp.cond); (exact rfl); (intro); rotate_left 1; (intro); rotate_right 1))
    refine Wp.ret ?_
    simp [Res, resU, res1, c_step_Right]
  have c4 : h.length ≤ 16 := by omega
  have d4 : decide (h.length ≤ 16) = true := decide_eq_true c4
  rw [d4] at hhr
  by_cases c5 : asked < 0
  · have d5 : decide (asked < 0) = true := decide_eq_true c5
    have hs : sttF l ⟨L, h, at_, asked⟩ = false := by simp [sttF]; omega
    rw [hs]
    repeat' (first | apply Wp.seq | apply Wp.skip | apply Wp.block | (apply Wp.op0; ((simp [M2.keep]) <;> rfl)) | ((first | (apply Wp.pickT; (exact rfl); (first | exact rfl | assumption)) | (apply Wp.pickF; (exact rfl); (first | exact rfl | assumption))); ((simp) <;> exact rfl)) | ((first | apply Wp.op | apply Wp.opN); (apply Evt.all; intro; (simp [stU, l48, dr, insL]) <;> (try simp (disch := omega) only [wrap_id]) <;> first | exact ⟨rfl, rfl⟩ | exact rfl)) | (apply Wp.call; exact hri _) | (apply Wp.call; exact hhr _) | (first | (apply Wp.ung; (exact rfl); (first | exact rfl | assumption)) | (apply Wp.opSt; (exact rfl); (first | exact rfl | assumption)) | (apply Wp.opSf; (exact rfl); (first | exact rfl | assumption))) | (apply Wp.opS0; (exact rfl)) | (first | (apply Wp.condT; (exact rfl); (first | exact rfl | assumption)) | (apply Wp.condF; (exact rfl); (first | exact rfl | assumption))) | ((first | apply Wp.grdT | apply Wp.grdF | apply Wp.cond); (exact rfl); (intro); rotate_left 1; (intro); rotate_right 1))
    refine Wp.ret ?_
    simp [Res, resU, res1, c_step_Right]
  have d5 : decide (asked < 0) = false := decide_eq_false c5
  have hs : sttF l ⟨L, h, at_, asked⟩ = okW L := by
    have e1 : decide (0 ≤ at_) = true := decide_eq_true (by omega)
    have e2 : decide (at_ < l.length) = true := decide_eq_true (by omega)
    have e4 : decide (0 ≤ asked) = true := decide_eq_true (by omega)
    unfold sttF
    rw [c1, e1, e2, d4, e4]
    rfl
  rw [hs]
  repeat' (first | apply Wp.seq | apply Wp.skip | apply Wp.block | (apply Wp.op0; ((simp [M2.keep]) <;> rfl)) | ((first | (apply Wp.pickT; (exact rfl); (first | exact rfl | assumption)) | (apply Wp.pickF; (exact rfl); (first | exact rfl | assumption))); ((simp) <;> exact rfl)) | ((first | apply Wp.op | apply Wp.opN); (apply Evt.all; intro; (simp [stU, l48, dr, insL, tk]) <;> (try simp (disch := omega) only [wrap_id]) <;> first | exact ⟨rfl, rfl⟩ | exact rfl)) | (apply Wp.call; exact hri _) | (apply Wp.call; exact hhr _) | (first | (apply Wp.ung; (exact rfl); (first | exact rfl | assumption)) | (apply Wp.opSt; (exact rfl); (first | exact rfl | assumption)) | (apply Wp.opSf; (exact rfl); (first | exact rfl | assumption))) | (apply Wp.opS0; (exact rfl)) | (first | (apply Wp.condT; (exact rfl); (first | exact rfl | assumption)) | (apply Wp.condF; (exact rfl); (first | exact rfl | assumption))) | ((first | apply Wp.grdT | apply Wp.grdF | apply Wp.cond); (exact rfl); (intro); rotate_left 1; (intro); rotate_right 1))
  refine (show Wp T (.loop c_step_Right_L0) (srS ⟨L, h, at_, asked⟩ p 0) _ _ _ from hlp.imp (fun _ h => h.elim) ?_ ?_)
  · rintro s ⟨e, hR⟩
    rw [e]
    exact hR
  · rintro b s ⟨rfl, e, rfl⟩
    rw [if_pos rfl, e]
    repeat (first | apply Wp.seq | apply Wp.skip | apply Wp.block | (apply Wp.op0; ((simp [M2.keep]) <;> rfl)) | ((first | apply Wp.op | apply Wp.opN | (apply Wp.opG; exact rfl)); (apply Evt.all; intro; (simp []) <;> (try simp (disch := omega) only [wrap_id]) <;> first | exact ⟨rfl, rfl⟩ | exact rfl)) | (apply Wp.opS; exact rfl; decide) | (apply Wp.opS0; exact rfl))
    refine Wp.ret ?_
    simp [Res, resU, res1, c_step_Right]
theorem pf69 : pfT T n_step_work_number = true := rfl
set_option maxHeartbeats 8000000 in
theorem uses_moves (x : Ins) (hm : movesF x = true) (st : List Ob) : Cl T n_ins_Uses [.agg (insU x)] st (.sl true []) st := by
  refine Wp.pure (fn := c_ins_Uses) rfl rfl rfl («as» := [.agg (insU x)]) rfl ?_
  have hof := of_call x.op
  have hmv := moves_call x
  rw [hm] at hmv
  have hop : x.op = 1 ∨ x.op = 2 ∨ x.op = 3 ∨ x.op = 16 := by simp [movesF] at hm; omega
  obtain ⟨op, d, a, b, n, to⟩ := x
  simp only [insU] at *
  rcases hop with rfl | rfl | rfl | rfl
  all_goals
    simp [shapeU, gl_0] at hof
    repeat' (first | apply Wp.seq | apply Wp.skip | apply Wp.block | (apply Wp.op0; ((simp [M2.keep]) <;> rfl)) | ((first | (apply Wp.pickT; (exact rfl); (first | exact rfl | assumption)) | (apply Wp.pickF; (exact rfl); (first | exact rfl | assumption))); ((simp) <;> exact rfl)) | ((first | apply Wp.op | apply Wp.opN); (apply Evt.all; intro; (simp [over_full]) <;> (try simp (disch := omega) only [wrap_id]) <;> first | exact ⟨rfl, rfl⟩ | exact rfl)) | (apply Wp.call; exact hof _) | (apply Wp.call; exact hmv _) | (first | (apply Wp.ung; (exact rfl); (first | exact rfl | assumption)) | (apply Wp.opSt; (exact rfl); (first | exact rfl | assumption)) | (apply Wp.opSf; (exact rfl); (first | exact rfl | assumption))) | (apply Wp.opS0; (exact rfl)) | (first | (apply Wp.condT; (exact rfl); (first | exact rfl | assumption)) | (apply Wp.condF; (exact rfl); (first | exact rfl | assumption))) | ((first | apply Wp.grdT | apply Wp.grdF | apply Wp.cond); (exact rfl); (intro); rotate_left 1; (intro); rotate_right 1))
    refine Wp.ret ?_
    simp [Res, resU, res1, c_ins_Uses]
def nextI (x : Ins) (at_ : Int) : Int := if x.op = 16 then x.to else at_ + 1
def doneF (s : Stt) (x : Ins) : Stt := ⟨moveF s.L x, s.h, nextI x s.at_, s.asked⟩
set_option maxHeartbeats 8000000 in
theorem do_moves (o1 o2 o3 : Ob) (s : Stt) (x : Ins) (K : List (List U)) (hL : s.L.length = 24) (hm : movesF x = true) (hd : locF 24 x.d = true) (ha : locF 24 x.a = true) (hb : x.b = 0) (hat : 0 ≤ s.at_ ∧ s.at_ ≤ 1000) :
    Cl T n_step_work_do [.bp 3 0] [o1, o2, o3, .box (workU ⟨s, x, .sl true K, .nils, 0, 0⟩)] (.tup []) [o1, o2, o3, .box (workU ⟨doneF s x, x, .sl true K, .nils, 0, 0⟩)] := by
  refine Wp.impure (fn := c_step_work_do) rfl rfl rfl ?_
  have hmv := moves_call x
  rw [hm] at hmv
  have hmove := move_call o1 o2 o3 ⟨s, x, .sl true K, .nils, 0, 0⟩ hL hd ha
  have hnum := fun D hD => number_call o1 o2 o3 s x K 0 0 hL D hD
  have hL2 : (moveF s.L x).length = 24 := by rw [moveF_len]; exact hL
  have hop : x.op = 1 ∨ x.op = 2 ∨ x.op = 3 ∨ x.op = 16 := by simp [movesF] at hm; omega
  obtain ⟨L, h, at_, asked⟩ := s
  obtain ⟨op, d, a, b, n, to⟩ := x
  simp only at *
  subst hb
  simp only [locF, Bool.and_eq_true, decide_eq_true_eq] at hd ha
  obtain ⟨A, rfl⟩ := Int.eq_ofNat_of_zero_le ha.1
  have hA := hnum A (by omega)
  have wplain := wds_plain L
  have h0 := hnum 0 (by omega)
  have l48 := wds48 hL
  have l48' := wds48 hL2
  have dr := wds_drop hL
  have dr2 := wds_drop hL2
  have sp := wds_splice hL
  have sp2 := wds_splice hL2
  have tk := wds_takeMore hL
  simp only [doneF, workU, insU] at hA h0 hmv hmove ⊢
  generalize (L.getD A (false, 0)).2 = va at *
  generalize (L.getD 0 (false, 0)).2 = vb at *
  rcases hop with rfl | rfl | rfl | rfl
  · simp only [nextI, show ¬ ((1 : Int) = 16) by decide, if_false]
    repeat (first | apply Wp.seq | apply Wp.skip | apply Wp.block | (apply Wp.op0; ((simp [M2.keep]) <;> rfl)) | ((first | apply Wp.op | apply Wp.opN | (apply Wp.opG; exact rfl)); (apply Evt.all; intro; (simp []) <;> (try simp (disch := omega) only [wrap_id]) <;> first | exact ⟨rfl, rfl⟩ | exact rfl)) | (apply Wp.opS; exact rfl; decide) | (apply Wp.opS0; exact rfl))
    refine Wp.draw (by (simp [c_step_work_do_D0, I.need]) <;> rfl) (by (simp [l48, dr, pf69, wplain]) <;> rfl) (by (simp [l48, dr, pf69, wplain]) <;> rfl) (by (unfold c_step_work_do_D0); (repeat (first | ((first | apply Dr.op | apply Dr.opN | (apply Dr.opG; exact rfl)); ((simp [l48, dr, pf69, wplain]) <;> rfl); (apply Evt.all; intro; (simp [l48, dr, pf69, wplain]) <;> (try simp (disch := omega) only [wrap_id]) <;> first | exact ⟨rfl, rfl⟩ | exact rfl); ((simp [I.need]) <;> rfl)) | ((first | (apply Dr.opS; exact rfl; decide) | (apply Dr.opS0; exact rfl)); ((simp [I.need]) <;> rfl)) | (apply Dr.call; ((simp [l48, dr, pf69, wplain]) <;> rfl); exact hA) | (apply Dr.callG; (exact rfl); ((simp [l48, dr, pf69, wplain]) <;> rfl); exact hA) | (apply Dr.call; ((simp [l48, dr, pf69, wplain]) <;> rfl); exact h0) | (apply Dr.callG; (exact rfl); ((simp [l48, dr, pf69, wplain]) <;> rfl); exact h0))); exact Dr.nil) (by first | decide +kernel | exact rfl) (by (simp [M2.keep]) <;> rfl) ?_
    repeat' (first | apply Wp.seq | apply Wp.skip | apply Wp.block | (apply Wp.op0; ((simp [M2.keep]) <;> rfl)) | ((first | (apply Wp.pickT; (exact rfl); (first | exact rfl | assumption)) | (apply Wp.pickF; (exact rfl); (first | exact rfl | assumption))); ((simp) <;> exact rfl)) | ((first | apply Wp.op | apply Wp.opN); (apply Evt.all; intro; (simp [l48, dr, l48', dr2, sp2, wrap_id]) <;> (try simp (disch := omega) only [wrap_id]) <;> first | exact ⟨rfl, rfl⟩ | exact rfl)) | (apply Wp.call; exact hmv _) | (apply Wp.call; exact hmove) | (apply Wp.exit; repeat (first | rw [if_pos rfl] | rw [if_neg (by decide)])) | (first | (apply Wp.ung; (exact rfl); (first | exact rfl | assumption)) | (apply Wp.opSt; (exact rfl); (first | exact rfl | assumption)) | (apply Wp.opSf; (exact rfl); (first | exact rfl | assumption))) | (apply Wp.opS0; (exact rfl)) | (first | (apply Wp.condT; (exact rfl); (first | exact rfl | assumption)) | (apply Wp.condF; (exact rfl); (first | exact rfl | assumption))) | ((first | apply Wp.grdT | apply Wp.grdF | apply Wp.cond); (exact rfl); (intro); rotate_left 1; (intro); rotate_right 1))
    exact ⟨rfl, congrArg S.st (trimO_len rfl)⟩
  · simp only [nextI, show ¬ ((2 : Int) = 16) by decide, if_false]
    repeat (first | apply Wp.seq | apply Wp.skip | apply Wp.block | (apply Wp.op0; ((simp [M2.keep]) <;> rfl)) | ((first | apply Wp.op | apply Wp.opN | (apply Wp.opG; exact rfl)); (apply Evt.all; intro; (simp []) <;> (try simp (disch := omega) only [wrap_id]) <;> first | exact ⟨rfl, rfl⟩ | exact rfl)) | (apply Wp.opS; exact rfl; decide) | (apply Wp.opS0; exact rfl))
    refine Wp.draw (by (simp [c_step_work_do_D0, I.need]) <;> rfl) (by (simp [l48, dr, pf69, wplain]) <;> rfl) (by (simp [l48, dr, pf69, wplain]) <;> rfl) (by (unfold c_step_work_do_D0); (repeat (first | ((first | apply Dr.op | apply Dr.opN | (apply Dr.opG; exact rfl)); ((simp [l48, dr, pf69, wplain]) <;> rfl); (apply Evt.all; intro; (simp [l48, dr, pf69, wplain]) <;> (try simp (disch := omega) only [wrap_id]) <;> first | exact ⟨rfl, rfl⟩ | exact rfl); ((simp [I.need]) <;> rfl)) | ((first | (apply Dr.opS; exact rfl; decide) | (apply Dr.opS0; exact rfl)); ((simp [I.need]) <;> rfl)) | (apply Dr.call; ((simp [l48, dr, pf69, wplain]) <;> rfl); exact hA) | (apply Dr.callG; (exact rfl); ((simp [l48, dr, pf69, wplain]) <;> rfl); exact hA) | (apply Dr.call; ((simp [l48, dr, pf69, wplain]) <;> rfl); exact h0) | (apply Dr.callG; (exact rfl); ((simp [l48, dr, pf69, wplain]) <;> rfl); exact h0))); exact Dr.nil) (by first | decide +kernel | exact rfl) (by (simp [M2.keep]) <;> rfl) ?_
    repeat' (first | apply Wp.seq | apply Wp.skip | apply Wp.block | (apply Wp.op0; ((simp [M2.keep]) <;> rfl)) | ((first | (apply Wp.pickT; (exact rfl); (first | exact rfl | assumption)) | (apply Wp.pickF; (exact rfl); (first | exact rfl | assumption))); ((simp) <;> exact rfl)) | ((first | apply Wp.op | apply Wp.opN); (apply Evt.all; intro; (simp [l48, dr, l48', dr2, sp2, wrap_id]) <;> (try simp (disch := omega) only [wrap_id]) <;> first | exact ⟨rfl, rfl⟩ | exact rfl)) | (apply Wp.call; exact hmv _) | (apply Wp.call; exact hmove) | (apply Wp.exit; repeat (first | rw [if_pos rfl] | rw [if_neg (by decide)])) | (first | (apply Wp.ung; (exact rfl); (first | exact rfl | assumption)) | (apply Wp.opSt; (exact rfl); (first | exact rfl | assumption)) | (apply Wp.opSf; (exact rfl); (first | exact rfl | assumption))) | (apply Wp.opS0; (exact rfl)) | (first | (apply Wp.condT; (exact rfl); (first | exact rfl | assumption)) | (apply Wp.condF; (exact rfl); (first | exact rfl | assumption))) | ((first | apply Wp.grdT | apply Wp.grdF | apply Wp.cond); (exact rfl); (intro); rotate_left 1; (intro); rotate_right 1))
    exact ⟨rfl, congrArg S.st (trimO_len rfl)⟩
  · simp only [nextI, show ¬ ((3 : Int) = 16) by decide, if_false]
    repeat (first | apply Wp.seq | apply Wp.skip | apply Wp.block | (apply Wp.op0; ((simp [M2.keep]) <;> rfl)) | ((first | apply Wp.op | apply Wp.opN | (apply Wp.opG; exact rfl)); (apply Evt.all; intro; (simp []) <;> (try simp (disch := omega) only [wrap_id]) <;> first | exact ⟨rfl, rfl⟩ | exact rfl)) | (apply Wp.opS; exact rfl; decide) | (apply Wp.opS0; exact rfl))
    refine Wp.draw (by (simp [c_step_work_do_D0, I.need]) <;> rfl) (by (simp [l48, dr, pf69, wplain]) <;> rfl) (by (simp [l48, dr, pf69, wplain]) <;> rfl) (by (unfold c_step_work_do_D0); (repeat (first | ((first | apply Dr.op | apply Dr.opN | (apply Dr.opG; exact rfl)); ((simp [l48, dr, pf69, wplain]) <;> rfl); (apply Evt.all; intro; (simp [l48, dr, pf69, wplain]) <;> (try simp (disch := omega) only [wrap_id]) <;> first | exact ⟨rfl, rfl⟩ | exact rfl); ((simp [I.need]) <;> rfl)) | ((first | (apply Dr.opS; exact rfl; decide) | (apply Dr.opS0; exact rfl)); ((simp [I.need]) <;> rfl)) | (apply Dr.call; ((simp [l48, dr, pf69, wplain]) <;> rfl); exact hA) | (apply Dr.callG; (exact rfl); ((simp [l48, dr, pf69, wplain]) <;> rfl); exact hA) | (apply Dr.call; ((simp [l48, dr, pf69, wplain]) <;> rfl); exact h0) | (apply Dr.callG; (exact rfl); ((simp [l48, dr, pf69, wplain]) <;> rfl); exact h0))); exact Dr.nil) (by first | decide +kernel | exact rfl) (by (simp [M2.keep]) <;> rfl) ?_
    repeat' (first | apply Wp.seq | apply Wp.skip | apply Wp.block | (apply Wp.op0; ((simp [M2.keep]) <;> rfl)) | ((first | (apply Wp.pickT; (exact rfl); (first | exact rfl | assumption)) | (apply Wp.pickF; (exact rfl); (first | exact rfl | assumption))); ((simp) <;> exact rfl)) | ((first | apply Wp.op | apply Wp.opN); (apply Evt.all; intro; (simp [l48, dr, l48', dr2, sp2, wrap_id]) <;> (try simp (disch := omega) only [wrap_id]) <;> first | exact ⟨rfl, rfl⟩ | exact rfl)) | (apply Wp.call; exact hmv _) | (apply Wp.call; exact hmove) | (apply Wp.exit; repeat (first | rw [if_pos rfl] | rw [if_neg (by decide)])) | (first | (apply Wp.ung; (exact rfl); (first | exact rfl | assumption)) | (apply Wp.opSt; (exact rfl); (first | exact rfl | assumption)) | (apply Wp.opSf; (exact rfl); (first | exact rfl | assumption))) | (apply Wp.opS0; (exact rfl)) | (first | (apply Wp.condT; (exact rfl); (first | exact rfl | assumption)) | (apply Wp.condF; (exact rfl); (first | exact rfl | assumption))) | ((first | apply Wp.grdT | apply Wp.grdF | apply Wp.cond); (exact rfl); (intro); rotate_left 1; (intro); rotate_right 1))
    exact ⟨rfl, congrArg S.st (trimO_len rfl)⟩
  · simp only [nextI, if_true]
    have hmv16 : moveF L { op := 16, d := d, a := (A : Int), b := 0, n := n, to := to } = L := rfl
    rw [hmv16]
    repeat (first | apply Wp.seq | apply Wp.skip | apply Wp.block | (apply Wp.op0; ((simp [M2.keep]) <;> rfl)) | ((first | apply Wp.op | apply Wp.opN | (apply Wp.opG; exact rfl)); (apply Evt.all; intro; (simp []) <;> (try simp (disch := omega) only [wrap_id]) <;> first | exact ⟨rfl, rfl⟩ | exact rfl)) | (apply Wp.opS; exact rfl; decide) | (apply Wp.opS0; exact rfl))
    refine Wp.draw (by (simp [c_step_work_do_D0, I.need]) <;> rfl) (by (simp [l48, dr, pf69, wplain]) <;> rfl) (by (simp [l48, dr, pf69, wplain]) <;> rfl) (by (unfold c_step_work_do_D0); (repeat (first | ((first | apply Dr.op | apply Dr.opN | (apply Dr.opG; exact rfl)); ((simp [l48, dr, pf69, wplain]) <;> rfl); (apply Evt.all; intro; (simp [l48, dr, pf69, wplain]) <;> (try simp (disch := omega) only [wrap_id]) <;> first | exact ⟨rfl, rfl⟩ | exact rfl); ((simp [I.need]) <;> rfl)) | ((first | (apply Dr.opS; exact rfl; decide) | (apply Dr.opS0; exact rfl)); ((simp [I.need]) <;> rfl)) | (apply Dr.call; ((simp [l48, dr, pf69, wplain]) <;> rfl); exact hA) | (apply Dr.callG; (exact rfl); ((simp [l48, dr, pf69, wplain]) <;> rfl); exact hA) | (apply Dr.call; ((simp [l48, dr, pf69, wplain]) <;> rfl); exact h0) | (apply Dr.callG; (exact rfl); ((simp [l48, dr, pf69, wplain]) <;> rfl); exact h0))); exact Dr.nil) (by first | decide +kernel | exact rfl) (by (simp [M2.keep]) <;> rfl) ?_
    repeat' (first | apply Wp.seq | apply Wp.skip | apply Wp.block | (apply Wp.op0; ((simp [M2.keep]) <;> rfl)) | ((first | (apply Wp.pickT; (exact rfl); (first | exact rfl | assumption)) | (apply Wp.pickF; (exact rfl); (first | exact rfl | assumption))); ((simp) <;> exact rfl)) | ((first | apply Wp.op | apply Wp.opN); (apply Evt.all; intro; (simp [l48, dr, sp, wrap_id]) <;> (try simp (disch := omega) only [wrap_id]) <;> first | exact ⟨rfl, rfl⟩ | exact rfl)) | (apply Wp.call; exact hmv _) | (apply Wp.call; exact hmove) | (apply Wp.exit; repeat (first | rw [if_pos rfl] | rw [if_neg (by decide)])) | (first | (apply Wp.ung; (exact rfl); (first | exact rfl | assumption)) | (apply Wp.opSt; (exact rfl); (first | exact rfl | assumption)) | (apply Wp.opSf; (exact rfl); (first | exact rfl | assumption))) | (apply Wp.opS0; (exact rfl)) | (first | (apply Wp.condT; (exact rfl); (first | exact rfl | assumption)) | (apply Wp.condF; (exact rfl); (first | exact rfl | assumption))) | ((first | apply Wp.grdT | apply Wp.grdF | apply Wp.cond); (exact rfl); (intro); rotate_left 1; (intro); rotate_right 1))
    exact ⟨rfl, congrArg S.st (trimO_len rfl)⟩
end Go.Proofs.YtapibckmdpdljaaDoor.M2

/- What the functions answer in M2. What places have by a table; a heap is like itself. -/
namespace Go.Proofs.YtapibckmdpdljaaDoor.M2
open Go
attribute [local simp] ev1 M2.get put A.ev ld sub part elems bin arith un opt idx fillC cellsO splice over newOb sto fillR laidOwn appTo appRow touch touchN touchM touchE touchA plainU flatU plainAs allM rowAt stoRow accM_nil accM_cons accMM_nil accMM_cons frz_int frz_bool frz_str frz_slt frz_nils frz_nilI frz_nilF frz_own frzRow_row frzRow_frow Ob.blw blw_bool blw_int blw_str blw_nils blw_nilI blw_nilF blw_nilp blw_nilm blw_sl blw_own blw_bp blw_rp blw_mp blw_it params
attribute [local simp] frz_agg frz_tup frz_iface frzS_agg frzS_iface accMS_cons frzS_int frzS_bool frzS_str frzS_slt frzS_nils frzS_nilI beq_dec bne_dec

def fillS (L : List Wd) : Src → Wd
  | .was l => L.getD l.toNat (false, 0)
  | .is n => (true, n)
  | .no => (false, 0)
def fillF (t : List Src) (L : List Wd) : List Wd := (goodF t).map (fillS L)
def midW (t : List Src) (L : List Wd) (i : Nat) : List Wd := (t.map (fillS L)).take i ++ List.replicate (24 - i) (false, 0)
theorem midW_len {t : List Src} (ht : t.length = 24) (L : List Wd) {i : Nat} (hi : i ≤ 24) : (midW t L i).length = 24 := by simp [midW, ht]; omega
theorem midW_set {t : List Src} (ht : t.length = 24) (L : List Wd) {i : Nat} (hi : i < t.length) : (midW t L i).set i (fillS L t[i]) = midW t L (i + 1) := by
  have h1 : ((t.map (fillS L)).take i).length = i := by simp; omega
  unfold midW
  rw [show 24 - i = (24 - (i + 1)) + 1 by omega, List.replicate_succ, List.set_append_right _ _ (by omega), h1, Nat.sub_self, List.set_cons_zero, List.take_succ_eq_append_getElem (by simpa using hi)]
  simp
abbrev Z24 : List Wd := List.replicate 24 (false, 0)
def flS (t0 t : List Src) (L : List Wd) (i : Nat) : S := ⟨[(3, .bp 1 0), (4, .bp 2 0), (5, .bp 3 0), (11, .agg (tabU t)), (12, i64 i)], [.box (tabU t0), .box (wdsU L), .box (wdsU Z24), .box (wdsU (midW t L i))]⟩
theorem fl_blw (t0 : List Src) (L M : List Wd) : [Ob.box (tabU t0), .box (wdsU L), .box (wdsU Z24), .box (wdsU M)].all (Ob.blw 4) = true := by
  show (Ob.blw 4 (.box (tabU t0)) && ((wdsU L).all (blw blwD 4) && ((wdsU Z24).all (blw blwD 4) && ((wdsU M).all (blw blwD 4) && true)))) = true
  rw [box_tab, wds_blw, wds_blw, wds_blw]
  rfl
theorem fl_fin (t0 t : List Src) (L M : List Wd) (i : Int) (l : List Ob) : trimO 4 ⟨[(3, .bp 1 0), (4, .bp 2 0), (5, .bp 3 0), (11, .agg (tabU t)), (12, i64 i)], [.box (tabU t0), .box (wdsU L), .box (wdsU Z24), .box (wdsU M)] ++ l⟩ = ⟨[(3, .bp 1 0), (4, .bp 2 0), (5, .bp 3 0), (11, .agg (tabU t)), (12, i64 i)], [.box (tabU t0), .box (wdsU L), .box (wdsU Z24), .box (wdsU M)]⟩ := by
  refine trim_list (st := [.box (tabU t0), .box (wdsU L), .box (wdsU Z24), .box (wdsU M)]) ?_ (fl_blw t0 L M)
  show (true && (true && (true && (blw blwD 4 (.agg (tabU t)) && (true && true))))) = true
  rw [blw_tab]
  rfl
set_option maxHeartbeats 4000000 in
theorem fill_loop (t0 t : List Src) (ht : t.length = 24) (L : List Wd) (hL : L.length = 24) (hm : t.all mayF = true) :
    Wp T (.loop c_env_Fill_L0) (flS t0 t L (0 : Nat)) (fun _ => False) (fun _ => False) (fun k s' => k = 0 ∧ s' = ⟨[(3, .bp 1 0), (4, .bp 2 0), (5, .bp 3 0), (11, .agg (tabU t)), (12, i64 (24 : Nat)), (13, .bool false)], [.box (tabU t0), .box (wdsU L), .box (wdsU Z24), .box (wdsU (t.map (fillS L)))]⟩) := by
  refine Wp.count 24 (fun i => flS t0 t L i) (fun _ => True) (fun i hi _ => ?_) (fun _ => ?_) 0 (by omega) trivial
  · have hit : i < t.length := by omega
    have hi' : (i : Int) < 24 := by omega
    have hi2 : i * 2 ≤ 46 := by omega
    have hsub : M2.sub (tabU t) i 1 = some [srcU t[i]] := tab_sub hit
    have hset := midW_set ht L hit
    have hml := midW_len ht L (i := i) (by omega)
    have hml2 := wds48 hml
    have l48 := wds48 hL
    have hmay : mayF t[i] = true := List.all_eq_true.1 hm _ (List.getElem_mem hit)
    have hws := wds_set (midW t L i) i (by omega)
    simp only [flS]
    repeat (first | apply Wp.seq | apply Wp.skip | apply Wp.block | (apply Wp.op0; ((simp [M2.keep]) <;> rfl)) | ((first | apply Wp.op | apply Wp.opN | (apply Wp.opG; exact rfl)); (apply Evt.all; intro; (simp [hi']) <;> (try simp (disch := omega) only [wrap_id]) <;> first | exact ⟨rfl, rfl⟩ | exact rfl)) | (apply Wp.opS; exact rfl; decide) | (apply Wp.opS0; exact rfl))
    refine Wp.cond (by first | rfl | (simp; rfl)) (fun h1 => ?_) (fun h1 => ?_)
    · cases hbi : t[i] with
      | was D =>
        rw [hbi] at hsub hset hmay
        simp only [mayF, locF, Bool.and_eq_true, decide_eq_true_eq] at hmay
        obtain ⟨D, rfl⟩ := Int.eq_ofNat_of_zero_le hmay.1
        have hD : D < L.length := by omega
        have hD' : (D : Int) < 24 := hmay.2
        have hD2 : D * 2 ≤ 46 := by omega
        have hse : fillS L (.was (D : Int)) = L[D] := by simp [fillS, hD]
        rw [hse] at hset
        have g2 := wds_get' L D hD
        have hsp := hws L[D].1 L[D].2 []
        simp only [List.append_nil] at hsp
        rw [show (L[D].1, L[D].2) = L[D] from rfl, hset] at hsp
        repeat (first | apply Wp.seq | apply Wp.skip | apply Wp.block | (apply Wp.op0; ((simp [M2.keep]) <;> rfl)) | ((first | apply Wp.op | apply Wp.opN | (apply Wp.opG; exact rfl)); (apply Evt.all; intro; (simp [-sub, hsub, hi', srcU]) <;> (try simp (disch := omega) only [wrap_id]) <;> first | exact ⟨rfl, rfl⟩ | exact rfl)) | (apply Wp.opS; exact rfl; decide) | (apply Wp.opS0; exact rfl))
        refine Wp.cond (by first | rfl | (simp; rfl)) (fun h2 => ?_) (fun h2 => ?_)
        · repeat (first | apply Wp.seq | apply Wp.skip | apply Wp.block | (apply Wp.op0; ((simp [M2.keep]) <;> rfl)) | ((first | apply Wp.op | apply Wp.opN | (apply Wp.opG; exact rfl)); (apply Evt.all; intro; (simp [hD', hi', hD2, hi2, l48, hml2, g2, hsp, wrap_id]) <;> (try simp (disch := omega) only [wrap_id]) <;> first | exact ⟨rfl, rfl⟩ | exact rfl)) | (apply Wp.opS; exact rfl; decide) | (apply Wp.opS0; exact rfl))
          exact ⟨fl_fin t0 t L _ _ [_], trivial⟩
        · cases h2
      | is n =>
        rw [hbi] at hsub hset
        have hsp := hws true n []
        simp only [List.append_nil] at hsp
        rw [show ((true, n) : Wd) = fillS L (.is n) from rfl, hset] at hsp
        repeat (first | apply Wp.seq | apply Wp.skip | apply Wp.block | (apply Wp.op0; ((simp [M2.keep]) <;> rfl)) | ((first | apply Wp.op | apply Wp.opN | (apply Wp.opG; exact rfl)); (apply Evt.all; intro; (simp [-sub, hsub, hi', srcU]) <;> (try simp (disch := omega) only [wrap_id]) <;> first | exact ⟨rfl, rfl⟩ | exact rfl)) | (apply Wp.opS; exact rfl; decide) | (apply Wp.opS0; exact rfl))
        refine Wp.cond (by first | rfl | (simp; rfl)) (fun h2 => ?_) (fun h2 => ?_)
        · cases h2
        · repeat (first | apply Wp.seq | apply Wp.skip | apply Wp.block | (apply Wp.op0; ((simp [M2.keep]) <;> rfl)) | ((first | apply Wp.op | apply Wp.opN | (apply Wp.opG; exact rfl)); (apply Evt.all; intro; (simp []) <;> (try simp (disch := omega) only [wrap_id]) <;> first | exact ⟨rfl, rfl⟩ | exact rfl)) | (apply Wp.opS; exact rfl; decide) | (apply Wp.opS0; exact rfl))
          refine Wp.cond (by first | rfl | (simp; rfl)) (fun h3 => ?_) (fun h3 => ?_)
          · repeat (first | apply Wp.seq | apply Wp.skip | apply Wp.block | (apply Wp.op0; ((simp [M2.keep]) <;> rfl)) | ((first | apply Wp.op | apply Wp.opN | (apply Wp.opG; exact rfl)); (apply Evt.all; intro; (simp [hi', hi2, hml2, hsp, wrap_id]) <;> (try simp (disch := omega) only [wrap_id]) <;> first | exact ⟨rfl, rfl⟩ | exact rfl)) | (apply Wp.opS; exact rfl; decide) | (apply Wp.opS0; exact rfl))
            exact ⟨fl_fin t0 t L _ _ [_], trivial⟩
          · cases h3
      | no => rw [hbi] at hmay; cases hmay
    · cases h1
  · simp only [flS]
    repeat (first | apply Wp.seq | apply Wp.skip | apply Wp.block | (apply Wp.op0; ((simp [M2.keep]) <;> rfl)) | ((first | apply Wp.op | apply Wp.opN | (apply Wp.opG; exact rfl)); (apply Evt.all; intro; (simp []) <;> (try simp (disch := omega) only [wrap_id]) <;> first | exact ⟨rfl, rfl⟩ | exact rfl)) | (apply Wp.opS; exact rfl; decide) | (apply Wp.opS0; exact rfl))
    refine Wp.cond (by first | rfl | (simp; rfl)) (fun h1 => ?_) (fun h1 => ?_)
    · cases h1
    · refine Wp.exit ⟨rfl, ?_⟩
      have : midW t L 24 = t.map (fillS L) := by
        unfold midW
        rw [List.take_of_length_le (by simp [ht]), Nat.sub_self, List.replicate_zero, List.append_nil]
      rw [this]
      rfl
theorem brw_wds (st : List Ob) (L : List Wd) : brw frzD st (.agg (wdsU L)) = some (.agg (wdsU L)) := by
  show (allM (brw 11 st) (wdsU L)).bind (fun cs => some (U.agg cs)) = _
  have := brwWds 10 st [] [] rfl L
  simp only [List.append_nil] at this
  rw [this]
  rfl
theorem frz_wds (st : List Ob) (L : List Wd) : frz frzD st (.agg (wdsU L)) = some (.agg (wdsU L), st) := by
  have := accWds 10 st [] [] st rfl L
  simp only [List.append_nil] at this
  rw [frz_agg, this]
  rfl
set_option maxHeartbeats 4000000 in
theorem fill_call (t : List Src) (ht : t.length = 24) (L : List Wd) (hL : L.length = 24) (st : List Ob) : Cl T n_env_Fill [.agg (tabU t), .agg (wdsU L)] st (.agg (wdsU (fillF t L))) st := by
  have hbr := brw_wds st L
  refine Wp.pure (fn := c_env_Fill) rfl rfl rfl («as» := [.agg (tabU t), .agg (wdsU L)]) (by simp [brw_tab, hbr]) ?_
  have g := good_call t ht
  have lg := goodF_len ht
  have hm := goodF_may (t := t)
  have t1 := tab24 ht
  unfold fillF
  have hlp := fill_loop t (goodF t) lg L hL hm
  generalize goodF t = t' at *
  have l48 := wds48 hL
  have lf : (t'.map (fillS L)).length = 24 := by simp [lg]
  have lf48 := wds48 lf
  have tk := wds_take lf []
  simp only [List.append_nil] at tk
  repeat' (first | apply Wp.seq | apply Wp.skip | apply Wp.block | (apply Wp.op0; ((simp [M2.keep]) <;> rfl)) | ((first | (apply Wp.pickT; (exact rfl); (first | exact rfl | assumption)) | (apply Wp.pickF; (exact rfl); (first | exact rfl | assumption))); ((simp) <;> exact rfl)) | ((first | apply Wp.op | apply Wp.opN); (apply Evt.all; intro; (simp [tabU_len, ht, t1, l48]) <;> (try simp (disch := omega) only [wrap_id]) <;> first | exact ⟨rfl, rfl⟩ | exact rfl)) | (apply Wp.call; exact g _) | (first | (apply Wp.ung; (exact rfl); (first | exact rfl | assumption)) | (apply Wp.opSt; (exact rfl); (first | exact rfl | assumption)) | (apply Wp.opSf; (exact rfl); (first | exact rfl | assumption))) | (apply Wp.opS0; (exact rfl)) | (first | (apply Wp.condT; (exact rfl); (first | exact rfl | assumption)) | (apply Wp.condF; (exact rfl); (first | exact rfl | assumption))) | ((first | apply Wp.grdT | apply Wp.grdF | apply Wp.cond); (exact rfl); (intro); rotate_left 1; (intro); rotate_right 1))
  refine (show Wp T (.loop c_env_Fill_L0) (flS t t' L (0 : Nat)) _ _ _ from hlp.imp (fun _ h => h.elim) (fun _ h => h.elim) ?_)
  rintro k s ⟨rfl, rfl⟩
  rw [if_pos rfl]
  repeat (first | apply Wp.seq | apply Wp.skip | apply Wp.block | (apply Wp.op0; ((simp [M2.keep]) <;> rfl)) | ((first | apply Wp.op | apply Wp.opN | (apply Wp.opG; exact rfl)); (apply Evt.all; intro; (simp [lf48, tk, over_full]) <;> (try simp (disch := omega) only [wrap_id]) <;> first | exact ⟨rfl, rfl⟩ | exact rfl)) | (apply Wp.opS; exact rfl; decide) | (apply Wp.opS0; exact rfl))
  refine Wp.ret ?_
  have ov : over (wdsU (t'.map (fillS L))) (wdsU Z24) = wdsU (t'.map (fillS L)) := over_full _ _ (by rw [lf48]; rfl)
  rw [ov]
  have hfz := frz_wds [.box (tabU t), .box (wdsU L), .box (wdsU (t'.map (fillS L))), .box (wdsU (t'.map (fillS L)))] (t'.map (fillS L))
  simp [Res, resU, res1, c_env_Fill, lf48, tk, hfz, -frz_agg]
/-! A heap is like itself. -/
def s6S (p q : Bool) (h : List Int) (i : Nat) : S := ⟨[(0, heapU p h), (1, heapU q h), (5, i64 i)], []⟩
set_option maxHeartbeats 4000000 in
theorem same6_loop (p q : Bool) (h : List Int) (hh : h.length ≤ 1000) (R : S → Prop) :
    Wp T (.loop c_joineryref06_Same_L1) (s6S p q h 0) (fun _ => False) R (fun b s' => b = 0 ∧ s' = ⟨[(0, heapU p h), (1, heapU q h), (5, i64 (h.length : Nat)), (15, .bool false)], []⟩) := by
  refine Wp.count h.length (fun i => s6S p q h i) (fun _ => True) (fun i hi _ => ?_) (fun _ => ?_) 0 (by omega) trivial
  · have hi' : (i : Int) < h.length := by omega
    have d1 : decide ((i : Int) < h.length) = true := decide_eq_true hi'
    have d2 : decide (i < h.length) = true := decide_eq_true hi
    have eg : h[i]? = some h[i] := List.getElem?_eq_getElem hi
    generalize h[i] = v at *
    simp only [s6S, heapU]
    repeat' (first | apply Wp.seq | apply Wp.skip | apply Wp.block | (apply Wp.op0; ((simp [M2.keep]) <;> rfl)) | ((first | (apply Wp.pickT; (exact rfl); (first | exact rfl | assumption)) | (apply Wp.pickF; (exact rfl); (first | exact rfl | assumption))); ((simp) <;> exact rfl)) | ((first | apply Wp.op | apply Wp.opN); (apply Evt.all; intro; (simp []) <;> (try simp (disch := omega) only [wrap_id]) <;> first | exact ⟨rfl, rfl⟩ | exact rfl)) | (first | (apply Wp.ung; (exact rfl); (first | exact rfl | assumption)) | (apply Wp.opSt; (exact rfl); (first | exact rfl | assumption)) | (apply Wp.opSf; (exact rfl); (first | exact rfl | assumption))) | (apply Wp.opS0; (exact rfl)) | (first | (apply Wp.condT; (exact rfl); (first | exact rfl | assumption)) | (apply Wp.condF; (exact rfl); (first | exact rfl | assumption))) | ((first | apply Wp.grdT | apply Wp.grdF | apply Wp.cond); (exact rfl); (intro); rotate_left 1; (intro); rotate_right 1))
    refine Wp.draw (by (simp [c_joineryref06_Same_D0, I.need]) <;> rfl) (by (simp [hi', eg]) <;> rfl) (by (simp [hi', eg]) <;> rfl) (by (unfold c_joineryref06_Same_D0); (repeat (first | ((first | apply Dr.op | apply Dr.opN | (apply Dr.opG; exact rfl)); ((simp [hi', eg]) <;> rfl); (apply Evt.all; intro; (simp [hi', eg]) <;> (try simp (disch := omega) only [wrap_id]) <;> first | exact ⟨rfl, rfl⟩ | exact rfl); ((simp [I.need]) <;> rfl)) | ((first | (apply Dr.opS; exact rfl; decide) | (apply Dr.opS0; exact rfl)); ((simp [I.need]) <;> rfl)))); exact Dr.nil) (by first | decide +kernel | exact rfl) (by (simp [M2.keep]) <;> rfl) ?_
    refine Wp.cond (by first | rfl | (simp; rfl)) (fun h2 => ?_) (fun h2 => ?_)
    · simp at h2
    · repeat (first | apply Wp.seq | apply Wp.skip | apply Wp.block | (apply Wp.op0; ((simp [M2.keep]) <;> rfl)) | ((first | apply Wp.op | apply Wp.opN | (apply Wp.opG; exact rfl)); (apply Evt.all; intro; (simp [wrap_id]) <;> (try simp (disch := omega) only [wrap_id]) <;> first | exact ⟨rfl, rfl⟩ | exact rfl)) | (apply Wp.opS; exact rfl; decide) | (apply Wp.opS0; exact rfl))
      exact ⟨trimO_len rfl, trivial⟩
  · simp only [s6S, heapU]
    have d1 : decide ((h.length : Int) < h.length) = false := by simp
    repeat' (first | apply Wp.seq | apply Wp.skip | apply Wp.block | (apply Wp.op0; ((simp [M2.keep]) <;> rfl)) | ((first | (apply Wp.pickT; (exact rfl); (first | exact rfl | assumption)) | (apply Wp.pickF; (exact rfl); (first | exact rfl | assumption))); ((simp) <;> exact rfl)) | ((first | apply Wp.op | apply Wp.opN); (apply Evt.all; intro; (simp []) <;> (try simp (disch := omega) only [wrap_id]) <;> first | exact ⟨rfl, rfl⟩ | exact rfl)) | (first | (apply Wp.ung; (exact rfl); (first | exact rfl | assumption)) | (apply Wp.opSt; (exact rfl); (first | exact rfl | assumption)) | (apply Wp.opSf; (exact rfl); (first | exact rfl | assumption))) | (apply Wp.opS0; (exact rfl)) | (first | (apply Wp.condT; (exact rfl); (first | exact rfl | assumption)) | (apply Wp.condF; (exact rfl); (first | exact rfl | assumption))) | ((first | apply Wp.grdT | apply Wp.grdF | apply Wp.cond); (exact rfl); (intro); rotate_left 1; (intro); rotate_right 1))
    exact Wp.exit ⟨rfl, rfl⟩
set_option maxHeartbeats 4000000 in
theorem same6_call (p q : Bool) (h : List Int) (hh : h.length ≤ 1000) (st : List Ob) : Cl T n_joineryref06_Same [heapU p h, heapU q h] st (.bool true) st := by
  refine Wp.pure (fn := c_joineryref06_Same) rfl rfl rfl («as» := [heapU p h, heapU q h]) rfl ?_
  have hlp := same6_loop p q h hh
  repeat (first | apply Wp.seq | apply Wp.skip | apply Wp.block | (apply Wp.op0; ((simp [M2.keep]) <;> rfl)) | ((first | apply Wp.op | apply Wp.opN | (apply Wp.opG; exact rfl)); (apply Evt.all; intro; (simp []) <;> (try simp (disch := omega) only [wrap_id]) <;> first | exact ⟨rfl, rfl⟩ | exact rfl)) | (apply Wp.opS; exact rfl; decide) | (apply Wp.opS0; exact rfl))
  refine (show Wp T (.loop c_joineryref06_Same_L1) (s6S p q h 0) _ _ _ from (hlp _).imp (fun _ h => h.elim) (fun _ h => h) ?_)
  rintro k s ⟨rfl, rfl⟩
  rw [if_pos rfl]
  repeat (first | apply Wp.seq | apply Wp.skip | apply Wp.block | (apply Wp.op0; ((simp [M2.keep]) <;> rfl)) | ((first | apply Wp.op | apply Wp.opN | (apply Wp.opG; exact rfl)); (apply Evt.all; intro; (simp [heapU]) <;> (try simp (disch := omega) only [wrap_id]) <;> first | exact ⟨rfl, rfl⟩ | exact rfl)) | (apply Wp.opS; exact rfl; decide) | (apply Wp.opS0; exact rfl))
  refine Wp.ret ?_
  simp [Res, resU, res1, c_joineryref06_Same]
end Go.Proofs.YtapibckmdpdljaaDoor.M2

/- What the functions answer in M2. A step that only moves, done. -/
namespace Go.Proofs.YtapibckmdpdljaaDoor.M2
open Go
attribute [local simp] ev1 M2.get put A.ev ld sub part elems bin arith un opt idx fillC cellsO splice over newOb sto fillR laidOwn appTo appRow touch touchN touchM touchE touchA plainU flatU plainAs allM rowAt stoRow accM_nil accM_cons accMM_nil accMM_cons frz_int frz_bool frz_str frz_slt frz_nils frz_nilI frz_nilF frz_own frzRow_row frzRow_frow Ob.blw blw_bool blw_int blw_str blw_nils blw_nilI blw_nilF blw_nilp blw_nilm blw_sl blw_own blw_bp blw_rp blw_mp blw_it params
attribute [local simp] frz_agg frz_tup frz_iface frzS_agg frzS_iface accMS_cons frzS_int frzS_bool frzS_str frzS_slt frzS_nils frzS_nilI beq_dec bne_dec

theorem over_part : ∀ (us cs : List U), us.length ≤ cs.length → over us cs = us ++ cs.drop us.length
  | [], cs, _ => by cases cs <;> rfl
  | u :: us, c :: cs, h => by rw [over, over_part us cs (by simpa using h)]; rfl
  | _ :: _, [], h => by simp at h
theorem plain_stt (L : List Wd) (h : List Int) (a b : Int) : plainU (.agg (wdsU L ++ [heapU true h, i64 a, i64 b])) = true := by
  show (wdsU L ++ [heapU true h, i64 a, i64 b]).all (flatU 5) = true
  rw [List.all_append]
  have : (wdsU L).all (flatU 5) = true := by
    induction L with
    | nil => rfl
    | cons w L ih =>
      rw [wdsU_cons, List.all_cons, List.all_cons, ih]
      rfl
  rw [this]
  rfl
theorem pf55 : pfT T n_step_own = true := rfl
set_option maxHeartbeats 16000000 in
theorem stepMoves_call (p : Bool) (l : List Ins) (s : Stt) (hL : s.L.length = 24) (hs : sttF l s = true) (x : Ins) (hx : l[s.at_.toNat]? = some x) (hm : movesF x = true) (hd : locF 24 x.d = true) (ha : locF 24 x.a = true) (hb : x.b = 0) (AK : U) (hAK : brw frzD [] AK = some (.sl true [])) (st : List Ob) (hAK2 : brw frzD st AK = some (.sl true [])) :
    Cl T n_step_Do [insL p l, .agg (stU true s), AK] st (.tup [.agg (stU true (doneF s x)), .sl true [], .agg [i64 0, i64 0, .sl true []], i64 0]) st := by
  have hbr := brw_stt st true s
  refine Wp.pure (fn := c_step_Do) rfl rfl rfl («as» := [insL p l, .agg (stU true s), .sl true []]) (by simp [hbr, hAK2, insL]; rfl) ?_
  have hsr := stepRight_call p true l s hL
  rw [hs] at hsr
  have hown := own_call true s hL (by simp [sttF] at hs; omega)
  have hus := uses_moves x hm
  have hat : 0 ≤ s.at_ ∧ s.at_ < l.length ∧ l.length ≤ 200 := by
    have h2 : rightF l = true := by unfold sttF at hs; simp only [Bool.and_eq_true] at hs; exact hs.1.1.1.1.1
    simp [sttF] at hs
    exact ⟨hs.1.1.1.1.2, hs.1.1.1.2, (right_facts h2).1⟩
  have hdo := fun o1 o2 o3 => do_moves o1 o2 o3 s x [] hL hm hd ha hb ⟨hat.1, by omega⟩
  have hL2 : (moveF s.L x).length = 24 := by rw [moveF_len]; exact hL
  obtain ⟨L, h, at_, asked⟩ := s
  obtain ⟨xop, xd, xa, xb, xn, xto⟩ := x
  simp only at *
  obtain ⟨a, rfl⟩ := Int.eq_ofNat_of_zero_le hat.1
  simp only [Int.toNat_natCast] at hx
  have ha' : (a : Int) < l.length := hat.2.1
  have l48 := wds48 hL
  have dr := wds_drop hL
  have sp := wds_splice hL
  have tk := wds_takeMore hL
  have l48' := wds48 hL2
  have dr' := wds_drop hL2
  have sp' := wds_splice hL2
  have tk' := wds_takeMore hL2
  have op := fun (r cs : List U) (hc : 48 + r.length ≤ cs.length) => over_part (wdsU L ++ r) cs (by rw [List.length_append, l48]; exact hc)
  have hpl := plain_stt L h (a : Int) asked
  simp only [doneF, workU, stU] at hdo hsr hown ⊢
  generalize moveF L ⟨xop, xd, xa, xb, xn, xto⟩ = L' at *
  generalize nextI ⟨xop, xd, xa, xb, xn, xto⟩ (a : Int) = at' at *
  repeat' (first | apply Wp.seq | apply Wp.skip | apply Wp.block | (apply Wp.op0; ((simp [M2.keep]) <;> rfl)) | ((first | (apply Wp.pickT; (exact rfl); (first | exact rfl | assumption)) | (apply Wp.pickF; (exact rfl); (first | exact rfl | assumption))); ((simp) <;> exact rfl)) | ((first | apply Wp.op | apply Wp.opN); (apply Evt.all; intro; (simp [l48, dr, tk]) <;> (try simp (disch := omega) only [wrap_id]) <;> first | exact ⟨rfl, rfl⟩ | exact rfl)) | (apply Wp.call; exact hsr _) | (first | (apply Wp.ung; (exact rfl); (first | exact rfl | assumption)) | (apply Wp.opSt; (exact rfl); (first | exact rfl | assumption)) | (apply Wp.opSf; (exact rfl); (first | exact rfl | assumption))) | (apply Wp.opS0; (exact rfl)) | (first | (apply Wp.condT; (exact rfl); (first | exact rfl | assumption)) | (apply Wp.condF; (exact rfl); (first | exact rfl | assumption))) | ((first | apply Wp.grdT | apply Wp.grdF | apply Wp.cond); (exact rfl); (intro); rotate_left 1; (intro); rotate_right 1))
  refine Wp.draw (by (simp [c_step_Do_D0, I.need]) <;> rfl) (by (simp [l48, dr, tk, insL, ha', hx, insU, op, sp, pf55, -plainU, hpl]) <;> rfl) (by (simp [l48, dr, tk, insL, ha', hx, insU, op, sp, pf55, -plainU, hpl]) <;> rfl) (by (unfold c_step_Do_D0); (repeat (first | ((first | apply Dr.op | apply Dr.opN | (apply Dr.opG; exact rfl)); ((simp [l48, dr, tk, insL, ha', hx, insU, op, sp, pf55, -plainU, hpl]) <;> rfl); (apply Evt.all; intro; (simp [l48, dr, tk, insL, ha', hx, insU, op, sp, pf55, -plainU, hpl]) <;> (try simp (disch := omega) only [wrap_id]) <;> first | exact ⟨rfl, rfl⟩ | exact rfl); ((simp [I.need]) <;> rfl)) | ((first | (apply Dr.opS; exact rfl; decide) | (apply Dr.opS0; exact rfl)); ((simp [I.need]) <;> rfl)) | (apply Dr.call; ((simp [l48, dr, tk, insL, ha', hx, insU, op, sp, pf55, -plainU, hpl]) <;> rfl); exact hown _) | (apply Dr.callG; (exact rfl); ((simp [l48, dr, tk, insL, ha', hx, insU, op, sp, pf55, -plainU, hpl]) <;> rfl); exact hown _))); exact Dr.nil) (by first | decide +kernel | exact rfl) (by (simp [M2.keep]) <;> rfl) ?_
  repeat' (first | apply Wp.seq | apply Wp.skip | apply Wp.block | (apply Wp.op0; ((simp [M2.keep]) <;> rfl)) | ((first | (apply Wp.pickT; (exact rfl); (first | exact rfl | assumption)) | (apply Wp.pickF; (exact rfl); (first | exact rfl | assumption))); ((simp) <;> exact rfl)) | ((first | apply Wp.op | apply Wp.opN); (apply Evt.all; intro; (simp [l48, dr, l48', dr', tk', over_full]) <;> (try simp (disch := omega) only [wrap_id]) <;> first | exact ⟨rfl, rfl⟩ | exact rfl)) | (apply Wp.call; exact hus _) | (apply Wp.call; exact hdo _ _ _) | (apply Wp.unroll) | (apply Wp.next; ((simp [trimO, trim]) <;> rfl)) | (apply Wp.exit; (first | rw [if_pos rfl] | (rw [if_neg (by decide)]; first | rw [if_pos rfl] | (rw [if_neg (by decide)]; rw [if_pos rfl])))) | (first | (apply Wp.ung; (exact rfl); (first | exact rfl | assumption)) | (apply Wp.opSt; (exact rfl); (first | exact rfl | assumption)) | (apply Wp.opSf; (exact rfl); (first | exact rfl | assumption))) | (apply Wp.opS0; (exact rfl)) | (first | (apply Wp.condT; (exact rfl); (first | exact rfl | assumption)) | (apply Wp.condF; (exact rfl); (first | exact rfl | assumption))) | ((first | apply Wp.grdT | apply Wp.grdF | apply Wp.cond); (exact rfl); (intro); rotate_left 1; (intro); rotate_right 1))
  refine Wp.draw (by (simp [c_step_Do_D2, I.need]) <;> rfl) (by (simp [l48', dr', over_full]) <;> rfl) (by (simp [l48', dr', over_full]) <;> rfl) (by (unfold c_step_Do_D2); (repeat (first | ((first | apply Dr.op | apply Dr.opN | (apply Dr.opG; exact rfl)); ((simp [l48', dr', over_full]) <;> rfl); (apply Evt.all; intro; (simp [l48', dr', over_full]) <;> (try simp (disch := omega) only [wrap_id]) <;> first | exact ⟨rfl, rfl⟩ | exact rfl); ((simp [I.need]) <;> rfl)) | ((first | (apply Dr.opS; exact rfl; decide) | (apply Dr.opS0; exact rfl)); ((simp [I.need]) <;> rfl)))); exact Dr.nil) (by first | decide +kernel | exact rfl) (by (simp [M2.keep]) <;> rfl) ?_
  repeat' (first | apply Wp.seq | apply Wp.skip | apply Wp.block | (apply Wp.op0; ((simp [M2.keep]) <;> rfl)) | ((first | (apply Wp.pickT; (exact rfl); (first | exact rfl | assumption)) | (apply Wp.pickF; (exact rfl); (first | exact rfl | assumption))); ((simp) <;> exact rfl)) | ((first | apply Wp.op | apply Wp.opN); (apply Evt.all; intro; (simp [l48', dr', over_full]) <;> (try simp (disch := omega) only [wrap_id]) <;> first | exact ⟨rfl, rfl⟩ | exact rfl)) | (first | (apply Wp.ung; (exact rfl); (first | exact rfl | assumption)) | (apply Wp.opSt; (exact rfl); (first | exact rfl | assumption)) | (apply Wp.opSf; (exact rfl); (first | exact rfl | assumption))) | (apply Wp.opS0; (exact rfl)) | (first | (apply Wp.condT; (exact rfl); (first | exact rfl | assumption)) | (apply Wp.condF; (exact rfl); (first | exact rfl | assumption))) | ((first | apply Wp.grdT | apply Wp.grdF | apply Wp.cond); (exact rfl); (intro); rotate_left 1; (intro); rotate_right 1))
  refine Wp.draw (by (simp [c_step_Do_D3, I.need]) <;> rfl) (by (simp [l48', dr', tk', over_full]) <;> rfl) (by (simp [l48', dr', tk', over_full]) <;> rfl) (by (unfold c_step_Do_D3); (repeat (first | ((first | apply Dr.op | apply Dr.opN | (apply Dr.opG; exact rfl)); ((simp [l48', dr', tk', over_full]) <;> rfl); (apply Evt.all; intro; (simp [l48', dr', tk', over_full]) <;> (try simp (disch := omega) only [wrap_id]) <;> first | exact ⟨rfl, rfl⟩ | exact rfl); ((simp [I.need]) <;> rfl)) | ((first | (apply Dr.opS; exact rfl; decide) | (apply Dr.opS0; exact rfl)); ((simp [I.need]) <;> rfl)))); exact Dr.nil) (by first | decide +kernel | exact rfl) (by (simp [M2.keep]) <;> rfl) ?_
  repeat' (first | apply Wp.seq | apply Wp.skip | apply Wp.block | (apply Wp.op0; ((simp [M2.keep]) <;> rfl)) | ((first | (apply Wp.pickT; (exact rfl); (first | exact rfl | assumption)) | (apply Wp.pickF; (exact rfl); (first | exact rfl | assumption))); ((simp) <;> exact rfl)) | ((first | apply Wp.op | apply Wp.opN); (apply Evt.all; intro; (simp []) <;> (try simp (disch := omega) only [wrap_id]) <;> first | exact ⟨rfl, rfl⟩ | exact rfl)) | (first | (apply Wp.ung; (exact rfl); (first | exact rfl | assumption)) | (apply Wp.opSt; (exact rfl); (first | exact rfl | assumption)) | (apply Wp.opSf; (exact rfl); (first | exact rfl | assumption))) | (apply Wp.opS0; (exact rfl)) | (first | (apply Wp.condT; (exact rfl); (first | exact rfl | assumption)) | (apply Wp.condF; (exact rfl); (first | exact rfl | assumption))) | ((first | apply Wp.grdT | apply Wp.grdF | apply Wp.cond); (exact rfl); (intro); rotate_left 1; (intro); rotate_right 1))
  refine Wp.ret ?_
  have hf : ∀ st, accM (frz 10) st (wdsU L' ++ [heapU true h, i64 at', i64 asked]) = some (wdsU L' ++ [heapU true h, i64 at', i64 asked], st) := fun st => accWds 9 st _ _ _ rfl L'
  simp [Res, resU, res1, c_step_Do, l48', tk', hf]
end Go.Proofs.YtapibckmdpdljaaDoor.M2

/- Plain: what only moves, step by step. -/
namespace Go.Proofs.YtapibckmdpdljaaDoor.M2
open Go

def stepF (l : List Ins) (s : Stt) : Stt := doneF s (l.getD s.at_.toNat default)
def runS (l : List Ins) : Nat → Stt → Stt
  | 0, s => s
  | n + 1, s => runS l n (stepF l s)
theorem runS_succ (l : List Ins) : ∀ (n : Nat) (s : Stt), runS l (n + 1) s = stepF l (runS l n s)
  | 0, _ => rfl
  | n + 1, s => runS_succ l n (stepF l s)
theorem moves_facts {l : List Ins} (hr : rightF l = true) {i : Nat} (hi : i < l.length) (hm : movesF (l.getD i default) = true) : locF 24 (l.getD i default).d = true ∧ locF 24 (l.getD i default).a = true ∧ (l.getD i default).b = 0 := by
  have h3 := (right_facts hr).2.2.1
  have hx : l.getD i default = l[i] := by simp [hi]
  rw [hx] at hm ⊢
  have hc := h3 l[i] (List.getElem_mem hi)
  generalize l[i] = x at *
  unfold checkF at hc
  split at hc
  · cases hc
  rename_i h1
  split at hc
  · cases hc
  rename_i h6
  unfold bad1 at h1
  have ho : onlyF x = x := by
    by_cases h : onlyF x = x
    · exact h
    · exact absurd (.inr (.inr (.inl h))) h1
  have hop : x.op = 1 ∨ x.op = 2 ∨ x.op = 3 ∨ x.op = 16 := by simp [movesF] at hm; omega
  unfold bad6 at h6
  obtain ⟨op, d, a, b, n, to⟩ := x
  simp only at *
  simp only [onlyF, Ins.mk.injEq] at ho
  rcases hop with rfl | rfl | rfl | rfl
  · simp at h6 ho
    exact ⟨h6.1, h6.2, by omega⟩
  · simp at h6 ho
    exact ⟨h6.1, h6.2, by omega⟩
  · simp at h6 ho
    exact ⟨h6.1, h6.2, by omega⟩
  · simp at h6 ho
    simp [locF]
    omega
theorem okW_set {L : List Wd} (h : okW L = true) (i : Nat) {w : Wd} (hw : (w.1 || decide (w.2 = 0)) = true) : okW (L.set i w) = true := by
  unfold okW at h ⊢
  rw [List.all_eq_true] at h ⊢
  intro v hv
  rcases List.mem_or_eq_of_mem_set hv with hv | rfl
  · exact h v hv
  · exact hw
theorem okW_get {L : List Wd} (h : okW L = true) (i : Nat) : ((L.getD i (false, 0)).1 || decide ((L.getD i (false, 0)).2 = 0)) = true := by
  rw [List.getD_eq_getElem?_getD]
  cases hi : L[i]? with
  | none => rfl
  | some w => exact List.all_eq_true.1 h w (List.mem_of_getElem? hi)
theorem okW_move {L : List Wd} (h : okW L = true) (x : Ins) : okW (moveF L x) = true := by
  unfold moveF
  split
  · exact okW_set h _ rfl
  · split
    · exact okW_set h _ (okW_get h _)
    · split
      · exact okW_set (okW_set h _ (okW_get h _)) _ (okW_get h _)
      · exact h
theorem nextI_eq {x : Ins} {i : Nat} (h : x.op = 16 → 0 ≤ x.to) : nextI x i = (nextTo x i : Nat) := by
  unfold nextI nextTo
  split
  · rename_i h16
    have := h h16
    omega
  · omega
/-- A state that is right, at a place that only moves: so is the next. -/
theorem step_right {l : List Ins} {s : Stt} (hs : sttF l s = true) (hL : s.L.length = 24) (hm : movesF (l.getD s.at_.toNat default) = true) : sttF l (stepF l s) = true ∧ (stepF l s).L.length = 24 ∧ (stepF l s).at_ = (nextTo (l.getD s.at_.toNat default) s.at_.toNat : Nat) := by
  unfold sttF at hs ⊢
  simp only [Bool.and_eq_true, decide_eq_true_eq] at hs ⊢
  obtain ⟨⟨⟨⟨⟨h1, h2⟩, h3⟩, h4⟩, h5⟩, h6⟩ := hs
  obtain ⟨k1, k2⟩ := nextTo_ok h1 (i := s.at_.toNat) (by omega) hm
  have hto : (stepF l s).at_ = (nextTo (l.getD s.at_.toNat default) s.at_.toNat : Nat) := by
    unfold stepF doneF
    simp only
    have := nextI_eq (i := s.at_.toNat) k2
    rw [show ((s.at_.toNat : Nat) : Int) = s.at_ by omega] at this
    exact this
  refine ⟨⟨⟨⟨⟨⟨h1, by omega⟩, by omega⟩, h4⟩, h5⟩, okW_move h6 _⟩, by rw [stepF, doneF, moveF_len]; exact hL, hto⟩
theorem fill_after {t : List Src} (ht : GoodT t) (L : List Wd) {x : Ins} (hm : movesF x = true) (hd : locF 24 x.d = true) (ha : locF 24 x.a = true) : (afterF t x).map (fillS L) = moveF (t.map (fillS L)) x := by
  have hA := loc_lt ha
  have hD := loc_lt hd
  have get : ∀ i, i < 24 → (t.map (fillS L)).getD i (false, 0) = fillS L (t.getD i .no) := fun i hi => by
    have : i < t.length := by rw [ht.len]; exact hi
    simp [this]
  unfold afterF moveF
  rw [hm, hd, ha]
  simp only [Bool.and_self, if_true, ht.eq]
  split
  · rw [List.map_set]; rfl
  · split
    · rw [List.map_set, get _ hA]
    · split
      · rw [List.map_set, List.map_set, get _ hA, get _ hD]
      · rfl
/-- By as many steps as a path has one comes to where it leads. -/
theorem runs_path {l : List Ins} (L0 : List Wd) : ∀ (n : Nat) (e e' : RP) (s : Stt), GoodT e.t → sttF l s = true → s.L = e.t.map (fillS L0) → s.L.length = 24 → s.at_ = e.to → refRun l n e = some e' →
    ∃ m, e'.steps = e.steps + m ∧ (∀ i, i < m → sttF l (runS l i s) = true ∧ (runS l i s).L.length = 24 ∧ movesF (l.getD (runS l i s).at_.toNat default) = true) ∧
      (runS l m s).at_ = e'.to ∧ (runS l m s).L = e'.t.map (fillS L0) ∧ (runS l m s).h = s.h ∧ (runS l m s).asked = s.asked ∧ movesF (l.getD e'.to default) = false ∧ GoodT e'.t ∧ sttF l (runS l m s) = true
  | 0, _, _, _, _, _, _, _, _, h => by cases h
  | n + 1, e, e', s, ht, hs, hL, hl, hat, h => by
    have hto : s.at_.toNat = e.to := by omega
    rw [refRun] at h
    split at h
    · rename_i hm
      have hm' : movesF (l.getD s.at_.toNat default) = true := by rw [hto]; exact hm
      obtain ⟨k1, k2, k3⟩ := step_right hs hl hm'
      have h1 : rightF l = true := by unfold sttF at hs; simp only [Bool.and_eq_true] at hs; exact hs.1.1.1.1.1
      have hlt : e.to < l.length := by unfold sttF at hs; simp only [Bool.and_eq_true, decide_eq_true_eq] at hs; omega
      obtain ⟨d1, d2, d3⟩ := moves_facts h1 hlt hm
      have hL2 : (stepF l s).L = (refStep l e).t.map (fillS L0) := by
        simp only [refStep]
        rw [fill_after ht L0 hm d1 d2, ← hL, stepF, doneF, hto]
      obtain ⟨m, m1, m2, m3, m4, m5, m6, m7, m8, m9⟩ := runs_path L0 n (refStep l e) e' (stepF l s) (ht.after _) k1 hL2 k2 (by rw [k3, hto]; rfl) h
      refine ⟨m + 1, by rw [m1]; simp only [refStep]; omega, fun i hi => ?_, m3, m4, m5, m6, m7, m8, m9⟩
      cases i with
      | zero => exact ⟨hs, hl, hm'⟩
      | succ i => exact m2 i (by omega)
    · rename_i hm
      simp only [Option.some.injEq] at h
      subst h
      exact ⟨0, by omega, fun i hi => by omega, hat, hL, rfl, rfl, by simpa using hm, ht, hs⟩
/-- What never ends only moves. -/
theorem runs_never {l : List Ins} : ∀ (i : Nat) (s : Stt), sttF l s = true → s.L.length = 24 → (∀ n, pr l n s.at_.toNat = none) → sttF l (runS l i s) = true ∧ (runS l i s).L.length = 24 ∧ movesF (l.getD (runS l i s).at_.toNat default) = true
  | 0, s, hs, hl, h => by
    refine ⟨hs, hl, ?_⟩
    have := h 1
    rw [pr] at this
    cases hm : movesF (l.getD s.at_.toNat default) with
    | true => exact hm
    | false => rw [hm] at this; simp at this
  | i + 1, s, hs, hl, h => by
    have h0 := (runs_never 0 s hs hl h).2.2
    simp only [runS] at h0
    obtain ⟨k1, k2, k3⟩ := step_right hs hl h0
    refine runs_never i (stepF l s) k1 k2 (fun n => ?_)
    have := h (n + 1)
    rw [pr, if_pos h0, Option.map_eq_none_iff] at this
    rw [k3, Int.toNat_natCast]
    exact this
/-- A path that leads somewhere has fewer steps than there are instructions. -/
theorem steps_lt {l : List Ins} (hr : rightF l = true) {a : Nat} (ha : a < l.length) {e : RP} (h : refRun l (l.length + 1) ⟨a, newT, 0⟩ = some e) : e.steps < l.length ∧ e.to < l.length := by
  obtain ⟨hi, hf⟩ := path_end hr ha
  rw [from_ref hr ha] at h
  generalize pathRun l 201 (ps0 a) = s at *
  cases hm : s.met.getD s.to false with
  | true => rw [hm] at h; simp at h
  | false =>
    rw [hm] at h
    simp only [Bool.false_eq_true, if_false, Option.some.injEq] at h
    subst h
    have h200 := (right_facts hr).1
    refine ⟨?_, hi.base.to⟩
    simp only
    have hlen := hi.base.met
    have hto := hi.base.to
    have h1 : frees s.met = frees (s.met.take l.length) + frees (s.met.drop l.length) := by rw [← frees_app, List.take_append_drop]
    have h2 : frees (s.met.drop l.length) = (s.met.drop l.length).length := frees_all (fun b hb => by
      obtain ⟨j, hj, rfl⟩ := List.mem_iff_getElem.1 hb
      rw [List.getElem_drop]
      rw [List.length_drop] at hj
      cases hb : s.met[l.length + j] with
      | false => rfl
      | true =>
        have := (hi.cl (l.length + j) (by rw [List.getD_eq_getElem?_getD, List.getElem?_eq_getElem (by omega), Option.getD_some, hb])).1
        omega)
    rw [List.length_drop] at h2
    have h3 : 0 < frees (s.met.take l.length) := by
      have hj : s.to < s.met.length := by omega
      have hb : s.met[s.to] = false := by
        rw [List.getD_eq_getElem?_getD, List.getElem?_eq_getElem hj] at hm
        exact hm
      unfold frees
      refine List.length_pos_of_mem (a := false) (List.mem_filter.2 ⟨?_, rfl⟩)
      rw [List.mem_iff_getElem]
      exact ⟨s.to, by rw [List.length_take]; omega, by rw [List.getElem_take]; exact hb⟩
    have := hi.base.steps
    omega
end Go.Proofs.YtapibckmdpdljaaDoor.M2

/- Typed arguments: states. -/
namespace Go.Proofs.YtapibckmdpdljaaDoor.M2
open Go

section
variable {P : Program}
theorem typed_array {t e : TypeId} {n : Nat} (hu : P.underlying t = some (.array n e)) {d : Nat} {us : List U} (h : Typed P (d + 1) t us) : us.length = P.cellsOf t ∧ ∀ i, i < n → Typed P d e ((us.drop (i * P.cellsOf e)).take (P.cellsOf e)) := by
  simp only [Typed, hu] at h
  exact h
theorem typed_boolc {t : TypeId} (hu : P.underlying t = some .bool) {d : Nat} {us : List U} (h : Typed P (d + 1) t us) : ∃ b, us = [.bool b] := by
  simp only [Typed, hu] at h
  exact h
theorem typed_wd {t t1 t2 : TypeId} {a1 a2 : Field} (hu : P.underlying t = some (.struct #[a1, a2])) (o : [a1.offset, a2.offset] = [0, 1]) (ty : [a1.type, a2.type] = [t1, t2]) (h1 : P.underlying t1 = some .bool) (h2 : P.underlying t2 = some (.int .i64)) (c : P.cellsOf t = 2) (c1 : P.cellsOf t1 = 1) (c2 : P.cellsOf t2 = 1) {d : Nat} {us : List U} (h : Typed P (d + 2) t us) : ∃ x : Wd, us = wdU x ∧ rng x.2 := by
  obtain ⟨hl, h⟩ := typed_struct hu h
  rw [c] at hl
  simp only [List.cons.injEq, and_true] at o ty
  obtain ⟨o1, o2⟩ := o
  obtain ⟨y1, y2⟩ := ty
  match us, hl with
  | [a, b], _ =>
    have k1 := h a1 (by simp)
    have k2 := h a2 (by simp)
    simp only [o1, o2, y1, y2, c1, c2, List.drop, List.take] at k1 k2
    obtain ⟨n1, e1⟩ := typed_boolc h1 k1
    obtain ⟨n2, e2, r2⟩ := typed_i64 h2 k2
    injection e1 with e1
    injection e2 with e2
    exact ⟨(n1, n2), by rw [e1, e2]; rfl, r2⟩
theorem pieces_wd {Q : List U → Prop} (hQ : ∀ us, Q us → ∃ x : Wd, us = wdU x ∧ rng x.2) : ∀ (n : Nat) (us : List U), us.length = n * 2 → (∀ i, i < n → Q ((us.drop (i * 2)).take 2)) → ∃ L : List Wd, us = wdsU L ∧ L.length = n ∧ ∀ w ∈ L, rng w.2
  | 0, us, h, _ => ⟨[], by simpa [wdsU] using h, rfl, by simp⟩
  | n + 1, us, h, hq => by
    match us, h with
    | a :: b :: us, h =>
      obtain ⟨x, e, r⟩ := hQ _ (hq 0 (by omega))
      obtain ⟨L, k1, k2, k3⟩ := pieces_wd hQ n us (by simp at h; omega) (fun i hi => by
        have := hq (i + 1) (by omega)
        rwa [show (i + 1) * 2 = i * 2 + 1 + 1 by omega, List.drop_succ_cons, List.drop_succ_cons] at this)
      have e' : [a, b] = wdU x := e
      simp only [wdU, List.cons.injEq, and_true] at e'
      refine ⟨x :: L, by rw [wdsU_cons, e'.1, e'.2, k1], by simp [k2], fun w hw => ?_⟩
      rcases List.mem_cons.1 hw with rfl | hw
      · exact r
      · exact k3 w hw
    | [], h => simp at h
    | [a], h => simp at h; omega
theorem typed_stt {t tL tW t1 t2 tH tI : TypeId} {a1 a2 a3 a4 b1 b2 : Field} (hu : P.underlying t = some (.struct #[a1, a2, a3, a4])) (o : [a1.offset, a2.offset, a3.offset, a4.offset] = [0, 48, 49, 50]) (ty : [a1.type, a2.type, a3.type, a4.type] = [tL, tH, tI, tI])
    (hL : P.underlying tL = some (.array 24 tW)) (hW : P.underlying tW = some (.struct #[b1, b2])) (ob : [b1.offset, b2.offset] = [0, 1]) (tyb : [b1.type, b2.type] = [t1, t2]) (h1 : P.underlying t1 = some .bool) (h2 : P.underlying t2 = some (.int .i64)) (hH : P.underlying tH = some (.slice t2)) (hI : P.underlying tI = some (.int .i64))
    (c : P.cellsOf t = 51) (cL : P.cellsOf tL = 48) (cW : P.cellsOf tW = 2) (c1 : P.cellsOf t1 = 1) (c2 : P.cellsOf t2 = 1) (cH : P.cellsOf tH = 1) (cI : P.cellsOf tI = 1) {d : Nat} {us : List U} (h : Typed P (d + 4) t us) :
    ∃ s : Stt, us = stU true s ∧ s.L.length = 24 ∧ s.h.length < 9223372036854775808 ∧ rng s.at_ ∧ rng s.asked := by
  obtain ⟨hl, h⟩ := typed_struct hu h
  rw [c] at hl
  simp only [List.cons.injEq, and_true] at o ty
  obtain ⟨o1, o2, o3, o4⟩ := o
  obtain ⟨y1, y2, y3, y4⟩ := ty
  have k1 := h a1 (by simp)
  have k2 := h a2 (by simp)
  have k3 := h a3 (by simp)
  have k4 := h a4 (by simp)
  simp only [o1, o2, o3, o4, y1, y2, y3, y4, cL, cH, cI, List.drop_zero] at k1 k2 k3 k4
  obtain ⟨_, k1⟩ := typed_array hL k1
  rw [cW] at k1
  obtain ⟨L, e1, l1, r1⟩ := pieces_wd (Q := Typed P (d + 2) tW) (fun us hq => typed_wd hW ob tyb h1 h2 cW c1 c2 hq) 24 (us.take 48) (by rw [List.length_take]; omega) k1
  have e : us = us.take 48 ++ ((us.drop 48).take 1 ++ ((us.drop 49).take 1 ++ (us.drop 50).take 1)) := by
    have p1 : us.drop 48 = (us.drop 48).take 1 ++ us.drop 49 := by
      have := (List.take_append_drop 1 (us.drop 48)).symm
      rw [List.drop_drop] at this
      exact this
    have p2 : us.drop 49 = (us.drop 49).take 1 ++ us.drop 50 := by
      have := (List.take_append_drop 1 (us.drop 49)).symm
      rw [List.drop_drop] at this
      exact this
    have p3 : (us.drop 50).take 1 = us.drop 50 := List.take_of_length_le (by rw [List.length_drop]; omega)
    rw [p3, ← p2, ← p1, List.take_append_drop]
  obtain ⟨n3, e3, r3⟩ := typed_i64 hI k3
  obtain ⟨n4, e4, r4⟩ := typed_i64 hI k4
  obtain ⟨xs, ex, _⟩ := typed_slice hH k2
  have k2' := k2
  rw [ex] at k2'
  obtain ⟨hp, eh, lh, _⟩ := typed_sl (Q := fun _ => True) (f := fun v => [i64 v]) hH (fun x hx => by
    obtain ⟨n, e, _⟩ := typed_i64 h2 hx
    exact ⟨n, e, trivial⟩) k2'
  refine ⟨⟨L, hp, n3, n4⟩, ?_, l1, lh, r3, r4⟩
  rw [e, e1, e3, e4, ex, eh]
  rfl
end
end Go.Proofs.YtapibckmdpdljaaDoor.M2

/- The laws PathRuns and PathEndless in M2: the parts that they share. -/
namespace Go.Proofs.YtapibckmdpdljaaDoor.M2
open Go
attribute [local simp] ev1 M2.get put A.ev ld sub part elems bin arith un opt idx fillC cellsO splice over newOb sto fillR laidOwn appTo appRow touch touchN touchM touchE touchA plainU flatU plainAs allM rowAt stoRow accM_nil accM_cons accMM_nil accMM_cons frz_int frz_bool frz_str frz_slt frz_nils frz_nilI frz_nilF frz_own frzRow_row frzRow_frow Ob.blw blw_bool blw_int blw_str blw_nils blw_nilI blw_nilF blw_nilp blw_nilm blw_sl blw_own blw_bp blw_rp blw_mp blw_it params
attribute [local simp] frz_agg frz_tup frz_iface frzS_agg frzS_iface accMS_cons frzS_int frzS_bool frzS_str frzS_slt frzS_nils frzS_nilI beq_dec bne_dec

theorem fill_new {L : List Wd} (hL : L.length = 24) : newT.map (fillS L) = L := by
  refine List.ext_getElem (by simp [newT, hL]) fun i h1 h2 => ?_
  simp [newT, fillS, h2]
theorem pU_blw (n : Nat) (to : Int) (t : List Src) (k : Int) : Ob.blw n (.box (pU to t k)) = true := by
  show (pU to t k).all (blw blwD n) = true
  rw [List.all_eq_true]
  intro u hu
  simp only [pU, List.mem_cons, List.mem_append, List.not_mem_nil, or_false] at hu
  rcases hu with rfl | hu | rfl
  · rfl
  · exact tab_blw n t u hu
  · rfl
theorem wds_same (L : List Wd) (hL : L.length = 24) : sameV (.tarr 24 2 (.tst [(1, .tb), (1, .ti)])) (.agg (wdsU L)) (.agg (wdsU L)) = some true := by
  have hl : (wdsU L).length = 24 * 2 := wds48 hL
  simp only [sameV, cellsS, Option.bind_some, sameD]
  rw [same, if_pos ⟨hl, hl⟩]
  rw [← hL]
  clear hl hL
  induction L with
  | nil => rfl
  | cons w L ih =>
    rw [List.length_cons, same.items, wdsU_cons]
    have h1 : same 11 (.tst [(1, .tb), (1, .ti)]) [.bool w.1, i64 w.2] [.bool w.1, i64 w.2] = some true := by simp [same, same.fields]
    simp only [List.take, List.drop, h1, Option.bind_some, ih, Option.map_some, Bool.and_self]
/-- A step that only moves, as the laws call it. -/
theorem stepF_call (l : List Ins) (s : Stt) (hs : sttF l s = true) (hL : s.L.length = 24) (hm : movesF (l.getD s.at_.toNat default) = true) (st : List Ob) : Cl T n_step_Do [insL true l, .agg (stU true s), .nils] st (.tup [.agg (stU true (stepF l s)), .sl true [], .agg [i64 0, i64 0, .sl true []], i64 0]) st := by
  have h1 : rightF l = true := by unfold sttF at hs; simp only [Bool.and_eq_true] at hs; exact hs.1.1.1.1.1
  have hlt : s.at_.toNat < l.length := by unfold sttF at hs; simp only [Bool.and_eq_true, decide_eq_true_eq] at hs; omega
  obtain ⟨d1, d2, d3⟩ := moves_facts h1 hlt hm
  have hx : l[s.at_.toNat]? = some (l.getD s.at_.toNat default) := by simp [hlt]
  exact stepMoves_call true l s hL hs _ hx hm d1 d2 d3 .nils rfl st rfl
end Go.Proofs.YtapibckmdpdljaaDoor.M2

/- The law PathRuns in M2. -/
namespace Go.Proofs.YtapibckmdpdljaaDoor.M2
open Go
attribute [local simp] ev1 M2.get put A.ev ld sub part elems bin arith un opt idx fillC cellsO splice over newOb sto fillR laidOwn appTo appRow touch touchN touchM touchE touchA plainU flatU plainAs allM rowAt stoRow accM_nil accM_cons accMM_nil accMM_cons frz_int frz_bool frz_str frz_slt frz_nils frz_nilI frz_nilF frz_own frzRow_row frzRow_frow Ob.blw blw_bool blw_int blw_str blw_nils blw_nilI blw_nilF blw_nilp blw_nilm blw_sl blw_own blw_bp blw_rp blw_mp blw_it params
attribute [local simp] frz_agg frz_tup frz_iface frzS_agg frzS_iface accMS_cons frzS_int frzS_bool frzS_str frzS_slt frzS_nils frzS_nilI beq_dec bne_dec
attribute [local irreducible] Typed TypedA

def prS (l : List Ins) (s : Stt) (to : Int) (t : List Src) (k : Int) (i : Nat) : S := ⟨[(0, insL true l), (3, .bp 0 0), (5, .bp 1 0), (7, .bp 2 0), (8, i64 i)], [.box (stU true s), .box (pU to t k), .box (stU true (runS l i s))]⟩
set_option maxHeartbeats 16000000 in
theorem pruns_loop (l : List Ins) (s : Stt) (to : Int) (t : List Src) (ht : t.length = 24) (m : Nat) (hm : m ≤ 1000) (hall : ∀ i, i < m → sttF l (runS l i s) = true ∧ (runS l i s).L.length = 24 ∧ movesF (l.getD (runS l i s).at_.toNat default) = true) (R : S → Prop) :
    Wp T (.loop c_joinerylaw09_PathRuns_L0) (prS l s to t m 0) (fun _ => False) R (fun b s' => b = 0 ∧ s' = ⟨[(0, insL true l), (3, .bp 0 0), (5, .bp 1 0), (7, .bp 2 0), (8, i64 m), (43, .bool false)], [.box (stU true s), .box (pU to t m), .box (stU true (runS l m s))]⟩) := by
  refine Wp.count m (fun i => prS l s to t m i) (fun _ => True) (fun i hi _ => ?_) (fun _ => ?_) 0 (by omega) trivial
  · have hi' : (i : Int) < m := by omega
    obtain ⟨k1, k2, k3⟩ := hall i hi
    have hst := stepF_call l _ k1 k2 k3
    simp only [prS]
    rw [runS_succ]
    have hl1 := stU_len (p := true) k2
    have hl2 : (stU true (stepF l (runS l i s))).length = 51 := stU_len (by rw [stepF, doneF, moveF_len]; exact k2)
    have t1 : (stU true (runS l i s)).take 51 = stU true (runS l i s) := List.take_of_length_le (by omega)
    have t2 : (stU true (stepF l (runS l i s))).take 51 = stU true (stepF l (runS l i s)) := List.take_of_length_le (by omega)
    have hb0 := stU_blw 3 true s
    have hb1 := pU_blw 3 to t m
    have hb2 := stU_blw 3 true (stepF l (runS l i s))
    generalize stU true (stepF l (runS l i s)) = y at *
    generalize stU true (runS l i s) = x at *
    generalize stU true s = s0 at *
    repeat (first | apply Wp.seq | apply Wp.skip | apply Wp.block | (apply Wp.op0; ((simp [M2.keep]) <;> rfl)) | ((first | apply Wp.op | apply Wp.opN | (apply Wp.opG; exact rfl)); (apply Evt.all; intro; (simp [pU_d25, pU_len, ht, hi']) <;> (try simp (disch := omega) only [wrap_id]) <;> first | exact ⟨rfl, rfl⟩ | exact rfl)) | (apply Wp.opS; exact rfl; decide) | (apply Wp.opS0; exact rfl))
    refine Wp.cond (by first | rfl | (simp; rfl)) (fun h1 => ?_) (fun h1 => ?_)
    · repeat' (first | apply Wp.seq | apply Wp.skip | apply Wp.block | (apply Wp.op0; ((simp [M2.keep]) <;> rfl)) | ((first | (apply Wp.pickT; (exact rfl); (first | exact rfl | assumption)) | (apply Wp.pickF; (exact rfl); (first | exact rfl | assumption))); ((simp) <;> exact rfl)) | ((first | apply Wp.op | apply Wp.opN); (apply Evt.all; intro; (simp [hl1, hl2, t1, t2, over_full]) <;> (try simp (disch := omega) only [wrap_id]) <;> first | exact ⟨rfl, rfl⟩ | exact rfl)) | (apply Wp.call; exact hst _) | (first | (apply Wp.ung; (exact rfl); (first | exact rfl | assumption)) | (apply Wp.opSt; (exact rfl); (first | exact rfl | assumption)) | (apply Wp.opSf; (exact rfl); (first | exact rfl | assumption))) | (apply Wp.opS0; (exact rfl)) | (first | (apply Wp.condT; (exact rfl); (first | exact rfl | assumption)) | (apply Wp.condF; (exact rfl); (first | exact rfl | assumption))) | ((first | apply Wp.grdT | apply Wp.grdF | apply Wp.cond); (exact rfl); (intro); rotate_left 1; (intro); rotate_right 1))
      repeat (first | apply Wp.seq | apply Wp.skip | apply Wp.block | (apply Wp.op0; ((simp [M2.keep]) <;> rfl)) | ((first | apply Wp.op | apply Wp.opN | (apply Wp.opG; exact rfl)); (apply Evt.all; intro; (simp [wrap_id]) <;> (try simp (disch := omega) only [wrap_id]) <;> first | exact ⟨rfl, rfl⟩ | exact rfl)) | (apply Wp.opS; exact rfl; decide) | (apply Wp.opS0; exact rfl))
      refine ⟨trim_list (st := [.box s0, .box (pU to t m), .box y]) (l := [_, _]) (by simp [insL]) ?_, trivial⟩
      show (Ob.blw 3 _ && (Ob.blw 3 _ && (Ob.blw 3 _ && true))) = true
      rw [hb0, hb1, hb2]
      rfl
    · cases h1
  · simp only [prS]
    repeat (first | apply Wp.seq | apply Wp.skip | apply Wp.block | (apply Wp.op0; ((simp [M2.keep]) <;> rfl)) | ((first | apply Wp.op | apply Wp.opN | (apply Wp.opG; exact rfl)); (apply Evt.all; intro; (simp [pU_d25, pU_len, ht]) <;> (try simp (disch := omega) only [wrap_id]) <;> first | exact ⟨rfl, rfl⟩ | exact rfl)) | (apply Wp.opS; exact rfl; decide) | (apply Wp.opS0; exact rfl))
    refine Wp.cond (by first | rfl | (simp; rfl)) (fun h1 => ?_) (fun h1 => ?_)
    · simp at h1
    · exact Wp.exit ⟨rfl, rfl⟩
theorem pf34 : pfT T n_env_Fill = true := rfl
theorem pf35 : pfT T n_joineryref06_Same = true := rfl
theorem pf20' : pfT T n_joineryref03_Moves = true := rfl
theorem pf13' : pfT T n_joinerylaw09_knows = true := rfl
set_option maxHeartbeats 16000000 in
theorem law12_call (l : List Ins) (s : Stt) (hL : s.L.length = 24) : Cl T n_joinerylaw09_PathRuns [insL true l, .agg (stU true s)] [] (.bool true) [] := by
  have hbr := brw_stt [] true s
  refine Wp.pure (fn := c_joinerylaw09_PathRuns) rfl rfl rfl («as» := [insL true l, .agg (stU true s)]) (by simp [hbr, insL]; rfl) ?_
  have kno := knows_call
  have sl := stU_len (p := true) hL
  have d48 : (stU true s).drop 48 = [heapU true s.h, i64 s.at_, i64 s.asked] := by rw [stU, wds_drop hL 48 (by omega)]; rfl
  have d49 : (stU true s).drop 49 = [i64 s.at_, i64 s.asked] := by rw [stU, wds_drop hL 49 (by omega)]; rfl
  have d50 : (stU true s).drop 50 = [i64 s.asked] := by rw [stU, wds_drop hL 50 (by omega)]; rfl
  have t48 : (stU true s).take 48 = wdsU s.L := by rw [stU, wds_take hL]
  have t51 : (stU true s).take 51 = stU true s := List.take_of_length_le (by omega)
  by_cases h1 : 300 < l.length
  · have d1 : decide ((300 : Int) < l.length) = true := decide_eq_true (by omega)
    repeat' (first | apply Wp.seq | apply Wp.skip | apply Wp.block | (apply Wp.op0; ((simp [M2.keep]) <;> rfl)) | ((first | (apply Wp.pickT; (exact rfl); (first | exact rfl | assumption)) | (apply Wp.pickF; (exact rfl); (first | exact rfl | assumption))); ((simp) <;> exact rfl)) | ((first | apply Wp.op | apply Wp.opN); (apply Evt.all; intro; (simp [insL]) <;> (try simp (disch := omega) only [wrap_id]) <;> first | exact ⟨rfl, rfl⟩ | exact rfl)) | (apply Wp.call; exact kno _) | (first | (apply Wp.ung; (exact rfl); (first | exact rfl | assumption)) | (apply Wp.opSt; (exact rfl); (first | exact rfl | assumption)) | (apply Wp.opSf; (exact rfl); (first | exact rfl | assumption))) | (apply Wp.opS0; (exact rfl)) | (first | (apply Wp.condT; (exact rfl); (first | exact rfl | assumption)) | (apply Wp.condF; (exact rfl); (first | exact rfl | assumption))) | ((first | apply Wp.grdT | apply Wp.grdF | apply Wp.cond); (exact rfl); (intro); rotate_left 1; (intro); rotate_right 1))
    refine Wp.ret ?_
    simp [Res, resU, res1, c_joinerylaw09_PathRuns]
  have d1 : decide ((300 : Int) < l.length) = false := decide_eq_false (by omega)
  by_cases h2 : 100 < s.h.length
  · have d2 : decide ((100 : Int) < s.h.length) = true := decide_eq_true (by omega)
    repeat' (first | apply Wp.seq | apply Wp.skip | apply Wp.block | (apply Wp.op0; ((simp [M2.keep]) <;> rfl)) | ((first | (apply Wp.pickT; (exact rfl); (first | exact rfl | assumption)) | (apply Wp.pickF; (exact rfl); (first | exact rfl | assumption))); ((simp) <;> exact rfl)) | ((first | apply Wp.op | apply Wp.opN); (apply Evt.all; intro; (simp [insL, sl, d48, heapU]) <;> (try simp (disch := omega) only [wrap_id]) <;> first | exact ⟨rfl, rfl⟩ | exact rfl)) | (apply Wp.call; exact kno _) | (first | (apply Wp.ung; (exact rfl); (first | exact rfl | assumption)) | (apply Wp.opSt; (exact rfl); (first | exact rfl | assumption)) | (apply Wp.opSf; (exact rfl); (first | exact rfl | assumption))) | (apply Wp.opS0; (exact rfl)) | (first | (apply Wp.condT; (exact rfl); (first | exact rfl | assumption)) | (apply Wp.condF; (exact rfl); (first | exact rfl | assumption))) | ((first | apply Wp.grdT | apply Wp.grdF | apply Wp.cond); (exact rfl); (intro); rotate_left 1; (intro); rotate_right 1))
    refine Wp.ret ?_
    simp [Res, resU, res1, c_joinerylaw09_PathRuns]
  have d2 : decide ((100 : Int) < s.h.length) = false := decide_eq_false (by omega)
  have has := as7_call s hL
  have hri := refRight7_call true l s hL
  cases hs : sttF l s with
  | false =>
    rw [hs] at hri
    repeat' (first | apply Wp.seq | apply Wp.skip | apply Wp.block | (apply Wp.op0; ((simp [M2.keep]) <;> rfl)) | ((first | (apply Wp.pickT; (exact rfl); (first | exact rfl | assumption)) | (apply Wp.pickF; (exact rfl); (first | exact rfl | assumption))); ((simp) <;> exact rfl)) | ((first | apply Wp.op | apply Wp.opN); (apply Evt.all; intro; (simp [insL, sl, d48, t51, heapU]) <;> (try simp (disch := omega) only [wrap_id]) <;> first | exact ⟨rfl, rfl⟩ | exact rfl)) | (apply Wp.call; exact has _) | (apply Wp.call; exact hri _) | (apply Wp.call; exact kno _) | (first | (apply Wp.ung; (exact rfl); (first | exact rfl | assumption)) | (apply Wp.opSt; (exact rfl); (first | exact rfl | assumption)) | (apply Wp.opSf; (exact rfl); (first | exact rfl | assumption))) | (apply Wp.opS0; (exact rfl)) | (first | (apply Wp.condT; (exact rfl); (first | exact rfl | assumption)) | (apply Wp.condF; (exact rfl); (first | exact rfl | assumption))) | ((first | apply Wp.grdT | apply Wp.grdF | apply Wp.cond); (exact rfl); (intro); rotate_left 1; (intro); rotate_right 1))
    refine Wp.ret ?_
    simp [Res, resU, res1, c_joinerylaw09_PathRuns]
  | true =>
    rw [hs] at hri
    have hr : rightF l = true := by unfold sttF at hs; simp only [Bool.and_eq_true] at hs; exact hs.1.1.1.1.1
    have hat : 0 ≤ s.at_ ∧ s.at_ < l.length := by unfold sttF at hs; simp only [Bool.and_eq_true, decide_eq_true_eq] at hs; omega
    obtain ⟨a, ha⟩ := Int.eq_ofNat_of_zero_le hat.1
    have hal : a < l.length := by omega
    have hfr := from_call true l s.at_
    rw [ha, fair_run hr hal] at hfr
    cases hrun : refRun l (l.length + 1) ⟨a, newT, 0⟩ with
    | none =>
      rw [hrun] at hfr
      simp only [rpT] at hfr
      have hlp := pruns_loop l s (-1) newT rfl 0 (by omega) (fun i hi => by omega)
      simp only [prS, runS] at hlp
      repeat' (first | apply Wp.seq | apply Wp.skip | apply Wp.block | (apply Wp.op0; ((simp [M2.keep]) <;> rfl)) | ((first | (apply Wp.pickT; (exact rfl); (first | exact rfl | assumption)) | (apply Wp.pickF; (exact rfl); (first | exact rfl | assumption))); ((simp) <;> exact rfl)) | ((first | apply Wp.op | apply Wp.opN); (apply Evt.all; intro; (simp [insL, sl, d48, d49, t51, heapU, ha, pathU, pU_take1, pU_take26, pU_over, pU_len, pU_d25, over_full]) <;> (try simp (disch := omega) only [wrap_id]) <;> first | exact ⟨rfl, rfl⟩ | exact rfl)) | (apply Wp.call; exact has _) | (apply Wp.call; exact hri _) | (apply Wp.call; exact hfr _) | (first | (apply Wp.ung; (exact rfl); (first | exact rfl | assumption)) | (apply Wp.opSt; (exact rfl); (first | exact rfl | assumption)) | (apply Wp.opSf; (exact rfl); (first | exact rfl | assumption))) | (apply Wp.opS0; (exact rfl)) | (first | (apply Wp.condT; (exact rfl); (first | exact rfl | assumption)) | (apply Wp.condF; (exact rfl); (first | exact rfl | assumption))) | ((first | apply Wp.grdT | apply Wp.grdF | apply Wp.cond); (exact rfl); (intro); rotate_left 1; (intro); rotate_right 1))
      refine ((hlp _).imp (fun _ h => h.elim) (fun _ h => h) ?_)
      rintro b s2 ⟨rfl, rfl⟩
      rw [if_pos rfl]
      repeat' (first | apply Wp.seq | apply Wp.skip | apply Wp.block | (apply Wp.op0; ((simp [M2.keep]) <;> rfl)) | ((first | (apply Wp.pickT; (exact rfl); (first | exact rfl | assumption)) | (apply Wp.pickF; (exact rfl); (first | exact rfl | assumption))); ((simp) <;> exact rfl)) | ((first | apply Wp.op | apply Wp.opN); (apply Evt.all; intro; (simp [pU_take1, pU_len, pU_d25, newT_len]) <;> (try simp (disch := omega) only [wrap_id]) <;> first | exact ⟨rfl, rfl⟩ | exact rfl)) | (apply Wp.call; exact kno _) | (first | (apply Wp.ung; (exact rfl); (first | exact rfl | assumption)) | (apply Wp.opSt; (exact rfl); (first | exact rfl | assumption)) | (apply Wp.opSf; (exact rfl); (first | exact rfl | assumption))) | (apply Wp.opS0; (exact rfl)) | (first | (apply Wp.condT; (exact rfl); (first | exact rfl | assumption)) | (apply Wp.condF; (exact rfl); (first | exact rfl | assumption))) | ((first | apply Wp.grdT | apply Wp.grdF | apply Wp.cond); (exact rfl); (intro); rotate_left 1; (intro); rotate_right 1))
      refine Wp.ret ?_
      simp [Res, resU, res1, c_joinerylaw09_PathRuns]
    | some e =>
      rw [hrun] at hfr
      simp only [rpT] at hfr
      obtain ⟨m, m1, m2, m3, m4, m5, m6, m7, m8, m9⟩ := runs_path s.L (l.length + 1) ⟨a, newT, 0⟩ e s newT_ok hs (fill_new hL).symm hL ha hrun
      simp only [Nat.zero_add] at m1
      have hsl := steps_lt hr hal hrun
      have h200 := (right_facts hr).1
      rw [m1] at hfr hsl
      have ht := m8.len
      have hlp := pruns_loop l s e.to e.t ht m (by omega) m2
      simp only [prS, runS] at hlp
      have hL2 : (runS l m s).L.length = 24 := by rw [m4, List.length_map]; exact ht
      have hfl := fill_call e.t ht s.L hL
      have hff : fillF e.t s.L = (runS l m s).L := by rw [m4, fillF, m8.eq]
      rw [hff] at hfl
      have hsm := same6_call true true s.h (by omega)
      have hws := wds_same (runS l m s).L hL2
      have hx : l[e.to]? = some (l.getD e.to default) := by simp [hsl.2]
      have hmv := moves3_call (l.getD e.to default)
      rw [m7] at hmv
      have hto : (e.to : Int) < l.length := by omega
      have xl := stU_len (p := true) hL2
      have x48 : (stU true (runS l m s)).drop 48 = [heapU true s.h, i64 e.to, i64 s.asked] := by rw [stU, wds_drop hL2 48 (by omega), m5, m3, m6]; rfl
      have x49 : (stU true (runS l m s)).drop 49 = [i64 e.to, i64 s.asked] := by rw [stU, wds_drop hL2 49 (by omega), m5, m3, m6]; rfl
      have x50 : (stU true (runS l m s)).drop 50 = [i64 s.asked] := by rw [stU, wds_drop hL2 50 (by omega), m5, m3, m6]; rfl
      have xt48 : (stU true (runS l m s)).take 48 = wdsU (runS l m s).L := by rw [stU, wds_take hL2]
      have pd := pU_tail (to := e.to) (s := m) ht
      have hpt := plain_tab e.t
      have hpw : ∀ L : List Wd, plainU (.agg (wdsU L)) = true := fun L => by
        show (wdsU L).all (flatU 5) = true
        induction L with
        | nil => rfl
        | cons w L ih =>
          rw [wdsU_cons, List.all_cons, List.all_cons, ih]
          rfl
      generalize stU true (runS l m s) = X at *
      generalize (runS l m s).L = LX at *
      generalize l.getD e.to default = ix at *
      have dneg : decide ((e.to : Int) < 0) = false := decide_eq_false (by omega)
      repeat' (first | apply Wp.seq | apply Wp.skip | apply Wp.block | (apply Wp.op0; ((simp [M2.keep]) <;> rfl)) | ((first | (apply Wp.pickT; (exact rfl); (first | exact rfl | assumption)) | (apply Wp.pickF; (exact rfl); (first | exact rfl | assumption))); ((simp) <;> exact rfl)) | ((first | apply Wp.op | apply Wp.opN); (apply Evt.all; intro; (simp [insL, sl, d48, d49, t51, heapU, ha, pathU, pU_take1, pU_take26, pU_over, pU_len, pU_d25, ht, over_full]) <;> (try simp (disch := omega) only [wrap_id]) <;> first | exact ⟨rfl, rfl⟩ | exact rfl)) | (apply Wp.call; exact has _) | (apply Wp.call; exact hri _) | (apply Wp.call; exact hfr _) | (first | (apply Wp.ung; (exact rfl); (first | exact rfl | assumption)) | (apply Wp.opSt; (exact rfl); (first | exact rfl | assumption)) | (apply Wp.opSf; (exact rfl); (first | exact rfl | assumption))) | (apply Wp.opS0; (exact rfl)) | (first | (apply Wp.condT; (exact rfl); (first | exact rfl | assumption)) | (apply Wp.condF; (exact rfl); (first | exact rfl | assumption))) | ((first | apply Wp.grdT | apply Wp.grdF | apply Wp.cond); (exact rfl); (intro); rotate_left 1; (intro); rotate_right 1))
      refine ((hlp _).imp (fun _ h => h.elim) (fun _ h => h) ?_)
      rintro b s2 ⟨rfl, rfl⟩
      rw [if_pos rfl]
      repeat' (first | apply Wp.seq | apply Wp.skip | apply Wp.block | (apply Wp.op0; ((simp [M2.keep]) <;> rfl)) | ((first | (apply Wp.pickT; (exact rfl); (first | exact rfl | assumption)) | (apply Wp.pickF; (exact rfl); (first | exact rfl | assumption))); ((simp) <;> exact rfl)) | ((first | apply Wp.op | apply Wp.opN); (apply Evt.all; intro; (simp [pU_take1, pU_len, ht]) <;> (try simp (disch := omega) only [wrap_id]) <;> first | exact ⟨rfl, rfl⟩ | exact rfl)) | (apply Wp.call; exact kno _) | (first | (apply Wp.ung; (exact rfl); (first | exact rfl | assumption)) | (apply Wp.opSt; (exact rfl); (first | exact rfl | assumption)) | (apply Wp.opSf; (exact rfl); (first | exact rfl | assumption))) | (apply Wp.opS0; (exact rfl)) | (first | (apply Wp.condT; (exact rfl); (first | exact rfl | assumption)) | (apply Wp.condF; (exact rfl); (first | exact rfl | assumption))) | ((first | apply Wp.grdT | apply Wp.grdF | apply Wp.cond); (exact rfl); (intro); rotate_left 1; (intro); rotate_right 1))
      refine Wp.draw (by (simp [c_joinerylaw09_PathRuns_D1, I.need]) <;> rfl) (by (simp [xl, x48, x49, x50, xt48, sl, d48, d50, t48, pU_take1, pU_len, ht, pd, insL, insU_len, insU_take, hto, hx, hws, pf34, pf35, pf20', pf13', -plainU, hpt, hpw, heapU]) <;> rfl) (by (simp [xl, x48, x49, x50, xt48, sl, d48, d50, t48, pU_take1, pU_len, ht, pd, insL, insU_len, insU_take, hto, hx, hws, pf34, pf35, pf20', pf13', -plainU, hpt, hpw, heapU]) <;> rfl) (by (unfold c_joinerylaw09_PathRuns_D1); (repeat (first | ((first | apply Dr.op | apply Dr.opN | (apply Dr.opG; exact rfl)); ((simp [xl, x48, x49, x50, xt48, sl, d48, d50, t48, pU_take1, pU_len, ht, pd, insL, insU_len, insU_take, hto, hx, hws, pf34, pf35, pf20', pf13', -plainU, hpt, hpw, heapU]) <;> rfl); (apply Evt.all; intro; (simp [xl, x48, x49, x50, xt48, sl, d48, d50, t48, pU_take1, pU_len, ht, pd, insL, insU_len, insU_take, hto, hx, hws, pf34, pf35, pf20', pf13', -plainU, hpt, hpw, heapU]) <;> (try simp (disch := omega) only [wrap_id]) <;> first | exact ⟨rfl, rfl⟩ | exact rfl); ((simp [I.need]) <;> rfl)) | ((first | (apply Dr.opS; exact rfl; decide) | (apply Dr.opS0; exact rfl)); ((simp [I.need]) <;> rfl)) | (apply Dr.call; ((simp [xl, x48, x49, x50, xt48, sl, d48, d50, t48, pU_take1, pU_len, ht, pd, insL, insU_len, insU_take, hto, hx, hws, pf34, pf35, pf20', pf13', -plainU, hpt, hpw, heapU]) <;> rfl); exact hfl _) | (apply Dr.callG; (exact rfl); ((simp [xl, x48, x49, x50, xt48, sl, d48, d50, t48, pU_take1, pU_len, ht, pd, insL, insU_len, insU_take, hto, hx, hws, pf34, pf35, pf20', pf13', -plainU, hpt, hpw, heapU]) <;> rfl); exact hfl _) | (apply Dr.call; ((simp [xl, x48, x49, x50, xt48, sl, d48, d50, t48, pU_take1, pU_len, ht, pd, insL, insU_len, insU_take, hto, hx, hws, pf34, pf35, pf20', pf13', -plainU, hpt, hpw, heapU]) <;> rfl); exact hsm _) | (apply Dr.callG; (exact rfl); ((simp [xl, x48, x49, x50, xt48, sl, d48, d50, t48, pU_take1, pU_len, ht, pd, insL, insU_len, insU_take, hto, hx, hws, pf34, pf35, pf20', pf13', -plainU, hpt, hpw, heapU]) <;> rfl); exact hsm _) | (apply Dr.call; ((simp [xl, x48, x49, x50, xt48, sl, d48, d50, t48, pU_take1, pU_len, ht, pd, insL, insU_len, insU_take, hto, hx, hws, pf34, pf35, pf20', pf13', -plainU, hpt, hpw, heapU]) <;> rfl); exact hmv _) | (apply Dr.callG; (exact rfl); ((simp [xl, x48, x49, x50, xt48, sl, d48, d50, t48, pU_take1, pU_len, ht, pd, insL, insU_len, insU_take, hto, hx, hws, pf34, pf35, pf20', pf13', -plainU, hpt, hpw, heapU]) <;> rfl); exact hmv _) | (apply Dr.call; ((simp [xl, x48, x49, x50, xt48, sl, d48, d50, t48, pU_take1, pU_len, ht, pd, insL, insU_len, insU_take, hto, hx, hws, pf34, pf35, pf20', pf13', -plainU, hpt, hpw, heapU]) <;> rfl); exact kno _) | (apply Dr.callG; (exact rfl); ((simp [xl, x48, x49, x50, xt48, sl, d48, d50, t48, pU_take1, pU_len, ht, pd, insL, insU_len, insU_take, hto, hx, hws, pf34, pf35, pf20', pf13', -plainU, hpt, hpw, heapU]) <;> rfl); exact kno _))); exact Dr.nil) (by first | decide +kernel | exact rfl) (by (simp [M2.keep]) <;> rfl) ?_
      refine Wp.ret ?_
      simp [Res, resU, res1, c_joinerylaw09_PathRuns]
theorem cells79 : Tryd.prog.cellsOf 79 = 51 := by kernel_rfl
theorem cells76 : Tryd.prog.cellsOf 76 = 48 := by kernel_rfl
theorem cells75 : Tryd.prog.cellsOf 75 = 2 := by kernel_rfl
theorem cells4 : Tryd.prog.cellsOf 4 = 1 := by kernel_rfl
theorem cells77 : Tryd.prog.cellsOf 77 = 1 := by kernel_rfl
theorem agg79 : aggT Tryd.prog 79 = true := by kernel_rfl
theorem agg22 : aggT Tryd.prog 22 = false := by kernel_rfl
theorem args2s {us : List U} (hl : us.length = 2) (hty : ∀ (j : Nat) t u, [22, 79][j]? = some t → us[j]? = some u → TypedA Tryd.prog 8 t u) : ∃ (l : List Ins) (s : Stt), us = [insL true l, .agg (stU true s)] ∧ s.L.length = 24 := by
  match us, hl with
  | [u, v], _ =>
    obtain ⟨l, rfl, hlen, hx⟩ := typed_insn ⟨5, rfl⟩ ((hty 0 22 u rfl rfl).one agg22)
    obtain ⟨cs, rfl, hc⟩ := (hty 1 79 v rfl rfl).cells agg79
    obtain ⟨s, rfl, h24, _⟩ := typed_stt (d := 4) Tryd.underlying79 rfl rfl Tryd.underlying76 Tryd.underlying75 rfl rfl Tryd.underlying4 Tryd.underlying2 Tryd.underlying77 Tryd.underlying3 cells79 cells76 cells75 cells4 cells2 cells77 cells3 hc
    exact ⟨l, s, rfl, h24⟩
theorem params12 : Tryd.f12.params.toList = [22, 79] := by kernel_rfl
theorem law12 : Law 12 Tryd.f12.params.toList := by
  rw [params12]
  intro us hl hty
  obtain ⟨l, s, rfl, h⟩ := args2s hl hty
  exact law_of (law12_call l s h)
end Go.Proofs.YtapibckmdpdljaaDoor.M2
