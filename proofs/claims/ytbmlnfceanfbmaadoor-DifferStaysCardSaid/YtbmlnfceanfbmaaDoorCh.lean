/- What the functions answer in M2. A step that only moves, done. -/
import Derived.Test.YtbmlnfceanfbmaaDoorCg
set_option linter.unusedSimpArgs false
set_option linter.unusedVariables false
set_option linter.unusedSectionVars false
/- What the functions answer in M2. States: words, and what only moves. -/
namespace Go.Proofs.YtbmlnfceanfbmaaDoor.M2
open Go
attribute [local simp] ev1 M2.get put A.ev ld sub part elems bin arith un opt idx fillC cellsO splice over newOb sto fillR laidOwn appTo appRow touch touchN touchM touchE touchA plainU flatU plainAs allM rowAt stoRow accM_nil accM_cons accMM_nil accMM_cons frz_int frz_bool frz_str frz_slt frz_nils frz_nilI frz_nilF frz_own frzRow_row frzRow_frow Ob.blw blw_bool blw_int blw_str blw_nils blw_nilI blw_nilF blw_nilp blw_nilm blw_sl blw_own blw_bp blw_rp blw_mp blw_it params
attribute [local simp] frz_agg frz_tup frz_iface frzS_agg frzS_iface accMS_cons frzS_int frzS_bool frzS_str frzS_slt frzS_nils frzS_nilI beq_dec bne_dec
theorem trim_list {st l : List Ob} {e : Env} (he : e.all (fun p => blw blwD st.length p.2) = true) (hB : st.all (Ob.blw st.length) = true) : trimO st.length ⟨e, st ++ l⟩ = ⟨e, st⟩ := by
  unfold trimO trim
  simp only [List.take_left, he, hB, Bool.and_self, if_true, Option.getD_some]
abbrev Wd := Bool × Int
def wdU (w : Wd) : List U := [.bool w.1, i64 w.2]
def wdsU (L : List Wd) : List U := L.flatMap wdU
theorem wds_len (L : List Wd) : (wdsU L).length = 2 * L.length := by
  induction L with
  | nil => rfl
  | cons w L ih => rw [wdsU, List.flatMap_cons, List.length_append, ← wdsU, ih]; simp [wdU]; omega
theorem wdsU_cons (w : Wd) (L : List Wd) : wdsU (w :: L) = .bool w.1 :: i64 w.2 :: wdsU L := rfl
theorem wds_get : ∀ (L : List Wd) (d : Nat) (h : d < L.length) (r : List U), ((wdsU L ++ r).drop (d * 2)).take 2 = [.bool L[d].1, i64 L[d].2]
  | w :: L, 0, _, r => rfl
  | w :: L, d + 1, h, r => by
    rw [wdsU_cons, show (d + 1) * 2 = d * 2 + 2 by omega]
    exact wds_get L d (by simpa using h) r
theorem wds_get1 (L : List Wd) (d : Nat) (h : d < L.length) (r : List U) : ((wdsU L ++ r).drop (d * 2 + 1)).take 1 = [i64 L[d].2] := by
  have h1 := wds_get L d h r
  have h2 : ((wdsU L ++ r).drop (d * 2 + 1)).take 1 = (((wdsU L ++ r).drop (d * 2)).take 2).drop 1 := by rw [List.drop_take, List.drop_drop]
  rw [h2, h1]
  rfl
theorem wds_get0 (L : List Wd) (d : Nat) (h : d < L.length) (r : List U) : ((wdsU L ++ r).drop (d * 2)).take 1 = [.bool L[d].1] := by
  have h1 := wds_get L d h r
  have h2 : ((wdsU L ++ r).drop (d * 2)).take 1 = (((wdsU L ++ r).drop (d * 2)).take 2).take 1 := by rw [List.take_take]; rfl
  rw [h2, h1]
  rfl
theorem wds_set : ∀ (L : List Wd) (d : Nat) (_ : d < L.length) (b : Bool) (v : Int) (r : List U), splice (wdsU L ++ r) (d * 2) [.bool b, i64 v] = wdsU (L.set d (b, v)) ++ r
  | w :: L, 0, _, b, v, r => by simp [wdsU_cons]
  | w :: L, d + 1, h, b, v, r => by
    rw [wdsU_cons, show (d + 1) * 2 = d * 2 + 1 + 1 by omega, List.set_cons_succ, wdsU_cons]
    simp only [List.cons_append, splice]
    rw [wds_set L d (by simpa using h)]
theorem wds_drop {L : List Wd} (hL : L.length = 24) (n : Nat) (hn : 48 ≤ n) (r : List U) : (wdsU L ++ r).drop n = r.drop (n - 48) := by
  rw [List.drop_append, List.drop_eq_nil_of_le (by rw [wds_len]; omega), wds_len, hL, List.nil_append]
theorem splice_app : ∀ (a r : List U) (n : Nat) (_ : a.length ≤ n) (us : List U), splice (a ++ r) n us = a ++ splice r (n - a.length) us
  | [], r, n, _, us => rfl
  | x :: a, r, n + 1, h, us => by
    simp only [List.cons_append, splice, List.length_cons]
    rw [splice_app a r n (by simpa using h), show n + 1 - (a.length + 1) = n - a.length by omega]
theorem wds_splice {L : List Wd} (hL : L.length = 24) (n : Nat) (hn : 48 ≤ n) (r us : List U) : splice (wdsU L ++ r) n us = wdsU L ++ splice r (n - 48) us := by
  rw [splice_app _ _ _ (by rw [wds_len]; omega), wds_len, hL]
theorem wds_take {L : List Wd} (hL : L.length = 24) (r : List U) : (wdsU L ++ r).take 48 = wdsU L := by
  rw [List.take_append, List.take_of_length_le (by rw [wds_len]; omega), wds_len, hL]
  simp
theorem wds_takeMore {L : List Wd} (hL : L.length = 24) (n : Nat) (hn : 48 ≤ n) (r : List U) : (wdsU L ++ r).take n = wdsU L ++ r.take (n - 48) := by
  rw [List.take_append, List.take_of_length_le (by rw [wds_len]; omega), wds_len, hL]
theorem wds48 {L : List Wd} (hL : L.length = 24) : (wdsU L).length = 48 := by rw [wds_len, hL]
theorem wds_blw (n : Nat) (L : List Wd) : (wdsU L).all (blw blwD n) = true := by
  induction L with
  | nil => rfl
  | cons w L ih => rw [wdsU_cons]; simp [ih]
theorem wds_blw1 (n : Nat) (L : List Wd) : blw blwD n (.agg (wdsU L)) = true := by
  show (wdsU L).all (blw 11 n) = true
  induction L with
  | nil => rfl
  | cons w L ih =>
    rw [wdsU_cons, List.all_cons, List.all_cons, ih]
    rfl
theorem wds_plain (L : List Wd) : (wdsU L).all plainU = true := by
  induction L with
  | nil => rfl
  | cons w L ih =>
    rw [wdsU_cons, List.all_cons, List.all_cons, ih]
    rfl
structure Stt where
  L : List Wd
  h : List Int
  at_ : Int
  asked : Int
def heapU (p : Bool) (h : List Int) : U := .sl p (h.map fun v => [i64 v])
def stU (p : Bool) (s : Stt) : List U := wdsU s.L ++ [heapU p s.h, i64 s.at_, i64 s.asked]
theorem accWds (d : Nat) (st : List Ob) (r : List U) (r' : List U) (st' : List Ob) (hr : accM (frz (d + 1)) st r = some (r', st')) : ∀ L : List Wd, accM (frz (d + 1)) st (wdsU L ++ r) = some (wdsU L ++ r', st')
  | [] => hr
  | w :: L => by
    rw [wdsU_cons]
    simp only [List.cons_append]
    rw [accMS_cons, frzS_bool]
    simp only [Option.bind_some]
    rw [accMS_cons, frzS_int]
    simp only [Option.bind_some, accWds d st r r' st' hr L]
theorem frz_stt (st : List Ob) (s : Stt) : frz frzD st (.agg (stU true s)) = some (.agg (stU true s), st) := by
  rw [frz_agg, stU, accWds 10 st _ _ _ rfl s.L]
  rfl
theorem brwWds (d : Nat) (st : List Ob) (r : List U) (r' : List U) (hr : allM (brw (d + 1) st) r = some r') : ∀ L : List Wd, allM (brw (d + 1) st) (wdsU L ++ r) = some (wdsU L ++ r')
  | [] => hr
  | w :: L => by
    rw [wdsU_cons]
    simp only [List.cons_append, M2.allM]
    rw [show brw (d + 1) st (.bool w.1) = some (.bool w.1) from rfl, show brw (d + 1) st (i64 w.2) = some (i64 w.2) from rfl, brwWds d st r r' hr L]
    rfl
theorem brw_stt (st : List Ob) (p : Bool) (s : Stt) : brw frzD st (.agg (stU p s)) = some (.agg (stU p s)) := by
  show (allM (brw 11 st) (stU p s)).bind (fun cs => some (U.agg cs)) = _
  rw [stU, brwWds 10 st _ _ rfl s.L]
  rfl
structure Work where
  s : Stt
  x : Ins
  ask : U
  ev : U
  how : Int
  val : Int
def workU (w : Work) : List U := wdsU w.s.L ++ [heapU true w.s.h, i64 w.s.at_, i64 w.s.asked, i64 w.x.op, i64 w.x.d, i64 w.x.a, i64 w.x.b, i64 w.x.n, i64 w.x.to, w.ask, w.ev, i64 w.how, i64 w.val]
def moveF (L : List Wd) (x : Ins) : List Wd :=
  if x.op = 1 then L.set x.d.toNat (true, x.n) else if x.op = 2 then L.set x.d.toNat (L.getD x.a.toNat (false, 0)) else if x.op = 3 then (L.set x.d.toNat (L.getD x.a.toNat (false, 0))).set x.a.toNat (L.getD x.d.toNat (false, 0)) else L
theorem moveF_len (L : List Wd) (x : Ins) : (moveF L x).length = L.length := by
  unfold moveF
  split
  · rw [List.length_set]
  · split
    · rw [List.length_set]
    · split
      · rw [List.length_set, List.length_set]
      · rfl
theorem lent_work (q : Bool) (o1 o2 o3 : Ob) (s : Stt) (x : Ins) (A : List (List U)) (how val : Int) : brwA frzD [o1, o2, o3, .box (workU ⟨s, x, .sl q A, .nils, how, val⟩)] (.bp 3 0) = some (.fp (workU ⟨s, x, .sl q A, .sl true [], how, val⟩)) := by
  show (if 0 ≤ (workU ⟨s, x, .sl q A, .nils, how, val⟩).length then (allM (brw frzD _) (workU ⟨s, x, .sl q A, .nils, how, val⟩)).map U.fp else none) = _
  rw [if_pos (Nat.zero_le _), workU, frzD, brwWds 11 _ _ _ rfl s.L]
  rfl
theorem number_call (q : Bool) (o1 o2 o3 : Ob) (s : Stt) (x : Ins) (A : List (List U)) (how val : Int) (hL : s.L.length = 24) (D : Nat) (hD : D < 24) : Cl T n_step_work_number [.bp 3 0, i64 D] [o1, o2, o3, .box (workU ⟨s, x, .sl q A, .nils, how, val⟩)] (i64 (s.L.getD D (false, 0)).2) [o1, o2, o3, .box (workU ⟨s, x, .sl q A, .nils, how, val⟩)] := by
  have hln := lent_work q o1 o2 o3 s x A how val
  refine Wp.pureA (fn := c_step_work_number) rfl rfl rfl («as» := [.fp (workU ⟨s, x, .sl q A, .sl true [], how, val⟩), i64 D]) (by rw [M2.allM, hln]; rfl) ?_
  have hD' : (D : Int) < 24 := by omega
  have l48 := wds48 hL
  have g1 := wds_get1 s.L D (by omega)
  have gd : s.L.getD D (false, 0) = s.L[D] := by simp [hL, hD]
  have hle : D * 2 < 61 := by omega
  have hle1 : D * 2 + 1 + 1 ≤ 61 := by omega
  rw [gd]
  simp only [workU]
  have hle2 : 1 < 61 - D * 2 := by omega
  have hle3 : 1 ≤ 60 - D * 2 := by omega
  repeat' (first | apply Wp.seq | apply Wp.skip | apply Wp.block | (apply Wp.op0; ((simp [M2.keep]) <;> rfl)) | ((first | (apply Wp.pickT; (exact rfl); (first | exact rfl | assumption)) | (apply Wp.pickF; (exact rfl); (first | exact rfl | assumption))); ((simp) <;> exact rfl)) | ((first | apply Wp.op | apply Wp.opN); (apply Evt.all; intro; (simp [hD', l48, g1, hle, hle1, hle2, hle3, List.drop_drop]) <;> (try simp (disch := omega) only [wrap_id]) <;> first | exact ⟨rfl, rfl⟩ | exact rfl)) | (first | (apply Wp.ung; (exact rfl); (first | exact rfl | assumption)) | (apply Wp.opSt; (exact rfl); (first | exact rfl | assumption)) | (apply Wp.opSf; (exact rfl); (first | exact rfl | assumption))) | (apply Wp.opS0; (exact rfl)) | (first | (apply Wp.condT; (exact rfl); (first | exact rfl | assumption)) | (apply Wp.condF; (exact rfl); (first | exact rfl | assumption))) | ((first | apply Wp.grdT | apply Wp.grdF | apply Wp.cond); (exact rfl); (intro); rotate_left 1; (intro); rotate_right 1))
  refine Wp.ret ?_
  simp [Res, resU, res1, c_step_work_number]
end Go.Proofs.YtbmlnfceanfbmaaDoor.M2
/- What the functions answer in M2. A step that only moves: the words. -/
namespace Go.Proofs.YtbmlnfceanfbmaaDoor.M2
open Go
attribute [local simp] ev1 M2.get put A.ev ld sub part elems bin arith un opt idx fillC cellsO splice over newOb sto fillR laidOwn appTo appRow touch touchN touchM touchE touchA plainU flatU plainAs allM rowAt stoRow accM_nil accM_cons accMM_nil accMM_cons frz_int frz_bool frz_str frz_slt frz_nils frz_nilI frz_nilF frz_own frzRow_row frzRow_frow Ob.blw blw_bool blw_int blw_str blw_nils blw_nilI blw_nilF blw_nilp blw_nilm blw_sl blw_own blw_bp blw_rp blw_mp blw_it params
attribute [local simp] frz_agg frz_tup frz_iface frzS_agg frzS_iface accMS_cons frzS_int frzS_bool frzS_str frzS_slt frzS_nils frzS_nilI beq_dec bne_dec
set_option maxHeartbeats 8000000 in
theorem move_call (o1 o2 o3 : Ob) (w : Work) (hL : w.s.L.length = 24) (hd : locF 24 w.x.d = true) (ha : locF 24 w.x.a = true) : Cl T n_step_work_move [.bp 3 0] [o1, o2, o3, .box (workU w)] (.tup []) [o1, o2, o3, .box (workU { w with s := { w.s with L := moveF w.s.L w.x } })] := by
  refine Wp.impure (fn := c_step_work_move) rfl rfl rfl ?_
  obtain ⟨⟨L, h, at_, asked⟩, ⟨op, d, a, b, n, to⟩, ask, ev, how, val⟩ := w
  simp only at hL hd ha
  simp only [locF, Bool.and_eq_true, decide_eq_true_eq] at hd ha
  obtain ⟨D, rfl⟩ := Int.eq_ofNat_of_zero_le hd.1
  obtain ⟨A, rfl⟩ := Int.eq_ofNat_of_zero_le ha.1
  have D1 : D < L.length := by omega
  have A1 : A < L.length := by omega
  have D2 : (D : Int) < 24 := by omega
  have A2 : (A : Int) < 24 := by omega
  have l48 := wds48 hL
  have hle : D * 2 + 2 ≤ 61 := by omega
  have hle2 : A * 2 + 2 ≤ 61 := by omega
  have gA := wds_get L A A1
  have gD := wds_get L D D1
  have sD := fun (M : List Wd) (hM : M.length = 24) => wds_set M D (by omega)
  have sA := fun (M : List Wd) (hM : M.length = 24) => wds_set M A (by omega)
  have dr := fun (M : List Wd) (hM : M.length = 24) => wds_drop hM
  have eA : L.getD A (false, 0) = L[A] := by simp [A1]
  have eD : L.getD D (false, 0) = L[D] := by simp [D1]
  simp only [moveF, Int.toNat_natCast, eA, eD, workU]
  have dr0 := dr L hL
  have sD0 := sD L hL
  have e24 : ∀ w, (L.set D w).length = 24 := fun w => by rw [List.length_set]; exact hL
  by_cases c1 : op = 1
  · subst c1
    repeat' (first | apply Wp.seq | apply Wp.skip | apply Wp.block | (apply Wp.op0; ((simp [M2.keep]) <;> rfl)) | ((first | (apply Wp.pickT; (exact rfl); (first | exact rfl | assumption)) | (apply Wp.pickF; (exact rfl); (first | exact rfl | assumption))); ((simp) <;> exact rfl)) | ((first | apply Wp.op | apply Wp.opN); (apply Evt.all; intro; (simp [l48, dr0]) <;> (try simp (disch := omega) only [wrap_id]) <;> first | exact ⟨rfl, rfl⟩ | exact rfl)) | (first | (apply Wp.ung; (exact rfl); (first | exact rfl | assumption)) | (apply Wp.opSt; (exact rfl); (first | exact rfl | assumption)) | (apply Wp.opSf; (exact rfl); (first | exact rfl | assumption))) | (apply Wp.opS0; (exact rfl)) | (first | (apply Wp.condT; (exact rfl); (first | exact rfl | assumption)) | (apply Wp.condF; (exact rfl); (first | exact rfl | assumption))) | ((first | apply Wp.grdT | apply Wp.grdF | apply Wp.cond); (exact rfl); (intro); rotate_left 1; (intro); rotate_right 1))
    refine Wp.draw (by (simp [c_step_work_move_D0, I.need]) <;> rfl) (by (simp [D2, hle, l48, dr0, sD0]) <;> rfl) (by (simp [D2, hle, l48, dr0, sD0]) <;> rfl) (by (unfold c_step_work_move_D0); (repeat (first | ((first | apply Dr.op | apply Dr.opN | (apply Dr.opG; exact rfl)); ((simp [D2, hle, l48, dr0, sD0]) <;> rfl); (apply Evt.all; intro; (simp [D2, hle, l48, dr0, sD0]) <;> (try simp (disch := omega) only [wrap_id]) <;> first | exact ⟨rfl, rfl⟩ | exact rfl); ((simp [I.need]) <;> rfl)) | ((first | (apply Dr.opS; exact rfl; decide) | (apply Dr.opS0; exact rfl)); ((simp [I.need]) <;> rfl)))); exact Dr.nil) (by first | decide +kernel | exact rfl) (by (simp [M2.keep]) <;> rfl) ?_
    refine ⟨rfl, ?_⟩
    exact congrArg S.st (trimO_len rfl)
  by_cases c2 : op = 2
  · subst c2
    repeat' (first | apply Wp.seq | apply Wp.skip | apply Wp.block | (apply Wp.op0; ((simp [M2.keep]) <;> rfl)) | ((first | (apply Wp.pickT; (exact rfl); (first | exact rfl | assumption)) | (apply Wp.pickF; (exact rfl); (first | exact rfl | assumption))); ((simp) <;> exact rfl)) | ((first | apply Wp.op | apply Wp.opN); (apply Evt.all; intro; (simp [l48, dr0]) <;> (try simp (disch := omega) only [wrap_id]) <;> first | exact ⟨rfl, rfl⟩ | exact rfl)) | (first | (apply Wp.ung; (exact rfl); (first | exact rfl | assumption)) | (apply Wp.opSt; (exact rfl); (first | exact rfl | assumption)) | (apply Wp.opSf; (exact rfl); (first | exact rfl | assumption))) | (apply Wp.opS0; (exact rfl)) | (first | (apply Wp.condT; (exact rfl); (first | exact rfl | assumption)) | (apply Wp.condF; (exact rfl); (first | exact rfl | assumption))) | ((first | apply Wp.grdT | apply Wp.grdF | apply Wp.cond); (exact rfl); (intro); rotate_left 1; (intro); rotate_right 1))
    refine Wp.draw (by (simp [c_step_work_move_D1, I.need]) <;> rfl) (by (simp [D2, A2, hle, hle2, l48, dr0, gA, sD0]) <;> rfl) (by (simp [D2, A2, hle, hle2, l48, dr0, gA, sD0]) <;> rfl) (by (unfold c_step_work_move_D1); (repeat (first | ((first | apply Dr.op | apply Dr.opN | (apply Dr.opG; exact rfl)); ((simp [D2, A2, hle, hle2, l48, dr0, gA, sD0]) <;> rfl); (apply Evt.all; intro; (simp [D2, A2, hle, hle2, l48, dr0, gA, sD0]) <;> (try simp (disch := omega) only [wrap_id]) <;> first | exact ⟨rfl, rfl⟩ | exact rfl); ((simp [I.need]) <;> rfl)) | ((first | (apply Dr.opS; exact rfl; decide) | (apply Dr.opS0; exact rfl)); ((simp [I.need]) <;> rfl)))); exact Dr.nil) (by first | decide +kernel | exact rfl) (by (simp [M2.keep]) <;> rfl) ?_
    refine ⟨rfl, ?_⟩
    exact congrArg S.st (trimO_len rfl)
  by_cases c3 : op = 3
  · subst c3
    have l48' := wds48 (e24 L[A])
    have sA0 := sA (L.set D L[A]) (e24 _)
    have dr1 := dr (L.set D L[A]) (e24 _)
    repeat' (first | apply Wp.seq | apply Wp.skip | apply Wp.block | (apply Wp.op0; ((simp [M2.keep]) <;> rfl)) | ((first | (apply Wp.pickT; (exact rfl); (first | exact rfl | assumption)) | (apply Wp.pickF; (exact rfl); (first | exact rfl | assumption))); ((simp) <;> exact rfl)) | ((first | apply Wp.op | apply Wp.opN); (apply Evt.all; intro; (simp [l48, dr0]) <;> (try simp (disch := omega) only [wrap_id]) <;> first | exact ⟨rfl, rfl⟩ | exact rfl)) | (first | (apply Wp.ung; (exact rfl); (first | exact rfl | assumption)) | (apply Wp.opSt; (exact rfl); (first | exact rfl | assumption)) | (apply Wp.opSf; (exact rfl); (first | exact rfl | assumption))) | (apply Wp.opS0; (exact rfl)) | (first | (apply Wp.condT; (exact rfl); (first | exact rfl | assumption)) | (apply Wp.condF; (exact rfl); (first | exact rfl | assumption))) | ((first | apply Wp.grdT | apply Wp.grdF | apply Wp.cond); (exact rfl); (intro); rotate_left 1; (intro); rotate_right 1))
    refine Wp.draw (by (simp [c_step_work_move_D2, I.need]) <;> rfl) (by (simp [D2, A2, hle, hle2, l48, l48', dr0, dr1, gA, gD, sD0, sA0]) <;> rfl) (by (simp [D2, A2, hle, hle2, l48, l48', dr0, dr1, gA, gD, sD0, sA0]) <;> rfl) (by (unfold c_step_work_move_D2); (repeat (first | ((first | apply Dr.op | apply Dr.opN | (apply Dr.opG; exact rfl)); ((simp [D2, A2, hle, hle2, l48, l48', dr0, dr1, gA, gD, sD0, sA0]) <;> rfl); (apply Evt.all; intro; (simp [D2, A2, hle, hle2, l48, l48', dr0, dr1, gA, gD, sD0, sA0]) <;> (try simp (disch := omega) only [wrap_id]) <;> first | exact ⟨rfl, rfl⟩ | exact rfl); ((simp [I.need]) <;> rfl)) | ((first | (apply Dr.opS; exact rfl; decide) | (apply Dr.opS0; exact rfl)); ((simp [I.need]) <;> rfl)))); exact Dr.nil) (by first | decide +kernel | exact rfl) (by (simp [M2.keep]) <;> rfl) ?_
    refine ⟨rfl, ?_⟩
    exact congrArg S.st (trimO_len rfl)
  · rw [if_neg c1, if_neg c2, if_neg c3]
    repeat' (first | apply Wp.seq | apply Wp.skip | apply Wp.block | (apply Wp.op0; ((simp [M2.keep]) <;> rfl)) | ((first | (apply Wp.pickT; (exact rfl); (first | exact rfl | assumption)) | (apply Wp.pickF; (exact rfl); (first | exact rfl | assumption))); ((simp) <;> exact rfl)) | ((first | apply Wp.op | apply Wp.opN); (apply Evt.all; intro; (simp [l48, dr0, c1, c2, c3]) <;> (try simp (disch := omega) only [wrap_id]) <;> first | exact ⟨rfl, rfl⟩ | exact rfl)) | (first | (apply Wp.ung; (exact rfl); (first | exact rfl | assumption)) | (apply Wp.opSt; (exact rfl); (first | exact rfl | assumption)) | (apply Wp.opSf; (exact rfl); (first | exact rfl | assumption))) | (apply Wp.opS0; (exact rfl)) | (first | (apply Wp.condT; (exact rfl); (first | exact rfl | assumption)) | (apply Wp.condF; (exact rfl); (first | exact rfl | assumption))) | ((first | apply Wp.grdT | apply Wp.grdF | apply Wp.cond); (exact rfl); (intro); rotate_left 1; (intro); rotate_right 1))
    refine ⟨rfl, ?_⟩
    exact congrArg S.st (trimO_len rfl)
end Go.Proofs.YtbmlnfceanfbmaaDoor.M2
/- What the functions answer in M2. A step that only moves. -/
namespace Go.Proofs.YtbmlnfceanfbmaaDoor.M2
open Go
attribute [local simp] ev1 M2.get put A.ev ld sub part elems bin arith un opt idx fillC cellsO splice over newOb sto fillR laidOwn appTo appRow touch touchN touchM touchE touchA plainU flatU plainAs allM rowAt stoRow accM_nil accM_cons accMM_nil accMM_cons frz_int frz_bool frz_str frz_slt frz_nils frz_nilI frz_nilF frz_own frzRow_row frzRow_frow Ob.blw blw_bool blw_int blw_str blw_nils blw_nilI blw_nilF blw_nilp blw_nilm blw_sl blw_own blw_bp blw_rp blw_mp blw_it params
attribute [local simp] frz_agg frz_tup frz_iface frzS_agg frzS_iface accMS_cons frzS_int frzS_bool frzS_str frzS_slt frzS_nils frzS_nilI beq_dec bne_dec
theorem heapRight_call (p : Bool) (h : List Int) (st : List Ob) : Cl T n_heap_Right [heapU p h] st (.bool (decide (h.length ≤ 16))) st := by
  refine Wp.pure (fn := c_heap_Right) rfl rfl rfl («as» := [heapU p h]) rfl ?_
  simp only [heapU]
  repeat' (first | apply Wp.seq | apply Wp.skip | apply Wp.block | (apply Wp.op0; ((simp [M2.keep]) <;> rfl)) | ((first | (apply Wp.pickT; (exact rfl); (first | exact rfl | assumption)) | (apply Wp.pickF; (exact rfl); (first | exact rfl | assumption))); ((simp) <;> exact rfl)) | ((first | apply Wp.op | apply Wp.opN); (apply Evt.all; intro; (simp []) <;> (try simp (disch := omega) only [wrap_id]) <;> first | exact ⟨rfl, rfl⟩ | exact rfl)) | (first | (apply Wp.ung; (exact rfl); (first | exact rfl | assumption)) | (apply Wp.opSt; (exact rfl); (first | exact rfl | assumption)) | (apply Wp.opSf; (exact rfl); (first | exact rfl | assumption))) | (apply Wp.opS0; (exact rfl)) | (first | (apply Wp.condT; (exact rfl); (first | exact rfl | assumption)) | (apply Wp.condF; (exact rfl); (first | exact rfl | assumption))) | ((first | apply Wp.grdT | apply Wp.grdF | apply Wp.cond); (exact rfl); (intro); rotate_left 1; (intro); rotate_right 1))
  refine Wp.ret ?_
  simp [Res, resU, res1, c_heap_Right]
  try omega
theorem acc_ints (st : List Ob) : ∀ h : List Int, accM (accM (frz frzD)) st (h.map fun v => [i64 v]) = some (h.map fun v => [i64 v], st)
  | [] => rfl
  | v :: h => by
    have ih := acc_ints st h
    simp only [List.map_cons]
    rw [accMM_cons]
    have h1 : accM (frz frzD) st [i64 v] = some ([i64 v], st) := rfl
    simp only [h1, ih, Option.bind_some]
theorem app_ints (cl : Nat → List U → List Ob → Option (U × List Ob)) (e : Env) (st : List Ob) (i : Nat) (p : Bool) (h : List Int) (hh : h.length ≤ 1000) (s x : A) (hs : s.ev e = .own i 0) (hx : x.ev e = heapU p h) (hi : st[i]? = some (.row 2 1 false [])) (nid : Nat) :
    ev1 cl e st nid (.append 2 1 8 false s x) = some (.own i h.length, st.set i (.row 2 1 false (h.map fun v => [i64 v]))) := by
  have hall : ((h.map fun v => [i64 v]).all fun y => y.length == 1) = true := by
    rw [List.all_eq_true]
    intro y hy
    obtain ⟨b, _, rfl⟩ := List.mem_map.1 hy
    rfl
  have hlim : (0 + (h.map fun v => [i64 v]).length) * 8 ≤ 140737488355328 := by simp; omega
  rw [ev1, hx]
  simp only [heapU, elems, Option.bind_some]
  rw [if_pos hall, hs]
  simp only
  unfold appTo
  simp only [hi]
  rw [acc_ints]
  simp only [Option.bind_some]
  unfold appRow
  simp only [hi]
  rw [if_pos ⟨rfl, trivial, trivial, hlim⟩]
  simp only [Option.bind_some, List.length_map, List.nil_append, Nat.zero_add]
theorem stU_len {p : Bool} {s : Stt} (hL : s.L.length = 24) : (stU p s).length = 51 := by simp [stU, wds48 hL]
set_option maxHeartbeats 8000000 in
theorem own_call (p : Bool) (s : Stt) (hL : s.L.length = 24) (hh : s.h.length ≤ 1000) (st : List Ob) : Cl T n_step_own [.agg (stU p s)] st (.agg (stU true s)) st := by
  have hbr := brw_stt st p s
  refine Wp.pure (fn := c_step_own) rfl rfl rfl («as» := [.agg (stU p s)]) (by simp [hbr]) ?_
  obtain ⟨L, h, at_, asked⟩ := s
  simp only at hL hh
  have l48 := wds48 hL
  have dr := wds_drop hL
  have sp := wds_splice hL
  have tk := wds_takeMore hL
  simp only [stU]
  repeat' (first | apply Wp.seq | apply Wp.skip | apply Wp.block | (apply Wp.op0; ((simp [M2.keep]) <;> rfl)) | ((first | (apply Wp.pickT; (exact rfl); (first | exact rfl | assumption)) | (apply Wp.pickF; (exact rfl); (first | exact rfl | assumption))); ((simp) <;> exact rfl)) | ((first | apply Wp.op | apply Wp.opN); (apply Evt.all; intro; (simp [l48, dr]) <;> (try simp (disch := omega) only [wrap_id]) <;> first | exact ⟨rfl, rfl⟩ | exact rfl)) | (first | (apply Wp.ung; (exact rfl); (first | exact rfl | assumption)) | (apply Wp.opSt; (exact rfl); (first | exact rfl | assumption)) | (apply Wp.opSf; (exact rfl); (first | exact rfl | assumption))) | (apply Wp.opS0; (exact rfl)) | (first | (apply Wp.condT; (exact rfl); (first | exact rfl | assumption)) | (apply Wp.condF; (exact rfl); (first | exact rfl | assumption))) | ((first | apply Wp.grdT | apply Wp.grdF | apply Wp.cond); (exact rfl); (intro); rotate_left 1; (intro); rotate_right 1))
  refine Wp.op (Evt.all fun n => app_ints _ _ _ 2 p h hh _ _ rfl rfl rfl _) ?_
  repeat' (first | apply Wp.seq | apply Wp.skip | apply Wp.block | (apply Wp.op0; ((simp [M2.keep]) <;> rfl)) | ((first | (apply Wp.pickT; (exact rfl); (first | exact rfl | assumption)) | (apply Wp.pickF; (exact rfl); (first | exact rfl | assumption))); ((simp) <;> exact rfl)) | ((first | apply Wp.op | apply Wp.opN); (apply Evt.all; intro; (simp [l48, dr, sp, tk, over_full]) <;> (try simp (disch := omega) only [wrap_id]) <;> first | exact ⟨rfl, rfl⟩ | exact rfl)) | (first | (apply Wp.ung; (exact rfl); (first | exact rfl | assumption)) | (apply Wp.opSt; (exact rfl); (first | exact rfl | assumption)) | (apply Wp.opSf; (exact rfl); (first | exact rfl | assumption))) | (apply Wp.opS0; (exact rfl)) | (first | (apply Wp.condT; (exact rfl); (first | exact rfl | assumption)) | (apply Wp.condF; (exact rfl); (first | exact rfl | assumption))) | ((first | apply Wp.grdT | apply Wp.grdF | apply Wp.cond); (exact rfl); (intro); rotate_left 1; (intro); rotate_right 1))
  refine Wp.ret ?_
  have hf : ∀ (A B : Ob), accM (frz 11) [A, B, .row 2 1 false (h.map fun v => [i64 v])] [.own 2 h.length, i64 at_, i64 asked] = some ([.sl true (h.map fun v => [i64 v]), i64 at_, i64 asked], [A, B, .frow (h.map fun v => [i64 v])]) := fun A B => by
    have h1 : frz 11 [A, B, .row 2 1 false (h.map fun v => [i64 v])] (.own 2 h.length) = some (.sl true (h.map fun v => [i64 v]), [A, B, .frow (h.map fun v => [i64 v])]) := by
      show (if (h.map fun v => [i64 v]).length = h.length then some (U.sl true (h.map fun v => [i64 v]), [A, B, Ob.frow (h.map fun v => [i64 v])]) else none) = _
      rw [if_pos (by simp)]
    rw [accMS_cons, h1]
    rfl
  have hg := fun A B => accWds 10 _ _ _ _ (hf A B) L
  simp [Res, resU, res1, c_step_own, l48, tk, heapU, hg]
def okW (L : List Wd) : Bool := L.all fun w => w.1 || decide (w.2 = 0)
def sttF (l : List Ins) (s : Stt) : Bool := rightF l && decide (0 ≤ s.at_) && decide (s.at_ < l.length) && decide (s.h.length ≤ 16) && decide (0 ≤ s.asked) && okW s.L
end Go.Proofs.YtbmlnfceanfbmaaDoor.M2
/- What the functions answer in M2. Which states are right. -/
namespace Go.Proofs.YtbmlnfceanfbmaaDoor.M2
open Go
attribute [local simp] ev1 M2.get put A.ev ld sub part elems bin arith un opt idx fillC cellsO splice over newOb sto fillR laidOwn appTo appRow touch touchN touchM touchE touchA plainU flatU plainAs allM rowAt stoRow accM_nil accM_cons accMM_nil accMM_cons frz_int frz_bool frz_str frz_slt frz_nils frz_nilI frz_nilF frz_own frzRow_row frzRow_frow Ob.blw blw_bool blw_int blw_str blw_nils blw_nilI blw_nilF blw_nilp blw_nilm blw_sl blw_own blw_bp blw_rp blw_mp blw_it params
attribute [local simp] frz_agg frz_tup frz_iface frzS_agg frzS_iface accMS_cons frzS_int frzS_bool frzS_str frzS_slt frzS_nils frzS_nilI beq_dec bne_dec
theorem stU_blw (n : Nat) (p : Bool) (s : Stt) : Ob.blw n (.box (stU p s)) = true := by
  show (stU p s).all (blw blwD n) = true
  rw [stU, List.all_append, wds_blw]
  rfl
/-! Which words are right. -/
theorem okW_cons (w : Wd) (L : List Wd) : okW (w :: L) = ((w.1 || decide (w.2 = 0)) && okW L) := rfl
theorem okW_drop {L : List Wd} {i : Nat} (hi : i < L.length) : okW (L.drop i) = ((L[i].1 || decide (L[i].2 = 0)) && okW (L.drop (i + 1))) := by
  rw [List.drop_eq_getElem_cons hi]
  rfl
end Go.Proofs.YtbmlnfceanfbmaaDoor.M2
/- What the functions answer in M2. A step that only moves: which states are right; what is done. -/
namespace Go.Proofs.YtbmlnfceanfbmaaDoor.M2
open Go
attribute [local simp] ev1 M2.get put A.ev ld sub part elems bin arith un opt idx fillC cellsO splice over newOb sto fillR laidOwn appTo appRow touch touchN touchM touchE touchA plainU flatU plainAs allM rowAt stoRow accM_nil accM_cons accMM_nil accMM_cons frz_int frz_bool frz_str frz_slt frz_nils frz_nilI frz_nilF frz_own frzRow_row frzRow_frow Ob.blw blw_bool blw_int blw_str blw_nils blw_nilI blw_nilF blw_nilp blw_nilm blw_sl blw_own blw_bp blw_rp blw_mp blw_it params
attribute [local simp] frz_agg frz_tup frz_iface frzS_agg frzS_iface accMS_cons frzS_int frzS_bool frzS_str frzS_slt frzS_nils frzS_nilI beq_dec bne_dec
abbrev Z24 : List Wd := List.replicate 24 (false, 0)
theorem wds_get' (L : List Wd) (d : Nat) (h : d < L.length) : ((wdsU L).drop (d * 2)).take 2 = [.bool L[d].1, i64 L[d].2] := by
  have := wds_get L d h []
  simpa using this
def srS (s : Stt) (p : Bool) (i : Nat) : S := ⟨[(34, .agg (wdsU s.L)), (35, i64 i)], [.box (stU p s)]⟩
set_option maxHeartbeats 8000000 in
theorem sr_loop (p : Bool) (s : Stt) (hL : s.L.length = 24) : Wp T (.loop c_step_Right_L0) (srS s p 0) (fun _ => False) (fun s' => okW s.L = false ∧ Res c_step_Right (.bool false) s')
    (fun b s' => b = 0 ∧ okW s.L = true ∧ s' = ⟨[(34, .agg (wdsU s.L)), (35, i64 24), (36, .bool false)], [.box (stU p s)]⟩) := by
  have l48 := wds48 hL
  refine Wp.count 24 (fun i => srS s p i) (fun i => okW s.L = okW (s.L.drop i)) (fun i hi hP => ?_) (fun hP => ?_) 0 (by omega) rfl
  · have hi' : (i : Int) < 24 := by omega
    have hiL : i < s.L.length := by omega
    have hle : i * 2 ≤ 46 := by omega
    have g2 := wds_get' s.L i hiL
    rw [okW_drop hiL] at hP
    have hbl := stU_blw 1 p s
    generalize s.L[i] = x at *
    obtain ⟨b, v⟩ := x
    simp only at g2 hP
    have htr : ∀ (e : Env) (o : Ob), e.all (fun q => blw blwD 1 q.2) = true → trimO 1 ⟨e, [.box (stU p s), o]⟩ = ⟨e, [.box (stU p s)]⟩ := fun e o he => trim_list (st := [.box (stU p s)]) (l := [o]) he (by show (Ob.blw 1 _ && true) = true; rw [hbl]; rfl)
    simp only [srS]
    generalize stU p s = BX at *
    repeat (first | apply Wp.seq | apply Wp.skip | apply Wp.block | (apply Wp.op0; ((simp [M2.keep]) <;> rfl)) | ((first | apply Wp.op | apply Wp.opN | (apply Wp.opG; exact rfl)); (apply Evt.all; intro; (simp [hi']) <;> (try simp (disch := omega) only [wrap_id]) <;> first | exact ⟨rfl, rfl⟩ | exact rfl)) | (apply Wp.opS; exact rfl; decide) | (apply Wp.opS0; exact rfl))
    refine Wp.cond (by first | rfl | (simp; rfl)) (fun h1 => ?_) (fun h1 => ?_)
    · cases b with
      | true =>
        repeat' (first | apply Wp.seq | apply Wp.skip | apply Wp.block | (apply Wp.op0; ((simp [M2.keep]) <;> rfl)) | ((first | (apply Wp.pickT; (exact rfl); (first | exact rfl | assumption)) | (apply Wp.pickF; (exact rfl); (first | exact rfl | assumption))); ((simp) <;> exact rfl)) | ((first | apply Wp.op | apply Wp.opN); (apply Evt.all; intro; (simp [l48, hi', g2, hle]) <;> (try simp (disch := omega) only [wrap_id]) <;> first | exact ⟨rfl, rfl⟩ | exact rfl)) | (first | (apply Wp.ung; (exact rfl); (first | exact rfl | assumption)) | (apply Wp.opSt; (exact rfl); (first | exact rfl | assumption)) | (apply Wp.opSf; (exact rfl); (first | exact rfl | assumption))) | (apply Wp.opS0; (exact rfl)) | (first | (apply Wp.condT; (exact rfl); (first | exact rfl | assumption)) | (apply Wp.condF; (exact rfl); (first | exact rfl | assumption))) | ((first | apply Wp.grdT | apply Wp.grdF | apply Wp.cond); (exact rfl); (intro); rotate_left 1; (intro); rotate_right 1))
        repeat (first | apply Wp.seq | apply Wp.skip | apply Wp.block | (apply Wp.op0; ((simp [M2.keep]) <;> rfl)) | ((first | apply Wp.op | apply Wp.opN | (apply Wp.opG; exact rfl)); (apply Evt.all; intro; (simp [wrap_id]) <;> (try simp (disch := omega) only [wrap_id]) <;> first | exact ⟨rfl, rfl⟩ | exact rfl)) | (apply Wp.opS; exact rfl; decide) | (apply Wp.opS0; exact rfl))
        refine ⟨htr _ _ ?_, ?_⟩
        · simp [wds_blw1]
        · simpa using hP
      | false =>
        by_cases hv : v = 0
        · have dv : decide (v = 0) = true := decide_eq_true hv
          have dn : (!decide (v = 0)) = false := by rw [dv]; rfl
          repeat' (first | apply Wp.seq | apply Wp.skip | apply Wp.block | (apply Wp.op0; ((simp [M2.keep]) <;> rfl)) | ((first | (apply Wp.pickT; (exact rfl); (first | exact rfl | assumption)) | (apply Wp.pickF; (exact rfl); (first | exact rfl | assumption))); ((simp) <;> exact rfl)) | ((first | apply Wp.op | apply Wp.opN); (apply Evt.all; intro; (simp [l48, hi', g2, hle]) <;> (try simp (disch := omega) only [wrap_id]) <;> first | exact ⟨rfl, rfl⟩ | exact rfl)) | (first | (apply Wp.ung; (exact rfl); (first | exact rfl | assumption)) | (apply Wp.opSt; (exact rfl); (first | exact rfl | assumption)) | (apply Wp.opSf; (exact rfl); (first | exact rfl | assumption))) | (apply Wp.opS0; (exact rfl)) | (first | (apply Wp.condT; (exact rfl); (first | exact rfl | assumption)) | (apply Wp.condF; (exact rfl); (first | exact rfl | assumption))) | ((first | apply Wp.grdT | apply Wp.grdF | apply Wp.cond); (exact rfl); (intro); rotate_left 1; (intro); rotate_right 1))
          repeat (first | apply Wp.seq | apply Wp.skip | apply Wp.block | (apply Wp.op0; ((simp [M2.keep]) <;> rfl)) | ((first | apply Wp.op | apply Wp.opN | (apply Wp.opG; exact rfl)); (apply Evt.all; intro; (simp [wrap_id]) <;> (try simp (disch := omega) only [wrap_id]) <;> first | exact ⟨rfl, rfl⟩ | exact rfl)) | (apply Wp.opS; exact rfl; decide) | (apply Wp.opS0; exact rfl))
          refine ⟨htr _ _ ?_, ?_⟩
          · simp [wds_blw1]
          · rw [dv] at hP
            simpa using hP
        · have dv : decide (v = 0) = false := decide_eq_false hv
          have dn : (!decide (v = 0)) = true := by rw [dv]; rfl
          repeat' (first | apply Wp.seq | apply Wp.skip | apply Wp.block | (apply Wp.op0; ((simp [M2.keep]) <;> rfl)) | ((first | (apply Wp.pickT; (exact rfl); (first | exact rfl | assumption)) | (apply Wp.pickF; (exact rfl); (first | exact rfl | assumption))); ((simp) <;> exact rfl)) | ((first | apply Wp.op | apply Wp.opN); (apply Evt.all; intro; (simp [l48, hi', g2, hle]) <;> (try simp (disch := omega) only [wrap_id]) <;> first | exact ⟨rfl, rfl⟩ | exact rfl)) | (first | (apply Wp.ung; (exact rfl); (first | exact rfl | assumption)) | (apply Wp.opSt; (exact rfl); (first | exact rfl | assumption)) | (apply Wp.opSf; (exact rfl); (first | exact rfl | assumption))) | (apply Wp.opS0; (exact rfl)) | (first | (apply Wp.condT; (exact rfl); (first | exact rfl | assumption)) | (apply Wp.condF; (exact rfl); (first | exact rfl | assumption))) | ((first | apply Wp.grdT | apply Wp.grdF | apply Wp.cond); (exact rfl); (intro); rotate_left 1; (intro); rotate_right 1))
          refine Wp.ret ⟨?_, ?_⟩
          · rw [hP, dv]; rfl
          · simp [Res, resU, res1, c_step_Right]
    · cases h1
  · simp only [srS]
    repeat (first | apply Wp.seq | apply Wp.skip | apply Wp.block | (apply Wp.op0; ((simp [M2.keep]) <;> rfl)) | ((first | apply Wp.op | apply Wp.opN | (apply Wp.opG; exact rfl)); (apply Evt.all; intro; (simp []) <;> (try simp (disch := omega) only [wrap_id]) <;> first | exact ⟨rfl, rfl⟩ | exact rfl)) | (apply Wp.opS; exact rfl; decide) | (apply Wp.opS0; exact rfl))
    refine Wp.cond (by first | rfl | (simp; rfl)) (fun h1 => ?_) (fun h1 => ?_)
    · simp at h1
    · refine Wp.exit ⟨rfl, ?_, rfl⟩
      rw [hP, List.drop_eq_nil_of_le (by omega)]
      rfl
set_option maxHeartbeats 8000000 in
theorem stepRight_call (q p : Bool) (l : List Ins) (s : Stt) (hL : s.L.length = 24) (st : List Ob) : Cl T n_step_Right [insL q l, .agg (stU p s)] st (.bool (sttF l s)) st := by
  have hbr := brw_stt st p s
  refine Wp.pure (fn := c_step_Right) rfl rfl rfl («as» := [insL q l, .agg (stU p s)]) (by simp [hbr, insL]; rfl) ?_
  have hri := fun st => asmRight_call q l st (insL q l) rfl
  have hhr := heapRight_call p s.h
  have hlp := sr_loop p s hL
  have l48 := wds48 hL
  have dr := wds_drop hL
  have tk := wds_take hL
  obtain ⟨L, h, at_, asked⟩ := s
  simp only at *
  by_cases c0 : rightF l = false
  · have e1 : rightF l = false := c0
    have hs : sttF l ⟨L, h, at_, asked⟩ = false := by simp [sttF, e1]
    rw [e1] at hri
    rw [hs]
    repeat' (first | apply Wp.seq | apply Wp.skip | apply Wp.block | (apply Wp.op0; ((simp [M2.keep]) <;> rfl)) | ((first | (apply Wp.pickT; (exact rfl); (first | exact rfl | assumption)) | (apply Wp.pickF; (exact rfl); (first | exact rfl | assumption))); ((simp) <;> exact rfl)) | ((first | apply Wp.op | apply Wp.opN); (apply Evt.all; intro; (simp [stU, l48, dr]) <;> (try simp (disch := omega) only [wrap_id]) <;> first | exact ⟨rfl, rfl⟩ | exact rfl)) | (apply Wp.call; exact hri _) | (first | (apply Wp.ung; (exact rfl); (first | exact rfl | assumption)) | (apply Wp.opSt; (exact rfl); (first | exact rfl | assumption)) | (apply Wp.opSf; (exact rfl); (first | exact rfl | assumption))) | (apply Wp.opS0; (exact rfl)) | (first | (apply Wp.condT; (exact rfl); (first | exact rfl | assumption)) | (apply Wp.condF; (exact rfl); (first | exact rfl | assumption))) | ((first | apply Wp.grdT | apply Wp.grdF | apply Wp.cond); (exact rfl); (intro); rotate_left 1; (intro); rotate_right 1))
    refine Wp.ret ?_
    simp [Res, resU, res1, c_step_Right]
  have c1 : rightF l = true := by simpa using c0
  rw [c1] at hri
  by_cases c2 : at_ < 0
  · have d2 : decide (at_ < 0) = true := decide_eq_true c2
    have hs : sttF l ⟨L, h, at_, asked⟩ = false := by simp [sttF]; omega
    rw [hs]
    repeat' (first | apply Wp.seq | apply Wp.skip | apply Wp.block | (apply Wp.op0; ((simp [M2.keep]) <;> rfl)) | ((first | (apply Wp.pickT; (exact rfl); (first | exact rfl | assumption)) | (apply Wp.pickF; (exact rfl); (first | exact rfl | assumption))); ((simp) <;> exact rfl)) | ((first | apply Wp.op | apply Wp.opN); (apply Evt.all; intro; (simp [stU, l48, dr]) <;> (try simp (disch := omega) only [wrap_id]) <;> first | exact ⟨rfl, rfl⟩ | exact rfl)) | (apply Wp.call; exact hri _) | (first | (apply Wp.ung; (exact rfl); (first | exact rfl | assumption)) | (apply Wp.opSt; (exact rfl); (first | exact rfl | assumption)) | (apply Wp.opSf; (exact rfl); (first | exact rfl | assumption))) | (apply Wp.opS0; (exact rfl)) | (first | (apply Wp.condT; (exact rfl); (first | exact rfl | assumption)) | (apply Wp.condF; (exact rfl); (first | exact rfl | assumption))) | ((first | apply Wp.grdT | apply Wp.grdF | apply Wp.cond); (exact rfl); (intro); rotate_left 1; (intro); rotate_right 1))
    refine Wp.ret ?_
    simp [Res, resU, res1, c_step_Right]
  have d2 : decide (at_ < 0) = false := decide_eq_false c2
  by_cases c3 : (l.length : Int) ≤ at_
  · have d3 : decide ((l.length : Int) ≤ at_) = true := decide_eq_true c3
    have hs : sttF l ⟨L, h, at_, asked⟩ = false := by simp [sttF]; omega
    rw [hs]
    repeat' (first | apply Wp.seq | apply Wp.skip | apply Wp.block | (apply Wp.op0; ((simp [M2.keep]) <;> rfl)) | ((first | (apply Wp.pickT; (exact rfl); (first | exact rfl | assumption)) | (apply Wp.pickF; (exact rfl); (first | exact rfl | assumption))); ((simp) <;> exact rfl)) | ((first | apply Wp.op | apply Wp.opN); (apply Evt.all; intro; (simp [stU, l48, dr, insL]) <;> (try simp (disch := omega) only [wrap_id]) <;> first | exact ⟨rfl, rfl⟩ | exact rfl)) | (apply Wp.call; exact hri _) | (first | (apply Wp.ung; (exact rfl); (first | exact rfl | assumption)) | (apply Wp.opSt; (exact rfl); (first | exact rfl | assumption)) | (apply Wp.opSf; (exact rfl); (first | exact rfl | assumption))) | (apply Wp.opS0; (exact rfl)) | (first | (apply Wp.condT; (exact rfl); (first | exact rfl | assumption)) | (apply Wp.condF; (exact rfl); (first | exact rfl | assumption))) | ((first | apply Wp.grdT | apply Wp.grdF | apply Wp.cond); (exact rfl); (intro); rotate_left 1; (intro); rotate_right 1))
    refine Wp.ret ?_
    simp [Res, resU, res1, c_step_Right]
  have d3 : decide ((l.length : Int) ≤ at_) = false := decide_eq_false c3
  by_cases c40 : ¬ h.length ≤ 16
  · have c4 := c40
    have d4 : decide (h.length ≤ 16) = false := decide_eq_false c4
    have hs : sttF l ⟨L, h, at_, asked⟩ = false := by simp [sttF, c4]
    rw [d4] at hhr
    rw [hs]
    repeat' (first | apply Wp.seq | apply Wp.skip | apply Wp.block | (apply Wp.op0; ((simp [M2.keep]) <;> rfl)) | ((first | (apply Wp.pickT; (exact rfl); (first | exact rfl | assumption)) | (apply Wp.pickF; (exact rfl); (first | exact rfl | assumption))); ((simp) <;> exact rfl)) | ((first | apply Wp.op | apply Wp.opN); (apply Evt.all; intro; (simp [stU, l48, dr, insL]) <;> (try simp (disch := omega) only [wrap_id]) <;> first | exact ⟨rfl, rfl⟩ | exact rfl)) | (apply Wp.call; exact hri _) | (apply Wp.call; exact hhr _) | (first | (apply Wp.ung; (exact rfl); (first | exact rfl | assumption)) | (apply Wp.opSt; (exact rfl); (first | exact rfl | assumption)) | (apply Wp.opSf; (exact rfl); (first | exact rfl | assumption))) | (apply Wp.opS0; (exact rfl)) | (first | (apply Wp.condT; (exact rfl); (first | exact rfl | assumption)) | (apply Wp.condF; (exact rfl); (first | exact rfl | assumption))) | ((first | apply Wp.grdT | apply Wp.grdF | apply Wp.cond); (exact rfl); (intro); rotate_left 1; (intro); rotate_right 1))
    refine Wp.ret ?_
    simp [Res, resU, res1, c_step_Right]
  have c4 : h.length ≤ 16 := by omega
  have d4 : decide (h.length ≤ 16) = true := decide_eq_true c4
  rw [d4] at hhr
  by_cases c5 : asked < 0
  · have d5 : decide (asked < 0) = true := decide_eq_true c5
    have hs : sttF l ⟨L, h, at_, asked⟩ = false := by simp [sttF]; omega
    rw [hs]
    repeat' (first | apply Wp.seq | apply Wp.skip | apply Wp.block | (apply Wp.op0; ((simp [M2.keep]) <;> rfl)) | ((first | (apply Wp.pickT; (exact rfl); (first | exact rfl | assumption)) | (apply Wp.pickF; (exact rfl); (first | exact rfl | assumption))); ((simp) <;> exact rfl)) | ((first | apply Wp.op | apply Wp.opN); (apply Evt.all; intro; (simp [stU, l48, dr, insL]) <;> (try simp (disch := omega) only [wrap_id]) <;> first | exact ⟨rfl, rfl⟩ | exact rfl)) | (apply Wp.call; exact hri _) | (apply Wp.call; exact hhr _) | (first | (apply Wp.ung; (exact rfl); (first | exact rfl | assumption)) | (apply Wp.opSt; (exact rfl); (first | exact rfl | assumption)) | (apply Wp.opSf; (exact rfl); (first | exact rfl | assumption))) | (apply Wp.opS0; (exact rfl)) | (first | (apply Wp.condT; (exact rfl); (first | exact rfl | assumption)) | (apply Wp.condF; (exact rfl); (first | exact rfl | assumption))) | ((first | apply Wp.grdT | apply Wp.grdF | apply Wp.cond); (exact rfl); (intro); rotate_left 1; (intro); rotate_right 1))
    refine Wp.ret ?_
    simp [Res, resU, res1, c_step_Right]
  have d5 : decide (asked < 0) = false := decide_eq_false c5
  have hs : sttF l ⟨L, h, at_, asked⟩ = okW L := by
    have e1 : decide (0 ≤ at_) = true := decide_eq_true (by omega)
    have e2 : decide (at_ < l.length) = true := decide_eq_true (by omega)
    have e4 : decide (0 ≤ asked) = true := decide_eq_true (by omega)
    unfold sttF
    rw [c1, e1, e2, d4, e4]
    rfl
  rw [hs]
  repeat' (first | apply Wp.seq | apply Wp.skip | apply Wp.block | (apply Wp.op0; ((simp [M2.keep]) <;> rfl)) | ((first | (apply Wp.pickT; (exact rfl); (first | exact rfl | assumption)) | (apply Wp.pickF; (exact rfl); (first | exact rfl | assumption))); ((simp) <;> exact rfl)) | ((first | apply Wp.op | apply Wp.opN); (apply Evt.all; intro; (simp [stU, l48, dr, insL, tk]) <;> (try simp (disch := omega) only [wrap_id]) <;> first | exact ⟨rfl, rfl⟩ | exact rfl)) | (apply Wp.call; exact hri _) | (apply Wp.call; exact hhr _) | (first | (apply Wp.ung; (exact rfl); (first | exact rfl | assumption)) | (apply Wp.opSt; (exact rfl); (first | exact rfl | assumption)) | (apply Wp.opSf; (exact rfl); (first | exact rfl | assumption))) | (apply Wp.opS0; (exact rfl)) | (first | (apply Wp.condT; (exact rfl); (first | exact rfl | assumption)) | (apply Wp.condF; (exact rfl); (first | exact rfl | assumption))) | ((first | apply Wp.grdT | apply Wp.grdF | apply Wp.cond); (exact rfl); (intro); rotate_left 1; (intro); rotate_right 1))
  refine (show Wp T (.loop c_step_Right_L0) (srS ⟨L, h, at_, asked⟩ p 0) _ _ _ from hlp.imp (fun _ h => h.elim) ?_ ?_)
  · rintro s ⟨e, hR⟩
    rw [e]
    exact hR
  · rintro b s ⟨rfl, e, rfl⟩
    rw [if_pos rfl, e]
    repeat (first | apply Wp.seq | apply Wp.skip | apply Wp.block | (apply Wp.op0; ((simp [M2.keep]) <;> rfl)) | ((first | apply Wp.op | apply Wp.opN | (apply Wp.opG; exact rfl)); (apply Evt.all; intro; (simp []) <;> (try simp (disch := omega) only [wrap_id]) <;> first | exact ⟨rfl, rfl⟩ | exact rfl)) | (apply Wp.opS; exact rfl; decide) | (apply Wp.opS0; exact rfl))
    refine Wp.ret ?_
    simp [Res, resU, res1, c_step_Right]
theorem pf69 : pfT T n_step_work_number = true := rfl
set_option maxHeartbeats 8000000 in
theorem uses_moves (x : Ins) (hm : movesF x = true) (st : List Ob) : Cl T n_ins_Uses [.agg (insU x)] st (.sl true []) st := by
  refine Wp.pure (fn := c_ins_Uses) rfl rfl rfl («as» := [.agg (insU x)]) rfl ?_
  have hof := of_call x.op
  have hmv := moves_call x
  rw [hm] at hmv
  have hop : x.op = 1 ∨ x.op = 2 ∨ x.op = 3 ∨ x.op = 16 := by simp [movesF] at hm; omega
  obtain ⟨op, d, a, b, n, to⟩ := x
  simp only [insU] at *
  rcases hop with rfl | rfl | rfl | rfl
  all_goals
    simp [shapeU, gl_1] at hof
    repeat' (first | apply Wp.seq | apply Wp.skip | apply Wp.block | (apply Wp.op0; ((simp [M2.keep]) <;> rfl)) | ((first | (apply Wp.pickT; (exact rfl); (first | exact rfl | assumption)) | (apply Wp.pickF; (exact rfl); (first | exact rfl | assumption))); ((simp) <;> exact rfl)) | ((first | apply Wp.op | apply Wp.opN); (apply Evt.all; intro; (simp [over_full]) <;> (try simp (disch := omega) only [wrap_id]) <;> first | exact ⟨rfl, rfl⟩ | exact rfl)) | (apply Wp.call; exact hof _) | (apply Wp.call; exact hmv _) | (first | (apply Wp.ung; (exact rfl); (first | exact rfl | assumption)) | (apply Wp.opSt; (exact rfl); (first | exact rfl | assumption)) | (apply Wp.opSf; (exact rfl); (first | exact rfl | assumption))) | (apply Wp.opS0; (exact rfl)) | (first | (apply Wp.condT; (exact rfl); (first | exact rfl | assumption)) | (apply Wp.condF; (exact rfl); (first | exact rfl | assumption))) | ((first | apply Wp.grdT | apply Wp.grdF | apply Wp.cond); (exact rfl); (intro); rotate_left 1; (intro); rotate_right 1))
    refine Wp.ret ?_
    simp [Res, resU, res1, c_ins_Uses]
def nextI (x : Ins) (at_ : Int) : Int := if x.op = 16 then x.to else at_ + 1
def doneF (s : Stt) (x : Ins) : Stt := ⟨moveF s.L x, s.h, nextI x s.at_, s.asked⟩
set_option maxHeartbeats 8000000 in
theorem do_moves (q : Bool) (o1 o2 o3 : Ob) (s : Stt) (x : Ins) (K : List (List U)) (hL : s.L.length = 24) (hm : movesF x = true) (hd : locF 24 x.d = true) (ha : locF 24 x.a = true) (hb : x.b = 0) (hat : 0 ≤ s.at_ ∧ s.at_ ≤ 1000) :
    Cl T n_step_work_do [.bp 3 0] [o1, o2, o3, .box (workU ⟨s, x, .sl q K, .nils, 0, 0⟩)] (.tup []) [o1, o2, o3, .box (workU ⟨doneF s x, x, .sl q K, .nils, 0, 0⟩)] := by
  refine Wp.impure (fn := c_step_work_do) rfl rfl rfl ?_
  have hmv := moves_call x
  rw [hm] at hmv
  have hmove := move_call o1 o2 o3 ⟨s, x, .sl q K, .nils, 0, 0⟩ hL hd ha
  have hnum := fun D hD => number_call q o1 o2 o3 s x K 0 0 hL D hD
  have hL2 : (moveF s.L x).length = 24 := by rw [moveF_len]; exact hL
  have hop : x.op = 1 ∨ x.op = 2 ∨ x.op = 3 ∨ x.op = 16 := by simp [movesF] at hm; omega
  obtain ⟨L, h, at_, asked⟩ := s
  obtain ⟨op, d, a, b, n, to⟩ := x
  simp only at *
  subst hb
  simp only [locF, Bool.and_eq_true, decide_eq_true_eq] at hd ha
  obtain ⟨A, rfl⟩ := Int.eq_ofNat_of_zero_le ha.1
  have hA := hnum A (by omega)
  have wplain := wds_plain L
  have h0 := hnum 0 (by omega)
  have l48 := wds48 hL
  have l48' := wds48 hL2
  have dr := wds_drop hL
  have dr2 := wds_drop hL2
  have sp := wds_splice hL
  have sp2 := wds_splice hL2
  have tk := wds_takeMore hL
  simp only [doneF, workU, insU] at hA h0 hmv hmove ⊢
  generalize (L.getD A (false, 0)).2 = va at *
  generalize (L.getD 0 (false, 0)).2 = vb at *
  rcases hop with rfl | rfl | rfl | rfl
  · simp only [nextI, show ¬ ((1 : Int) = 16) by decide, if_false]
    repeat (first | apply Wp.seq | apply Wp.skip | apply Wp.block | (apply Wp.op0; ((simp [M2.keep]) <;> rfl)) | ((first | apply Wp.op | apply Wp.opN | (apply Wp.opG; exact rfl)); (apply Evt.all; intro; (simp []) <;> (try simp (disch := omega) only [wrap_id]) <;> first | exact ⟨rfl, rfl⟩ | exact rfl)) | (apply Wp.opS; exact rfl; decide) | (apply Wp.opS0; exact rfl))
    refine Wp.draw (by (simp [c_step_work_do_D0, I.need]) <;> rfl) (by (simp [l48, dr, pf69, wplain]) <;> rfl) (by (simp [l48, dr, pf69, wplain]) <;> rfl) (by (unfold c_step_work_do_D0); (repeat (first | ((first | apply Dr.op | apply Dr.opN | (apply Dr.opG; exact rfl)); ((simp [l48, dr, pf69, wplain]) <;> rfl); (apply Evt.all; intro; (simp [l48, dr, pf69, wplain]) <;> (try simp (disch := omega) only [wrap_id]) <;> first | exact ⟨rfl, rfl⟩ | exact rfl); ((simp [I.need]) <;> rfl)) | ((first | (apply Dr.opS; exact rfl; decide) | (apply Dr.opS0; exact rfl)); ((simp [I.need]) <;> rfl)) | (apply Dr.call; ((simp [l48, dr, pf69, wplain]) <;> rfl); exact hA) | (apply Dr.callG; (exact rfl); ((simp [l48, dr, pf69, wplain]) <;> rfl); exact hA) | (apply Dr.call; ((simp [l48, dr, pf69, wplain]) <;> rfl); exact h0) | (apply Dr.callG; (exact rfl); ((simp [l48, dr, pf69, wplain]) <;> rfl); exact h0))); exact Dr.nil) (by first | decide +kernel | exact rfl) (by (simp [M2.keep]) <;> rfl) ?_
    repeat' (first | apply Wp.seq | apply Wp.skip | apply Wp.block | (apply Wp.op0; ((simp [M2.keep]) <;> rfl)) | ((first | (apply Wp.pickT; (exact rfl); (first | exact rfl | assumption)) | (apply Wp.pickF; (exact rfl); (first | exact rfl | assumption))); ((simp) <;> exact rfl)) | ((first | apply Wp.op | apply Wp.opN); (apply Evt.all; intro; (simp [l48, dr, l48', dr2, sp2, wrap_id]) <;> (try simp (disch := omega) only [wrap_id]) <;> first | exact ⟨rfl, rfl⟩ | exact rfl)) | (apply Wp.call; exact hmv _) | (apply Wp.call; exact hmove) | (apply Wp.exit; repeat (first | rw [if_pos rfl] | rw [if_neg (by decide)])) | (first | (apply Wp.ung; (exact rfl); (first | exact rfl | assumption)) | (apply Wp.opSt; (exact rfl); (first | exact rfl | assumption)) | (apply Wp.opSf; (exact rfl); (first | exact rfl | assumption))) | (apply Wp.opS0; (exact rfl)) | (first | (apply Wp.condT; (exact rfl); (first | exact rfl | assumption)) | (apply Wp.condF; (exact rfl); (first | exact rfl | assumption))) | ((first | apply Wp.grdT | apply Wp.grdF | apply Wp.cond); (exact rfl); (intro); rotate_left 1; (intro); rotate_right 1))
    exact ⟨rfl, congrArg S.st (trimO_len rfl)⟩
  · simp only [nextI, show ¬ ((2 : Int) = 16) by decide, if_false]
    repeat (first | apply Wp.seq | apply Wp.skip | apply Wp.block | (apply Wp.op0; ((simp [M2.keep]) <;> rfl)) | ((first | apply Wp.op | apply Wp.opN | (apply Wp.opG; exact rfl)); (apply Evt.all; intro; (simp []) <;> (try simp (disch := omega) only [wrap_id]) <;> first | exact ⟨rfl, rfl⟩ | exact rfl)) | (apply Wp.opS; exact rfl; decide) | (apply Wp.opS0; exact rfl))
    refine Wp.draw (by (simp [c_step_work_do_D0, I.need]) <;> rfl) (by (simp [l48, dr, pf69, wplain]) <;> rfl) (by (simp [l48, dr, pf69, wplain]) <;> rfl) (by (unfold c_step_work_do_D0); (repeat (first | ((first | apply Dr.op | apply Dr.opN | (apply Dr.opG; exact rfl)); ((simp [l48, dr, pf69, wplain]) <;> rfl); (apply Evt.all; intro; (simp [l48, dr, pf69, wplain]) <;> (try simp (disch := omega) only [wrap_id]) <;> first | exact ⟨rfl, rfl⟩ | exact rfl); ((simp [I.need]) <;> rfl)) | ((first | (apply Dr.opS; exact rfl; decide) | (apply Dr.opS0; exact rfl)); ((simp [I.need]) <;> rfl)) | (apply Dr.call; ((simp [l48, dr, pf69, wplain]) <;> rfl); exact hA) | (apply Dr.callG; (exact rfl); ((simp [l48, dr, pf69, wplain]) <;> rfl); exact hA) | (apply Dr.call; ((simp [l48, dr, pf69, wplain]) <;> rfl); exact h0) | (apply Dr.callG; (exact rfl); ((simp [l48, dr, pf69, wplain]) <;> rfl); exact h0))); exact Dr.nil) (by first | decide +kernel | exact rfl) (by (simp [M2.keep]) <;> rfl) ?_
    repeat' (first | apply Wp.seq | apply Wp.skip | apply Wp.block | (apply Wp.op0; ((simp [M2.keep]) <;> rfl)) | ((first | (apply Wp.pickT; (exact rfl); (first | exact rfl | assumption)) | (apply Wp.pickF; (exact rfl); (first | exact rfl | assumption))); ((simp) <;> exact rfl)) | ((first | apply Wp.op | apply Wp.opN); (apply Evt.all; intro; (simp [l48, dr, l48', dr2, sp2, wrap_id]) <;> (try simp (disch := omega) only [wrap_id]) <;> first | exact ⟨rfl, rfl⟩ | exact rfl)) | (apply Wp.call; exact hmv _) | (apply Wp.call; exact hmove) | (apply Wp.exit; repeat (first | rw [if_pos rfl] | rw [if_neg (by decide)])) | (first | (apply Wp.ung; (exact rfl); (first | exact rfl | assumption)) | (apply Wp.opSt; (exact rfl); (first | exact rfl | assumption)) | (apply Wp.opSf; (exact rfl); (first | exact rfl | assumption))) | (apply Wp.opS0; (exact rfl)) | (first | (apply Wp.condT; (exact rfl); (first | exact rfl | assumption)) | (apply Wp.condF; (exact rfl); (first | exact rfl | assumption))) | ((first | apply Wp.grdT | apply Wp.grdF | apply Wp.cond); (exact rfl); (intro); rotate_left 1; (intro); rotate_right 1))
    exact ⟨rfl, congrArg S.st (trimO_len rfl)⟩
  · simp only [nextI, show ¬ ((3 : Int) = 16) by decide, if_false]
    repeat (first | apply Wp.seq | apply Wp.skip | apply Wp.block | (apply Wp.op0; ((simp [M2.keep]) <;> rfl)) | ((first | apply Wp.op | apply Wp.opN | (apply Wp.opG; exact rfl)); (apply Evt.all; intro; (simp []) <;> (try simp (disch := omega) only [wrap_id]) <;> first | exact ⟨rfl, rfl⟩ | exact rfl)) | (apply Wp.opS; exact rfl; decide) | (apply Wp.opS0; exact rfl))
    refine Wp.draw (by (simp [c_step_work_do_D0, I.need]) <;> rfl) (by (simp [l48, dr, pf69, wplain]) <;> rfl) (by (simp [l48, dr, pf69, wplain]) <;> rfl) (by (unfold c_step_work_do_D0); (repeat (first | ((first | apply Dr.op | apply Dr.opN | (apply Dr.opG; exact rfl)); ((simp [l48, dr, pf69, wplain]) <;> rfl); (apply Evt.all; intro; (simp [l48, dr, pf69, wplain]) <;> (try simp (disch := omega) only [wrap_id]) <;> first | exact ⟨rfl, rfl⟩ | exact rfl); ((simp [I.need]) <;> rfl)) | ((first | (apply Dr.opS; exact rfl; decide) | (apply Dr.opS0; exact rfl)); ((simp [I.need]) <;> rfl)) | (apply Dr.call; ((simp [l48, dr, pf69, wplain]) <;> rfl); exact hA) | (apply Dr.callG; (exact rfl); ((simp [l48, dr, pf69, wplain]) <;> rfl); exact hA) | (apply Dr.call; ((simp [l48, dr, pf69, wplain]) <;> rfl); exact h0) | (apply Dr.callG; (exact rfl); ((simp [l48, dr, pf69, wplain]) <;> rfl); exact h0))); exact Dr.nil) (by first | decide +kernel | exact rfl) (by (simp [M2.keep]) <;> rfl) ?_
    repeat' (first | apply Wp.seq | apply Wp.skip | apply Wp.block | (apply Wp.op0; ((simp [M2.keep]) <;> rfl)) | ((first | (apply Wp.pickT; (exact rfl); (first | exact rfl | assumption)) | (apply Wp.pickF; (exact rfl); (first | exact rfl | assumption))); ((simp) <;> exact rfl)) | ((first | apply Wp.op | apply Wp.opN); (apply Evt.all; intro; (simp [l48, dr, l48', dr2, sp2, wrap_id]) <;> (try simp (disch := omega) only [wrap_id]) <;> first | exact ⟨rfl, rfl⟩ | exact rfl)) | (apply Wp.call; exact hmv _) | (apply Wp.call; exact hmove) | (apply Wp.exit; repeat (first | rw [if_pos rfl] | rw [if_neg (by decide)])) | (first | (apply Wp.ung; (exact rfl); (first | exact rfl | assumption)) | (apply Wp.opSt; (exact rfl); (first | exact rfl | assumption)) | (apply Wp.opSf; (exact rfl); (first | exact rfl | assumption))) | (apply Wp.opS0; (exact rfl)) | (first | (apply Wp.condT; (exact rfl); (first | exact rfl | assumption)) | (apply Wp.condF; (exact rfl); (first | exact rfl | assumption))) | ((first | apply Wp.grdT | apply Wp.grdF | apply Wp.cond); (exact rfl); (intro); rotate_left 1; (intro); rotate_right 1))
    exact ⟨rfl, congrArg S.st (trimO_len rfl)⟩
  · simp only [nextI, if_true]
    have hmv16 : moveF L { op := 16, d := d, a := (A : Int), b := 0, n := n, to := to } = L := rfl
    rw [hmv16]
    repeat (first | apply Wp.seq | apply Wp.skip | apply Wp.block | (apply Wp.op0; ((simp [M2.keep]) <;> rfl)) | ((first | apply Wp.op | apply Wp.opN | (apply Wp.opG; exact rfl)); (apply Evt.all; intro; (simp []) <;> (try simp (disch := omega) only [wrap_id]) <;> first | exact ⟨rfl, rfl⟩ | exact rfl)) | (apply Wp.opS; exact rfl; decide) | (apply Wp.opS0; exact rfl))
    refine Wp.draw (by (simp [c_step_work_do_D0, I.need]) <;> rfl) (by (simp [l48, dr, pf69, wplain]) <;> rfl) (by (simp [l48, dr, pf69, wplain]) <;> rfl) (by (unfold c_step_work_do_D0); (repeat (first | ((first | apply Dr.op | apply Dr.opN | (apply Dr.opG; exact rfl)); ((simp [l48, dr, pf69, wplain]) <;> rfl); (apply Evt.all; intro; (simp [l48, dr, pf69, wplain]) <;> (try simp (disch := omega) only [wrap_id]) <;> first | exact ⟨rfl, rfl⟩ | exact rfl); ((simp [I.need]) <;> rfl)) | ((first | (apply Dr.opS; exact rfl; decide) | (apply Dr.opS0; exact rfl)); ((simp [I.need]) <;> rfl)) | (apply Dr.call; ((simp [l48, dr, pf69, wplain]) <;> rfl); exact hA) | (apply Dr.callG; (exact rfl); ((simp [l48, dr, pf69, wplain]) <;> rfl); exact hA) | (apply Dr.call; ((simp [l48, dr, pf69, wplain]) <;> rfl); exact h0) | (apply Dr.callG; (exact rfl); ((simp [l48, dr, pf69, wplain]) <;> rfl); exact h0))); exact Dr.nil) (by first | decide +kernel | exact rfl) (by (simp [M2.keep]) <;> rfl) ?_
    repeat' (first | apply Wp.seq | apply Wp.skip | apply Wp.block | (apply Wp.op0; ((simp [M2.keep]) <;> rfl)) | ((first | (apply Wp.pickT; (exact rfl); (first | exact rfl | assumption)) | (apply Wp.pickF; (exact rfl); (first | exact rfl | assumption))); ((simp) <;> exact rfl)) | ((first | apply Wp.op | apply Wp.opN); (apply Evt.all; intro; (simp [l48, dr, sp, wrap_id]) <;> (try simp (disch := omega) only [wrap_id]) <;> first | exact ⟨rfl, rfl⟩ | exact rfl)) | (apply Wp.call; exact hmv _) | (apply Wp.call; exact hmove) | (apply Wp.exit; repeat (first | rw [if_pos rfl] | rw [if_neg (by decide)])) | (first | (apply Wp.ung; (exact rfl); (first | exact rfl | assumption)) | (apply Wp.opSt; (exact rfl); (first | exact rfl | assumption)) | (apply Wp.opSf; (exact rfl); (first | exact rfl | assumption))) | (apply Wp.opS0; (exact rfl)) | (first | (apply Wp.condT; (exact rfl); (first | exact rfl | assumption)) | (apply Wp.condF; (exact rfl); (first | exact rfl | assumption))) | ((first | apply Wp.grdT | apply Wp.grdF | apply Wp.cond); (exact rfl); (intro); rotate_left 1; (intro); rotate_right 1))
    exact ⟨rfl, congrArg S.st (trimO_len rfl)⟩
end Go.Proofs.YtbmlnfceanfbmaaDoor.M2
/- Plain: what only moves, a step. -/
namespace Go.Proofs.YtbmlnfceanfbmaaDoor.M2
open Go
def stepF (l : List Ins) (s : Stt) : Stt := doneF s (l.getD s.at_.toNat default)
def runS (l : List Ins) : Nat → Stt → Stt
  | 0, s => s
  | n + 1, s => runS l n (stepF l s)
theorem runS_succ (l : List Ins) : ∀ (n : Nat) (s : Stt), runS l (n + 1) s = stepF l (runS l n s)
  | 0, _ => rfl
  | n + 1, s => runS_succ l n (stepF l s)
theorem moves_facts {l : List Ins} (hr : rightF l = true) {i : Nat} (hi : i < l.length) (hm : movesF (l.getD i default) = true) : locF 24 (l.getD i default).d = true ∧ locF 24 (l.getD i default).a = true ∧ (l.getD i default).b = 0 := by
  have h3 := (right_facts hr).2.2.1
  have hx : l.getD i default = l[i] := by simp [hi]
  rw [hx] at hm ⊢
  have hc := h3 l[i] (List.getElem_mem hi)
  generalize l[i] = x at *
  unfold checkF at hc
  split at hc
  · cases hc
  rename_i h1
  split at hc
  · cases hc
  rename_i h6
  unfold bad1 at h1
  have ho : onlyF x = x := by
    by_cases h : onlyF x = x
    · exact h
    · exact absurd (.inr (.inr (.inl h))) h1
  have hop : x.op = 1 ∨ x.op = 2 ∨ x.op = 3 ∨ x.op = 16 := by simp [movesF] at hm; omega
  unfold bad6 at h6
  obtain ⟨op, d, a, b, n, to⟩ := x
  simp only at *
  simp only [onlyF, Ins.mk.injEq] at ho
  rcases hop with rfl | rfl | rfl | rfl
  · simp at h6 ho
    exact ⟨h6.1, h6.2, by omega⟩
  · simp at h6 ho
    exact ⟨h6.1, h6.2, by omega⟩
  · simp at h6 ho
    exact ⟨h6.1, h6.2, by omega⟩
  · simp at h6 ho
    simp [locF]
    omega
theorem okW_set {L : List Wd} (h : okW L = true) (i : Nat) {w : Wd} (hw : (w.1 || decide (w.2 = 0)) = true) : okW (L.set i w) = true := by
  unfold okW at h ⊢
  rw [List.all_eq_true] at h ⊢
  intro v hv
  rcases List.mem_or_eq_of_mem_set hv with hv | rfl
  · exact h v hv
  · exact hw
theorem okW_get {L : List Wd} (h : okW L = true) (i : Nat) : ((L.getD i (false, 0)).1 || decide ((L.getD i (false, 0)).2 = 0)) = true := by
  rw [List.getD_eq_getElem?_getD]
  cases hi : L[i]? with
  | none => rfl
  | some w => exact List.all_eq_true.1 h w (List.mem_of_getElem? hi)
theorem okW_move {L : List Wd} (h : okW L = true) (x : Ins) : okW (moveF L x) = true := by
  unfold moveF
  split
  · exact okW_set h _ rfl
  · split
    · exact okW_set h _ (okW_get h _)
    · split
      · exact okW_set (okW_set h _ (okW_get h _)) _ (okW_get h _)
      · exact h
theorem nextI_eq {x : Ins} {i : Nat} (h : x.op = 16 → 0 ≤ x.to) : nextI x i = (nextTo x i : Nat) := by
  unfold nextI nextTo
  split
  · rename_i h16
    have := h h16
    omega
  · omega
theorem step_right {l : List Ins} {s : Stt} (hs : sttF l s = true) (hL : s.L.length = 24) (hm : movesF (l.getD s.at_.toNat default) = true) : sttF l (stepF l s) = true ∧ (stepF l s).L.length = 24 ∧ (stepF l s).at_ = (nextTo (l.getD s.at_.toNat default) s.at_.toNat : Nat) := by
  unfold sttF at hs ⊢
  simp only [Bool.and_eq_true, decide_eq_true_eq] at hs ⊢
  obtain ⟨⟨⟨⟨⟨h1, h2⟩, h3⟩, h4⟩, h5⟩, h6⟩ := hs
  obtain ⟨k1, k2⟩ := nextTo_ok h1 (i := s.at_.toNat) (by omega) hm
  have hto : (stepF l s).at_ = (nextTo (l.getD s.at_.toNat default) s.at_.toNat : Nat) := by
    unfold stepF doneF
    simp only
    have := nextI_eq (i := s.at_.toNat) k2
    rw [show ((s.at_.toNat : Nat) : Int) = s.at_ by omega] at this
    exact this
  refine ⟨⟨⟨⟨⟨⟨h1, by omega⟩, by omega⟩, h4⟩, h5⟩, okW_move h6 _⟩, by rw [stepF, doneF, moveF_len]; exact hL, hto⟩
end Go.Proofs.YtbmlnfceanfbmaaDoor.M2
/- What the functions answer in M2. A step that only moves, done. -/
namespace Go.Proofs.YtbmlnfceanfbmaaDoor.M2
open Go
attribute [local simp] ev1 M2.get put A.ev ld sub part elems bin arith un opt idx fillC cellsO splice over newOb sto fillR laidOwn appTo appRow touch touchN touchM touchE touchA plainU flatU plainAs allM rowAt stoRow accM_nil accM_cons accMM_nil accMM_cons frz_int frz_bool frz_str frz_slt frz_nils frz_nilI frz_nilF frz_own frzRow_row frzRow_frow Ob.blw blw_bool blw_int blw_str blw_nils blw_nilI blw_nilF blw_nilp blw_nilm blw_sl blw_own blw_bp blw_rp blw_mp blw_it params
attribute [local simp] frz_agg frz_tup frz_iface frzS_agg frzS_iface accMS_cons frzS_int frzS_bool frzS_str frzS_slt frzS_nils frzS_nilI beq_dec bne_dec
theorem over_part : ∀ (us cs : List U), us.length ≤ cs.length → over us cs = us ++ cs.drop us.length
  | [], cs, _ => by cases cs <;> rfl
  | u :: us, c :: cs, h => by rw [over, over_part us cs (by simpa using h)]; rfl
  | _ :: _, [], h => by simp at h
theorem plain_stt (L : List Wd) (h : List Int) (a b : Int) : plainU (.agg (wdsU L ++ [heapU true h, i64 a, i64 b])) = true := by
  show (wdsU L ++ [heapU true h, i64 a, i64 b]).all (flatU 5) = true
  rw [List.all_append]
  have : (wdsU L).all (flatU 5) = true := by
    induction L with
    | nil => rfl
    | cons w L ih =>
      rw [wdsU_cons, List.all_cons, List.all_cons, ih]
      rfl
  rw [this]
  rfl
theorem pf55 : pfT T n_step_own = true := rfl
set_option maxHeartbeats 16000000 in
theorem stepMoves_call (p : Bool) (l : List Ins) (s : Stt) (hL : s.L.length = 24) (hs : sttF l s = true) (x : Ins) (hx : l[s.at_.toNat]? = some x) (hm : movesF x = true) (hd : locF 24 x.d = true) (ha : locF 24 x.a = true) (hb : x.b = 0) (AK : U) (hAK : brw frzD [] AK = some (.sl true [])) (st : List Ob) (hAK2 : brw frzD st AK = some (.sl true [])) :
    Cl T n_step_Do [insL p l, .agg (stU true s), AK] st (.tup [.agg (stU true (doneF s x)), .sl true [], .agg [i64 0, i64 0, .sl true []], i64 0]) st := by
  have hbr := brw_stt st true s
  refine Wp.pure (fn := c_step_Do) rfl rfl rfl («as» := [insL p l, .agg (stU true s), .sl true []]) (by simp [hbr, hAK2, insL]; rfl) ?_
  have hsr := stepRight_call p true l s hL
  rw [hs] at hsr
  have hown := own_call true s hL (by simp [sttF] at hs; omega)
  have hus := uses_moves x hm
  have hat : 0 ≤ s.at_ ∧ s.at_ < l.length ∧ l.length ≤ 200 := by
    have h2 : rightF l = true := by unfold sttF at hs; simp only [Bool.and_eq_true] at hs; exact hs.1.1.1.1.1
    simp [sttF] at hs
    exact ⟨hs.1.1.1.1.2, hs.1.1.1.2, (right_facts h2).1⟩
  have hdo := fun o1 o2 o3 => do_moves true o1 o2 o3 s x [] hL hm hd ha hb ⟨hat.1, by omega⟩
  have hL2 : (moveF s.L x).length = 24 := by rw [moveF_len]; exact hL
  obtain ⟨L, h, at_, asked⟩ := s
  obtain ⟨xop, xd, xa, xb, xn, xto⟩ := x
  simp only at *
  obtain ⟨a, rfl⟩ := Int.eq_ofNat_of_zero_le hat.1
  simp only [Int.toNat_natCast] at hx
  have ha' : (a : Int) < l.length := hat.2.1
  have l48 := wds48 hL
  have dr := wds_drop hL
  have sp := wds_splice hL
  have tk := wds_takeMore hL
  have l48' := wds48 hL2
  have dr' := wds_drop hL2
  have sp' := wds_splice hL2
  have tk' := wds_takeMore hL2
  have op := fun (r cs : List U) (hc : 48 + r.length ≤ cs.length) => over_part (wdsU L ++ r) cs (by rw [List.length_append, l48]; exact hc)
  have hpl := plain_stt L h (a : Int) asked
  simp only [doneF, workU, stU] at hdo hsr hown ⊢
  generalize moveF L ⟨xop, xd, xa, xb, xn, xto⟩ = L' at *
  generalize nextI ⟨xop, xd, xa, xb, xn, xto⟩ (a : Int) = at' at *
  repeat' (first | apply Wp.seq | apply Wp.skip | apply Wp.block | (apply Wp.op0; ((simp [M2.keep]) <;> rfl)) | ((first | (apply Wp.pickT; (exact rfl); (first | exact rfl | assumption)) | (apply Wp.pickF; (exact rfl); (first | exact rfl | assumption))); ((simp) <;> exact rfl)) | ((first | apply Wp.op | apply Wp.opN); (apply Evt.all; intro; (simp [l48, dr, tk]) <;> (try simp (disch := omega) only [wrap_id]) <;> first | exact ⟨rfl, rfl⟩ | exact rfl)) | (apply Wp.call; exact hsr _) | (first | (apply Wp.ung; (exact rfl); (first | exact rfl | assumption)) | (apply Wp.opSt; (exact rfl); (first | exact rfl | assumption)) | (apply Wp.opSf; (exact rfl); (first | exact rfl | assumption))) | (apply Wp.opS0; (exact rfl)) | (first | (apply Wp.condT; (exact rfl); (first | exact rfl | assumption)) | (apply Wp.condF; (exact rfl); (first | exact rfl | assumption))) | ((first | apply Wp.grdT | apply Wp.grdF | apply Wp.cond); (exact rfl); (intro); rotate_left 1; (intro); rotate_right 1))
  refine Wp.draw (by (simp [c_step_Do_D0, I.need]) <;> rfl) (by (simp [l48, dr, tk, insL, ha', hx, insU, op, sp, pf55, -plainU, hpl]) <;> rfl) (by (simp [l48, dr, tk, insL, ha', hx, insU, op, sp, pf55, -plainU, hpl]) <;> rfl) (by (unfold c_step_Do_D0); (repeat (first | ((first | apply Dr.op | apply Dr.opN | (apply Dr.opG; exact rfl)); ((simp [l48, dr, tk, insL, ha', hx, insU, op, sp, pf55, -plainU, hpl]) <;> rfl); (apply Evt.all; intro; (simp [l48, dr, tk, insL, ha', hx, insU, op, sp, pf55, -plainU, hpl]) <;> (try simp (disch := omega) only [wrap_id]) <;> first | exact ⟨rfl, rfl⟩ | exact rfl); ((simp [I.need]) <;> rfl)) | ((first | (apply Dr.opS; exact rfl; decide) | (apply Dr.opS0; exact rfl)); ((simp [I.need]) <;> rfl)) | (apply Dr.call; ((simp [l48, dr, tk, insL, ha', hx, insU, op, sp, pf55, -plainU, hpl]) <;> rfl); exact hown _) | (apply Dr.callG; (exact rfl); ((simp [l48, dr, tk, insL, ha', hx, insU, op, sp, pf55, -plainU, hpl]) <;> rfl); exact hown _))); exact Dr.nil) (by first | decide +kernel | exact rfl) (by (simp [M2.keep]) <;> rfl) ?_
  repeat' (first | apply Wp.seq | apply Wp.skip | apply Wp.block | (apply Wp.op0; ((simp [M2.keep]) <;> rfl)) | ((first | (apply Wp.pickT; (exact rfl); (first | exact rfl | assumption)) | (apply Wp.pickF; (exact rfl); (first | exact rfl | assumption))); ((simp) <;> exact rfl)) | ((first | apply Wp.op | apply Wp.opN); (apply Evt.all; intro; (simp [l48, dr, l48', dr', tk', over_full]) <;> (try simp (disch := omega) only [wrap_id]) <;> first | exact ⟨rfl, rfl⟩ | exact rfl)) | (apply Wp.call; exact hus _) | (apply Wp.call; exact hdo _ _ _) | (apply Wp.unroll) | (apply Wp.next; ((simp [trimO, trim]) <;> rfl)) | (apply Wp.exit; (first | rw [if_pos rfl] | (rw [if_neg (by decide)]; first | rw [if_pos rfl] | (rw [if_neg (by decide)]; rw [if_pos rfl])))) | (first | (apply Wp.ung; (exact rfl); (first | exact rfl | assumption)) | (apply Wp.opSt; (exact rfl); (first | exact rfl | assumption)) | (apply Wp.opSf; (exact rfl); (first | exact rfl | assumption))) | (apply Wp.opS0; (exact rfl)) | (first | (apply Wp.condT; (exact rfl); (first | exact rfl | assumption)) | (apply Wp.condF; (exact rfl); (first | exact rfl | assumption))) | ((first | apply Wp.grdT | apply Wp.grdF | apply Wp.cond); (exact rfl); (intro); rotate_left 1; (intro); rotate_right 1))
  refine Wp.draw (by (simp [c_step_Do_D2, I.need]) <;> rfl) (by (simp [l48', dr', over_full]) <;> rfl) (by (simp [l48', dr', over_full]) <;> rfl) (by (unfold c_step_Do_D2); (repeat (first | ((first | apply Dr.op | apply Dr.opN | (apply Dr.opG; exact rfl)); ((simp [l48', dr', over_full]) <;> rfl); (apply Evt.all; intro; (simp [l48', dr', over_full]) <;> (try simp (disch := omega) only [wrap_id]) <;> first | exact ⟨rfl, rfl⟩ | exact rfl); ((simp [I.need]) <;> rfl)) | ((first | (apply Dr.opS; exact rfl; decide) | (apply Dr.opS0; exact rfl)); ((simp [I.need]) <;> rfl)))); exact Dr.nil) (by first | decide +kernel | exact rfl) (by (simp [M2.keep]) <;> rfl) ?_
  repeat' (first | apply Wp.seq | apply Wp.skip | apply Wp.block | (apply Wp.op0; ((simp [M2.keep]) <;> rfl)) | ((first | (apply Wp.pickT; (exact rfl); (first | exact rfl | assumption)) | (apply Wp.pickF; (exact rfl); (first | exact rfl | assumption))); ((simp) <;> exact rfl)) | ((first | apply Wp.op | apply Wp.opN); (apply Evt.all; intro; (simp [l48', dr', over_full]) <;> (try simp (disch := omega) only [wrap_id]) <;> first | exact ⟨rfl, rfl⟩ | exact rfl)) | (first | (apply Wp.ung; (exact rfl); (first | exact rfl | assumption)) | (apply Wp.opSt; (exact rfl); (first | exact rfl | assumption)) | (apply Wp.opSf; (exact rfl); (first | exact rfl | assumption))) | (apply Wp.opS0; (exact rfl)) | (first | (apply Wp.condT; (exact rfl); (first | exact rfl | assumption)) | (apply Wp.condF; (exact rfl); (first | exact rfl | assumption))) | ((first | apply Wp.grdT | apply Wp.grdF | apply Wp.cond); (exact rfl); (intro); rotate_left 1; (intro); rotate_right 1))
  refine Wp.draw (by (simp [c_step_Do_D3, I.need]) <;> rfl) (by (simp [l48', dr', tk', over_full]) <;> rfl) (by (simp [l48', dr', tk', over_full]) <;> rfl) (by (unfold c_step_Do_D3); (repeat (first | ((first | apply Dr.op | apply Dr.opN | (apply Dr.opG; exact rfl)); ((simp [l48', dr', tk', over_full]) <;> rfl); (apply Evt.all; intro; (simp [l48', dr', tk', over_full]) <;> (try simp (disch := omega) only [wrap_id]) <;> first | exact ⟨rfl, rfl⟩ | exact rfl); ((simp [I.need]) <;> rfl)) | ((first | (apply Dr.opS; exact rfl; decide) | (apply Dr.opS0; exact rfl)); ((simp [I.need]) <;> rfl)))); exact Dr.nil) (by first | decide +kernel | exact rfl) (by (simp [M2.keep]) <;> rfl) ?_
  repeat' (first | apply Wp.seq | apply Wp.skip | apply Wp.block | (apply Wp.op0; ((simp [M2.keep]) <;> rfl)) | ((first | (apply Wp.pickT; (exact rfl); (first | exact rfl | assumption)) | (apply Wp.pickF; (exact rfl); (first | exact rfl | assumption))); ((simp) <;> exact rfl)) | ((first | apply Wp.op | apply Wp.opN); (apply Evt.all; intro; (simp []) <;> (try simp (disch := omega) only [wrap_id]) <;> first | exact ⟨rfl, rfl⟩ | exact rfl)) | (first | (apply Wp.ung; (exact rfl); (first | exact rfl | assumption)) | (apply Wp.opSt; (exact rfl); (first | exact rfl | assumption)) | (apply Wp.opSf; (exact rfl); (first | exact rfl | assumption))) | (apply Wp.opS0; (exact rfl)) | (first | (apply Wp.condT; (exact rfl); (first | exact rfl | assumption)) | (apply Wp.condF; (exact rfl); (first | exact rfl | assumption))) | ((first | apply Wp.grdT | apply Wp.grdF | apply Wp.cond); (exact rfl); (intro); rotate_left 1; (intro); rotate_right 1))
  refine Wp.ret ?_
  have hf : ∀ st, accM (frz 10) st (wdsU L' ++ [heapU true h, i64 at', i64 asked]) = some (wdsU L' ++ [heapU true h, i64 at', i64 asked], st) := fun st => accWds 9 st _ _ _ rfl L'
  simp [Res, resU, res1, c_step_Do, l48', tk', hf]
end Go.Proofs.YtbmlnfceanfbmaaDoor.M2
