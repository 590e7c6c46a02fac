/- The law EngineRuns in M2. -/
import Derived.Test.YtfmhnfimkpffnaaGreatDoorCk
import Derived.Test.YtfmhnfimkpffnaaGreatDoorCl
import Derived.Test.YtfmhnfimkpffnaaGreatDoorCi
import Derived.Test.YtfmhnfimkpffnaaGreatDoorCg
set_option linter.unusedSimpArgs false
set_option linter.unusedVariables false
set_option linter.unusedSectionVars false
namespace Go.Proofs.YtfmhnfimkpffnaaGreatDoor.M2
open Go
attribute [local simp] ev1 M2.get put A.ev ld sub part elems bin arith un opt idx fillC cellsO splice over newOb sto fillR laidOwn appTo appRow touch touchN touchM touchE touchA plainU flatU plainAs allM rowAt stoRow accM_nil accM_cons accMM_nil accMM_cons frz_int frz_bool frz_str frz_slt frz_nils frz_nilI frz_nilF frz_own frzRow_row frzRow_frow Ob.blw blw_bool blw_int blw_str blw_nils blw_nilI blw_nilF blw_nilp blw_nilm blw_sl blw_own blw_bp blw_rp blw_mp blw_it params
attribute [local simp] frz_agg frz_tup frz_iface frzS_agg frzS_iface accMS_cons frzS_int frzS_bool frzS_str frzS_slt frzS_nils frzS_nilI beq_dec bne_dec
theorem Cl.brw {f : Nat} {fn : F} {args bs : List U} {st : List Ob} {u : U} {st' : List Ob} (hT : T f = some fn) (hp : fn.pure = true) (hl : args.length = bs.length) (ha : M2.allM (brwA frzD st) args = some bs) (hi : M2.allM (brwA frzD st) bs = some bs) (h : Cl T f bs st u st') : Cl T f args st u st' :=
  h.mono fun n h => by
    simp only [M2.call, callF, hT, Option.bind_some, hp, if_true, ha, hi, hl] at h ⊢
    exact h
set_option maxHeartbeats 8000000 in
theorem dword_call {x : FForm} {c : Cs} (hR : c.R.length = 8) (p : Bool) {ws : List Wd} (hws : ws.length = x.vals.length) (v : Int) {s : Int × Int} (hs : srcIn x s) (st : List Ob) : Cl T n_joineryref15_word [.agg (csU c), .sl p (ws.map wdU), i64 v, .agg (srcC s)] st (.agg (wdU (wordE c ws v s))) st := by
  obtain ⟨R, ch, ans, fuel, lq⟩ := c
  obtain ⟨r0, r1, r2, r3, r4, r5, r6, r7, rfl⟩ := R8 hR
  refine Wp.pure (fn := c_joineryref15_word) rfl rfl rfl («as» := [.agg (csU ⟨[r0, r1, r2, r3, r4, r5, r6, r7], ch, ans, fuel, lq⟩), .sl p (ws.map wdU), i64 v, .agg (srcC s)]) rfl ?_
  obtain ⟨k, n⟩ := s
  obtain ⟨h1, h4, h5⟩ := hs
  simp only at h1 h4 h5
  unfold wordE
  have hk : k = 1 ∨ k = 2 ∨ k = 3 ∨ k = 4 ∨ k = 0 := by omega
  rcases hk with rfl | rfl | rfl | rfl | rfl
  · obtain ⟨N, rfl⟩ := Int.eq_ofNat_of_zero_le (h1 rfl).1
    have hN := (h1 rfl).2
    have hN8 : N = 0 ∨ N = 1 ∨ N = 2 ∨ N = 3 ∨ N = 4 ∨ N = 5 ∨ N = 6 ∨ N = 7 := by omega
    rcases hN8 with rfl | rfl | rfl | rfl | rfl | rfl | rfl | rfl
    all_goals
      (all_goals have := fa (a2 @srcC.eq_1 @csU.eq_1); repeat' first | refine Wp.v ?_ | (refine Wp.c ?_ ?_ <;> intro))
      refine Wp.ret ?_; simp [Res, resU, res1, c_joineryref15_word, wdU]
  · (all_goals have := fa (a2 @srcC.eq_1 @csU.eq_1); repeat' first | refine Wp.v ?_ | (refine Wp.c ?_ ?_ <;> intro))
    refine Wp.ret ?_; simp [Res, resU, res1, c_joineryref15_word, wdU]
  · (all_goals have := fa (a2 @srcC.eq_1 @csU.eq_1); repeat' first | refine Wp.v ?_ | (refine Wp.c ?_ ?_ <;> intro))
    refine Wp.ret ?_; simp [Res, resU, res1, c_joineryref15_word, wdU]
  · obtain ⟨N, rfl⟩ := Int.eq_ofNat_of_zero_le (h4 rfl).1
    have hN : N < ws.length := by have := (h4 rfl).2; omega
    have hN' : (N : Int) < ws.length := by omega
    have eg : ws[N]? = some ws[N] := List.getElem?_eq_getElem hN
    have gd : ws.getD N (false, 0) = ws[N] := by simp [hN]
    rw [show ((N : Int)).toNat = N from rfl, gd]
    generalize ws[N] = w at *
    (all_goals have := fa (a5 @srcC.eq_1 @csU.eq_1 hN' eg @wdU.eq_1); repeat' first | refine Wp.v ?_ | (refine Wp.c ?_ ?_ <;> intro))
    refine Wp.ret ?_; simp [Res, resU, res1, c_joineryref15_word, wdU]
  · (all_goals have := fa (a2 @srcC.eq_1 @csU.eq_1); repeat' first | refine Wp.v ?_ | (refine Wp.c ?_ ?_ <;> intro))
    refine Wp.ret ?_; simp [Res, resU, res1, c_joineryref15_word, wdU]
theorem cs_brw2 {c : Cs} (hR : c.R.length = 8) (st : List Ob) : brwA frzD st (.agg (csU c)) = some (.agg (csU c)) := by
  obtain ⟨R, ch, ans, fuel, lq⟩ := c
  obtain ⟨r0, r1, r2, r3, r4, r5, r6, r7, rfl⟩ := R8 hR
  rfl
theorem RU.brwA {st : List Ob} {tag es : Nat} {u : U} {xs : List (List U)} (h : RU st tag es u xs) : ∃ p, M2.brwA frzD st u = some (.sl p xs) := by
  obtain ⟨p, hp⟩ := h.brw 11
  refine ⟨p, ?_⟩
  rcases h with rfl | ⟨rfl, rfl⟩ | ⟨id, rfl, h⟩
  · exact hp
  · exact hp
  · exact hp
theorem rword_RU {x : FForm} {c : Cs} (hR : c.R.length = 8) {st : List Ob} {W : U} {ws : List Wd} (hW : RU st 45 2 W (ws.map wdU)) (hws : ws.length = x.vals.length) (v : Int) {s : Int × Int} (hs : srcIn x s) : Cl T n_joineryref15_word [.agg (csU c), W, i64 v, .agg (srcC s)] st (.agg (wdU (wordE c ws v s))) st := by
  obtain ⟨p, hp⟩ := hW.brwA
  have h1 := cs_brw2 hR st
  have h2 : M2.brwA frzD st (i64 v) = some (i64 v) := rfl
  have h3 : M2.brwA frzD st (.agg (srcC s)) = some (.agg (srcC s)) := rfl
  have h4 : M2.brwA frzD st (.sl p (ws.map wdU)) = some (.sl p (ws.map wdU)) := rfl
  refine Cl.brw (fn := c_joineryref15_word) rfl rfl (bs := [.agg (csU c), .sl p (ws.map wdU), i64 v, .agg (srcC s)]) rfl ?_ ?_ (dword_call hR p hws v hs st)
  · simp only [M2.allM, h1, h2, h3, hp, Option.bind_some]
  · simp only [M2.allM, h1, h2, h3, h4, Option.bind_some]
theorem RU.at {st : List Ob} {tag es : Nat} {W : U} {xs : List (List U)} (h : RU st tag es W xs) {i : Nat} {y : List U} (hi : xs[i]? = some y) (hy : y.length = es) :
    ∃ q, (∀ (cl : Nat → List U → List Ob → Option (U × List Ob)) (e : Env) (X : List Ob) (nid : Nat) (a b : A), a.ev e = W → b.ev e = i64 i → ev1 cl e (st ++ X) nid (.iaddr es a b) = some (q, st ++ X)) ∧ ∀ (cl : Nat → List U → List Ob → Option (U × List Ob)) (e : Env) (X : List Ob) (nid : Nat) (a : A), a.ev e = q → ev1 cl e (st ++ X) nid (.load true es a) = some (.agg y, st ++ X) := by
  have hl : i < xs.length := (List.getElem?_eq_some_iff.1 hi).1
  have hl' : (i : Int) < xs.length := by omega
  have hx : idx (i : Int) xs.length = some i := by
    unfold idx
    simp [hl']
  have tk : y.take es = y := by rw [List.take_of_length_le (by omega)]
  rcases h with rfl | ⟨rfl, rfl⟩ | ⟨id, rfl, h⟩
  · refine ⟨.fp y, fun cl e X nid a b ha hb => ?_, fun cl e X nid a ha => ?_⟩
    · simp only [ev1, ha, hb, hx, hi, hy, Option.bind_some, if_true]
    · simp only [ev1, ha, ld, sub, List.drop_zero, Nat.zero_add, hy, Nat.le_refl, if_true, tk, Option.bind_some, part]
  · simp at hl
  · have hg : ∀ X : List Ob, (st ++ X)[id]? = some (.row tag es false xs) := fun X => by rw [List.getElem?_append_left (List.getElem?_eq_some_iff.1 h).1, h]
    refine ⟨.rp id xs.length i 0, fun cl e X nid a b ha hb => ?_, fun cl e X nid a ha => ?_⟩
    · simp only [ev1, ha, hb, hg, hx, and_self, if_true, Option.bind_some]
    · simp only [ev1, ha, ld, hg, hi, sub, List.drop_zero, Nat.zero_add, hy, Nat.le_refl, if_true, tk, Option.bind_some, part]
def rwn (c : Cs) (ws : List Wd) (v : Int) (src W : List (Int × Int)) (ed : Int × Int) (w0 : Wd) (n : Nat) : Wd := (W.zipIdx.take n).foldl (fun w p => if p.1 = ed then wordE c ws v (src.getD p.2 (0, 0)) else w) w0
theorem rwn_succ (c : Cs) (ws : List Wd) (v : Int) (src : List (Int × Int)) {W : List (Int × Int)} (ed : Int × Int) (w0 : Wd) {n : Nat} (hn : n < W.length) : rwn c ws v src W ed w0 (n + 1) = if W[n] = ed then wordE c ws v (src.getD n (0, 0)) else rwn c ws v src W ed w0 n := by
  unfold rwn
  rw [List.take_succ_eq_append_getElem (by simpa using hn), List.foldl_append]
  simp
theorem rwn_all (c : Cs) (ws : List Wd) (v : Int) (src W : List (Int × Int)) {ed : Int × Int} (h : ed ∈ W) (w0 : Wd) : rwn c ws v src W ed w0 W.length = wordE c ws v (src.getD (whichE ed W) (0, 0)) := by
  unfold rwn
  rw [List.take_of_length_le (by simp)]
  exact fold_at (fun n => wordE c ws v (src.getD n (0, 0))) h w0
theorem src_ok {x : FForm} (hr : rightF x = true) {v : FVal} (hv : v ∈ x.vals) : v.src.length = (waysF x v.pos).length ∧ ∀ n (hn : n < v.src.length), srcIn x v.src[n] := by
  have h := (right_parts hr).2.2 v hv
  unfold valOk at h
  simp only [Bool.and_eq_true, decide_eq_true_eq, List.all_eq_true] at h
  refine ⟨by omega, fun n hn => ?_⟩
  have hn2 : n < (waysF x v.pos).length := by omega
  have := h.2 (v.src[n], (waysF x v.pos)[n]) (by
    rw [List.mem_iff_getElem]
    exact ⟨n, by rw [List.length_zip]; omega, by rw [List.getElem_zip]⟩)
  exact (comes_in this).1
def b1S (x : FForm) (c : Cs) (W : U) (v : Int) (ed : Int × Int) (to : Int) (i : Nat) (ro : U) (rows : List (List U)) (st : List Ob) (n : Nat) (w : Wd) : S := ⟨[(2, W), (3, i64 v), (4, i64 ed.1), (5, i64 ed.2), (6, i64 to), (7, .bp st.length 0), (8, .bp (st.length + 1) 0), (15, srcsU (waysF x to)), (16, ro), (17, i64 i), (18, .bp (st.length + 3) 0), (19, i64 n)], st ++ [.box (formC x), .box (csU c), .row 45 2 false rows, .box (wdU w)]⟩
set_option maxHeartbeats 8000000 in
theorem by1_loop {x : FForm} {c : Cs} (hR : c.R.length = 8) (hx : Small x) (hr : rightF x = true) {st : List Ob} {W : U} {ws : List Wd} (hW : RU st 45 2 W (ws.map wdU)) (hws : ws.length = x.vals.length) (v : Int) (ed : Int × Int) (to : Int) (hed : ed ∈ waysF x to) (i : Nat) (hi : i < x.vals.length) (ro : U) (rows : List (List U)) (w0 : Wd) (R : S → Prop) :
    Wp T (.loop c_joineryref15_by_L1) (b1S x c W v ed to i ro rows st 0 w0) (fun _ => False) R
      (fun b s' => b = 2 ∧ ∃ n v', s' = ⟨[(2, W), (3, i64 v), (4, i64 ed.1), (5, i64 ed.2), (6, i64 to), (7, .bp st.length 0), (8, .bp (st.length + 1) 0), (15, srcsU (waysF x to)), (16, ro), (17, i64 i), (18, .bp (st.length + 3) 0), (19, n), (50, v')], st ++ [.box (formC x), .box (csU c), .row 45 2 false rows, .box (wdU (if x.vals[i].pos = to then wordE c ws v (x.vals[i].src.getD (whichE ed (waysF x to)) (0, 0)) else w0))]⟩) := by
  have hWl := ways_len hx to
  have hvn := hx.vals
  have hi' : (i : Int) < x.vals.length := by omega
  have eg : x.vals[i]? = some x.vals[i] := List.getElem?_eq_getElem hi
  have hvm := List.getElem_mem hi
  obtain ⟨q1, q2⟩ := src_ok hr hvm
  generalize x.vals[i] = vl at *
  have k7 : ∀ (a : Ob) (Y : List Ob), (st ++ a :: Y)[st.length]? = some a := fun a Y => by simp
  have k8 : ∀ (a b : Ob) (Y : List Ob), (st ++ a :: b :: Y)[st.length + 1]? = some b := fun a b Y => by rw [List.getElem?_append_right (by omega)]; simp
  have k10 : ∀ (a b d e : Ob) (Y : List Ob), (st ++ a :: b :: d :: e :: Y)[st.length + 3]? = some e := fun a b d e Y => by rw [List.getElem?_append_right (by omega)]; simp
  have s10 : ∀ (a b d e e' : Ob), (st ++ [a, b, d, e]).set (st.length + 3) e' = st ++ [a, b, d, e'] := fun a b d e e' => by rw [List.set_append_right _ _ (by omega)]; simp
  have hWc : W = .sl true (ws.map wdU) ∨ ∃ id, W = .own id ws.length ∧ id < st.length ∧ ∀ X, (st ++ X)[id]? = some (.row 45 2 false (ws.map wdU)) := by
    rcases hW with h | ⟨_, h⟩ | ⟨id, h, hq⟩
    · exact .inl h
    · have := congrArg List.length h
      simp only [List.length_map, List.length_nil] at this
      omega
    · exact .inr ⟨id, by rw [h, List.length_map], (List.getElem?_eq_some_iff.1 hq).1, fun X => by rw [List.getElem?_append_left (List.getElem?_eq_some_iff.1 hq).1, hq]⟩
  by_cases hv : vl.pos = to
  · have dv : decide (vl.pos = to) = true := decide_eq_true hv
    rw [if_pos hv, ← rwn_all c ws v vl.src (waysF x to) hed w0]
    rw [hv] at q1
    have e0 : w0 = rwn c ws v vl.src (waysF x to) ed w0 0 := rfl
    conv => arg 3; rw [e0]
    refine Wp.count (waysF x to).length (fun n => b1S x c W v ed to i ro rows st n (rwn c ws v vl.src (waysF x to) ed w0 n)) (fun _ => True) (fun n hn _ => ?_) (fun _ => ?_) 0 (by omega) trivial
    · have hn' : (n : Int) < (waysF x to).length := by omega
      have ew : (waysF x to)[n]? = some (waysF x to)[n] := List.getElem?_eq_getElem hn
      have hns : n < vl.src.length := by omega
      have hns' : (n : Int) < vl.src.length := by omega
      have es : vl.src[n]? = some vl.src[n] := List.getElem?_eq_getElem hns
      have gd : vl.src.getD n (0, 0) = vl.src[n] := by simp [hns]
      have hsi := q2 n hns
      rw [rwn_succ c ws v vl.src ed w0 hn, gd]
      generalize (waysF x to)[n] = a at *
      generalize vl.src[n] = s at *
      generalize rwn c ws v vl.src (waysF x to) ed w0 n = w at *
      have hw := fun X => rword_RU hR (hW.ext (fun id ys hb => by rw [List.getElem?_append_left (List.getElem?_eq_some_iff.1 hb).1, hb]) : RU (st ++ X) 45 2 W (ws.map wdU)) hws v hsi
      generalize wordE c ws v s = wd at *
      obtain ⟨R, ch, ans, fuel, lq⟩ := c
      obtain ⟨r0, r1, r2, r3, r4, r5, r6, r7, rfl⟩ := R8 hR
      simp only [b1S]
      by_cases hae : a = ed
      · subst hae
        rw [if_pos rfl]
        (all_goals have := fa (a5 @srcsU.eq_1 @srcC.eq_1 @formC.eq_1 @valC.eq_1 (a5 @csU.eq_1 k7 k8 k10 (a5 s10 hi' eg dv (a2 hn' ew)))); repeat' first | refine Wp.v ?_ | (refine Wp.c ?_ ?_ <;> intro))
        have hpf : pfT T 63 = true := rfl
        have hw2 := hw [.box (formC x), .box (csU ⟨[r0, r1, r2, r3, r4, r5, r6, r7], ch, ans, fuel, lq⟩), .row 45 2 false rows, .box (wdU w)]
        rcases hWc with rfl | ⟨id, rfl, hid, hq⟩
        · refine Wp.draw (by (simp [c_joineryref15_by_D0, I.need]) <;> rfl) (by first | ((simp [srcC, formC, valC, csU, k7, k8, k10, s10, hi', eg, hns', es, srcsU, wdU, hpf]) <;> rfl) | exact rfl) (by (simp [srcC, formC, valC, csU, k7, k8, k10, s10, hi', eg, hns', es, srcsU, wdU, hpf]) <;> rfl) (by (unfold c_joineryref15_by_D0); (repeat (first | ((first | apply Dr.op | apply Dr.opN | (apply Dr.opG; exact rfl)); ((simp [srcC, formC, valC, csU, k7, k8, k10, s10, hi', eg, hns', es, srcsU, wdU, hpf]) <;> rfl); (apply Evt.all; intro; (simp [srcC, formC, valC, csU, k7, k8, k10, s10, hi', eg, hns', es, srcsU, wdU, hpf]) <;> (try simp (disch := omega) only [wrap_id]) <;> first | exact ⟨rfl, rfl⟩ | exact rfl); ((simp [I.need]) <;> rfl)) | ((first | (apply Dr.opS; exact rfl; decide) | (apply Dr.opS0; exact rfl)); ((simp [I.need]) <;> rfl)) | (apply Dr.call; ((simp [srcC, formC, valC, csU, k7, k8, k10, s10, hi', eg, hns', es, srcsU, wdU, hpf]) <;> rfl); exact hw2) | (apply Dr.callG; (exact rfl); ((simp [srcC, formC, valC, csU, k7, k8, k10, s10, hi', eg, hns', es, srcsU, wdU, hpf]) <;> rfl); exact hw2))); exact Dr.nil) (by simp (decide := true) [chkD, aside, tmpInd, ind, c_joineryref15_by_D0, touchX, touchE, elems, rowAt, O.uses, I.uses, M2.A.uses, srcC, formC, valC, csU, k7, k8, k10, s10, hi', eg, hns', es, srcsU, wdU, hpf]) (by (simp [M2.keep]) <;> rfl) ?_
          (all_goals have := fa @wrap_id; repeat' first | refine Wp.v ?_ | (refine Wp.c ?_ ?_ <;> intro))
          exact ⟨(trimO_len (by simp)).trans rfl, trivial⟩
        · have hne : ¬ id = st.length + 3 := by omega
          have hne2 : ¬ st.length + 3 = id := by omega
          refine Wp.draw (by (simp [c_joineryref15_by_D0, I.need]) <;> rfl) (by first | ((simp [srcC, formC, valC, csU, k7, k8, k10, s10, hi', eg, hns', es, srcsU, wdU, hq, hne, hne2, hpf]) <;> rfl) | exact rfl) (by (simp [srcC, formC, valC, csU, k7, k8, k10, s10, hi', eg, hns', es, srcsU, wdU, hq, hne, hne2, hpf]) <;> rfl) (by (unfold c_joineryref15_by_D0); (repeat (first | ((first | apply Dr.op | apply Dr.opN | (apply Dr.opG; exact rfl)); ((simp [srcC, formC, valC, csU, k7, k8, k10, s10, hi', eg, hns', es, srcsU, wdU, hq, hne, hne2, hpf]) <;> rfl); (apply Evt.all; intro; (simp [srcC, formC, valC, csU, k7, k8, k10, s10, hi', eg, hns', es, srcsU, wdU, hq, hne, hne2, hpf]) <;> (try simp (disch := omega) only [wrap_id]) <;> first | exact ⟨rfl, rfl⟩ | exact rfl); ((simp [I.need]) <;> rfl)) | ((first | (apply Dr.opS; exact rfl; decide) | (apply Dr.opS0; exact rfl)); ((simp [I.need]) <;> rfl)) | (apply Dr.call; ((simp [srcC, formC, valC, csU, k7, k8, k10, s10, hi', eg, hns', es, srcsU, wdU, hq, hne, hne2, hpf]) <;> rfl); exact hw2) | (apply Dr.callG; (exact rfl); ((simp [srcC, formC, valC, csU, k7, k8, k10, s10, hi', eg, hns', es, srcsU, wdU, hq, hne, hne2, hpf]) <;> rfl); exact hw2))); exact Dr.nil) (by simp (decide := true) [chkD, aside, tmpInd, ind, c_joineryref15_by_D0, touchX, touchE, elems, rowAt, O.uses, I.uses, M2.A.uses, srcC, formC, valC, csU, k7, k8, k10, s10, hi', eg, hns', es, srcsU, wdU, hq, hne, hne2, hpf]) (by (simp [M2.keep]) <;> rfl) ?_
          (all_goals have := fa @wrap_id; repeat' first | refine Wp.v ?_ | (refine Wp.c ?_ ?_ <;> intro))
          exact ⟨(trimO_len (by simp)).trans rfl, trivial⟩
      · rw [if_neg hae]
        by_cases h1 : a.1 = ed.1
        · have d1 : decide (a.1 = ed.1) = true := decide_eq_true h1
          have d2 : decide (a.2 = ed.2) = false := decide_eq_false (fun h2 => hae (Prod.ext h1 h2))
          (all_goals have := fa (a5 @srcsU.eq_1 @srcC.eq_1 @formC.eq_1 @valC.eq_1 (a5 @csU.eq_1 k7 k8 k10 (a5 s10 hi' eg dv (a4 hn' ew d1 d2)))); repeat' first | refine Wp.v ?_ | (refine Wp.c ?_ ?_ <;> intro))
          (all_goals have := fa @wrap_id; repeat' first | refine Wp.v ?_ | (refine Wp.c ?_ ?_ <;> intro))
          exact ⟨(trimO_len (by simp)).trans rfl, trivial⟩
        · have d1 : decide (a.1 = ed.1) = false := decide_eq_false h1
          (all_goals have := fa (a5 @srcsU.eq_1 @srcC.eq_1 @formC.eq_1 @valC.eq_1 (a5 @csU.eq_1 k7 k8 k10 (a5 s10 hi' eg dv (a3 hn' ew d1)))); repeat' first | refine Wp.v ?_ | (refine Wp.c ?_ ?_ <;> intro))
          (all_goals have := fa @wrap_id; repeat' first | refine Wp.v ?_ | (refine Wp.c ?_ ?_ <;> intro))
          exact ⟨(trimO_len (by simp)).trans rfl, trivial⟩
    · simp only [b1S]
      (all_goals have := fa (a5 @srcsU.eq_1 @formC.eq_1 @valC.eq_1 k7 (a3 hi' eg dv)); repeat' first | refine Wp.v ?_ | (refine Wp.c ?_ ?_ <;> intro))
      exact Wp.exit ⟨rfl, _, _, rfl⟩
  · have dv : decide (vl.pos = to) = false := decide_eq_false hv
    rw [if_neg hv]
    refine Wp.count 0 (fun n => b1S x c W v ed to i ro rows st n w0) (fun _ => True) (fun n hn _ => by omega) (fun _ => ?_) 0 (by omega) trivial
    simp only [b1S]
    (all_goals have := fa (a5 @srcsU.eq_1 @formC.eq_1 @valC.eq_1 k7 (a3 hi' eg dv)); repeat' first | refine Wp.v ?_ | (refine Wp.c ?_ ?_ <;> intro))
    exact Wp.exit ⟨rfl, _, _, rfl⟩
theorem goesE_get {x : FForm} {c : Cs} {ws : List Wd} (hw : ws.length = x.vals.length) (v : Int) (e : Int × Int) {to : Int} (hto : ¬ to < 0) {i : Nat} (hi : i < x.vals.length) : (goesE x c ws v e to)[i]'(by rw [goesE_len x c ws hw]; exact hi) = if x.vals[i].pos = to then wordE c ws v (x.vals[i].src.getD (whichE e (waysF x to)) (0, 0)) else ws[i]'(by omega) := by
  unfold goesE
  simp only [hto, if_false, List.getElem_map, List.getElem_zip]
def b2S (x : FForm) (c : Cs) (W : U) (ws : List Wd) (v : Int) (ed : Int × Int) (to : Int) (st : List Ob) (i : Nat) : S := ⟨[(2, W), (3, i64 v), (4, i64 ed.1), (5, i64 ed.2), (6, i64 to), (7, .bp st.length 0), (8, .bp (st.length + 1) 0), (15, srcsU (waysF x to)), (16, .own (st.length + 2) i), (17, i64 i)], st ++ [.box (formC x), .box (csU c), .row 45 2 false (((goesE x c ws v ed to).take i).map wdU)]⟩
set_option maxHeartbeats 8000000 in
theorem by2_loop {x : FForm} {c : Cs} (hR : c.R.length = 8) (hx : Small x) (hr : rightF x = true) {st : List Ob} (hlow : st.all (Ob.blw st.length) = true) {W : U} {ws : List Wd} (hW : RU st 45 2 W (ws.map wdU)) (hws : ws.length = x.vals.length) (v : Int) (ed : Int × Int) (to : Int) (hto : ¬ to < 0) (hed : ed ∈ waysF x to) (R : S → Prop) :
    Wp T (.loop c_joineryref15_by_L2) (b2S x c W ws v ed to st 0) (fun _ => False) R
      (fun b s' => b = 0 ∧ ∃ v', s' = ⟨[(2, W), (3, i64 v), (4, i64 ed.1), (5, i64 ed.2), (6, i64 to), (7, .bp st.length 0), (8, .bp (st.length + 1) 0), (15, srcsU (waysF x to)), (16, .own (st.length + 2) x.vals.length), (17, i64 x.vals.length), (30, v')], st ++ [.box (formC x), .box (csU c), .row 45 2 false ((goesE x c ws v ed to).map wdU)]⟩) := by
  have hvn := hx.vals
  have hgl := goesE_len x c ws hws v ed to
  have k7 : ∀ (a : Ob) (Y : List Ob), (st ++ a :: Y)[st.length]? = some a := fun a Y => by simp
  have k9 : ∀ (a b d : Ob) (Y : List Ob), (st ++ a :: b :: d :: Y)[st.length + 2]? = some d := fun a b d Y => by rw [List.getElem?_append_right (by omega)]; simp
  have k10 : ∀ (a b d e : Ob) (Y : List Ob), (st ++ a :: b :: d :: e :: Y)[st.length + 3]? = some e := fun a b d e Y => by rw [List.getElem?_append_right (by omega)]; simp
  have s10 : ∀ (a b d e e' : Ob), (st ++ [a, b, d, e]).set (st.length + 3) e' = st ++ [a, b, d, e'] := fun a b d e e' => by rw [List.set_append_right _ _ (by omega)]; simp
  have s9 : ∀ (a b d e f d' : Ob), (st ++ [a, b, d, e, f]).set (st.length + 2) d' = st ++ [a, b, d', e, f] := fun a b d e f d' => by rw [List.set_append_right _ _ (by omega)]; simp
  refine Wp.count x.vals.length (fun i => b2S x c W ws v ed to st i) (fun _ => True) (fun i hi _ => ?_) (fun _ => ?_) 0 (by omega) trivial
  · have hi' : (i : Int) < x.vals.length := by omega
    have hiw : i < ws.length := by omega
    have hg := goesE_get (c := c) hws v ed hto hi
    have htk : (goesE x c ws v ed to).take (i + 1) = (goesE x c ws v ed to).take i ++ [(goesE x c ws v ed to)[i]'(by omega)] := List.take_succ_eq_append_getElem (by omega)
    rw [hg] at htk
    obtain ⟨q, hat1, hat2⟩ := hW.at (i := i) (y := wdU ws[i]) (by rw [List.getElem?_map, List.getElem?_eq_getElem hiw]; rfl) rfl
    have hl1 := fun ro rows R => by1_loop hR hx hr hW hws v ed to hed i hi ro rows ws[i] R
    simp only [b2S]
    rw [htk]
    generalize hw1 : (if x.vals[i].pos = to then wordE c ws v (x.vals[i].src.getD (whichE ed (waysF x to)) (0, 0)) else ws[i]) = w1 at *
    have htl : ((goesE x c ws v ed to).take i).length = i := by rw [List.length_take]; omega
    generalize (goesE x c ws v ed to).take i = G at *
    have happ : ∀ (cl : Nat → List U → List Ob → Option (U × List Ob)) (e' : Env) (a b d : Ob) (s' x' : A) (nid : Nat), s'.ev e' = .own (st.length + 2) i → x'.ev e' = .own (st.length + 4) 1 → ev1 cl e' (st ++ [a, b, .row 45 2 false (G.map wdU), d, .row 45 2 false [wdU w1]]) nid (.append 45 2 16 false s' x') = some (.own (st.length + 2) (i + 1), st ++ [a, b, .row 45 2 false ((G ++ [w1]).map wdU), d, .row 45 2 false [wdU w1]]) := by
      intro cl e' a b d s' x' nid hs' hx'
      have h4 : (st ++ [a, b, .row 45 2 false (G.map wdU), d, .row 45 2 false [wdU w1]])[st.length + 4]? = some (.row 45 2 false [wdU w1]) := by rw [List.getElem?_append_right (by omega)]; simp
      have := app_el wdU 2 (fun _ => rfl) (fun _ _ => rfl) cl e' (st ++ [a, b, .row 45 2 false (G.map wdU), d, .row 45 2 false [wdU w1]]) (st.length + 2) 45 16 G [w1] (by simp; omega) s' x' (by rw [hs', htl]) (by rw [hx']; simp only [M2.elems, rowAt, h4]; rfl) (k9 _ _ _ _) nid
      rw [this, s9]
      simp [htl]
    (all_goals have := fa (a4 @formC.eq_1 k7 hi' @srcsU.eq_1); repeat' first | refine Wp.v ?_ | (refine Wp.c ?_ ?_ <;> intro))
    refine Wp.op (Evt.all fun n => hat1 _ _ _ _ _ _ rfl rfl) ?_
    refine Wp.op (Evt.all fun n => hat2 _ _ _ _ _ rfl) ?_
    (all_goals have := fa (a2 k10 s10); repeat' first | refine Wp.v ?_ | (refine Wp.c ?_ ?_ <;> intro))
    refine (show Wp T (.loop c_joineryref15_by_L1) (b1S x c W v ed to i (.own (st.length + 2) i) (G.map wdU) st 0 ws[i]) _ _ _ from (hl1 _ _ _).imp (fun _ h => h.elim) (fun _ h => h) ?_)
    rintro b s ⟨rfl, n, v', rfl⟩
    rw [if_pos rfl]
    (all_goals have := fa (a2 k10 @wdU.eq_1); repeat' first | refine Wp.v ?_ | (refine Wp.c ?_ ?_ <;> intro))
    refine Wp.op (Evt.all fun n => happ _ _ _ _ _ _ _ _ rfl rfl) ?_
    (all_goals have := fa @wrap_id; repeat' first | refine Wp.v ?_ | (refine Wp.c ?_ ?_ <;> intro))
    refine ⟨?_, trivial⟩
    have hB3 : (st ++ [Ob.box (formC x), Ob.box (csU c), Ob.row 45 2 false ((G ++ [w1]).map wdU)]).all (Ob.blw (st ++ [Ob.box (formC x), Ob.box (csU c), Ob.row 45 2 false ((G ++ [w1]).map wdU)]).length) = true := low_push hlow (by simp [formC, csU])
    have hWl := hW.low (st ++ [Ob.box (formC x), Ob.box (csU c), Ob.row 45 2 false ((G ++ [w1]).map wdU)]).length (by simp)
    have e3 : (st ++ [Ob.box (formC x), Ob.box (csU c), Ob.row 45 2 false (G.map wdU)]).length = (st ++ [Ob.box (formC x), Ob.box (csU c), Ob.row 45 2 false ((G ++ [w1]).map wdU)]).length := by simp
    rw [e3]
    have e4 : st ++ [Ob.box (formC x), Ob.box (csU c), Ob.row 45 2 false (G.map wdU ++ [wdU w1]), Ob.box [U.bool w1.fst, i64 w1.snd], Ob.row 45 2 false [wdU w1]] = st ++ [Ob.box (formC x), Ob.box (csU c), Ob.row 45 2 false ((G ++ [w1]).map wdU)] ++ [Ob.box [U.bool w1.fst, i64 w1.snd], Ob.row 45 2 false [wdU w1]] := by simp
    rw [e4]
    refine trim_list ?_ hB3
    simp [hWl, srcsU]
    simpa using hWl
  · simp only [b2S, List.take_of_length_le (Nat.le_of_eq hgl)]
    (all_goals have := fa (a2 @formC.eq_1 k7); repeat' first | refine Wp.v ?_ | (refine Wp.c ?_ ?_ <;> intro))
    exact Wp.exit ⟨rfl, _, rfl⟩
set_option maxHeartbeats 8000000 in
theorem by_call {x : FForm} {c : Cs} (hR : c.R.length = 8) (hx : Small x) (hr : rightF x = true) {st : List Ob} (hlow : st.all (Ob.blw st.length) = true) {W : U} {ws : List Wd} (hW : RU st 45 2 W (ws.map wdU)) (hws : ws.length = x.vals.length) (v : Int) (ed : Int × Int) (to : Int) (hed : ¬ to < 0 → ed ∈ waysF x to) :
    ∃ Y W', Cl T n_joineryref15_by [formU x, .agg (csU c), W, i64 v, i64 ed.1, i64 ed.2, i64 to] st W' (st ++ Y) ∧ RU (st ++ Y) 45 2 W' ((goesE x c ws v ed to).map wdU) := by
  by_cases hto : to < 0
  · have dv : decide (to < 0) = true := decide_eq_true hto
    refine ⟨[], W, Wp.impure (fn := c_joineryref15_by) rfl rfl rfl ?_, ?_⟩
    · (repeat' first | refine Wp.u ?_ | (refine Wp.c ?_ ?_ <;> intro))
      refine Wp.ret ⟨rfl, ?_⟩
      rw [List.append_nil]
      have hWl := hW.low st.length (Nat.le_refl _)
      exact congrArg S.st (trim_list (e := [(0, W)]) (by simpa using hWl) hlow)
    · rw [List.append_nil]
      unfold goesE
      rw [if_pos hto]
      exact hW
  · have dv : decide (to < 0) = false := decide_eq_false hto
    have hways := fun st => rways_call x hx to st
    refine ⟨[.box (formC x), .box (csU c), .row 45 2 false ((goesE x c ws v ed to).map wdU)], .own (st.length + 2) x.vals.length, Wp.impure (fn := c_joineryref15_by) rfl rfl rfl ?_, ?_⟩
    · (repeat' first | refine Wp.u ?_ | (apply Wp.call; exact hways _) | (refine Wp.c ?_ ?_ <;> intro))
      refine (show Wp T (.loop c_joineryref15_by_L2) (b2S x c W ws v ed to st 0) _ _ _ from (by2_loop hR hx hr hlow hW hws v ed to hto (hed hto) _).imp (fun _ h => h.elim) (fun _ h => h) ?_)
      rintro b s ⟨rfl, v', rfl⟩
      rw [if_pos rfl]
      (repeat' first | refine Wp.u ?_ | (refine Wp.c ?_ ?_ <;> intro))
      refine Wp.ret ⟨rfl, ?_⟩
      unfold trimO M2.trim
      rw [if_neg (by simp; intro h; omega)]
      rfl
    · refine .inr (.inr ⟨st.length + 2, ?_, ?_⟩)
      · rw [List.length_map, goesE_len x c ws hws]
      · rw [List.getElem?_append_right (by omega)]
        simp
def stU (s : EnS) (t : TR) : List U := [i64 s.pos, .sl true (s.ws.map wdU), .sl true (s.h.map intC), i64 s.asked, .sl true (t.ev.map evnU), i64 t.how, i64 t.val, .sl true (t.out.map intC), i64 t.steps, i64 t.work]
def sZ : List U := [i64 0, .nils, .nils, i64 0, .nils, i64 0, i64 0, .nils, i64 0, i64 0]
def PU (u : U) (xs : List (List U)) : Prop := u = .sl true xs ∨ (u = .nils ∧ xs = [])
theorem PU.frz {u : U} {xs : List (List U)} (h : PU u xs) (d : Nat) (st : List Ob) : M2.frz (d + 1) st u = some (.sl true xs, st) := by
  rcases h with rfl | ⟨rfl, rfl⟩ <;> rfl
theorem res_st {S0 : List Ob} {w e hp o : U} {s : EnS} {t : TR} (hw : RU S0 45 2 w (s.ws.map wdU)) (he : RU S0 59 3 e (t.ev.map evnU)) (hh : PU hp (s.h.map intC)) (ho : PU o (t.out.map intC)) :
    ((M2.frz frzD S0 (.agg [i64 s.pos, w, hp, i64 s.asked, e, i64 t.how, i64 t.val, o, i64 t.steps, i64 t.work])).map (·.1)) = some (.agg (stU s t)) := by
  obtain ⟨S1, h1, h2⟩ := hw.frz 10
  obtain ⟨S2, h3, _⟩ := (h2 59 3 e _ (by decide) he).frz 10
  rw [frz_agg, accMS_cons, frzS_int]
  simp only [Option.bind_some]
  rw [accMS_cons, h1]
  simp only [Option.bind_some]
  rw [accMS_cons, hh.frz 10]
  simp only [Option.bind_some]
  rw [accMS_cons, frzS_int]
  simp only [Option.bind_some]
  rw [accMS_cons, h3]
  simp only [Option.bind_some]
  rw [accMS_cons, frzS_int]
  simp only [Option.bind_some]
  rw [accMS_cons, frzS_int]
  simp only [Option.bind_some]
  rw [accMS_cons, ho.frz 10]
  rfl
set_option maxHeartbeats 8000000 in
theorem rnew_call {x : FForm} {c : Cs} (hR : c.R.length = 8) (hx : Small x) (hr : rightF x = true) (st : List Ob) : Cl T n_joineryref15_New [formU x, .agg (csU c)] st (.agg (stU (newE x c) tr0)) st := by
  have hb := cs_brw2 hR st
  refine Wp.pureA (fn := c_joineryref15_New) rfl rfl rfl («as» := [formU x, .agg (csU c)]) (by rw [M2.allM, show brwA frzD st (formU x) = some (formU x) from rfl, M2.allM, hb]; rfl) ?_
  have hv := hx.vals
  have lim : (x.vals.length : Int) * 16 ≤ limit := by
    show (x.vals.length : Int) * 16 ≤ 140737488355328
    omega
  have hw0 : (List.replicate x.vals.length (false, (0 : Int))).map wdU = List.replicate x.vals.length [.bool false, i64 0] := by rw [List.map_replicate]; rfl
  have hwl : (List.replicate x.vals.length (false, (0 : Int))).length = x.vals.length := by simp
  have hin : ¬ x.entry < 0 → ((-1 : Int), (0 : Int)) ∈ waysF x x.entry := fun h => ways_ent ⟨by omega, (right_parts hr).1.2⟩
  have cl : (csU c).length = 11 := by unfold csU; simp [hR]
  have tk11 : (csU c).take 11 = csU c := by rw [List.take_of_length_le (by omega)]
  have tk3 : (formC x).take 3 = formC x := rfl
  have c8 : ∃ l1 l2, csU c = l1 ++ intsU c.h :: l2 ∧ l1.length = 8 := ⟨c.R.map fun v => i64 v, [askU c.q c.ans, i64 c.fuel], by unfold csU; rfl, by simp [hR]⟩
  obtain ⟨R, ch, ans, fuel, lq⟩ := c
  obtain ⟨r0, r1, r2, r3, r4, r5, r6, r7, rfl⟩ := R8 hR
  (repeat' first | refine Wp.u ?_ | (refine Wp.c ?_ ?_ <;> intro))
  refine Wp.draw (by (simp [c_joineryref15_New_D0, I.need]) <;> rfl) (by first | ((simp [formC, csU, lim]) <;> rfl) | exact rfl) (by (simp [formC, csU, lim]) <;> rfl) (by (unfold c_joineryref15_New_D0); (repeat (first | ((first | apply Dr.op | apply Dr.opN | (apply Dr.opG; exact rfl)); ((simp [formC, csU, lim]) <;> rfl); (apply Evt.all; intro; (simp [formC, csU, lim]) <;> (try simp (disch := omega) only [wrap_id]) <;> first | exact ⟨rfl, rfl⟩ | exact rfl); ((simp [I.need]) <;> rfl)) | ((first | (apply Dr.opS; exact rfl; decide) | (apply Dr.opS0; exact rfl)); ((simp [I.need]) <;> rfl)))); exact Dr.nil) (by first | decide +kernel | exact rfl) (by (simp [M2.keep]) <;> rfl) ?_
  obtain ⟨Y, W', hc, hW'⟩ := by_call (c := ⟨[r0, r1, r2, r3, r4, r5, r6, r7], ch, ans, fuel, lq⟩) hR hx hr (st := [.box (formC x), .box (csU ⟨[r0, r1, r2, r3, r4, r5, r6, r7], ch, ans, fuel, lq⟩), .box sZ, .row 45 2 false (List.replicate x.vals.length [.bool false, i64 0]), .box [i64 x.entry, .own 3 x.vals.length, intsU ch, i64 0, .nils, i64 0, i64 0, .nils, i64 0, i64 0]]) (by simp [formC, csU, sZ]) (W := .own 3 x.vals.length) (ws := List.replicate x.vals.length (false, 0)) (.inr (.inr ⟨3, by rw [List.length_map, hwl], by rw [hw0]; rfl⟩)) hwl 0 (-1, 0) x.entry hin
  have hk : ∀ (a b d : Ob) (c' e' : List U) (id : Nat) (ys : List (List U)), ([a, b, .box sZ, d, .box [i64 x.entry, .own 3 x.vals.length, intsU ch, i64 0, .nils, i64 0, i64 0, .nils, i64 0, i64 0]] ++ Y)[id]? = some (.row 45 2 false ys) → (a :: b :: .box c' :: d :: .box e' :: Y)[id]? = some (.row 45 2 false ys) := by
    intro a b d c' e' id ys h
    match id, h with
    | 0, h => exact h
    | 1, h => exact h
    | 2, h => cases h
    | 3, h => exact h
    | 4, h => cases h
    | n + 5, h => exact h
  have hW2 := hW'
  rcases hW' with rfl | ⟨rfl, hz⟩ | ⟨id, rfl, hz⟩
  all_goals
    try simp only [List.length_map] at hW2 hc
    (all_goals have := fa (a3 @formC.eq_1 @csU.eq_1 @sZ.eq_1); repeat' first | refine Wp.v ?_ | (apply Wp.call; exact hc) | (refine Wp.c ?_ ?_ <;> intro))
    refine Wp.ret ?_
    simp only [Res, resU, res1, c_joineryref15_New, M2.allM, M2.get, M2.ld, M2.part, sub, Option.bind_some, if_true, Nat.reduceEqDiff]
    exact res_st (s := newE x ⟨[r0, r1, r2, r3, r4, r5, r6, r7], ch, ans, fuel, lq⟩) (t := tr0) (hW2.ext fun id ys h => hk _ _ _ _ _ id ys h) (.inr (.inl ⟨rfl, rfl⟩)) (.inl rfl) (.inr ⟨rfl, rfl⟩)
def tk0 (s : EnS) (k : Nat) : TR := ⟨s.ev, 0, 0, [], k, k⟩
def bx (s : EnS) (k : Nat) : List U := stU s (tk0 s k)
def argL (c : Cs) (s : EnS) (y : FNode) (i : Nat) : List Int := (argsE c s.ws (y.args.take i)).getD []
def stS (x : FForm) (c : Cs) (s : EnS) (k : Nat) (y : FNode) (i : Nat) : S := ⟨[(3, .bp 0 0), (4, .bp 1 0), (5, .bp 2 0), (6, .bp 3 0), (7, .bp 4 0), (8, .own 5 i), (9, i64 i)], [.box (formC x), .box (csU c), .box (bx s (k + 1)), .box sZ, .box (nodeC y), .row 2 1 false ((argL c s y i).map intC)]⟩
def stepU (x : FForm) (c : Cs) (s : EnS) (k : Nat) (y : FNode) : U :=
  let r := doE c s y
  if r.how = 0 then .agg (bx (onE x c y s.pos r) (k + 1)) else .agg (stU r.s (endE r k))
set_option maxHeartbeats 8000000 in
theorem st1_loop {x : FForm} {c : Cs} (hR : c.R.length = 8) {s : EnS} (hws : s.ws.length = x.vals.length) (k : Nat) {y : FNode} (hal : y.args.length ≤ 2) (hsr : ∀ a ∈ y.args, srcIn x a ∧ ¬ a.1 = 3) :
    Wp T (.loop c_joineryref15_Step_L1) (stS x c s k y 0) (fun _ => False) (Res c_joineryref15_Step (stepU x c s k y))
      (fun b s' => b = 0 ∧ ∃ l v', argsE c s.ws y.args = some l ∧ s' = ⟨[(3, .bp 0 0), (4, .bp 1 0), (5, .bp 2 0), (6, .bp 3 0), (7, .bp 4 0), (8, .own 5 l.length), (9, i64 y.args.length), (39, v')], [.box (formC x), .box (csU c), .box (bx s (k + 1)), .box sZ, .box (nodeC y), .row 2 1 false (l.map intC)]⟩) := by
  refine Wp.count y.args.length (fun i => stS x c s k y i) (fun i => (argsE c s.ws (y.args.take i)).isSome = true) (fun i hi hP => ?_) (fun hP => ?_) 0 (by omega) rfl
  · have hi' : (i : Int) < y.args.length := by omega
    have eg : y.args[i]? = some y.args[i] := List.getElem?_eq_getElem hi
    have hsn := argsE_snoc c s.ws y.args[i] (y.args.take i)
    rw [← List.take_succ_eq_append_getElem hi] at hsn
    have hsi := hsr _ (List.getElem_mem hi)
    have hlast : argsE c s.ws (y.args.take (i + 1)) = none → argsE c s.ws y.args = none := argsE_none
    generalize y.args[i] = a at *
    cases hl : argsE c s.ws (y.args.take i) with
    | none => rw [hl] at hP; cases hP
    | some l =>
      have hll : l.length = i := by rw [argsE_len hl, List.length_take]; omega
      rw [hl] at hsn
      have hw := fun st => dword_call hR true hws 0 hsi.1 st
      have e1 : argL c s y i = l := by unfold argL; rw [hl]; rfl
      simp only [stS, e1]
      generalize hwd : wordE c s.ws 0 a = w at *
      obtain ⟨R, ch, ans, fuel, lq⟩ := c
      obtain ⟨r0, r1, r2, r3, r4, r5, r6, r7, rfl⟩ := R8 hR
      cases hw1 : w.1 with
      | false =>
        have hnone : argsE ⟨[r0, r1, r2, r3, r4, r5, r6, r7], ch, ans, fuel, lq⟩ s.ws y.args = none := hlast (by rw [hsn]; simp [hw1])
        have hst : stepU x ⟨[r0, r1, r2, r3, r4, r5, r6, r7], ch, ans, fuel, lq⟩ s k y = .agg (stU s ⟨s.ev, 2, 0, [], (k : Int) + 1, (k : Int) + 1⟩) := by
          unfold stepU
          have hd : doE ⟨[r0, r1, r2, r3, r4, r5, r6, r7], ch, ans, fuel, lq⟩ s y = ⟨2, 0, 0, s, 0⟩ := by unfold doE; rw [hnone]
          rw [hd]
          rfl
        rw [hst]
        (all_goals have := fa (a3 @nodeC.eq_1 @srcsU.eq_1 hi'); repeat' first | refine Wp.v ?_ | (refine Wp.c ?_ ?_ <;> intro))
        refine Wp.draw (by (simp [c_joineryref15_Step_D0, I.need]) <;> rfl) (by first | ((simp [srcC, nodeC, srcsU, csU, bx, stU, hi', eg, wdU, hw1]) <;> rfl) | exact rfl) (by (simp [srcC, nodeC, srcsU, csU, bx, stU, hi', eg, wdU, hw1]) <;> rfl) (by (unfold c_joineryref15_Step_D0); (repeat (first | ((first | apply Dr.op | apply Dr.opN | (apply Dr.opG; exact rfl)); ((simp [srcC, nodeC, srcsU, csU, bx, stU, hi', eg, wdU, hw1]) <;> rfl); (apply Evt.all; intro; (simp [srcC, nodeC, srcsU, csU, bx, stU, hi', eg, wdU, hw1]) <;> (try simp (disch := omega) only [wrap_id]) <;> first | exact ⟨rfl, rfl⟩ | exact rfl); ((simp [I.need]) <;> rfl)) | ((first | (apply Dr.opS; exact rfl; decide) | (apply Dr.opS0; exact rfl)); ((simp [I.need]) <;> rfl)) | (apply Dr.call; ((simp [srcC, nodeC, srcsU, csU, bx, stU, hi', eg, wdU, hw1]) <;> rfl); exact hw _) | (apply Dr.callG; (exact rfl); ((simp [srcC, nodeC, srcsU, csU, bx, stU, hi', eg, wdU, hw1]) <;> rfl); exact hw _))); exact Dr.nil) (by first | decide +kernel | exact rfl) (by (simp [M2.keep]) <;> rfl) ?_
        (all_goals have := fa (a5 @wdU.eq_1 hw1 @bx.eq_1 @stU.eq_1 @tk0.eq_1); repeat' first | refine Wp.v ?_ | (refine Wp.c ?_ ?_ <;> intro))
        refine Wp.ret ?_
        simp only [Res, resU, res1, c_joineryref15_Step, M2.allM, M2.get, M2.ld, M2.part, sub, Option.bind_some, if_true, Nat.reduceEqDiff]
        exact res_st (s := s) (t := ⟨s.ev, 2, 0, [], (k : Int) + 1, (k : Int) + 1⟩) (.inl rfl) (.inl rfl) (.inl rfl) (.inr ⟨rfl, rfl⟩)
      | true =>
        (all_goals have := fa (a3 @nodeC.eq_1 @srcsU.eq_1 hi'); repeat' first | refine Wp.v ?_ | (refine Wp.c ?_ ?_ <;> intro))
        refine Wp.draw (by (simp [c_joineryref15_Step_D0, I.need]) <;> rfl) (by first | ((simp [srcC, nodeC, srcsU, csU, bx, stU, hi', eg, wdU, hw1]) <;> rfl) | exact rfl) (by (simp [srcC, nodeC, srcsU, csU, bx, stU, hi', eg, wdU, hw1]) <;> rfl) (by (unfold c_joineryref15_Step_D0); (repeat (first | ((first | apply Dr.op | apply Dr.opN | (apply Dr.opG; exact rfl)); ((simp [srcC, nodeC, srcsU, csU, bx, stU, hi', eg, wdU, hw1]) <;> rfl); (apply Evt.all; intro; (simp [srcC, nodeC, srcsU, csU, bx, stU, hi', eg, wdU, hw1]) <;> (try simp (disch := omega) only [wrap_id]) <;> first | exact ⟨rfl, rfl⟩ | exact rfl); ((simp [I.need]) <;> rfl)) | ((first | (apply Dr.opS; exact rfl; decide) | (apply Dr.opS0; exact rfl)); ((simp [I.need]) <;> rfl)) | (apply Dr.call; ((simp [srcC, nodeC, srcsU, csU, bx, stU, hi', eg, wdU, hw1]) <;> rfl); exact hw _) | (apply Dr.callG; (exact rfl); ((simp [srcC, nodeC, srcsU, csU, bx, stU, hi', eg, wdU, hw1]) <;> rfl); exact hw _))); exact Dr.nil) (by first | decide +kernel | exact rfl) (by (simp [M2.keep]) <;> rfl) ?_
        (all_goals have := fa (a5 @wdU.eq_1 hw1 @bx.eq_1 @stU.eq_1 @tk0.eq_1); repeat' first | refine Wp.v ?_ | (refine Wp.c ?_ ?_ <;> intro))
        have e2 : argL ⟨[r0, r1, r2, r3, r4, r5, r6, r7], ch, ans, fuel, lq⟩ s y (i + 1) = l ++ [w.2] := by unfold argL; rw [hsn]; simp [hw1]
        have happ : ∀ (a b d e f g : Ob) (cl : Nat → List U → List Ob → Option (U × List Ob)) (e' : Env) (s' x' : A) (nid : Nat), s'.ev e' = .own 5 i → x'.ev e' = .own 7 1 → ev1 cl e' [a, b, d, e, f, Ob.row 2 1 false (l.map intC), g, Ob.row 2 1 false [[i64 w.2]]] nid (.append 2 1 8 false s' x') = some (.own 5 (i + 1), [a, b, d, e, f, Ob.row 2 1 false ((l ++ [w.2]).map intC), g, Ob.row 2 1 false [[i64 w.2]]]) := by
          intro a b d e f g cl e' s' x' nid hs' hx'
          have := app_el intC 1 (fun _ => rfl) (fun _ _ => rfl) cl e' [a, b, d, e, f, Ob.row 2 1 false (l.map intC), g, Ob.row 2 1 false [[i64 w.2]]] 5 2 8 l [w.2] (by simp; omega) s' x' (by rw [hs', hll]) (by rw [hx']; rfl) rfl nid
          rw [this]
          simp [hll]
        refine Wp.op (Evt.all fun n => happ _ _ _ _ _ _ _ _ _ _ _ rfl rfl) ?_
        (all_goals have := fa @wrap_id; repeat' first | refine Wp.v ?_ | (refine Wp.c ?_ ?_ <;> intro))
        rw [e2]
        refine ⟨?_, by rw [hsn]; simp [hw1]⟩
        have ht := trim_list (st := [.box (formC x), .box (csU ⟨[r0, r1, r2, r3, r4, r5, r6, r7], ch, ans, fuel, lq⟩), .box (bx s (k + 1)), .box sZ, .box (nodeC y), .row 2 1 false ((l ++ [w.2]).map intC)]) (l := [.box [.bool true, i64 w.2], .row 2 1 false [[i64 w.2]]]) (e := [(3, .bp 0 0), (4, .bp 1 0), (5, .bp 2 0), (6, .bp 3 0), (7, .bp 4 0), (8, .own 5 (i + 1)), (9, i64 ((i : Int) + 1))]) (by simp) (by simp [formC, csU, bx, stU, sZ, nodeC, srcsU, outsU])
        simp only [List.map_append, List.map_cons, List.map_nil] at ht ⊢
        exact ht
  · cases hl : argsE c s.ws y.args with
    | none => rw [List.take_of_length_le (Nat.le_refl _), hl] at hP; cases hP
    | some l =>
      have hll : l.length = y.args.length := argsE_len hl
      have e1 : argL c s y y.args.length = l := by unfold argL; rw [List.take_of_length_le (Nat.le_refl _), hl]; rfl
      simp only [stS, e1]
      (all_goals have := fa (a2 @nodeC.eq_1 @srcsU.eq_1); repeat' first | refine Wp.v ?_ | (refine Wp.c ?_ ?_ <;> intro))
      exact Wp.exit ⟨rfl, l, .bool false, rfl, by rw [hll]; rfl⟩
theorem num_err (op a b : Int) : ¬ (numF op a b).2 = 1 := by
  unfold numF
  repeat' split
  all_goals simp
theorem len1L {α : Type} : ∀ {l : List α}, l.length = 1 → ∃ a, l = [a]
  | [a], _ => ⟨a, rfl⟩
theorem len2L {α : Type} : ∀ {l : List α}, l.length = 2 → ∃ a b, l = [a, b]
  | [a, b], _ => ⟨a, b, rfl⟩
def finE (x : FForm) (c : Cs) (ws : List Wd) (P way v to : Int) : Env := [(183, i64 to), (182, .bp 2 0), (181, i64 way), (180, i64 P), (179, i64 v), (178, .sl true (ws.map wdU)), (177, .bp 2 1), (176, .agg (csU c)), (175, .agg (formC x)), (3, .bp 0 0), (4, .bp 1 0), (5, .bp 2 0), (6, .bp 3 0), (12, i64 way), (13, i64 v), (16, i64 P)]
set_option maxHeartbeats 32000000 in
theorem fin_ok {x : FForm} {c : Cs} (hR : c.R.length = 8) (hx : Small x) (hr : rightF x = true) {s : EnS} (hws : s.ws.length = x.vals.length) (k : Nat) (P way v to : Int) (hed : ¬ to < 0 → (P, way) ∈ waysF x to) (a4 : Ob) (G : List Ob) (e hp : U)
    (hlow : ((.box (formC x) :: .box (csU c) :: .box [i64 to, .sl true (s.ws.map wdU), hp, i64 s.asked, e, i64 0, i64 0, .sl true [], i64 k, i64 k] :: .box sZ :: a4 :: G : List Ob).all (Ob.blw (.box (formC x) :: .box (csU c) :: .box [i64 to, .sl true (s.ws.map wdU), hp, i64 s.asked, e, i64 0, i64 0, .sl true [], i64 k, i64 k] :: .box sZ :: a4 :: G : List Ob).length)) = true)
    (he : RU (.box (formC x) :: .box (csU c) :: .box [i64 to, .sl true (s.ws.map wdU), hp, i64 s.asked, e, i64 0, i64 0, .sl true [], i64 k, i64 k] :: .box sZ :: a4 :: G : List Ob) 59 3 e (s.ev.map evnU)) (hh : PU hp (s.h.map intC)) :
    Wp T (.ops [⟨some 184, .call 62 [.t 175, .t 176, .t 178, .t 179, .t 180, .t 181, .t 183], none⟩, ⟨some 185, .faddr 1 (.t 5), none⟩, ⟨none, .store 1 (.t 185) (.t 184), none⟩] [5, 6]) ⟨finE x c s.ws P way v to, .box (formC x) :: .box (csU c) :: .box [i64 to, .sl true (s.ws.map wdU), hp, i64 s.asked, e, i64 0, i64 0, .sl true [], i64 k, i64 k] :: .box sZ :: a4 :: G⟩
      (fun s' => Wp T (.seq (.ops [⟨some 186, .load true 10 (.t 5), none⟩, ⟨none, .store 10 (.t 6) (.t 186), none⟩] [6]) .ret) s' (Res c_joineryref15_Step (.agg (bx { s with pos := to, ws := goesE x c s.ws v (P, way) to } k))) (Res c_joineryref15_Step (.agg (bx { s with pos := to, ws := goesE x c s.ws v (P, way) to } k))) (fun _ _ => False))
      (Res c_joineryref15_Step (.agg (bx { s with pos := to, ws := goesE x c s.ws v (P, way) to } k))) (fun _ _ => False) := by
  obtain ⟨Y, W', hc, hW'⟩ := by_call hR hx hr hlow (W := .sl true (s.ws.map wdU)) (.inl rfl) hws v (P, way) to hed
  have hk : ∀ (tag es : Nat) (u : U) (xs : List (List U)) (c' e' : List U), RU ((.box (formC x) :: .box (csU c) :: .box [i64 to, .sl true (s.ws.map wdU), hp, i64 s.asked, e, i64 0, i64 0, .sl true [], i64 k, i64 k] :: .box sZ :: a4 :: G) ++ Y) tag es u xs → RU (.box (formC x) :: .box (csU c) :: .box c' :: .box e' :: a4 :: (G ++ Y)) tag es u xs := by
    intro tag es u xs c' e' h
    refine h.ext fun id ys h => ?_
    match id, h with
    | 0, h => exact h
    | 1, h => exact h
    | 2, h => cases h
    | 3, h => cases h
    | n + 4, h => exact h
  have he2 := he.ext (st' := (.box (formC x) :: .box (csU c) :: .box [i64 to, .sl true (s.ws.map wdU), hp, i64 s.asked, e, i64 0, i64 0, .sl true [], i64 k, i64 k] :: .box sZ :: a4 :: G) ++ Y) fun id ys h => by rw [List.getElem?_append_left (List.getElem?_eq_some_iff.1 h).1, h]
  have hW2 := hW'
  unfold finE
  rcases hW' with rfl | ⟨rfl, hz⟩ | ⟨id, rfl, hz⟩
  all_goals
    try simp only [List.length_map] at hW2 hc
    (all_goals have := fa @sZ.eq_1; repeat' first | refine Wp.v ?_ | (apply Wp.call; exact hc) | (refine Wp.c ?_ ?_ <;> intro))
    refine Wp.ret ?_
    simp only [Res, resU, res1, c_joineryref15_Step, M2.allM, M2.get, M2.ld, M2.part, sub, Option.bind_some, if_true, Nat.reduceEqDiff]
    exact res_st (s := { s with pos := to, ws := goesE x c s.ws v (P, way) to }) (t := tk0 { s with pos := to, ws := goesE x c s.ws v (P, way) to } k) (hk _ _ _ _ _ _ hW2) (hk _ _ _ _ _ _ he2) hh (.inl rfl)
set_option maxHeartbeats 32000000 in
theorem rstep_call {x : FForm} {c : Cs} (hR : c.R.length = 8) (hx : Small x) (hr : rightF x = true) (hca : c.ans.length ≤ 100000) {s : EnS} (hws : s.ws.length = x.vals.length) (hev : s.ev.length ≤ 100000) (hmh : s.h.length ≤ 16) {P : Nat} {y : FNode} (hP : s.pos = P) (hy0 : x.nodes[P]? = some y) (k : Nat) (hk : k ≤ 100000) (st : List Ob) : Cl T n_joineryref15_Step [formU x, .agg (csU c), .agg (bx s k)] st (stepU x c s k y) st := by
  have hb := cs_brw2 hR st
  refine Wp.pureA (fn := c_joineryref15_Step) rfl rfl rfl («as» := [formU x, .agg (csU c), .agg (bx s k)]) (by rw [M2.allM, show brwA frzD st (formU x) = some (formU x) from rfl, M2.allM, hb]; rfl) ?_
  have hy := (right_parts hr).2.1 P _ hy0
  obtain ⟨ho, hal, hol, hn, has, hos⟩ := node_parts hy
  have hal2 : y.args.length ≤ 2 := by
    rw [hal]
    unfold argsF
    split
    · omega
    · split <;> omega
  have hsr : ∀ s ∈ y.args, srcIn x s ∧ ¬ s.1 = 3 := fun s hs => arg_in (has s hs)
  have hPl := (List.getElem?_eq_some_iff.1 hy0).1
  have hPl' : (P : Int) < x.nodes.length := by omega
  have hl1 := st1_loop hR hws k hal2 hsr
  obtain ⟨op, yn, args, outs⟩ := y
  obtain ⟨pos, ws, h, asked, ev⟩ := s
  simp only at hP hws hev hmh
  subst hP
  (all_goals have := fa (a5 @formC.eq_1 @bx.eq_1 @stU.eq_1 @tk0.eq_1 (a4 hy0 hPl' @nodeC.eq_1 @wrap_id)); repeat' first | refine Wp.v ?_ | (refine Wp.c ?_ ?_ <;> intro))
  refine (show Wp T (.loop c_joineryref15_Step_L1) (stS x c ⟨(P : Int), ws, h, asked, ev⟩ k ⟨op, yn, args, outs⟩ 0) _ _ _ from hl1.imp (fun _ h => h.elim) (fun _ h => h) ?_)
  rintro b s' ⟨rfl, l, v', hl, rfl⟩
  rw [if_pos rfl]
  have hll := argsE_len hl
  simp only at ho hal hol hos hll hl
  have cl : (csU c).length = 11 := by unfold csU; simp [hR]
  have tk11 : (csU c).take 11 = csU c := by rw [List.take_of_length_le (by omega)]
  by_cases h412 : 4 ≤ op ∧ op ≤ 12
  · have hal' : args.length = 2 := by
      rw [hal]
      rcases (show op = 4 ∨ op = 5 ∨ op = 6 ∨ op = 7 ∨ op = 8 ∨ op = 9 ∨ op = 10 ∨ op = 11 ∨ op = 12 by omega) with e | e | e | e | e | e | e | e | e <;> rw [e] <;> rfl
    have hol' : outs.length = 1 := by
      rw [hol]
      rcases (show op = 4 ∨ op = 5 ∨ op = 6 ∨ op = 7 ∨ op = 8 ∨ op = 9 ∨ op = 10 ∨ op = 11 ∨ op = 12 by omega) with e | e | e | e | e | e | e | e | e <;> rw [e] <;> rfl
    obtain ⟨a, b, rfl⟩ := len2L (hll.trans hal')
    obtain ⟨o0, rfl⟩ := len1L hol'
    have n0 : ¬ op = 0 := by omega
    have n13 : ¬ op = 13 := by omega
    have n14 : ¬ op = 14 := by omega
    have n15 : ¬ op = 15 := by omega
    have n17 : ¬ op = 17 := by omega
    have n18 : ¬ op = 18 := by omega
    have d0 : decide (op = 0) = false := decide_eq_false n0
    have d13 : decide (op = 13) = false := decide_eq_false n13
    have d14 : decide (op = 14) = false := decide_eq_false n14
    have d15 : decide (op = 15) = false := decide_eq_false n15
    have d17 : decide (op = 17) = false := decide_eq_false n17
    have d18 : decide (op = 18) = false := decide_eq_false n18
    have hnm := fun st => rnum_call op a b st
    have hd : doE c ⟨(P : Int), ws, h, asked, ev⟩ ⟨op, yn, args, [o0]⟩ = ⟨(numF op a b).2, 0, (numF op a b).1, ⟨(P : Int), ws, h, asked, ev⟩, 0⟩ := by
      unfold doE
      simp [hl, n0, n13, n14, n15, n17, n18]
    have hne1 : ¬ (numF op a b).2 = 1 := num_err op a b
    generalize numF op a b = vf at *
    obtain ⟨v, f⟩ := vf
    simp only at hd hne1 hnm
    by_cases hf : f = 0
    · subst hf
      have hst : stepU x c ⟨(P : Int), ws, h, asked, ev⟩ k ⟨op, yn, args, [o0]⟩ = .agg (bx ⟨o0, goesE x c ws v ((P : Int), 0) o0, h, asked, ev⟩ (k + 1)) := by
        unfold stepU
        rw [hd]
        rfl
      rw [hst]
      (all_goals have := fa (a4 @nodeC.eq_1 @bx.eq_1 @stU.eq_1 @tk0.eq_1); repeat' first | refine Wp.v ?_ | (refine Wp.c ?_ ?_ <;> intro))
      refine Wp.draw (by (simp [c_joineryref15_Step_D6, I.need]) <;> rfl) (by first | ((simp [nodeC, bx, stU, tk0, intC]) <;> rfl) | exact rfl) (by (simp [nodeC, bx, stU, tk0, intC]) <;> rfl) (by (unfold c_joineryref15_Step_D6); (repeat (first | ((first | apply Dr.op | apply Dr.opN | (apply Dr.opG; exact rfl)); ((simp [nodeC, bx, stU, tk0, intC]) <;> rfl); (apply Evt.all; intro; (simp [nodeC, bx, stU, tk0, intC]) <;> (try simp (disch := omega) only [wrap_id]) <;> first | exact ⟨rfl, rfl⟩ | exact rfl); ((simp [I.need]) <;> rfl)) | ((first | (apply Dr.opS; exact rfl; decide) | (apply Dr.opS0; exact rfl)); ((simp [I.need]) <;> rfl)) | (apply Dr.call; ((simp [nodeC, bx, stU, tk0, intC]) <;> rfl); exact hnm _) | (apply Dr.callG; (exact rfl); ((simp [nodeC, bx, stU, tk0, intC]) <;> rfl); exact hnm _))); exact Dr.nil) (by first | decide +kernel | exact rfl) (by (simp [M2.keep]) <;> rfl) ?_
      (all_goals have := fa (a5 @nodeC.eq_1 @bx.eq_1 @stU.eq_1 @tk0.eq_1 (a4 @outsU.eq_1 @outC.eq_1 cl tk11)); repeat' first | refine Wp.v ?_ | (refine Wp.c ?_ ?_ <;> intro))
      exact fin_ok hR hx hr (s := ⟨(P : Int), ws, h, asked, ev⟩) hws (k + 1) P 0 v o0 (fun hto => ways_in hy0 (j := 0) rfl ⟨by omega, (hos o0 (by simp)).2⟩) _ _ _ _ (by simp [formC, csU, sZ, srcsU]) (.inl rfl) (.inl rfl)
    · have hst : stepU x c ⟨(P : Int), ws, h, asked, ev⟩ k ⟨op, yn, args, [o0]⟩ = .agg (stU ⟨(P : Int), ws, h, asked, ev⟩ ⟨ev, f, 0, [], (k : Int) + 1, (k : Int) + 1⟩) := by
        unfold stepU
        rw [hd]
        simp only [hf, if_false, endE, hne1]
      rw [hst]
      (all_goals have := fa (a4 @nodeC.eq_1 @bx.eq_1 @stU.eq_1 @tk0.eq_1); repeat' first | refine Wp.v ?_ | (refine Wp.c ?_ ?_ <;> intro))
      refine Wp.draw (by (simp [c_joineryref15_Step_D6, I.need]) <;> rfl) (by first | ((simp [nodeC, bx, stU, tk0, intC]) <;> rfl) | exact rfl) (by (simp [nodeC, bx, stU, tk0, intC]) <;> rfl) (by (unfold c_joineryref15_Step_D6); (repeat (first | ((first | apply Dr.op | apply Dr.opN | (apply Dr.opG; exact rfl)); ((simp [nodeC, bx, stU, tk0, intC]) <;> rfl); (apply Evt.all; intro; (simp [nodeC, bx, stU, tk0, intC]) <;> (try simp (disch := omega) only [wrap_id]) <;> first | exact ⟨rfl, rfl⟩ | exact rfl); ((simp [I.need]) <;> rfl)) | ((first | (apply Dr.opS; exact rfl; decide) | (apply Dr.opS0; exact rfl)); ((simp [I.need]) <;> rfl)) | (apply Dr.call; ((simp [nodeC, bx, stU, tk0, intC]) <;> rfl); exact hnm _) | (apply Dr.callG; (exact rfl); ((simp [nodeC, bx, stU, tk0, intC]) <;> rfl); exact hnm _))); exact Dr.nil) (by first | decide +kernel | exact rfl) (by (simp [M2.keep]) <;> rfl) ?_
      (all_goals have := fa (a5 @nodeC.eq_1 @bx.eq_1 @stU.eq_1 @tk0.eq_1 hf); repeat' first | refine Wp.v ?_ | (refine Wp.c ?_ ?_ <;> intro))
      refine Wp.ret ?_
      simp only [Res, resU, res1, c_joineryref15_Step, M2.allM, M2.get, M2.ld, M2.part, sub, Option.bind_some, if_true, Nat.reduceEqDiff]
      exact res_st (s := ⟨(P : Int), ws, h, asked, ev⟩) (t := ⟨ev, f, 0, [], (k : Int) + 1, (k : Int) + 1⟩) (.inl rfl) (.inl rfl) (.inl rfl) (.inr ⟨rfl, rfl⟩)
  rcases op_cases ho with e | e | e | e | e | e | e | e | e | e | e | e | e | e | e
  case inr.inr.inr.inr.inr.inr.inr.inr.inr.inr.inr.inr.inr.inl =>
    subst e
    have hal' : args.length = 1 := hal
    have hol' : outs.length = 2 := hol
    obtain ⟨a, rfl⟩ := len1L (hll.trans hal')
    obtain ⟨o0, o1, rfl⟩ := len2L hol'
    by_cases ha : a = 0
    · have hd : doE c ⟨(P : Int), ws, h, asked, ev⟩ ⟨17, yn, args, [o0, o1]⟩ = ⟨0, 0, 0, ⟨(P : Int), ws, h, asked, ev⟩, 0⟩ := by
        unfold doE
        simp [hl, ha]
      have hst : stepU x c ⟨(P : Int), ws, h, asked, ev⟩ k ⟨17, yn, args, [o0, o1]⟩ = .agg (bx ⟨o0, goesE x c ws 0 ((P : Int), 0) o0, h, asked, ev⟩ (k + 1)) := by
        unfold stepU
        rw [hd]
        rfl
      rw [hst]
      (all_goals have := fa (a5 @nodeC.eq_1 @bx.eq_1 @stU.eq_1 @tk0.eq_1 (a5 ha @outsU.eq_1 @outC.eq_1 cl tk11)); repeat' first | refine Wp.v ?_ | (refine Wp.c ?_ ?_ <;> intro))
      exact fin_ok hR hx hr (s := ⟨(P : Int), ws, h, asked, ev⟩) hws (k + 1) P 0 0 o0 (fun hto => ways_in hy0 (j := 0) rfl ⟨by omega, (hos o0 (by simp)).2⟩) _ _ _ _ (by simp [formC, csU, sZ, srcsU]) (.inl rfl) (.inl rfl)
    · have hd : doE c ⟨(P : Int), ws, h, asked, ev⟩ ⟨17, yn, args, [o0, o1]⟩ = ⟨0, 1, 0, ⟨(P : Int), ws, h, asked, ev⟩, 0⟩ := by
        unfold doE
        simp [hl, ha]
      have hst : stepU x c ⟨(P : Int), ws, h, asked, ev⟩ k ⟨17, yn, args, [o0, o1]⟩ = .agg (bx ⟨o1, goesE x c ws 0 ((P : Int), 1) o1, h, asked, ev⟩ (k + 1)) := by
        unfold stepU
        rw [hd]
        rfl
      rw [hst]
      (all_goals have := fa (a5 @nodeC.eq_1 @bx.eq_1 @stU.eq_1 @tk0.eq_1 (a5 ha @outsU.eq_1 @outC.eq_1 cl tk11)); repeat' first | refine Wp.v ?_ | (refine Wp.c ?_ ?_ <;> intro))
      exact fin_ok hR hx hr (s := ⟨(P : Int), ws, h, asked, ev⟩) hws (k + 1) P 1 0 o1 (fun hto => ways_in hy0 (j := 1) rfl ⟨by omega, (hos o1 (by simp)).2⟩) _ _ _ _ (by simp [formC, csU, sZ, srcsU]) (.inl rfl) (.inl rfl)
  case inl =>
    subst e
    have hd : doE c ⟨(P : Int), ws, h, asked, ev⟩ ⟨0, yn, args, outs⟩ = ⟨2, 0, 0, ⟨(P : Int), ws, h, asked, ev⟩, 0⟩ := by
      unfold doE
      simp [hl]
    have hst : stepU x c ⟨(P : Int), ws, h, asked, ev⟩ k ⟨0, yn, args, outs⟩ = .agg (stU ⟨(P : Int), ws, h, asked, ev⟩ ⟨ev, 2, 0, [], (k : Int) + 1, (k : Int) + 1⟩) := by
      unfold stepU
      rw [hd]
      rfl
    rw [hst]
    (all_goals have := fa (a4 @nodeC.eq_1 @bx.eq_1 @stU.eq_1 @tk0.eq_1); repeat' first | refine Wp.v ?_ | (refine Wp.c ?_ ?_ <;> intro))
    refine Wp.ret ?_
    simp only [Res, resU, res1, c_joineryref15_Step, M2.allM, M2.get, M2.ld, M2.part, sub, Option.bind_some, if_true, Nat.reduceEqDiff]
    exact res_st (s := ⟨(P : Int), ws, h, asked, ev⟩) (t := ⟨ev, 2, 0, [], (k : Int) + 1, (k : Int) + 1⟩) (.inl rfl) (.inl rfl) (.inl rfl) (.inr ⟨rfl, rfl⟩)
  case inr.inr.inr.inr.inr.inr.inr.inr.inr.inr.inr.inr.inr.inr =>
    subst e
    have hal' : args.length = 1 := hal
    obtain ⟨a, rfl⟩ := len1L (hll.trans hal')
    have hd : doE c ⟨(P : Int), ws, h, asked, ev⟩ ⟨18, yn, args, outs⟩ = ⟨1, 0, 0, ⟨(P : Int), ws, h, asked, ev⟩, a⟩ := by
      unfold doE
      simp [hl]
    have hst : stepU x c ⟨(P : Int), ws, h, asked, ev⟩ k ⟨18, yn, args, outs⟩ = .agg (stU ⟨(P : Int), ws, h, asked, ev⟩ ⟨ev, 1, a, h, (k : Int) + 1, (k : Int) + 1⟩) := by
      unfold stepU
      rw [hd]
      rfl
    rw [hst]
    (all_goals have := fa (a4 @nodeC.eq_1 @bx.eq_1 @stU.eq_1 @tk0.eq_1); repeat' first | refine Wp.v ?_ | (refine Wp.c ?_ ?_ <;> intro))
    refine Wp.draw (by (simp [c_joineryref15_Step_D5, I.need]) <;> rfl) (by first | ((simp [bx, stU, tk0, intC]) <;> rfl) | exact rfl) (by (simp [bx, stU, tk0, intC]) <;> rfl) (by (unfold c_joineryref15_Step_D5); (repeat (first | ((first | apply Dr.op | apply Dr.opN | (apply Dr.opG; exact rfl)); ((simp [bx, stU, tk0, intC]) <;> rfl); (apply Evt.all; intro; (simp [bx, stU, tk0, intC]) <;> (try simp (disch := omega) only [wrap_id]) <;> first | exact ⟨rfl, rfl⟩ | exact rfl); ((simp [I.need]) <;> rfl)) | ((first | (apply Dr.opS; exact rfl; decide) | (apply Dr.opS0; exact rfl)); ((simp [I.need]) <;> rfl)))); exact Dr.nil) (by first | decide +kernel | exact rfl) (by (simp [M2.keep]) <;> rfl) ?_
    (all_goals have := fa (a3 @bx.eq_1 @stU.eq_1 @tk0.eq_1); repeat' first | refine Wp.v ?_ | (refine Wp.c ?_ ?_ <;> intro))
    refine Wp.ret ?_
    simp only [Res, resU, res1, c_joineryref15_Step, M2.allM, M2.get, M2.ld, M2.part, sub, Option.bind_some, if_true, Nat.reduceEqDiff]
    exact res_st (s := ⟨(P : Int), ws, h, asked, ev⟩) (t := ⟨ev, 1, a, h, (k : Int) + 1, (k : Int) + 1⟩) (.inl rfl) (.inl rfl) (.inl rfl) (.inl rfl)
  case inr.inr.inr.inr.inr.inr.inr.inr.inr.inr.inl =>
    subst e
    have hal' : args.length = 1 := hal
    have hol' : outs.length = 1 := hol
    obtain ⟨a, rfl⟩ := len1L (hll.trans hal')
    obtain ⟨o0, rfl⟩ := len1L hol'
    have hld := fun st => rload_call true h a st
    by_cases hf : (loadF h a).2 = 0
    · have hd : doE c ⟨(P : Int), ws, h, asked, ev⟩ ⟨13, yn, args, [o0]⟩ = ⟨0, 0, (loadF h a).1, ⟨(P : Int), ws, h, asked, ev⟩, 0⟩ := by
        unfold doE
        simp [hl, hf]
      have hst : stepU x c ⟨(P : Int), ws, h, asked, ev⟩ k ⟨13, yn, args, [o0]⟩ = .agg (bx ⟨o0, goesE x c ws (loadF h a).1 ((P : Int), 0) o0, h, asked, ev⟩ (k + 1)) := by
        unfold stepU
        rw [hd]
        rfl
      rw [hst]
      rw [hf] at hld
      generalize (loadF h a).1 = v at *
      (all_goals have := fa (a4 @nodeC.eq_1 @bx.eq_1 @stU.eq_1 @tk0.eq_1); repeat' first | refine Wp.v ?_ | (refine Wp.c ?_ ?_ <;> intro))
      refine Wp.draw (by (simp [c_joineryref15_Step_D2, I.need]) <;> rfl) (by first | ((simp [bx, stU, tk0, intC]) <;> rfl) | exact rfl) (by (simp [bx, stU, tk0, intC]) <;> rfl) (by (unfold c_joineryref15_Step_D2); (repeat (first | ((first | apply Dr.op | apply Dr.opN | (apply Dr.opG; exact rfl)); ((simp [bx, stU, tk0, intC]) <;> rfl); (apply Evt.all; intro; (simp [bx, stU, tk0, intC]) <;> (try simp (disch := omega) only [wrap_id]) <;> first | exact ⟨rfl, rfl⟩ | exact rfl); ((simp [I.need]) <;> rfl)) | ((first | (apply Dr.opS; exact rfl; decide) | (apply Dr.opS0; exact rfl)); ((simp [I.need]) <;> rfl)) | (apply Dr.call; ((simp [bx, stU, tk0, intC]) <;> rfl); exact hld _) | (apply Dr.callG; (exact rfl); ((simp [bx, stU, tk0, intC]) <;> rfl); exact hld _))); exact Dr.nil) (by first | decide +kernel | exact rfl) (by (simp [M2.keep]) <;> rfl) ?_
      (all_goals have := fa (a5 @nodeC.eq_1 @bx.eq_1 @stU.eq_1 @tk0.eq_1 (a4 @outsU.eq_1 @outC.eq_1 cl tk11)); repeat' first | refine Wp.v ?_ | (refine Wp.c ?_ ?_ <;> intro))
      exact fin_ok hR hx hr (s := ⟨(P : Int), ws, h, asked, ev⟩) hws (k + 1) P 0 v o0 (fun hto => ways_in hy0 (j := 0) rfl ⟨by omega, (hos o0 (by simp)).2⟩) _ _ _ _ (by simp [formC, csU, sZ, srcsU]) (.inl rfl) (.inl rfl)
    · have hd : doE c ⟨(P : Int), ws, h, asked, ev⟩ ⟨13, yn, args, [o0]⟩ = ⟨(loadF h a).2, 0, (loadF h a).1, ⟨(P : Int), ws, h, asked, ev⟩, 0⟩ := by
        unfold doE
        simp [hl]
      have h1 : (loadF h a).2 = 4 := by
        unfold loadF at hf ⊢
        split
        · rename_i hh
          rw [if_pos hh] at hf
          exact absurd rfl hf
        · rfl
      have hst : stepU x c ⟨(P : Int), ws, h, asked, ev⟩ k ⟨13, yn, args, [o0]⟩ = .agg (stU ⟨(P : Int), ws, h, asked, ev⟩ ⟨ev, 4, 0, [], (k : Int) + 1, (k : Int) + 1⟩) := by
        unfold stepU
        rw [hd, h1]
        rfl
      rw [hst]
      rw [h1] at hld
      generalize (loadF h a).1 = v at *
      (all_goals have := fa (a4 @nodeC.eq_1 @bx.eq_1 @stU.eq_1 @tk0.eq_1); repeat' first | refine Wp.v ?_ | (refine Wp.c ?_ ?_ <;> intro))
      refine Wp.draw (by (simp [c_joineryref15_Step_D2, I.need]) <;> rfl) (by first | ((simp [bx, stU, tk0, intC]) <;> rfl) | exact rfl) (by (simp [bx, stU, tk0, intC]) <;> rfl) (by (unfold c_joineryref15_Step_D2); (repeat (first | ((first | apply Dr.op | apply Dr.opN | (apply Dr.opG; exact rfl)); ((simp [bx, stU, tk0, intC]) <;> rfl); (apply Evt.all; intro; (simp [bx, stU, tk0, intC]) <;> (try simp (disch := omega) only [wrap_id]) <;> first | exact ⟨rfl, rfl⟩ | exact rfl); ((simp [I.need]) <;> rfl)) | ((first | (apply Dr.opS; exact rfl; decide) | (apply Dr.opS0; exact rfl)); ((simp [I.need]) <;> rfl)) | (apply Dr.call; ((simp [bx, stU, tk0, intC]) <;> rfl); exact hld _) | (apply Dr.callG; (exact rfl); ((simp [bx, stU, tk0, intC]) <;> rfl); exact hld _))); exact Dr.nil) (by first | decide +kernel | exact rfl) (by (simp [M2.keep]) <;> rfl) ?_
      (all_goals have := fa (a4 @nodeC.eq_1 @bx.eq_1 @stU.eq_1 @tk0.eq_1); repeat' first | refine Wp.v ?_ | (refine Wp.c ?_ ?_ <;> intro))
      refine Wp.ret ?_
      simp only [Res, resU, res1, c_joineryref15_Step, M2.allM, M2.get, M2.ld, M2.part, sub, Option.bind_some, if_true, Nat.reduceEqDiff]
      exact res_st (s := ⟨(P : Int), ws, h, asked, ev⟩) (t := ⟨ev, 4, 0, [], (k : Int) + 1, (k : Int) + 1⟩) (.inl rfl) (.inl rfl) (.inl rfl) (.inr ⟨rfl, rfl⟩)
  case inr.inr.inr.inr.inr.inr.inr.inr.inr.inr.inr.inl =>
    subst e
    have hal' : args.length = 2 := hal
    have hol' : outs.length = 1 := hol
    obtain ⟨a, b, rfl⟩ := len2L (hll.trans hal')
    obtain ⟨o0, rfl⟩ := len1L hol'
    have hsr2 := fun st => rstore_call true h a b st
    by_cases hf : (storeF h a b).2 = 0
    · have hd : doE c ⟨(P : Int), ws, h, asked, ev⟩ ⟨14, yn, args, [o0]⟩ = ⟨0, 0, 0, ⟨(P : Int), ws, (storeF h a b).1, asked, ev⟩, 0⟩ := by
        unfold doE
        simp [hl, hf]
      have hst : stepU x c ⟨(P : Int), ws, h, asked, ev⟩ k ⟨14, yn, args, [o0]⟩ = .agg (bx ⟨o0, goesE x c ws 0 ((P : Int), 0) o0, (storeF h a b).1, asked, ev⟩ (k + 1)) := by
        unfold stepU
        rw [hd]
        rfl
      rw [hst]
      rw [hf] at hsr2
      generalize (storeF h a b).1 = h2 at *
      (all_goals have := fa (a4 @nodeC.eq_1 @bx.eq_1 @stU.eq_1 @tk0.eq_1); repeat' first | refine Wp.v ?_ | (refine Wp.c ?_ ?_ <;> intro))
      refine Wp.draw (by (simp [c_joineryref15_Step_D3, I.need]) <;> rfl) (by first | ((simp [bx, stU, tk0, intC, heapU]) <;> rfl) | exact rfl) (by (simp [bx, stU, tk0, intC, heapU]) <;> rfl) (by (unfold c_joineryref15_Step_D3); (repeat (first | ((first | apply Dr.op | apply Dr.opN | (apply Dr.opG; exact rfl)); ((simp [bx, stU, tk0, intC, heapU]) <;> rfl); (apply Evt.all; intro; (simp [bx, stU, tk0, intC, heapU]) <;> (try simp (disch := omega) only [wrap_id]) <;> first | exact ⟨rfl, rfl⟩ | exact rfl); ((simp [I.need]) <;> rfl)) | ((first | (apply Dr.opS; exact rfl; decide) | (apply Dr.opS0; exact rfl)); ((simp [I.need]) <;> rfl)) | (apply Dr.call; ((simp [bx, stU, tk0, intC, heapU]) <;> rfl); exact hsr2 _) | (apply Dr.callG; (exact rfl); ((simp [bx, stU, tk0, intC, heapU]) <;> rfl); exact hsr2 _))); exact Dr.nil) (by first | decide +kernel | exact rfl) (by (simp [M2.keep]) <;> rfl) ?_
      (all_goals have := fa (a5 @nodeC.eq_1 @bx.eq_1 @stU.eq_1 @tk0.eq_1 (a5 @outsU.eq_1 @outC.eq_1 cl tk11 @heapU.eq_1)); repeat' first | refine Wp.v ?_ | (refine Wp.c ?_ ?_ <;> intro))
      exact fin_ok hR hx hr (s := ⟨(P : Int), ws, h2, asked, ev⟩) hws (k + 1) P 0 0 o0 (fun hto => ways_in hy0 (j := 0) rfl ⟨by omega, (hos o0 (by simp)).2⟩) _ _ _ _ (by simp [formC, csU, sZ, srcsU]) (.inl rfl) (.inl rfl)
    · have h1 : (storeF h a b).2 = 4 := by
        unfold storeF at hf ⊢
        split
        · rename_i hh
          rw [if_pos hh] at hf
          exact absurd rfl hf
        · rfl
      have hd : doE c ⟨(P : Int), ws, h, asked, ev⟩ ⟨14, yn, args, [o0]⟩ = ⟨4, 0, 0, ⟨(P : Int), ws, h, asked, ev⟩, 0⟩ := by
        unfold doE
        simp [hl, h1]
      have hst : stepU x c ⟨(P : Int), ws, h, asked, ev⟩ k ⟨14, yn, args, [o0]⟩ = .agg (stU ⟨(P : Int), ws, h, asked, ev⟩ ⟨ev, 4, 0, [], (k : Int) + 1, (k : Int) + 1⟩) := by
        unfold stepU
        rw [hd]
        rfl
      rw [hst]
      rw [h1] at hsr2
      generalize (storeF h a b).1 = h2 at *
      (all_goals have := fa (a4 @nodeC.eq_1 @bx.eq_1 @stU.eq_1 @tk0.eq_1); repeat' first | refine Wp.v ?_ | (refine Wp.c ?_ ?_ <;> intro))
      refine Wp.draw (by (simp [c_joineryref15_Step_D3, I.need]) <;> rfl) (by first | ((simp [bx, stU, tk0, intC, heapU]) <;> rfl) | exact rfl) (by (simp [bx, stU, tk0, intC, heapU]) <;> rfl) (by (unfold c_joineryref15_Step_D3); (repeat (first | ((first | apply Dr.op | apply Dr.opN | (apply Dr.opG; exact rfl)); ((simp [bx, stU, tk0, intC, heapU]) <;> rfl); (apply Evt.all; intro; (simp [bx, stU, tk0, intC, heapU]) <;> (try simp (disch := omega) only [wrap_id]) <;> first | exact ⟨rfl, rfl⟩ | exact rfl); ((simp [I.need]) <;> rfl)) | ((first | (apply Dr.opS; exact rfl; decide) | (apply Dr.opS0; exact rfl)); ((simp [I.need]) <;> rfl)) | (apply Dr.call; ((simp [bx, stU, tk0, intC, heapU]) <;> rfl); exact hsr2 _) | (apply Dr.callG; (exact rfl); ((simp [bx, stU, tk0, intC, heapU]) <;> rfl); exact hsr2 _))); exact Dr.nil) (by first | decide +kernel | exact rfl) (by (simp [M2.keep]) <;> rfl) ?_
      (all_goals have := fa (a4 @nodeC.eq_1 @bx.eq_1 @stU.eq_1 @tk0.eq_1); repeat' first | refine Wp.v ?_ | (refine Wp.c ?_ ?_ <;> intro))
      refine Wp.ret ?_
      simp only [Res, resU, res1, c_joineryref15_Step, M2.allM, M2.get, M2.ld, M2.part, sub, Option.bind_some, if_true, Nat.reduceEqDiff]
      exact res_st (s := ⟨(P : Int), ws, h, asked, ev⟩) (t := ⟨ev, 4, 0, [], (k : Int) + 1, (k : Int) + 1⟩) (.inl rfl) (.inl rfl) (.inl rfl) (.inr ⟨rfl, rfl⟩)
  case inr.inr.inr.inr.inr.inr.inr.inr.inr.inr.inr.inr.inl =>
    subst e
    have hal' : args.length = 1 := hal
    have hol' : outs.length = 1 := hol
    obtain ⟨a, rfl⟩ := len1L (hll.trans hal')
    obtain ⟨o0, rfl⟩ := len1L hol'
    obtain ⟨R, ch, ans, fuel, lq⟩ := c
    obtain ⟨r0, r1, r2, r3, r4, r5, r6, r7, rfl⟩ := R8 hR
    by_cases hq : asked < ans.length
    · have hq' : (asked : Int) < ans.length := by omega
      have eq : ans[asked]? = some ans[asked] := List.getElem?_eq_getElem hq
      have gd : ans.getD asked 0 = ans[asked] := by simp [hq]
      have hd : doE ⟨[r0, r1, r2, r3, r4, r5, r6, r7], ch, ans, fuel, lq⟩ ⟨(P : Int), ws, h, asked, ev⟩ ⟨15, yn, args, [o0]⟩ = ⟨0, 0, ans[asked], ⟨(P : Int), ws, h, asked + 1, ev ++ [(yn, a, ans[asked])]⟩, 0⟩ := by
        unfold doE
        simp [hl, hq]
      generalize ans[asked] = v at *
      have hst : stepU x ⟨[r0, r1, r2, r3, r4, r5, r6, r7], ch, ans, fuel, lq⟩ ⟨(P : Int), ws, h, asked, ev⟩ k ⟨15, yn, args, [o0]⟩ = .agg (bx ⟨o0, goesE x ⟨[r0, r1, r2, r3, r4, r5, r6, r7], ch, ans, fuel, lq⟩ ws v ((P : Int), 0) o0, h, asked + 1, ev ++ [(yn, a, v)]⟩ (k + 1)) := by
        unfold stepU
        rw [hd]
        rfl
      rw [hst]
      have hA1 : ∀ (b0 b1 b2 b3 b4 b5 b7 b8 b9 : Ob) (cl : Nat → List U → List Ob → Option (U × List Ob)) (e' : Env) (s' x' : A) (nid : Nat), s'.ev e' = .own 6 0 → x'.ev e' = .sl true (ev.map evnU) → ev1 cl e' [b0, b1, b2, b3, b4, b5, Ob.row 59 3 false [], b7, b8, b9] nid (.append 59 3 24 false s' x') = some (.own 6 ev.length, [b0, b1, b2, b3, b4, b5, Ob.row 59 3 false (ev.map evnU), b7, b8, b9]) := by
        intro b0 b1 b2 b3 b4 b5 b7 b8 b9 cl e' s' x' nid hs' hx'
        have := app_el evnU 3 (fun _ => rfl) (fun _ _ => rfl) cl e' [b0, b1, b2, b3, b4, b5, Ob.row 59 3 false [], b7, b8, b9] 6 59 24 [] ev (by simp; omega) s' x' hs' (by rw [hx']; rfl) rfl nid
        rw [this]
        rfl
      have hT1 : ∀ (pf : Nat → Bool) (e' : Env) (s' x' : A) (nid : Nat) (st : List Ob), s'.ev e' = .own 6 0 → x'.ev e' = .sl true (ev.map evnU) → touch pf e' st nid (.append 59 3 24 false s' x') = some [(6, true)] := by
        intro pf e' s' x' nid st hs' hx'
        have hpl : (ev.map evnU).all (fun z => z.all plainU) = true := by
          rw [List.all_eq_true]
          intro z hz
          obtain ⟨v, _, rfl⟩ := List.mem_map.1 hz
          rfl
        simp only [touch, hs', hx', touchX, touchE, M2.elems, Option.bind_some]
        rw [if_pos hpl]
        rfl
      have hA2 : ∀ (b0 b1 b2 b3 b4 b5 b7 b9 : Ob) (cl : Nat → List U → List Ob → Option (U × List Ob)) (e' : Env) (s' x' : A) (nid : Nat), s'.ev e' = .own 6 ev.length → x'.ev e' = .own 8 1 → ev1 cl e' [b0, b1, b2, b3, b4, b5, Ob.row 59 3 false (ev.map evnU), b7, Ob.row 59 3 false [[i64 yn, i64 a, i64 v]], b9] nid (.append 59 3 24 false s' x') = some (.own 6 (ev ++ [(yn, a, v)]).length, [b0, b1, b2, b3, b4, b5, Ob.row 59 3 false ((ev ++ [(yn, a, v)]).map evnU), b7, Ob.row 59 3 false [[i64 yn, i64 a, i64 v]], b9]) := by
        intro b0 b1 b2 b3 b4 b5 b7 b9 cl e' s' x' nid hs' hx'
        have := app_el evnU 3 (fun _ => rfl) (fun _ _ => rfl) cl e' [b0, b1, b2, b3, b4, b5, Ob.row 59 3 false (ev.map evnU), b7, Ob.row 59 3 false [[i64 yn, i64 a, i64 v]], b9] 6 59 24 ev [(yn, a, v)] (by simp; omega) s' x' hs' (by rw [hx']; rfl) rfl nid
        rw [this]
        rfl
      have hT2 : ∀ (b0 b1 b2 b3 b4 b5 b6 b7 b9 : Ob) (pf : Nat → Bool) (e' : Env) (s' x' : A) (nid : Nat), s'.ev e' = .own 6 ev.length → x'.ev e' = .own 8 1 → touch pf e' [b0, b1, b2, b3, b4, b5, b6, b7, Ob.row 59 3 false [[i64 yn, i64 a, i64 v]], b9] nid (.append 59 3 24 false s' x') = some [(8, false), (6, true)] := by
        intro b0 b1 b2 b3 b4 b5 b6 b7 b9 pf e' s' x' nid hs' hx'
        simp only [touch, hs', hx']
        rfl
      have dq : decide ((asked : Int) < ans.length) = true := decide_eq_true hq'
      have dqn : decide (asked < ans.length) = true := decide_eq_true hq
      have hqb : asked ≤ 100000 := by
        simp only at hca
        omega
      have hww : IntKind.i64.wrap ((asked : Int) + 1) = (asked : Int) + 1 := wrap_id (by omega) (by omega)
      clear hd
      (all_goals have := fa (a5 @nodeC.eq_1 @bx.eq_1 @stU.eq_1 @tk0.eq_1 (a5 @csU.eq_1 dq dqn hq' (a2 eq hww))); repeat' first | refine Wp.v ?_ | (refine Wp.c ?_ ?_ <;> intro))
      refine Wp.draw (by (simp [c_joineryref15_Step_D4, I.need]) <;> rfl) rfl (by (simp) <;> rfl) (by
        unfold c_joineryref15_Step_D4
        repeat (first | ((first | apply Dr.op | apply Dr.opN | (apply Dr.opG; exact rfl)); ((simp [intC, outsU]) <;> rfl); (apply Evt.all; intro; (simp [intC, outsU]) <;> (try simp (disch := omega) only [wrap_id]) <;> first | exact ⟨rfl, rfl⟩ | exact rfl); ((simp [I.need]) <;> rfl)) | ((first | (apply Dr.opS; exact rfl; decide) | (apply Dr.opS0; exact rfl)); ((simp [I.need]) <;> rfl)))
        apply Dr.op (nid' := 8) (hT1 _ _ _ _ _ _ rfl rfl) (Evt.all fun n => hA1 _ _ _ _ _ _ _ _ _ _ _ _ _ _ rfl rfl) rfl
        repeat (first | ((first | apply Dr.op | apply Dr.opN | (apply Dr.opG; exact rfl)); ((simp [intC, outsU]) <;> rfl); (apply Evt.all; intro; (simp [intC, outsU]) <;> (try simp (disch := omega) only [wrap_id]) <;> first | exact ⟨rfl, rfl⟩ | exact rfl); ((simp [I.need]) <;> rfl)) | ((first | (apply Dr.opS; exact rfl; decide) | (apply Dr.opS0; exact rfl)); ((simp [I.need]) <;> rfl)))
        apply Dr.op (nid' := 10) (hT2 _ _ _ _ _ _ _ _ _ _ _ _ _ _ rfl rfl) (Evt.all fun n => hA2 _ _ _ _ _ _ _ _ _ _ _ _ _ rfl rfl) rfl
        repeat (first | ((first | apply Dr.op | apply Dr.opN | (apply Dr.opG; exact rfl)); ((simp [intC, outsU]) <;> rfl); (apply Evt.all; intro; (simp [intC, outsU]) <;> (try simp (disch := omega) only [wrap_id]) <;> first | exact ⟨rfl, rfl⟩ | exact rfl); ((simp [I.need]) <;> rfl)) | ((first | (apply Dr.opS; exact rfl; decide) | (apply Dr.opS0; exact rfl)); ((simp [I.need]) <;> rfl)))
        exact Dr.nil) (by first | decide +kernel | exact rfl) (by (simp [M2.keep]) <;> rfl) ?_
      (all_goals have := fa (a5 @nodeC.eq_1 @bx.eq_1 @stU.eq_1 @tk0.eq_1 (a5 @outsU.eq_1 @outC.eq_1 tk11 @formC.eq_1 @csU.eq_1)); repeat' first | refine Wp.v ?_ | (refine Wp.c ?_ ?_ <;> intro))
      exact fin_ok (c := ⟨[r0, r1, r2, r3, r4, r5, r6, r7], ch, ans, fuel, lq⟩) hR hx hr (s := ⟨(P : Int), ws, h, asked + 1, ev ++ [(yn, a, v)]⟩) hws (k + 1) P 0 v o0 (fun hto => ways_in hy0 (j := 0) rfl ⟨by omega, (hos o0 (by simp)).2⟩) _ [.row 2 1 false [[i64 a]], .row 59 3 false (ev.map evnU ++ [evnU (yn, a, v)]), .hole, .row 59 3 false [[i64 yn, i64 a, i64 v]], .hole] (.own 6 (ev.length + 1)) _ (by simp [formC, csU, sZ, srcsU]) (.inr (.inr ⟨6, by simp, by simp⟩)) (.inl rfl)
    · have hd : doE ⟨[r0, r1, r2, r3, r4, r5, r6, r7], ch, ans, fuel, lq⟩ ⟨(P : Int), ws, h, asked, ev⟩ ⟨15, yn, args, [o0]⟩ = ⟨5, 0, 0, ⟨(P : Int), ws, h, asked, ev⟩, 0⟩ := by
        unfold doE
        simp [hl, hq]
      have hst : stepU x ⟨[r0, r1, r2, r3, r4, r5, r6, r7], ch, ans, fuel, lq⟩ ⟨(P : Int), ws, h, asked, ev⟩ k ⟨15, yn, args, [o0]⟩ = .agg (stU ⟨(P : Int), ws, h, asked, ev⟩ ⟨ev, 5, 0, [], (k : Int) + 1, (k : Int) + 1⟩) := by
        unfold stepU
        rw [hd]
        rfl
      rw [hst]
      have dq : decide ((asked : Int) < ans.length) = false := decide_eq_false (by omega)
      have dqn : decide (asked < ans.length) = false := decide_eq_false hq
      (all_goals have := fa (a5 @nodeC.eq_1 @bx.eq_1 @stU.eq_1 @tk0.eq_1 (a4 @csU.eq_1 dq dqn hq)); repeat' first | refine Wp.v ?_ | (refine Wp.c ?_ ?_ <;> intro))
      refine Wp.ret ?_
      simp only [Res, resU, res1, c_joineryref15_Step, M2.allM, M2.get, M2.ld, M2.part, sub, Option.bind_some, if_true, Nat.reduceEqDiff]
      exact res_st (s := ⟨(P : Int), ws, h, asked, ev⟩) (t := ⟨ev, 5, 0, [], (k : Int) + 1, (k : Int) + 1⟩) (.inl rfl) (.inl rfl) (.inl rfl) (.inr ⟨rfl, rfl⟩)
  all_goals (exfalso; omega)
abbrev RA := Nat × EnS × TR
def rrS (x : FForm) (c : Cs) (a : RA) : S := ⟨[(2, .bp 0 0), (3, .bp 1 0), (4, .bp 2 0), (5, .bp 3 0), (6, i64 a.1)], [.box (formC x), .box (csU c), .box Z6, .box (stU a.2.1 a.2.2)]⟩
structure RAI (x : FForm) (c : Cs) (r : TR) (a : RA) : Prop where
  i : (a.1 : Int) ≤ c.fuel
  go : a.2.2.how = 0 → a.2.2 = tk0 a.2.1 a.1 ∧ a.2.1.ws.length = x.vals.length ∧ a.2.1.ev.length ≤ a.1 ∧ a.2.1.h.length ≤ 16 ∧ a.2.1.pos < x.nodes.length
  res : (if a.2.2.how = 0 then runE x c (c.fuel - a.1).toNat a.1 a.2.1 else a.2.2) = r
set_option maxHeartbeats 32000000 in
theorem rr_loop {x : FForm} {c : Cs} (hR : c.R.length = 8) (hx : Small x) (hr : rightF x = true) (hc : csRight c = true) (r : TR) (a : RA) (ha : RAI x c r a) :
    Wp T (.loop c_joineryref15_Run_L0) (rrS x c a) (fun _ => False) (Res c_joineryref15_Run (.agg (trU r))) (fun b s' => b = 0 ∧ ∃ s n v, s' = ⟨[(2, .bp 0 0), (3, .bp 1 0), (4, .bp 2 0), (5, .bp 3 0), (6, n), (13, v)], [.box (formC x), .box (csU c), .box Z6, .box (stU s r)]⟩) := by
  have hc2 := hc
  unfold csRight at hc2
  simp only [Bool.and_eq_true, decide_eq_true_eq] at hc2
  refine Wp.loop (α := RA) (fun a => (c.fuel - a.1).toNat) (rrS x c) (RAI x c r) (fun a ha => ?_) a ha
  obtain ⟨i, s, t⟩ := a
  obtain ⟨h1, h2, h3⟩ := ha
  simp only at h1 h2 h3
  have tk3 : (formC x).take 3 = formC x := rfl
  have cl : (csU c).length = 11 := by unfold csU; simp [hR]
  have tk11 : (csU c).take 11 = csU c := by rw [List.take_of_length_le (by omega)]
  have cf : (csU c)[10]? = some (i64 c.fuel) := by
    obtain ⟨R, ch, ans, fuel, lq⟩ := c
    obtain ⟨r0, r1, r2, r3, r4, r5, r6, r7, rfl⟩ := R8 hR
    rfl
  have hstep : ∀ P y, t.how = 0 → s.pos = (P : Nat) → x.nodes[P]? = some y → ∀ st, Cl T n_joineryref15_Step [formU x, .agg (csU c), .agg (stU s t)] st (stepU x c s i y) st := by
    intro P y h0 hP hy st
    obtain ⟨g1, g2, g3, g4, g5⟩ := h2 h0
    rw [g1]
    exact rstep_call hR hx hr (by omega) g2 (by omega) g4 hP hy i (by omega) st
  simp only [rrS]
  by_cases hi : (i : Int) < c.fuel
  · have di : decide ((i : Int) < c.fuel) = true := decide_eq_true hi
    by_cases hst : s.pos < 0 ∨ ¬ t.how = 0
    · have hrt : r = t := by
        rw [← h3]
        by_cases h0 : t.how = 0
        · rw [if_pos h0]
          have hneg := hst.resolve_right (fun h => h h0)
          rw [show (c.fuel - i).toNat = ((c.fuel - i).toNat - 1) + 1 by omega, runE, if_pos hneg, (h2 h0).1]
          rfl
        · rw [if_neg h0]
      rw [hrt]
      obtain ⟨R, ch, ans, fuel, lq⟩ := c
      obtain ⟨r0, r1, r2, r3, r4, r5, r6, r7, rfl⟩ := R8 hR
      by_cases hneg : s.pos < 0
      · have dn : decide (s.pos < 0) = true := decide_eq_true hneg
        (all_goals have := fa (a5 @csU.eq_1 @stU.eq_1 di dn (a2 hneg @Z6.eq_1)); repeat' first | refine Wp.v ?_ | (refine Wp.c ?_ ?_ <;> intro))
        refine Wp.ret ?_
        simp [Res, resU, res1, c_joineryref15_Run, trU, intC]
      · have dn : decide (s.pos < 0) = false := decide_eq_false hneg
        have h0 := hst.resolve_left hneg
        (all_goals have := fa (a5 @csU.eq_1 @stU.eq_1 di dn (a3 hneg h0 @Z6.eq_1)); repeat' first | refine Wp.v ?_ | (refine Wp.c ?_ ?_ <;> intro))
        refine Wp.ret ?_
        simp [Res, resU, res1, c_joineryref15_Run, trU, intC]
    · have hneg : ¬ s.pos < 0 := fun h => hst (.inl h)
      have h0 : t.how = 0 := Classical.byContradiction fun h => hst (.inr h)
      obtain ⟨g1, g2, g3, g4, g5⟩ := h2 h0
      obtain ⟨P, hP⟩ := Int.eq_ofNat_of_zero_le (by omega : 0 ≤ s.pos)
      have hPl : P < x.nodes.length := by omega
      have eg : x.nodes[P]? = some x.nodes[P] := List.getElem?_eq_getElem hPl
      have hny := (right_parts hr).2.1 P _ eg
      have hcl := hstep P _ h0 hP eg
      generalize hy : x.nodes[P] = y at *
      obtain ⟨s2, t2, hsv, hinv⟩ : ∃ s2 t2, stepU x c s i y = .agg (stU s2 t2) ∧ RAI x c r (i + 1, s2, t2) := by
        have ho := (node_parts hny).1
        have hol := (node_parts hny).2.2.1
        have hos := (node_parts hny).2.2.2.2.2
        have hgr := doE_grow (c := c) (s := s) (y := y) g4
        have hwl := fun hh => way_lt (c := c) (s := s) (y := y) hh ho
        have hdw := doE_ws c s y
        have hrn : runE x c (c.fuel - i).toNat i s = if (doE c s y).how = 0 then runE x c (c.fuel - ((i + 1 : Nat) : Int)).toNat (i + 1) (onE x c y s.pos (doE c s y)) else endE (doE c s y) i := by
          rw [show (c.fuel - i).toNat = (c.fuel - ((i + 1 : Nat) : Int)).toNat + 1 by omega, runE, if_neg hneg]
          have eyy : x.nodes.getD s.pos.toNat default = y := by
            rw [hP, Int.toNat_natCast, List.getD_eq_getElem?_getD, eg]
            rfl
          simp only [eyy]
        rw [if_pos h0, hrn] at h3
        unfold stepU
        by_cases hh : (doE c s y).how = 0
        · rw [if_pos hh] at h3
          obtain ⟨hw1, hw2⟩ := hwl hh
          have hwo : (doE c s y).way < y.outs.length := by omega
          have eo : y.outs[(doE c s y).way]? = some (y.outs.getD (doE c s y).way 0) := by
            rw [List.getD_eq_getElem?_getD, List.getElem?_eq_getElem hwo]
            rfl
          have hor := hos _ (List.mem_of_getElem? eo)
          refine ⟨onE x c y s.pos (doE c s y), tk0 (onE x c y s.pos (doE c s y)) (i + 1), by simp only [hh, if_true]; rfl, ⟨by simp only; omega, fun _ => ⟨rfl, ?_, ?_, ?_, hor.2⟩, ?_⟩⟩
          · show (goesE x c (doE c s y).s.ws _ _ _).length = _
            rw [hdw.1]
            exact goesE_len x c s.ws g2 _ _ _
          · show (doE c s y).s.ev.length ≤ i + 1
            omega
          · exact hgr.2.1
          · simp only [tk0, if_true]
            exact h3
        · rw [if_neg hh] at h3
          refine ⟨(doE c s y).s, endE (doE c s y) i, by simp only [hh, if_false], ⟨by simp only; omega, fun h => absurd h hh, ?_⟩⟩
          simp only
          rw [if_neg (show ¬ (endE (doE c s y) i).how = 0 from hh)]
          exact h3
      rw [hsv] at hcl
      have dn : decide (s.pos < 0) = false := decide_eq_false hneg
      have hcl' : ∀ st, Cl T n_joineryref15_Step [.agg (formC x), .agg (csU c), .agg [i64 s.pos, .sl true (s.ws.map wdU), .sl true (s.h.map intC), i64 s.asked, .sl true (t.ev.map evnU), i64 0, i64 t.val, .sl true (t.out.map intC), i64 t.steps, i64 t.work]] st (.agg (stU s2 t2)) st := by
        intro st
        have := hcl st
        unfold stU at this ⊢
        rw [h0] at this
        exact this
      obtain ⟨R, ch, ans, fuel, lq⟩ := c
      obtain ⟨r0, r1, r2, r3, r4, r5, r6, r7, rfl⟩ := R8 hR
      (all_goals have := fa (a5 @stU.eq_1 di dn hneg (a3 h0 @csU.eq_1 tk3)); repeat' first | refine Wp.v ?_ | (apply Wp.call; exact hcl' _) | (refine Wp.c ?_ ?_ <;> intro))
      (all_goals have := fa @wrap_id; repeat' first | refine Wp.v ?_ | (refine Wp.c ?_ ?_ <;> intro))
      refine ⟨(i + 1, s2, t2), trimO_len rfl, ?_, hinv⟩
      have hi2 : (i : Int) < fuel := hi
      show (fuel - ((i + 1 : Nat) : Int)).toNat < (fuel - (i : Int)).toNat
      omega
  · have di : decide ((i : Int) < c.fuel) = false := decide_eq_false hi
    have hrt : r = t := by
      rw [← h3]
      by_cases h0 : t.how = 0
      · rw [if_pos h0]
        rw [show (c.fuel - i).toNat = 0 by omega, runE, (h2 h0).1]
        rfl
      · rw [if_neg h0]
    rw [hrt]
    obtain ⟨R, ch, ans, fuel, lq⟩ := c
    obtain ⟨r0, r1, r2, r3, r4, r5, r6, r7, rfl⟩ := R8 hR
    (all_goals have := fa (a2 di @csU.eq_1); repeat' first | refine Wp.v ?_ | (refine Wp.c ?_ ?_ <;> intro))
    exact Wp.exit ⟨rfl, s, _, _, rfl⟩
set_option maxHeartbeats 8000000 in
theorem rrun_call {x : FForm} {c : Cs} (hR : c.R.length = 8) (hx : Small x) (hr : rightF x = true) (hc : csRight c = true) (st : List Ob) : Cl T n_joineryref15_Run [formU x, .agg (csU c)] st (.agg (trU (engF x c))) st := by
  have hb := cs_brw2 hR st
  refine Wp.pureA (fn := c_joineryref15_Run) rfl rfl rfl («as» := [formU x, .agg (csU c)]) (by rw [M2.allM, show brwA frzD st (formU x) = some (formU x) from rfl, M2.allM, hb]; rfl) ?_
  have hc2 := hc
  unfold csRight at hc2
  simp only [Bool.and_eq_true, decide_eq_true_eq] at hc2
  have hnw := fun st => rnew_call hR hx hr st
  have tk3 : (formC x).take 3 = formC x := rfl
  have hl := rr_loop hR hx hr hc (engF x c) (0, newE x c, tr0) ⟨by simp; omega, fun _ => ⟨rfl, goesE_len x c _ (by simp) _ _ _, Nat.zero_le _, hc2.1, (right_parts hr).1.2⟩, by
    show (if (0 : Int) = 0 then runE x c (c.fuel - ((0 : Nat) : Int)).toNat 0 (newE x c) else tr0) = _
    rw [if_pos rfl]
    unfold engF
    simp⟩
  obtain ⟨R, ch, ans, fuel, lq⟩ := c
  obtain ⟨r0, r1, r2, r3, r4, r5, r6, r7, rfl⟩ := R8 hR
  have hnw' : ∀ st, Cl T n_joineryref15_New [.agg (formC x), .agg [i64 r0, i64 r1, i64 r2, i64 r3, i64 r4, i64 r5, i64 r6, i64 r7, intsU ch, askU lq ans, i64 fuel]] st (.agg (stU (newE x ⟨[r0, r1, r2, r3, r4, r5, r6, r7], ch, ans, fuel, lq⟩) tr0)) st := hnw
  (all_goals have := fa (a3 @csU.eq_1 tk3 @stU.eq_1); repeat' first | refine Wp.v ?_ | (apply Wp.call; exact hnw' _) | (refine Wp.c ?_ ?_ <;> intro))
  refine (show Wp T (.loop c_joineryref15_Run_L0) (rrS x ⟨[r0, r1, r2, r3, r4, r5, r6, r7], ch, ans, fuel, lq⟩ (0, newE x ⟨[r0, r1, r2, r3, r4, r5, r6, r7], ch, ans, fuel, lq⟩, tr0)) _ _ _ from hl.imp (fun _ h => h.elim) (fun _ h => h) ?_)
  rintro b s ⟨rfl, s', n, v, rfl⟩
  rw [if_pos rfl]
  generalize engF x ⟨[r0, r1, r2, r3, r4, r5, r6, r7], ch, ans, fuel, lq⟩ = r at *
  (all_goals have := fa (a2 @stU.eq_1 @Z6.eq_1); repeat' first | refine Wp.v ?_ | (refine Wp.c ?_ ?_ <;> intro))
  refine Wp.ret ?_
  simp [Res, resU, res1, c_joineryref15_Run, trU, intC]
end Go.Proofs.YtfmhnfimkpffnaaGreatDoor.M2
namespace Go.Proofs.YtfmhnfimkpffnaaGreatDoor.M2
open Go
attribute [local simp] ev1 M2.get put A.ev ld sub part elems bin arith un opt idx fillC cellsO splice over newOb sto fillR laidOwn appTo appRow touch touchN touchM touchE touchA plainU flatU plainAs allM rowAt stoRow accM_nil accM_cons accMM_nil accMM_cons frz_int frz_bool frz_str frz_slt frz_nils frz_nilI frz_nilF frz_own frzRow_row frzRow_frow Ob.blw blw_bool blw_int blw_str blw_nils blw_nilI blw_nilF blw_nilp blw_nilm blw_sl blw_own blw_bp blw_rp blw_mp blw_it params
attribute [local simp] frz_agg frz_tup frz_iface frzS_agg frzS_iface accMS_cons frzS_int frzS_bool frzS_str frzS_slt frzS_nils frzS_nilI beq_dec bne_dec
attribute [local irreducible] Typed TypedA
set_option maxHeartbeats 16000000 in
theorem law3_call (x : FForm) (hx : Big x) (c : Cs) (hR : c.R.length = 8) : Cl T n_joinerylaw15_EngineRuns [formU x, .agg (csU c)] [] (.bool true) [] := by
  have h1 := fun st => great15_call x hx c hR st
  obtain ⟨R, h, ans, fuel, lq⟩ := c
  obtain ⟨r0, r1, r2, r3, r4, r5, r6, r7, rfl⟩ := R8 hR
  refine Wp.pure (fn := c_joinerylaw15_EngineRuns) rfl rfl rfl («as» := [formU x, .agg (csU ⟨[r0, r1, r2, r3, r4, r5, r6, r7], h, ans, fuel, lq⟩)]) rfl ?_
  have kno := knows15_call
  have tk3 : (formC x).take 3 = formC x := rfl
  cases hg : great15F x ⟨[r0, r1, r2, r3, r4, r5, r6, r7], h, ans, fuel, lq⟩ with
  | true =>
    rw [hg] at h1
    (all_goals have := fa (a2 csU tk3); repeat' first | refine Wp.v ?_ | (apply Wp.call; exact h1 _) | (apply Wp.call; exact kno _) | (refine Wp.c ?_ ?_ <;> intro))
    refine Wp.ret ?_; simp [Res, resU, res1, c_joinerylaw15_EngineRuns]
  | false =>
    rw [hg] at h1
    have hg2 := hg
    unfold great15F at hg2
    simp only [Bool.or_eq_false_iff, Bool.and_eq_false_iff, decide_eq_false_iff_not] at hg2
    have hs := small_of hg2.1
    have h2 := fun st => fair15_call x hs ⟨[r0, r1, r2, r3, r4, r5, r6, r7], h, ans, fuel, lq⟩ hR st
    have h3 := fun st => engRun_call x ⟨[r0, r1, r2, r3, r4, r5, r6, r7], h, ans, fuel, lq⟩ hR hs st
    cases hf : rightF x && csRight ⟨[r0, r1, r2, r3, r4, r5, r6, r7], h, ans, fuel, lq⟩ with
    | false =>
      rw [hf] at h2 h3
      simp only [Bool.false_eq_true, if_false] at h3
      have h5 : ∀ st, Cl T n_joineryref08_Same [.agg [.sl true [], i64 0, i64 0, .sl true [], i64 0, i64 0], .agg [.nils, i64 0, i64 0, .nils, i64 0, i64 0]] st (.bool true) st := fun st => by
        have := tsame_call tr0 tr0 (by simp [tr0]) (by simp [tr0]) st
        rw [sameTF_self] at this
        exact Cl.brw (fn := c_joineryref08_Same) rfl rfl (bs := [.agg (trU tr0), .agg (trU tr0)]) rfl rfl rfl this
      have h3' : ∀ st, Cl T n_engine_Run [.agg (formC x), .agg [i64 r0, i64 r1, i64 r2, i64 r3, i64 r4, i64 r5, i64 r6, i64 r7, intsU h, askU lq ans, i64 fuel]] st (.tup [.agg [.sl true [], i64 0, i64 0, .sl true [], i64 0, i64 0], i64 1]) st := h3
      (all_goals have := fa (a2 csU tk3); repeat' first | refine Wp.v ?_ | (apply Wp.call; exact h1 _) | (apply Wp.call; exact h3' _) | (apply Wp.call; exact h2 _) | (apply Wp.call; exact h5 _) | (apply Wp.call; exact kno _) | (refine Wp.c ?_ ?_ <;> intro))
      refine Wp.ret ?_; simp [Res, resU, res1, c_joinerylaw15_EngineRuns]
    | true =>
      rw [hf] at h2 h3
      simp only [if_true] at h3
      obtain ⟨hr, hc⟩ := Bool.and_eq_true_iff.1 hf
      have h4 := fun st => rrun_call hR hs hr hc st
      obtain ⟨z1, z2⟩ := engF_sz x hc
      generalize engF x ⟨[r0, r1, r2, r3, r4, r5, r6, r7], h, ans, fuel, lq⟩ = t at *
      have h5 := fun st => tsame_call t t (by omega) (by omega) st
      simp only [sameTF_self] at h5
      (all_goals have := fa (a3 csU tk3 trU); repeat' first | refine Wp.v ?_ | (apply Wp.call; exact h1 _) | (apply Wp.call; exact h3 _) | (apply Wp.call; exact h2 _) | (refine Wp.c ?_ ?_ <;> intro))
      refine Wp.draw (by (simp [c_joinerylaw15_EngineRuns_D0, I.need]) <;> rfl) (by first | ((simp [csU, tk3, trU]) <;> rfl) | exact rfl) (by (simp [csU, tk3, trU]) <;> rfl) (by (unfold c_joinerylaw15_EngineRuns_D0); (repeat (first | ((first | apply Dr.op | apply Dr.opN | (apply Dr.opG; exact rfl)); ((simp [csU, tk3, trU]) <;> rfl); (apply Evt.all; intro; (simp [csU, tk3, trU]) <;> (try simp (disch := omega) only [wrap_id]) <;> first | exact ⟨rfl, rfl⟩ | exact rfl); ((simp [I.need]) <;> rfl)) | ((first | (apply Dr.opS; exact rfl; decide) | (apply Dr.opS0; exact rfl)); ((simp [I.need]) <;> rfl)) | (apply Dr.call; ((simp [csU, tk3, trU]) <;> rfl); exact h4 _) | (apply Dr.callG; (exact rfl); ((simp [csU, tk3, trU]) <;> rfl); exact h4 _) | (apply Dr.call; ((simp [csU, tk3, trU]) <;> rfl); exact h5 _) | (apply Dr.callG; (exact rfl); ((simp [csU, tk3, trU]) <;> rfl); exact h5 _) | (apply Dr.call; ((simp [csU, tk3, trU]) <;> rfl); exact kno _) | (apply Dr.callG; (exact rfl); ((simp [csU, tk3, trU]) <;> rfl); exact kno _))); exact Dr.nil) (by first | decide +kernel | exact rfl) (by (simp [M2.keep]) <;> rfl) ?_
      refine Wp.ret ?_; simp [Res, resU, res1, c_joinerylaw15_EngineRuns]
theorem law3 : Law 3 Tryz.f3.params.toList := by
  intro us hl hty
  match us, hl with
  | [u, v], _ =>
    obtain ⟨x, rfl, hx, _⟩ := typed_formA (hty 0 25 u rfl rfl)
    obtain ⟨c, rfl, hR, _⟩ := typed_caseA (hty 1 29 v rfl rfl)
    exact law_of (law3_call x hx c hR)
end Go.Proofs.YtfmhnfimkpffnaaGreatDoor.M2
