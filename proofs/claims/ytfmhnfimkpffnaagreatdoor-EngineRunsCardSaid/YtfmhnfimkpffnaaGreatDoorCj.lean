/- What the functions answer in M2. A value's heap is laid aside. -/
import Derived.Test.YtfmhnfimkpffnaaGreatDoorCi
set_option linter.unusedSimpArgs false
set_option linter.unusedVariables false
set_option linter.unusedSectionVars false
namespace Go.Proofs.YtfmhnfimkpffnaaGreatDoor.M2
open Go
attribute [local simp] ev1 M2.get put A.ev ld sub part elems bin arith un opt idx fillC cellsO splice over newOb sto fillR laidOwn appTo appRow touch touchN touchM touchE touchA plainU flatU plainAs allM rowAt stoRow accM_nil accM_cons accMM_nil accMM_cons frz_int frz_bool frz_str frz_slt frz_nils frz_nilI frz_nilF frz_own frzRow_row frzRow_frow Ob.blw blw_bool blw_int blw_str blw_nils blw_nilI blw_nilF blw_nilp blw_nilm blw_sl blw_own blw_bp blw_rp blw_mp blw_it params
attribute [local simp] frz_agg frz_tup frz_iface frzS_agg frzS_iface accMS_cons frzS_int frzS_bool frzS_str frzS_slt frzS_nils frzS_nilI beq_dec bne_dec
def wdU (w : Wd) : List U := [.bool w.1, i64 w.2]
def evnU (e : Evn) : List U := [i64 e.1, i64 e.2.1, i64 e.2.2]
def intC (v : Int) : List U := [i64 v]
abbrev askU (q : Bool) (l : List Int) : U := .sl q (l.map fun v => [i64 v])
def csU (c : Cs) : List U := c.R.map (fun v => i64 v) ++ [intsU c.h, askU c.q c.ans, i64 c.fuel]
theorem R8 {R : List Int} (h : R.length = 8) : ∃ a b c d e f g k, R = [a, b, c, d, e, f, g, k] := by
  match R, h with
  | [a, b, c, d, e, f, g, k], _ => exact ⟨a, b, c, d, e, f, g, k, rfl⟩
def RU (st : List Ob) (tag es : Nat) (u : U) (xs : List (List U)) : Prop := u = .sl true xs ∨ (u = .nils ∧ xs = []) ∨ ∃ id, u = .own id xs.length ∧ st[id]? = some (.row tag es false xs)
section
variable {st : List Ob} {tag es : Nat} {u : U} {xs : List (List U)}
theorem RU.elems (h : RU st tag es u xs) : M2.elems st u = some xs := by
  rcases h with rfl | ⟨rfl, rfl⟩ | ⟨id, rfl, h⟩
  · rfl
  · rfl
  · simp [M2.elems, rowAt, h]
theorem RU.brw (h : RU st tag es u xs) (d : Nat) : ∃ p, M2.brw (d + 1) st u = some (.sl p xs) := by
  rcases h with rfl | ⟨rfl, rfl⟩ | ⟨id, rfl, h⟩
  · exact ⟨true, rfl⟩
  · exact ⟨true, rfl⟩
  · refine ⟨false, ?_⟩
    rw [M2.brw]
    simp [h]
theorem RU.low (h : RU st tag es u xs) (L : Nat) (hL : st.length ≤ L) : blw blwD L u = true := by
  rcases h with rfl | ⟨rfl, rfl⟩ | ⟨id, rfl, h⟩
  · rfl
  · rfl
  · have := (List.getElem?_eq_some_iff.1 h).1
    rw [blw_own, decide_eq_true_eq]
    omega
theorem RU.ext (h : RU st tag es u xs) {st' : List Ob} (hk : ∀ (id : Nat) ys, st[id]? = some (.row tag es false ys) → st'[id]? = some (.row tag es false ys)) : RU st' tag es u xs := by
  rcases h with h | h | ⟨id, rfl, h⟩
  · exact .inl h
  · exact .inr (.inl h)
  · exact .inr (.inr ⟨id, rfl, hk id xs h⟩)
end
structure Mch where
  ws : List Wd
  h : List Int
  asked : Nat
  pos : Int
  df : Wd
  ev : List Evn
  how : Int
  val : Int
  out : List Int
  steps : Int
  work : Int
def waysR (x : FForm) : List (List U) := (List.range x.nodes.length).map fun (n : Nat) => [srcsU (waysF x (n : Int))]
def mcU (x : FForm) (c : Cs) (m : Mch) (wy w h e o : U) : List U := formC x ++ csU c ++ [wy, w, h, i64 m.asked, i64 m.pos, .bool m.df.1, i64 m.df.2, e, i64 m.how, i64 m.val, o, i64 m.steps, i64 m.work]
theorem blw_mono : ∀ {d L L' : Nat} {u : U}, L ≤ L' → blw d L u = true → blw d L' u = true
  | 0, _, _, u, _, h => by simp [blw] at h
  | d + 1, L, L', u, hL, h => by
    cases u <;> simp only [blw, decide_eq_true_eq, List.all_eq_true] at h ⊢ <;> first | trivial | omega | exact blw_mono hL h | exact fun x hx => blw_mono hL (h x hx)
theorem ob_mono {L L' : Nat} {o : Ob} (hL : L ≤ L') (h : Ob.blw L o = true) : Ob.blw L' o = true := by
  cases o with
  | box cs =>
    simp only [Ob.blw, List.all_eq_true] at h ⊢
    exact fun x hx => blw_mono hL (h x hx)
  | row tag es keep xs =>
    cases keep with
    | true =>
      simp only [Ob.blw, List.all_eq_true] at h ⊢
      exact fun x hx y hy => blw_mono hL (h x hx y hy)
    | false => rfl
  | _ => rfl
theorem all_mono {L L' : Nat} {l : List Ob} (hL : L ≤ L') (h : l.all (Ob.blw L) = true) : l.all (Ob.blw L') = true := by
  rw [List.all_eq_true] at h ⊢
  exact fun o ho => ob_mono hL (h o ho)
theorem low_push {st l : List Ob} (h : st.all (Ob.blw st.length) = true) (hl : l.all (Ob.blw (st ++ l).length) = true) : (st ++ l).all (Ob.blw (st ++ l).length) = true := by
  rw [List.all_append, hl, all_mono (by rw [List.length_append]; omega) h]
  rfl
theorem low_set {st : List Ob} {i n : Nat} {o : Ob} (h : st.all (Ob.blw n) = true) (ho : Ob.blw n o = true) : (st.set i o).all (Ob.blw n) = true := by
  rw [List.all_eq_true] at h ⊢
  intro a ha
  rcases List.mem_or_eq_of_mem_set ha with ha | rfl
  · exact h a ha
  · exact ho
structure MSt (x : FForm) (c : Cs) (st : List Ob) (m : Mch) (wy w h e o : U) : Prop where
  box : st[6]? = some (.box (mcU x c m wy w h e o))
  ways : RU st 66 1 wy (waysR x)
  words : RU st 45 2 w (m.ws.map wdU)
  heap : RU st 2 1 h (m.h.map intC)
  evs : RU st 59 3 e (m.ev.map evnU)
  evo : ∀ p l, e ≠ .sl p l
  out : RU st 2 1 o (m.out.map intC)
  low : st.all (Ob.blw st.length) = true
theorem MSt.ext {x : FForm} {c : Cs} {st : List Ob} {m : Mch} {wy w h e o : U} (hm : MSt x c st m wy w h e o) {st' : List Ob} (hst : ∃ Y, st' = st ++ Y) (hlow : st'.all (Ob.blw st'.length) = true) : MSt x c st' m wy w h e o := by
  obtain ⟨Y, rfl⟩ := hst
  have h6 := (List.getElem?_eq_some_iff.1 hm.box).1
  have hk : ∀ (id : Nat) b, st[id]? = some b → (st ++ Y)[id]? = some b := fun id b hb => by
    rw [List.getElem?_append_left (List.getElem?_eq_some_iff.1 hb).1, hb]
  exact ⟨hk _ _ hm.box, hm.ways.ext fun id ys hb => hk _ _ hb, hm.words.ext fun id ys hb => hk _ _ hb, hm.heap.ext fun id ys hb => hk _ _ hb, hm.evs.ext fun id ys hb => hk _ _ hb, hm.evo, hm.out.ext fun id ys hb => hk _ _ hb, hlow⟩
theorem is_call (v : Int) (st : List Ob) : Cl T n_engine_is [i64 v] st (.agg (wdU (true, v))) st := by
  refine Wp.pure (fn := c_engine_is) rfl rfl rfl («as» := [i64 v]) rfl ?_
  (repeat' first | refine Wp.u ?_ | (refine Wp.c ?_ ?_ <;> intro))
  refine Wp.ret ?_; simp [Res, resU, res1, c_engine_is, wdU]
def wordP (c : Cs) (ws : List Wd) (df : Wd) (s : Int × Int) : Wd :=
  if s.1 = 1 then (true, c.R.getD s.2.toNat 0) else if s.1 = 2 then (true, s.2) else if s.1 = 3 then df else if s.1 = 4 then ws.getD s.2.toNat (false, 0) else (false, 0)
set_option maxHeartbeats 8000000 in
theorem word_call {x : FForm} {c : Cs} (hR : c.R.length = 8) {st : List Ob} {m : Mch} {wy w h e o : U} (hm : MSt x c st m wy w h e o) (hws : m.ws.length = x.vals.length) {s : Int × Int} (hs : srcIn x s) :
    Cl T n_engine_machine_word [.bp 6 0, .agg (srcC s)] st (.agg (wdU (wordP c m.ws m.df s))) st := by
  obtain ⟨p1, b1⟩ := hm.ways.brw 11
  obtain ⟨p2, b2⟩ := hm.words.brw 11
  obtain ⟨p3, b3⟩ := hm.heap.brw 11
  obtain ⟨p4, b4⟩ := hm.evs.brw 11
  obtain ⟨p5, b5⟩ := hm.out.brw 11
  have hb := hm.box
  obtain ⟨R, ch, ans, fuel, lq⟩ := c
  obtain ⟨r0, r1, r2, r3, r4, r5, r6, r7, rfl⟩ := R8 hR
  obtain ⟨ws, mh, asked, pos, ⟨d1, d2⟩, ev, how, val, out, steps, work⟩ := m
  simp only at b1 b2 b3 b4 b5 hws
  have hbr : brwA frzD st (.bp 6 0) = some (.fp (formC x ++ csU ⟨[r0, r1, r2, r3, r4, r5, r6, r7], ch, ans, fuel, lq⟩ ++ [.sl p1 (waysR x), .sl p2 (ws.map wdU), .sl p3 (mh.map intC), i64 asked, i64 pos, .bool d1, i64 d2, .sl p4 (ev.map evnU), i64 how, i64 val, .sl p5 (out.map intC), i64 steps, i64 work])) := by
    simp only [brwA, hb, mcU, formC, csU, List.map_cons, List.map_nil, List.cons_append, List.nil_append, List.drop_zero, Nat.zero_le, if_true, frzD, M2.allM, Option.bind_some]
    have i1 : ∀ n, brw 12 st (i64 n) = some (i64 n) := fun _ => rfl
    have i2 : ∀ n, brw 12 st (.bool n) = some (.bool n) := fun _ => rfl
    have i3 : ∀ p n, brw 12 st (.sl p n) = some (.sl p n) := fun _ _ => rfl
    simp only [i1, i2, i3, b1, b2, b3, b4, b5, Option.bind_some, Option.map_some]
  refine Wp.pureA (fn := c_engine_machine_word) rfl rfl rfl («as» := [_, .agg (srcC s)]) (by rw [M2.allM, hbr]; rfl) ?_
  obtain ⟨k, n⟩ := s
  obtain ⟨h1, h4, h5⟩ := hs
  simp only at h1 h4 h5
  unfold wordP
  have his := is_call
  simp only [wdU] at his
  have hk : k = 1 ∨ k = 2 ∨ k = 3 ∨ k = 4 ∨ k = 0 := by omega
  rcases hk with rfl | rfl | rfl | rfl | rfl
  · obtain ⟨N, rfl⟩ := Int.eq_ofNat_of_zero_le (h1 rfl).1
    have hN := (h1 rfl).2
    have hN8 : N = 0 ∨ N = 1 ∨ N = 2 ∨ N = 3 ∨ N = 4 ∨ N = 5 ∨ N = 6 ∨ N = 7 := by omega
    rcases hN8 with rfl | rfl | rfl | rfl | rfl | rfl | rfl | rfl
    all_goals
      (all_goals have := fa (a3 @srcC.eq_1 @formC.eq_1 @csU.eq_1); repeat' first | refine Wp.v ?_ | (refine Wp.c ?_ ?_ <;> intro))
      refine Wp.draw (by (simp [c_engine_machine_word_D0, I.need]) <;> rfl) (by first | ((simp [srcC, formC, csU]) <;> rfl) | exact rfl) (by (simp [srcC, formC, csU]) <;> rfl) (by (unfold c_engine_machine_word_D0); (repeat (first | ((first | apply Dr.op | apply Dr.opN | (apply Dr.opG; exact rfl)); ((simp [srcC, formC, csU]) <;> rfl); (apply Evt.all; intro; (simp [srcC, formC, csU]) <;> (try simp (disch := omega) only [wrap_id]) <;> first | exact ⟨rfl, rfl⟩ | exact rfl); ((simp [I.need]) <;> rfl)) | ((first | (apply Dr.opS; exact rfl; decide) | (apply Dr.opS0; exact rfl)); ((simp [I.need]) <;> rfl)) | (apply Dr.call; ((simp [srcC, formC, csU]) <;> rfl); exact his _ _) | (apply Dr.callG; (exact rfl); ((simp [srcC, formC, csU]) <;> rfl); exact his _ _))); exact Dr.nil) (by first | decide +kernel | exact rfl) (by (simp [M2.keep]) <;> rfl) ?_
      repeat refine Wp.a ?_
      refine Wp.ret ?_; simp [Res, resU, res1, c_engine_machine_word, wdU]
  · (all_goals have := fa (a3 @srcC.eq_1 @formC.eq_1 @csU.eq_1); repeat' first | refine Wp.v ?_ | (apply Wp.call; exact his _ _) | (refine Wp.c ?_ ?_ <;> intro))
    refine Wp.ret ?_; simp [Res, resU, res1, c_engine_machine_word, wdU]
  · (all_goals have := fa (a3 @srcC.eq_1 @formC.eq_1 @csU.eq_1); repeat' first | refine Wp.v ?_ | (refine Wp.c ?_ ?_ <;> intro))
    refine Wp.ret ?_; simp [Res, resU, res1, c_engine_machine_word, wdU]
  · obtain ⟨N, rfl⟩ := Int.eq_ofNat_of_zero_le (h4 rfl).1
    have hN : N < ws.length := by have := (h4 rfl).2; omega
    have hN' : (N : Int) < ws.length := by omega
    have eg : ws[N]? = some ws[N] := List.getElem?_eq_getElem hN
    have gd : ws.getD N (false, 0) = ws[N] := by simp [hN]
    rw [show ((N : Int)).toNat = N from rfl, gd]
    generalize ws[N] = v at *
    (all_goals have := fa (a3 @srcC.eq_1 @formC.eq_1 @csU.eq_1); repeat' first | refine Wp.v ?_ | (refine Wp.c ?_ ?_ <;> intro))
    refine Wp.draw (by (simp [c_engine_machine_word_D1, I.need]) <;> rfl) (by first | ((simp [srcC, formC, csU, hN', eg, wdU]) <;> rfl) | exact rfl) (by (simp [srcC, formC, csU, hN', eg, wdU]) <;> rfl) (by (unfold c_engine_machine_word_D1); (repeat (first | ((first | apply Dr.op | apply Dr.opN | (apply Dr.opG; exact rfl)); ((simp [srcC, formC, csU, hN', eg, wdU]) <;> rfl); (apply Evt.all; intro; (simp [srcC, formC, csU, hN', eg, wdU]) <;> (try simp (disch := omega) only [wrap_id]) <;> first | exact ⟨rfl, rfl⟩ | exact rfl); ((simp [I.need]) <;> rfl)) | ((first | (apply Dr.opS; exact rfl; decide) | (apply Dr.opS0; exact rfl)); ((simp [I.need]) <;> rfl)))); exact Dr.nil) (by first | decide +kernel | exact rfl) (by (simp [M2.keep]) <;> rfl) ?_
    repeat refine Wp.a ?_
    refine Wp.ret ?_; simp [Res, resU, res1, c_engine_machine_word, wdU]
  · (all_goals have := fa (a3 @srcC.eq_1 @formC.eq_1 @csU.eq_1); repeat' first | refine Wp.v ?_ | (refine Wp.c ?_ ?_ <;> intro))
    refine Wp.ret ?_; simp [Res, resU, res1, c_engine_machine_word, wdU]
def evtU (n a v : Int) : List U := [i64 n, i64 a, i64 v]
def evsU (p : Bool) (l : List Evn) : U := .sl p (l.map evnU)
theorem ne_at {α : Type} {a b : List α} {i : Nat} {x y : α} (h1 : a[i]? = some x) (h2 : b[i]? = some y) (hn : ¬ x = y) : ¬ a = b := by
  rintro rfl
  rw [h1] at h2
  injection h2 with h2
  exact hn h2
theorem eq_all {α : Type} {a b : List α} (hl : a.length = b.length) (h : ∀ j, j < a.length → a[j]? = b[j]?) : a = b := by
  refine List.ext_getElem? fun j => ?_
  rcases Nat.lt_or_ge j a.length with hj | hj
  · exact h j hj
  · rw [List.getElem?_eq_none hj, List.getElem?_eq_none (by omega)]
theorem evt_same (a b : Evn) : sameV (.tst [(1, .ti), (1, .ti), (1, .ti)]) (.agg (evnU a)) (.agg (evnU b)) = some (decide (a = b)) := by
  obtain ⟨a1, a2, a3⟩ := a
  obtain ⟨b1, b2, b3⟩ := b
  simp only [sameV, cellsS, Option.bind_some, evnU, evtU, sameD, same, same.fields, List.length_cons, List.length_nil, List.take, List.drop, i64, Prod.mk.injEq]
  by_cases h1 : a1 = b1
  · by_cases h2 : a2 = b2
    · by_cases h3 : a3 = b3 <;> simp [h1, h2, h3]
    · simp [h1, h2]
  · simp [h1]
theorem begins_at {a b : List Evn} {i : Nat} {x y : Evn} (h1 : a[i]? = some x) (h2 : b[i]? = some y) (hn : ¬ x = y) : begins a b = false := by
  unfold begins
  rw [Bool.and_eq_false_iff]
  right
  rw [decide_eq_false_iff_not]
  refine ne_at h1 (y := y) ?_ hn
  rw [List.getElem?_take, if_pos (List.getElem?_eq_some_iff.1 h1).1]
  exact h2
theorem begins_all {a b : List Evn} (hl : a.length ≤ b.length) (h : ∀ j, j < a.length → a[j]? = b[j]?) : begins a b = true := by
  unfold begins
  rw [decide_eq_true hl, Bool.true_and, decide_eq_true_eq]
  refine eq_all (by rw [List.length_take]; omega) fun j hj => ?_
  rw [List.getElem?_take, if_pos hj]
  exact h j hj
theorem st7 {st : List Ob} {b : Ob} (h : st[6]? = some b) : ∃ z0 z1 z2 z3 z4 z5 X, st = z0 :: z1 :: z2 :: z3 :: z4 :: z5 :: b :: X := by
  match st, h with
  | z0 :: z1 :: z2 :: z3 :: z4 :: z5 :: a6 :: X, h => exact ⟨z0, z1, z2, z3, z4, z5, X, by simpa using h⟩
structure Keep (st st' : List Ob) : Prop where
  len : st.length ≤ st'.length
  box : ∀ (i : Nat) cs, i ≠ 6 → st[i]? = some (.box cs) → st'[i]? = some (.box cs)
theorem Keep.refl (st : List Ob) : Keep st st := ⟨Nat.le_refl _, fun _ _ _ h => h⟩
theorem Keep.trans {a b c : List Ob} (h : Keep a b) (k : Keep b c) : Keep a c := ⟨Nat.le_trans h.len k.len, fun i cs hi hb => k.box i cs hi (h.box i cs hi hb)⟩
def go0S (to : Int) (B : Nat) (W : List (Int × Int)) (st : List Ob) (k i : Nat) : S := ⟨[(0, .bp 6 0), (2, i64 to), (4, .bp B 0), (6, i64 k), (24, srcsU W), (25, i64 W.length), (26, i64 i)], st⟩
def whichTo (ed : Int × Int) (W : List (Int × Int)) (i : Nat) : Nat := (W.zipIdx.take i).foldl (fun k p => if p.1 = ed then p.2 else k) 0
theorem whichTo_succ {ed : Int × Int} {W : List (Int × Int)} {i : Nat} (hi : i < W.length) : whichTo ed W (i + 1) = if W[i] = ed then i else whichTo ed W i := by
  unfold whichTo
  rw [List.take_succ_eq_append_getElem (by simpa using hi), List.foldl_append]
  simp
theorem whichTo_all (ed : Int × Int) (W : List (Int × Int)) : whichTo ed W W.length = whichE ed W := by
  unfold whichTo whichE
  rw [List.take_of_length_le (by simp)]
set_option maxHeartbeats 8000000 in
theorem go0_loop (ed : Int × Int) (to : Int) (B : Nat) (W : List (Int × Int)) (hW : W.length ≤ 1300) (st : List Ob) (hB : st[B]? = some (.box (srcC ed))) (h6 : 6 < st.length) (hlow : st.all (Ob.blw st.length) = true) (R : S → Prop) :
    Wp T (.loop c_engine_machine_goes_L0) (go0S to B W st 0 0) (fun _ => False) R
      (fun b s' => b = 0 ∧ ∃ v, s' = ⟨[(0, .bp 6 0), (2, i64 to), (4, .bp B 0), (6, i64 (whichE ed W)), (24, srcsU W), (25, i64 W.length), (26, i64 (W.length : Nat)), (27, v)], st⟩) := by
  have hBl := (List.getElem?_eq_some_iff.1 hB).1
  refine Wp.count W.length (fun i => go0S to B W st (whichTo ed W i) i) (fun _ => True) (fun i hi _ => ?_) (fun _ => ?_) 0 (by omega) trivial
  · have hi' : (i : Int) < W.length := by omega
    have eg : W[i]? = some W[i] := List.getElem?_eq_getElem hi
    rw [whichTo_succ hi]
    generalize whichTo ed W i = k at *
    generalize W[i] = a at *
    have f2 : ∀ o, (st ++ [o])[st.length]? = some o := fun o => by simp
    have f3 : ∀ o o' : Ob, (st ++ [o]).set st.length o' = st ++ [o'] := fun o o' => by simp
    have f4 : ∀ o : Ob, (st ++ [o])[B]? = some (.box (srcC ed)) := fun o => by rw [List.getElem?_append_left hBl, hB]
    have hs := src_same a ed
    simp only [go0S, srcsU]
    (have := fa hi'; repeat refine Wp.f ?_)
    refine Wp.i ?_ ?_ <;> intro h1
    · (have := fa (a5 hi' eg f2 f3 (a2 @srcC_len @srcC_over)); repeat refine Wp.f ?_)
      (have := fa (a5 f2 f4 @srcC_len @srcC_take hs); repeat refine Wp.f ?_)
      by_cases hae : a = ed
      · rw [if_pos hae]
        refine Wp.i ?_ ?_ <;> intro h2
        · repeat refine Wp.a ?_
          (have := fa @wrap_id; repeat refine Wp.f ?_)
          refine ⟨?_, trivial⟩
          refine trim_list ?_ hlow
          simp
          omega
        · simp [hae] at h2
      · rw [if_neg hae]
        refine Wp.i ?_ ?_ <;> intro h2
        · simp only [Bool.and_eq_true, decide_eq_true_eq] at h2
          exact absurd (Prod.ext h2.1 h2.2) hae
        · (have := fa @wrap_id; repeat refine Wp.f ?_)
          refine ⟨?_, trivial⟩
          refine trim_list ?_ hlow
          simp
          omega
    · cases h1
  · simp only [go0S, srcsU, whichTo_all]
    repeat refine Wp.a ?_
    refine Wp.i ?_ ?_ <;> intro h1
    · simp at h1
    · exact Wp.exit ⟨rfl, _, rfl⟩
def goesP (x : FForm) (c : Cs) (ws : List Wd) (df : Wd) (e : Int × Int) (to : Int) : List Wd := (x.vals.zip ws).map fun p => if p.1.pos = to then wordP c ws df (p.1.src.getD (whichE e (waysF x to)) (0, 0)) else p.2
def curW (x : FForm) (c : Cs) (ws : List Wd) (df : Wd) (e : Int × Int) (to : Int) (i : Nat) : List Wd := (goesP x c ws df e to).take i ++ ws.drop i
theorem goesP_len {x : FForm} {c : Cs} {ws : List Wd} (hw : ws.length = x.vals.length) (df : Wd) (e : Int × Int) (to : Int) : (goesP x c ws df e to).length = x.vals.length := by
  unfold goesP
  rw [List.length_map, List.length_zip]
  omega
theorem curW_len {x : FForm} {c : Cs} {ws : List Wd} (hw : ws.length = x.vals.length) (df : Wd) (e : Int × Int) (to : Int) (i : Nat) : (curW x c ws df e to i).length = x.vals.length := by
  unfold curW
  rw [List.length_append, List.length_take, List.length_drop, goesP_len hw]
  omega
theorem curW_get {x : FForm} {c : Cs} {ws : List Wd} (hw : ws.length = x.vals.length) (df : Wd) (e : Int × Int) (to : Int) {i : Nat} (hi : i < x.vals.length) : (curW x c ws df e to i)[i]? = some (ws[i]'(by omega)) := by
  unfold curW
  rw [List.getElem?_append_right (by rw [List.length_take, goesP_len hw]; omega), List.length_take, goesP_len hw, Nat.min_eq_left (Nat.le_of_lt hi), Nat.sub_self, List.getElem?_drop, Nat.add_zero, List.getElem?_eq_getElem]
theorem curW_succ {x : FForm} {c : Cs} {ws : List Wd} (hw : ws.length = x.vals.length) (df : Wd) (e : Int × Int) (to : Int) {i : Nat} (hi : i < x.vals.length) : curW x c ws df e to (i + 1) = if x.vals[i].pos = to then (curW x c ws df e to i).set i (wordP c ws df (x.vals[i].src.getD (whichE e (waysF x to)) (0, 0))) else curW x c ws df e to i := by
  have hg : (goesP x c ws df e to)[i]'(by rw [goesP_len hw]; exact hi) = if x.vals[i].pos = to then wordP c ws df (x.vals[i].src.getD (whichE e (waysF x to)) (0, 0)) else ws[i]'(by omega) := by
    unfold goesP
    rw [List.getElem_map, List.getElem_zip]
  have hd : ws.drop i = ws[i]'(by omega) :: ws.drop (i + 1) := List.drop_eq_getElem_cons (by omega)
  have hl : ((goesP x c ws df e to).take i).length = i := by rw [List.length_take, goesP_len hw]; omega
  unfold curW
  rw [List.take_succ_eq_append_getElem (by rw [goesP_len hw]; exact hi), hg, hd, List.append_assoc]
  split
  · rw [List.set_append_right _ _ (by omega), hl, Nat.sub_self]
    rfl
  · rfl
theorem word_rng (c : Cs) (ws : List Wd) (df : Wd) (s : Int × Int) : True := trivial
def go1S (x : FForm) (to : Int) (k N n : Nat) (st : List Ob) (i : Nat) (cur : List Wd) : S := ⟨[(0, .bp 6 0), (2, i64 to), (6, i64 k), (9, .own N n), (46, .sl true (x.vals.map valC)), (47, i64 x.vals.length), (48, i64 i)], st ++ [.row 45 2 false (cur.map wdU)]⟩
set_option maxHeartbeats 8000000 in
theorem go1_loop {x : FForm} {c : Cs} (hR : c.R.length = 8) (hx : Small x) {st0 : List Ob} {m : Mch} {wy w h e o : U} (hm : MSt x c st0 m wy w h e o) (hws : m.ws.length = x.vals.length) (hr : rightF x = true) (ed : Int × Int) (to : Int) (hed : ed ∈ waysF x to)
    (st : List Ob) (hst : ∃ Y, st = st0 ++ Y) (hlow : st.all (Ob.blw st.length) = true) (R : S → Prop) :
    Wp T (.loop c_engine_machine_goes_L1) (go1S x to (whichE ed (waysF x to)) st.length x.vals.length st 0 m.ws) (fun _ => False) R
      (fun b s' => b = 2 ∧ ∃ v, s' = ⟨[(0, .bp 6 0), (2, i64 to), (6, i64 (whichE ed (waysF x to))), (9, .own st.length x.vals.length), (46, .sl true (x.vals.map valC)), (47, i64 x.vals.length), (48, i64 (x.vals.length : Nat)), (49, v)], st ++ [.row 45 2 false ((goesP x c m.ws m.df ed to).map wdU)]⟩) := by
  have hbn := hx.vals
  have h6 : 6 < st0.length := (List.getElem?_eq_some_iff.1 hm.box).1
  have h60 : 6 < st.length := by obtain ⟨Y, rfl⟩ := hst; rw [List.length_append]; omega
  have hfr := fun v hv => from_ok hr (v := v) hv (e := ed)
  have e0 : m.ws = curW x c m.ws m.df ed to 0 := by unfold curW; simp
  have eN : goesP x c m.ws m.df ed to = curW x c m.ws m.df ed to x.vals.length := by
    unfold curW
    rw [List.take_of_length_le (by rw [goesP_len hws]; omega), List.drop_eq_nil_of_le (by omega), List.append_nil]
  rw [eN]
  conv => arg 3; rw [e0]
  refine Wp.count x.vals.length (fun i => go1S x to (whichE ed (waysF x to)) st.length x.vals.length st i (curW x c m.ws m.df ed to i)) (fun _ => True) (fun i hi _ => ?_) (fun _ => ?_) 0 (by omega) trivial
  · have hi' : (i : Int) < x.vals.length := by omega
    have eg : x.vals[i]? = some x.vals[i] := List.getElem?_eq_getElem hi
    have hcg := curW_get (c := c) hws m.df ed to hi
    have hcl := curW_len (c := c) hws m.df ed to i
    rw [curW_succ hws m.df ed to hi]
    have hvm := List.getElem_mem hi
    generalize x.vals[i] = v at *
    generalize m.ws[i]'(by omega) = w0 at *
    generalize curW x c m.ws m.df ed to i = cur at *
    simp only [go1S]
    have hcu : (cur.map wdU).length = x.vals.length := by rw [List.length_map, hcl]
    have hcg' : (cur.map wdU)[i]? = some (wdU w0) := by rw [List.getElem?_map, hcg]; rfl
    have hl1 : (st ++ [Ob.row 45 2 false (cur.map wdU)]).all (Ob.blw (st ++ [Ob.row 45 2 false (cur.map wdU)]).length) = true := by
      refine low_push hlow ?_
      rfl
    generalize hst3 : st ++ [Ob.row 45 2 false (cur.map wdU)] = st3 at *
    have hN : st3[st.length]? = some (.row 45 2 false (cur.map wdU)) := by rw [← hst3]; simp
    have hl3 : st3.length = st.length + 1 := by rw [← hst3]; simp
    have f2 : ∀ o, (st3 ++ [o])[st3.length]? = some o := fun o => by simp
    have f3 : ∀ o o' : Ob, (st3 ++ [o]).set st3.length o' = st3 ++ [o'] := fun o o' => by simp
    (have := fa hi'; repeat refine Wp.f ?_)
    refine Wp.i ?_ ?_ <;> intro h1
    · (have := fa (a5 hi' eg f2 f3 (a2 @valC.eq_1 @srcsU.eq_1)); repeat refine Wp.f ?_)
      by_cases hv : v.pos = to
      · rw [if_pos hv]
        obtain ⟨q1, q2⟩ := hfr v hvm (by rw [hv]; exact hed)
        rw [hv] at q1 q2
        have hsi := (comes_in q2).1
        have q1' : (whichE ed (waysF x to) : Int) < v.src.length := by omega
        have eq : v.src[whichE ed (waysF x to)]? = some (v.src.getD (whichE ed (waysF x to)) (0, 0)) := by
          rw [List.getD_eq_getElem?_getD, List.getElem?_eq_getElem q1]
          rfl
        have hlb : (st3 ++ [Ob.box (valC v)]).all (Ob.blw (st3 ++ [Ob.box (valC v)]).length) = true := low_push hl1 (by simp [valC, srcsU])
        have hm3 : MSt x c (st3 ++ [Ob.box (valC v)]) m wy w h e o := hm.ext (by
          obtain ⟨Y, hY⟩ := hst
          exact ⟨Y ++ [Ob.row 45 2 false (cur.map wdU)] ++ [Ob.box (valC v)], by rw [← hst3, hY]; simp⟩) hlb
        have hw := word_call hR hm3 hws hsi
        generalize v.src.getD (whichE ed (waysF x to)) (0, 0) = s at *
        generalize whichE ed (waysF x to) = k at *
        generalize wordP c m.ws m.df s = wd at *
        have f5 : ∀ o, (st3 ++ [o])[st.length]? = some (.row 45 2 false (cur.map wdU)) := fun o => by rw [List.getElem?_append_left (by omega), hN]
        have f6 : ∀ o r : Ob, (st3 ++ [o]).set st.length r = st3.set st.length r ++ [o] := fun o r => by rw [List.set_append_left _ _ (by omega)]
        have hset : (cur.map wdU).set i [.bool wd.1, i64 wd.2] = (cur.set i wd).map wdU := (List.map_set (f := wdU) ..).symm
        simp only [valC, srcsU, wdU] at hw
        have dv : decide (v.pos = to) = true := decide_eq_true hv
        simp only [srcC] at hw
        (all_goals have := fa (a5 hi' f2 q1' eq (a5 @srcC.eq_1 f5 f6 hcu (a2 hcg' hset))); repeat' first | refine Wp.v ?_ | (apply Wp.call; exact hw) | (refine Wp.c ?_ ?_ <;> intro))
        refine ⟨?_, trivial⟩
        have e3 : st3.set st.length (.row 45 2 false ((cur.set i wd).map wdU)) = st ++ [.row 45 2 false ((cur.set i wd).map wdU)] := by
          rw [← hst3]
          simp
        have e4 : st3.length = (st ++ [Ob.row 45 2 false ((cur.set i wd).map wdU)]).length := by rw [hl3]; simp
        rw [show over [U.bool wd.fst, U.int IntKind.i64 wd.snd] (wdU w0) = [.bool wd.1, i64 wd.2] from rfl, hset, e3, e4]
        refine trim_list ?_ (low_push hlow rfl)
        simp
        omega
      · rw [if_neg hv]
        have dv : decide (v.pos = to) = false := decide_eq_false hv
        (all_goals have := fa f2; repeat' first | refine Wp.v ?_ | (refine Wp.c ?_ ?_ <;> intro))
        (have := fa @wrap_id; repeat refine Wp.f ?_)
        refine ⟨?_, trivial⟩
        rw [hst3]
        refine trim_list ?_ hl1
        simp
        omega
    · cases h1
  · simp only [go1S]
    repeat refine Wp.a ?_
    refine Wp.i ?_ ?_ <;> intro h1
    · simp at h1
    · exact Wp.exit ⟨rfl, _, rfl⟩
theorem trim_kept {L : Nat} {st : List Ob} {e : Env} {i : Nat} {o : Ob} (h : st[i]? = some o) (hi : i < L) (hb : Ob.blw L o = false) : trimO L ⟨e, st⟩ = ⟨e, st⟩ := by
  unfold trimO trim
  rw [if_neg]
  · rfl
  · intro h2
    simp only [Bool.and_eq_true] at h2
    have h3 : (st.take L)[i]? = some o := by rw [List.getElem?_take, if_pos hi]; exact h
    have := List.all_eq_true.1 h2.2 o (List.mem_of_getElem? h3)
    rw [hb] at this
    cases this
theorem iaddr_row {cl : Nat → List U → List Ob → Option (U × List Ob)} {e : Env} {st : List Ob} {id n tag es : Nat} {k : Bool} {xs : List (List U)} {i : Nat} {nid : Nat} {x y : A} (hx : x.ev e = .own id n) (hy : y.ev e = i64 i) (hr : st[id]? = some (.row tag es k xs)) (hl : xs.length = n) (hi : i < n) : ev1 cl e st nid (.iaddr es x y) = some (.rp id n i 0, st) := by
  have hi' : (i : Int) < n := by omega
  simp [-A.ev, hx, hy, hr, hl, hi']
theorem ld_row {cl : Nat → List U → List Ob → Option (U × List Ob)} {e : Env} {st : List Ob} {id n tag es : Nat} {k : Bool} {xs : List (List U)} {i : Nat} {nid : Nat} {x : A} {u : U} (hx : x.ev e = .rp id n i 0) (hr : st[id]? = some (.row tag es k xs)) (hl : xs.length = n) (hi : xs[i]? = some [u]) : ev1 cl e st nid (.load false 1 x) = some (u, st) := by
  simp [-A.ev, hx, hr, hl, hi]
theorem mc_low {x : FForm} {c : Cs} (hR : c.R.length = 8) {m : Mch} {wy w h e o : U} {L : Nat} (h1 : blw blwD L wy = true) (h2 : blw blwD L w = true) (h3 : blw blwD L h = true) (h4 : blw blwD L e = true) (h5 : blw blwD L o = true) : Ob.blw L (.box (mcU x c m wy w h e o)) = true := by
  obtain ⟨R, ch, ans, fuel, lq⟩ := c
  obtain ⟨r0, r1, r2, r3, r4, r5, r6, r7, rfl⟩ := R8 hR
  simp [mcU, formC, csU, h1, h2, h3, h4, h5]
theorem RU.put {st : List Ob} {tag es : Nat} {u : U} {xs : List (List U)} (h : RU st tag es u xs) {cs : List U} (h6 : st[6]? = some (.box cs)) (b : Ob) : RU (st.set 6 b) tag es u xs :=
  h.ext fun id ys hb => by
    rw [List.getElem?_set_ne (fun e => by subst e; rw [h6] at hb; cases hb), hb]
theorem Keep.put (st : List Ob) (b : Ob) : Keep st (st.set 6 b) := ⟨by simp, fun i cs hi hb => by rw [List.getElem?_set_ne (fun e => hi e.symm), hb]⟩
theorem MSt.put {x : FForm} {c : Cs} (hR : c.R.length = 8) {st : List Ob} {m : Mch} {wy w h e o : U} (hm : MSt x c st m wy w h e o) (m' : Mch) (h1 : m'.ws = m.ws) (h2 : m'.h = m.h) (h3 : m'.ev = m.ev) (h4 : m'.out = m.out) : MSt x c (st.set 6 (.box (mcU x c m' wy w h e o))) m' wy w h e o := by
  have h6 := (List.getElem?_eq_some_iff.1 hm.box).1
  refine ⟨by simp [h6], hm.ways.put hm.box _, by rw [h1]; exact hm.words.put hm.box _, by rw [h2]; exact hm.heap.put hm.box _, by rw [h3]; exact hm.evs.put hm.box _, hm.evo, by rw [h4]; exact hm.out.put hm.box _, ?_⟩
  rw [List.length_set]
  exact low_set hm.low (mc_low hR (hm.ways.low _ (Nat.le_refl _)) (hm.words.low _ (Nat.le_refl _)) (hm.heap.low _ (Nat.le_refl _)) (hm.evs.low _ (Nat.le_refl _)) (hm.out.low _ (Nat.le_refl _)))
set_option maxHeartbeats 8000000 in
theorem goes_call {x : FForm} {c : Cs} (hR : c.R.length = 8) (hx : Small x) {st : List Ob} {m : Mch} {wy w h e o : U} (hm : MSt x c st m wy w h e o) (hws : m.ws.length = x.vals.length) (hr : rightF x = true) (ed : Int × Int) (to : Int) (hto : to < x.nodes.length) (hed : 0 ≤ to → ed ∈ waysF x to) (hwy : 0 ≤ to → ∃ id, wy = .own id x.nodes.length ∧ st[id]? = some (.row 66 1 false (waysR x))) :
    ∃ st' w', Cl T n_engine_machine_goes [.bp 6 0, .agg (srcC ed), i64 to] st (.tup []) st' ∧ MSt x c st' { m with pos := to, ws := if to < 0 then m.ws else goesP x c m.ws m.df ed to } wy w' h e o ∧ Keep st st' := by
  have hb := hm.box
  by_cases hneg : to < 0
  · have dv : decide (to < 0) = true := decide_eq_true hneg
    have hp := hm.put hR { m with pos := to, ws := m.ws } rfl rfl rfl rfl
    rw [if_pos hneg]
    refine ⟨st.set 6 (.box (mcU x c { m with pos := to, ws := m.ws } wy w h e o)), w, Wp.impure (fn := c_engine_machine_goes) rfl rfl rfl ?_, hp, Keep.put _ _⟩
    have hlow := hp.low
    clear hp hm
    obtain ⟨z0, z1, z2, z3, z4, z5, X, rfl⟩ := st7 hb
    obtain ⟨R, ch, ans, fuel, lq⟩ := c
    obtain ⟨r0, r1, r2, r3, r4, r5, r6, r7, rfl⟩ := R8 hR
    (all_goals have := fa (a3 @mcU.eq_1 @formC.eq_1 @csU.eq_1); repeat' first | refine Wp.v ?_ | (refine Wp.c ?_ ?_ <;> intro))
    refine Wp.ret ⟨rfl, ?_⟩
    have ht := trim_list (l := [Ob.box (srcC ed)]) (e := [(0, .tup [])]) (by rfl) hlow
    rw [List.length_set] at ht
    exact congrArg S.st ht
  · have dv : decide (to < 0) = false := decide_eq_false hneg
    rw [if_neg hneg]
    obtain ⟨t0, rfl⟩ := Int.eq_ofNat_of_zero_le (by omega : 0 ≤ to)
    have ht0 : t0 < x.nodes.length := by omega
    obtain ⟨id, rfl, hwr⟩ := hwy (by omega)
    have hin := hed (by omega)
    have h6 := (List.getElem?_eq_some_iff.1 hb).1
    have hp := hm.put hR { m with pos := (t0 : Int) } rfl rfl rfl rfl
    have hlen : (waysR x).length = x.nodes.length := by simp [waysR]
    have hwg : (waysR x)[t0]? = some [srcsU (waysF x t0)] := by simp [waysR, ht0]
    have hWl := ways_len hx (t0 : Int)
    obtain ⟨stA, hA⟩ : ∃ stA, stA = st.set 6 (.box (mcU x c { m with pos := (t0 : Int) } (.own id x.nodes.length) w h e o)) ++ [.box (srcC ed)] := ⟨_, rfl⟩
    have hlA : stA.all (Ob.blw stA.length) = true := by rw [hA]; exact low_push hp.low (by simp [srcC])
    have hmA := hp.ext ⟨_, hA⟩ hlA
    have hAB : stA[st.length]? = some (.box (srcC ed)) := by
      rw [hA, List.getElem?_append_right (by simp), List.length_set, Nat.sub_self]
      rfl
    have hwA : stA[id]? = some (.row 66 1 false (waysR x)) := by
      have hne : ¬ id = 6 := fun e => by subst e; rw [hb] at hwr; cases hwr
      have hi := (List.getElem?_eq_some_iff.1 hwr).1
      rw [hA, List.getElem?_append_left (by simpa using hi), List.getElem?_set_ne (fun e => hne e.symm), hwr]
    have hAl : stA.length = st.length + 1 := by rw [hA]; simp
    have g1 : ∀ o', (st ++ [o'])[6]? = some (.box (mcU x c m (.own id x.nodes.length) w h e o)) := fun o' => by rw [List.getElem?_append_left h6, hb]
    have g2 : ∀ o' b : Ob, (st ++ [o']).set 6 b = st.set 6 b ++ [o'] := fun o' b => by rw [List.set_append_left _ _ h6]
    have g3 : ∀ o' b : Ob, (st.set 6 b ++ [o'])[6]? = some b := fun o' b => by rw [List.getElem?_append_left (by simpa using h6)]; simp [h6]
    obtain ⟨stB, hB⟩ : ∃ stB, stB = stA ++ [Ob.row 45 2 false ((goesP x c m.ws m.df ed t0).map wdU)] := ⟨_, rfl⟩
    have hlB : stB.all (Ob.blw stB.length) = true := by rw [hB]; exact low_push hlA rfl
    have hmB := hmA.ext ⟨_, hB⟩ hlB
    have hwB : RU stB 45 2 (.own stA.length x.vals.length) ((goesP x c m.ws m.df ed t0).map wdU) := by
      refine .inr (.inr ⟨stA.length, ?_, ?_⟩)
      · rw [List.length_map, goesP_len hws]
      · rw [hB]; simp
    have h6B := (List.getElem?_eq_some_iff.1 hmB.box).1
    have hBl : stB.length = st.length + 2 := by rw [hB, List.length_append, hAl]; rfl
    refine ⟨stB.set 6 (.box (mcU x c { m with pos := (t0 : Int), ws := goesP x c m.ws m.df ed t0 } (.own id x.nodes.length) (.own stA.length x.vals.length) h e o)), .own stA.length x.vals.length, Wp.impure (fn := c_engine_machine_goes) rfl rfl rfl ?_, ?_, ?_⟩
    · clear hwB hlB hmB
      obtain ⟨R, ch, ans, fuel, lq⟩ := c
      obtain ⟨r0, r1, r2, r3, r4, r5, r6, r7, rfl⟩ := R8 hR
      have hA2 := hA
      have hbA := hmA.box
      simp only [mcU, formC, csU, List.map_cons, List.map_nil, List.cons_append, List.nil_append] at hA2 hbA
      have h6A : 6 < stA.length := by omega
      have k2 : ∀ o', (stA ++ [o'])[6]? = stA[6]? := fun o' => List.getElem?_append_left h6A
      have k3 : ∀ o' b : Ob, (stA ++ [o']).set 6 b = stA.set 6 b ++ [o'] := fun o' b => by rw [List.set_append_left _ _ h6A]
      have happ : ∀ (cl : Nat → List U → List Ob → Option (U × List Ob)) (e' : Env) (s' x' : A) (nid : Nat), s'.ev e' = .own stA.length 0 → x'.ev e' = w → ev1 cl e' (stA ++ [.row 45 2 false []]) nid (.append 45 2 16 false s' x') = some (.own stA.length x.vals.length, stA ++ [.row 45 2 false (m.ws.map wdU)]) := by
        intro cl e' s' x' nid hs' hx'
        have hlA2 : (stA ++ [Ob.row 45 2 false []]).all (Ob.blw (stA ++ [Ob.row 45 2 false []]).length) = true := low_push hlA rfl
        have hel := (hmA.ext ⟨_, rfl⟩ hlA2).words.elems
        have := app_el wdU 2 (fun _ => rfl) (fun _ _ => rfl) cl e' (stA ++ [.row 45 2 false []]) stA.length 45 16 [] m.ws (by have := hx.vals; simp; omega) s' x' hs' (by rw [hx']; exact hel) (by simp) nid
        rw [this]
        simp [hws]
      (all_goals have := fa (a5 g1 g2 g3 @mcU.eq_1 (a2 @formC.eq_1 @csU.eq_1)); repeat' first | refine Wp.v ?_ | (refine Wp.c ?_ ?_ <;> intro))
      rw [← hA2]
      refine Wp.op (Evt.all fun n => iaddr_row (i := t0) rfl rfl hwA hlen ht0) ?_
      refine Wp.op (Evt.all fun n => ld_row rfl hwA hlen hwg) ?_
      (all_goals have := fa @srcsU.eq_1; repeat' first | refine Wp.v ?_ | (refine Wp.c ?_ ?_ <;> intro))
      refine (go0_loop ed t0 st.length (waysF x t0) hWl stA hAB (by omega) hlA _).imp (fun _ h => h.elim) (fun _ h => h) ?_
      rintro b s ⟨rfl, v, rfl⟩
      rw [if_pos rfl]
      (all_goals have := fa (a2 k2 hbA); repeat' first | refine Wp.v ?_ | (refine Wp.c ?_ ?_ <;> intro))
      refine Wp.op (Evt.all fun n => happ _ _ _ _ _ rfl rfl) ?_
      (all_goals have := fa (a2 k2 hbA); repeat' first | refine Wp.v ?_ | (refine Wp.c ?_ ?_ <;> intro))
      have hl1 := go1_loop hR hx hmA hws hr ed t0 hin stA ⟨[], by simp⟩ hlA (fun s => resU s c_engine_machine_goes.res = some (.tup []) ∧ (trimO st.length ⟨[(0, .tup [])], s.st⟩).st = stB.set 6 (.box (mcU x ⟨[r0, r1, r2, r3, r4, r5, r6, r7], ch, ans, fuel, lq⟩ { m with pos := (t0 : Int), ws := goesP x ⟨[r0, r1, r2, r3, r4, r5, r6, r7], ch, ans, fuel, lq⟩ m.ws m.df ed t0 } (.own id x.nodes.length) (.own stA.length x.vals.length) h e o)))
      refine hl1.imp (fun _ h => h.elim) (fun _ h => h) ?_
      rintro b s ⟨rfl, v, rfl⟩
      rw [if_pos rfl]
      (all_goals have := fa (a3 k2 k3 hbA); repeat' first | refine Wp.v ?_ | (refine Wp.c ?_ ?_ <;> intro))
      refine ⟨rfl, ?_⟩
      have hq : ∀ (l : List Ob) (cs : List U), (stA.set 6 (.box cs) ++ l)[6]? = some (.box cs) := fun l cs => by rw [List.getElem?_append_left (by simpa using h6A)]; simp [h6A]
      rw [trim_kept (hq _ _) h6 (by simp; omega), hB, List.set_append_left _ _ h6A]
      rfl
    · refine ⟨by simp [h6B], hmB.ways.put hmB.box _, hwB.put hmB.box _, hmB.heap.put hmB.box _, hmB.evs.put hmB.box _, hmB.evo, hmB.out.put hmB.box _, ?_⟩
      rw [List.length_set]
      exact low_set hlB (mc_low hR (hmB.ways.low _ (Nat.le_refl _)) (hwB.low _ (Nat.le_refl _)) (hmB.heap.low _ (Nat.le_refl _)) (hmB.evs.low _ (Nat.le_refl _)) (hmB.out.low _ (Nat.le_refl _)))
    · refine ⟨by rw [List.length_set]; omega, fun i cs hi hbi => ?_⟩
      have hil := (List.getElem?_eq_some_iff.1 hbi).1
      rw [List.getElem?_set_ne (fun e => hi e.symm), hB, List.getElem?_append_left (by omega), hA, List.getElem?_append_left (by simpa using hil), List.getElem?_set_ne (fun e => hi e.symm), hbi]
set_option maxHeartbeats 4000000 in
theorem come_call {x : FForm} {c : Cs} (hR : c.R.length = 8) {st : List Ob} {m : Mch} {wy w h e o : U} (hm : MSt x c st m wy w h e o) {K : Nat} (hK : st[K]? = some (.box [.bp 6 0])) (v how : Int) :
    Cl T n_engine_machine_node_1 [i64 v, i64 how, .bp K 0] st (.tup [i64 how, i64 0]) (st.set 6 (.box (mcU x c { m with df := (true, v) } wy w h e o))) := by
  have hb := hm.box
  have h6 := (List.getElem?_eq_some_iff.1 hb).1
  obtain ⟨R, ch, ans, fuel, lq⟩ := c
  obtain ⟨r0, r1, r2, r3, r4, r5, r6, r7, rfl⟩ := R8 hR
  refine Wp.impure (fn := c_engine_machine_node_1) rfl rfl rfl ?_
  simp only [mcU, formC, csU, List.map_cons, List.map_nil, List.cons_append, List.nil_append] at hb ⊢
  have his := is_call v
  simp only [wdU] at his
  (repeat' first | refine Wp.u ?_ | (refine Wp.c ?_ ?_ <;> intro))
  refine Wp.draw (by (simp [c_engine_machine_node_1_D0, I.need]) <;> rfl) (by first | ((simp [hK, hb]) <;> rfl) | exact rfl) (by (simp [hK, hb]) <;> rfl) (by (unfold c_engine_machine_node_1_D0); (repeat (first | ((first | apply Dr.op | apply Dr.opN | (apply Dr.opG; exact rfl)); ((simp [hK, hb]) <;> rfl); (apply Evt.all; intro; (simp [hK, hb]) <;> (try simp (disch := omega) only [wrap_id]) <;> first | exact ⟨rfl, rfl⟩ | exact rfl); ((simp [I.need]) <;> rfl)) | ((first | (apply Dr.opS; exact rfl; decide) | (apply Dr.opS0; exact rfl)); ((simp [I.need]) <;> rfl)) | (apply Dr.call; ((simp [hK, hb]) <;> rfl); exact his _) | (apply Dr.callG; (exact rfl); ((simp [hK, hb]) <;> rfl); exact his _))); exact Dr.nil) (by first | decide +kernel | exact rfl) (by (simp [M2.keep]) <;> rfl) ?_
  (repeat' first | refine Wp.u ?_ | (refine Wp.c ?_ ?_ <;> intro))
  refine Wp.ret ⟨rfl, ?_⟩
  rw [trimO_len (by simp)]
def askM (c : Cs) (m : Mch) (n arg : Int) : Mch := if m.asked < c.ans.length then { m with asked := m.asked + 1, ev := m.ev ++ [(n, arg, c.ans.getD m.asked 0)] } else m
def askV (c : Cs) (m : Mch) : Int × Int := if m.asked < c.ans.length then (c.ans.getD m.asked 0, 0) else (0, 5)
set_option maxHeartbeats 16000000 in
theorem ask_call {x : FForm} {c : Cs} (hR : c.R.length = 8) (hal : c.ans.length ≤ 100000) {st : List Ob} {m : Mch} {wy w h e o : U} (hm : MSt x c st m wy w h e o) (hev : m.ev.length ≤ 100000) (n arg : Int) :
    ∃ st' e', Cl T n_engine_machine_call [.bp 6 0, i64 n, i64 arg] st (.tup [i64 (askV c m).1, i64 (askV c m).2]) st' ∧ MSt x c st' (askM c m n arg) wy w h e' o ∧ Keep st st' := by
  have hb := hm.box
  have h6 := (List.getElem?_eq_some_iff.1 hb).1
  unfold askM askV
  by_cases hlt : m.asked < c.ans.length
  · rw [if_pos hlt, if_pos hlt]
    have hp := hm.put hR { m with asked := m.asked + 1 } rfl rfl rfl rfl
    obtain ⟨st1, hs1⟩ : ∃ st1, st1 = st.set 6 (.box (mcU x c { m with asked := m.asked + 1 } wy w h e o)) := ⟨_, rfl⟩
    rw [← hs1] at hp
    have hl1 : st1.length = st.length := by rw [hs1, List.length_set]
    have hb1 := hp.box
    have hlt' : (m.asked : Int) < c.ans.length := by omega
    have eg : c.ans[m.asked]? = some (c.ans.getD m.asked 0) := by
      rw [List.getD_eq_getElem?_getD, List.getElem?_eq_getElem hlt]
      rfl
    have w1 : IntKind.wrap .i64 ((m.asked : Int) + 1) = ((m.asked + 1 : Nat) : Int) := wrap_id (by omega) (by omega)
    have hk1 : Keep st st1 := by rw [hs1]; exact Keep.put _ _
    have dg : decide ((c.ans.length : Int) ≤ m.asked) = false := decide_eq_false (by omega)
    have dg2 : decide (c.ans.length ≤ m.asked) = false := decide_eq_false (by omega)
    generalize c.ans.getD m.asked 0 = v at *
    rcases hm.evs with he | ⟨he, hnil⟩ | ⟨id, he, hrow⟩
    · exact absurd he (hm.evo _ _)
    · subst he
      have hnil' : m.ev = [] := List.map_eq_nil_iff.1 hnil
      have hlb : (st1 ++ [Ob.row 59 3 false [evnU (n, arg, v)], Ob.row 59 3 false [evnU (n, arg, v)]]).all (Ob.blw (st1 ++ [Ob.row 59 3 false [evnU (n, arg, v)], Ob.row 59 3 false [evnU (n, arg, v)]]).length) = true := low_push hp.low rfl
      have hm2 := hp.ext ⟨_, rfl⟩ hlb
      have h62 := (List.getElem?_eq_some_iff.1 hm2.box).1
      have hE : RU (st1 ++ [Ob.row 59 3 false [evnU (n, arg, v)], Ob.row 59 3 false [evnU (n, arg, v)]]) 59 3 (.own (st1.length + 1) (m.ev ++ [(n, arg, v)]).length) ((m.ev ++ [(n, arg, v)]).map evnU) := .inr (.inr ⟨st1.length + 1, by rw [List.length_map], by rw [hnil']; simp⟩)
      refine ⟨(st1 ++ [Ob.row 59 3 false [evnU (n, arg, v)], Ob.row 59 3 false [evnU (n, arg, v)]]).set 6 (.box (mcU x c { m with asked := m.asked + 1, ev := m.ev ++ [(n, arg, v)] } wy w h (.own (st1.length + 1) (m.ev ++ [(n, arg, v)]).length) o)), .own (st1.length + 1) (m.ev ++ [(n, arg, v)]).length, Wp.impure (fn := c_engine_machine_call) rfl rfl rfl ?_, ⟨?_, hm2.ways.put hm2.box _, hm2.words.put hm2.box _, hm2.heap.put hm2.box _, hE.put hm2.box _, (fun _ _ h => by cases h), hm2.out.put hm2.box _, ?_⟩, ?_⟩
      · obtain ⟨R, ch, ans, fuel, lq⟩ := c
        obtain ⟨r0, r1, r2, r3, r4, r5, r6, r7, rfl⟩ := R8 hR
        simp only at eg hlt' dg dg2
        simp only [mcU, formC, csU, List.map_cons, List.map_nil, List.cons_append, List.nil_append] at hb hb1
        (repeat' first | refine Wp.u ?_ | (refine Wp.c ?_ ?_ <;> intro))
        refine Wp.draw (by (simp [c_engine_machine_call_D0, I.need]) <;> rfl) (by first | ((simp [hb]) <;> rfl) | exact rfl) (by (simp [hb]) <;> rfl) (by (unfold c_engine_machine_call_D0); (repeat (first | ((first | apply Dr.op | apply Dr.opN | (apply Dr.opG; exact rfl)); ((simp [hb]) <;> rfl); (apply Evt.all; intro; (simp [hb]) <;> (try simp (disch := omega) only [wrap_id]) <;> first | exact ⟨rfl, rfl⟩ | exact rfl); ((simp [I.need]) <;> rfl)) | ((first | (apply Dr.opS; exact rfl; decide) | (apply Dr.opS0; exact rfl)); ((simp [I.need]) <;> rfl)))); exact Dr.nil) (by first | decide +kernel | exact rfl) (by (simp [M2.keep]) <;> rfl) ?_
        (repeat' first | refine Wp.u ?_ | (refine Wp.c ?_ ?_ <;> intro))
        refine Wp.draw (by (simp [c_engine_machine_call_D1, I.need]) <;> rfl) (by first | ((simp [hb, hlt', eg]) <;> rfl) | exact rfl) (by (simp [hb, hlt', eg]) <;> rfl) (by (unfold c_engine_machine_call_D1); (repeat (first | ((first | apply Dr.op | apply Dr.opN | (apply Dr.opG; exact rfl)); ((simp [hb, hlt', eg]) <;> rfl); (apply Evt.all; intro; (simp [hb, hlt', eg]) <;> (try simp (disch := omega) only [wrap_id]) <;> first | exact ⟨rfl, rfl⟩ | exact rfl); ((simp [I.need]) <;> rfl)) | ((first | (apply Dr.opS; exact rfl; decide) | (apply Dr.opS0; exact rfl)); ((simp [I.need]) <;> rfl)))); exact Dr.nil) (by first | decide +kernel | exact rfl) (by (simp [M2.keep]) <;> rfl) ?_
        (all_goals have := fa (a2 hb w1); repeat' first | refine Wp.v ?_ | (refine Wp.c ?_ ?_ <;> intro))
        change Wp T _ ⟨_, st.set 6 (.box (mcU x ⟨[r0, r1, r2, r3, r4, r5, r6, r7], ch, ans, fuel, lq⟩ { m with asked := m.asked + 1 } wy w h .nils o))⟩ _ _ _
        rw [← hs1]
        (all_goals have := fa hb1; repeat' first | refine Wp.v ?_ | (refine Wp.c ?_ ?_ <;> intro))
        have q1 : ∀ l : List Ob, (st1 ++ l)[6]? = st1[6]? := fun l => by rw [List.getElem?_append_left (by omega)]
        (all_goals have := fa (a2 q1 hb1); repeat' first | refine Wp.v ?_ | (refine Wp.c ?_ ?_ <;> intro))
        refine Wp.ret ⟨rfl, ?_⟩
        have e2 : (m.ev ++ [(n, arg, v)]).length = 1 := by rw [hnil']; rfl
        rw [e2]
        have hq : ∀ (l : List Ob) (b : Ob), ((st1 ++ l).set 6 b)[6]? = some b := fun l b => List.getElem?_set_self (by rw [List.length_append]; omega)
        rw [trim_kept (hq _ _) h6 (by simp; omega)]
        rfl
      · rw [List.getElem?_set_self h62]
      · rw [List.length_set]
        refine low_set hlb (mc_low hR (hm2.ways.low _ (Nat.le_refl _)) (hm2.words.low _ (Nat.le_refl _)) (hm2.heap.low _ (Nat.le_refl _)) (hE.low _ (Nat.le_refl _)) (hm2.out.low _ (Nat.le_refl _)))
      · refine hk1.trans ⟨by rw [List.length_set, List.length_append]; omega, fun i cs hi hbi => ?_⟩
        rw [List.getElem?_set_ne (fun e => hi e.symm), List.getElem?_append_left (List.getElem?_eq_some_iff.1 hbi).1, hbi]
    · rw [List.length_map] at he
      subst he
      have hid := (List.getElem?_eq_some_iff.1 hrow).1
      have hid6 : ¬ id = 6 := fun e => by subst e; rw [hb] at hrow; cases hrow
      have hrow1 : st1[id]? = some (.row 59 3 false (m.ev.map evnU)) := by rw [hs1, List.getElem?_set_ne (fun e => hid6 e.symm), hrow]
      have keepR : ∀ (tag es : Nat) (u : U) (xs : List (List U)) (a b : Ob), ¬ tag = 59 → RU st tag es u xs → RU ((st1.set id a).set 6 b) tag es u xs := fun tag es u xs a b ht hu => hu.ext fun id' ys hy => by
        have n1 : ¬ id' = 6 := fun e => by subst e; rw [hb] at hy; cases hy
        have n2 : ¬ id' = id := fun e => by subst e; rw [hrow] at hy; injection hy with hy; injection hy with hy; exact ht hy.symm
        rw [List.getElem?_set_ne (fun e => n1 e.symm), List.getElem?_set_ne (fun e => n2 e.symm), hs1, List.getElem?_set_ne (fun e => n1 e.symm), hy]
      have hE : RU ((st1.set id (.row 59 3 false ((m.ev ++ [(n, arg, v)]).map evnU))).set 6 (.box (mcU x c { m with asked := m.asked + 1, ev := m.ev ++ [(n, arg, v)] } wy w h (.own id (m.ev ++ [(n, arg, v)]).length) o))) 59 3 (.own id (m.ev ++ [(n, arg, v)]).length) ((m.ev ++ [(n, arg, v)]).map evnU) := .inr (.inr ⟨id, by rw [List.length_map], by
        rw [List.getElem?_set_ne (fun e => hid6 e.symm), List.getElem?_set_self (by omega)]⟩)
      have hlF : ((st1.set id (.row 59 3 false ((m.ev ++ [(n, arg, v)]).map evnU))).set 6 (.box (mcU x c { m with asked := m.asked + 1, ev := m.ev ++ [(n, arg, v)] } wy w h (.own id (m.ev ++ [(n, arg, v)]).length) o))).all (Ob.blw ((st1.set id (.row 59 3 false ((m.ev ++ [(n, arg, v)]).map evnU))).set 6 (.box (mcU x c { m with asked := m.asked + 1, ev := m.ev ++ [(n, arg, v)] } wy w h (.own id (m.ev ++ [(n, arg, v)]).length) o))).length) = true := by
        rw [List.length_set, List.length_set]
        have hlow1 := hp.low
        refine low_set (low_set hlow1 rfl) (mc_low hR (hm.ways.low _ (by omega)) (hm.words.low _ (by omega)) (hm.heap.low _ (by omega)) ?_ (hm.out.low _ (by omega)))
        rw [blw_own, decide_eq_true_eq]
        omega
      refine ⟨(st1.set id (.row 59 3 false ((m.ev ++ [(n, arg, v)]).map evnU))).set 6 (.box (mcU x c { m with asked := m.asked + 1, ev := m.ev ++ [(n, arg, v)] } wy w h (.own id (m.ev ++ [(n, arg, v)]).length) o)), .own id (m.ev ++ [(n, arg, v)]).length, Wp.impure (fn := c_engine_machine_call) rfl rfl rfl ?_, ⟨?_, keepR _ _ _ _ _ _ (by decide) hm.ways, keepR _ _ _ _ _ _ (by decide) hm.words, keepR _ _ _ _ _ _ (by decide) hm.heap, hE, (fun _ _ h => by cases h), keepR _ _ _ _ _ _ (by decide) hm.out, hlF⟩, ?_⟩
      · obtain ⟨R, ch, ans, fuel, lq⟩ := c
        obtain ⟨r0, r1, r2, r3, r4, r5, r6, r7, rfl⟩ := R8 hR
        simp only at eg hlt' dg dg2
        simp only [mcU, formC, csU, List.map_cons, List.map_nil, List.cons_append, List.nil_append] at hb hb1
        (repeat' first | refine Wp.u ?_ | (refine Wp.c ?_ ?_ <;> intro))
        refine Wp.draw (by (simp [c_engine_machine_call_D0, I.need]) <;> rfl) (by first | ((simp [hb]) <;> rfl) | exact rfl) (by (simp [hb]) <;> rfl) (by (unfold c_engine_machine_call_D0); (repeat (first | ((first | apply Dr.op | apply Dr.opN | (apply Dr.opG; exact rfl)); ((simp [hb]) <;> rfl); (apply Evt.all; intro; (simp [hb]) <;> (try simp (disch := omega) only [wrap_id]) <;> first | exact ⟨rfl, rfl⟩ | exact rfl); ((simp [I.need]) <;> rfl)) | ((first | (apply Dr.opS; exact rfl; decide) | (apply Dr.opS0; exact rfl)); ((simp [I.need]) <;> rfl)))); exact Dr.nil) (by first | decide +kernel | exact rfl) (by (simp [M2.keep]) <;> rfl) ?_
        (repeat' first | refine Wp.u ?_ | (refine Wp.c ?_ ?_ <;> intro))
        refine Wp.draw (by (simp [c_engine_machine_call_D1, I.need]) <;> rfl) (by first | ((simp [hb, hlt', eg]) <;> rfl) | exact rfl) (by (simp [hb, hlt', eg]) <;> rfl) (by (unfold c_engine_machine_call_D1); (repeat (first | ((first | apply Dr.op | apply Dr.opN | (apply Dr.opG; exact rfl)); ((simp [hb, hlt', eg]) <;> rfl); (apply Evt.all; intro; (simp [hb, hlt', eg]) <;> (try simp (disch := omega) only [wrap_id]) <;> first | exact ⟨rfl, rfl⟩ | exact rfl); ((simp [I.need]) <;> rfl)) | ((first | (apply Dr.opS; exact rfl; decide) | (apply Dr.opS0; exact rfl)); ((simp [I.need]) <;> rfl)))); exact Dr.nil) (by first | decide +kernel | exact rfl) (by (simp [M2.keep]) <;> rfl) ?_
        (all_goals have := fa (a2 hb w1); repeat' first | refine Wp.v ?_ | (refine Wp.c ?_ ?_ <;> intro))
        change Wp T _ ⟨_, st.set 6 (.box (mcU x ⟨[r0, r1, r2, r3, r4, r5, r6, r7], ch, ans, fuel, lq⟩ { m with asked := m.asked + 1 } wy w h (.own id m.ev.length) o))⟩ _ _ _
        rw [← hs1]
        (all_goals have := fa hb1; repeat' first | refine Wp.v ?_ | (refine Wp.c ?_ ?_ <;> intro))
        have q0 : ∀ (r : Ob) (j : Nat) o', st1[j]? = some o' → (st1 ++ [r])[j]? = some o' := fun r j o' hj => by rw [List.getElem?_append_left (List.getElem?_eq_some_iff.1 hj).1, hj]
        refine Wp.op (Evt.all fun nn => app_el evnU 3 (fun _ => rfl) (fun _ _ => rfl) _ _ _ id 59 24 m.ev [(n, arg, v)] (by simp; omega) _ _ rfl (by simp [M2.elems, rowAt, evnU]) (q0 _ _ _ hrow1) _) ?_
        have q1 : ∀ r r' : Ob, ((st1 ++ [r]).set id r')[6]? = st1[6]? := fun r r' => by
          rw [List.getElem?_set_ne hid6, List.getElem?_append_left (by omega)]
        have q2 : ∀ r r' b : Ob, ((st1 ++ [r]).set id r').set 6 b = (st1.set id r').set 6 b ++ [r] := fun r r' b => by
          rw [List.set_append_left _ _ (by omega), List.set_append_left _ _ (by rw [List.length_set]; omega)]
        (all_goals have := fa (a3 q1 q2 hb1); repeat' first | refine Wp.v ?_ | (refine Wp.c ?_ ?_ <;> intro))
        refine Wp.ret ⟨rfl, ?_⟩
        have hE2 := hlF
        simp only [mcU, formC, csU, List.map_cons, List.map_nil, List.cons_append, List.nil_append] at hE2
        have ht := trim_list (l := [Ob.row 59 3 false [[i64 n, i64 arg, i64 v]]]) (e := [(0, .tup [i64 v, i64 0])]) (by rfl) hE2
        rw [List.length_set, List.length_set, hl1] at ht
        have e1 : m.ev.map evnU ++ [evnU (n, arg, v)] = (m.ev ++ [(n, arg, v)]).map evnU := by simp
        have e2 : m.ev.length + 1 = (m.ev ++ [(n, arg, v)]).length := by simp
        rw [e1, e2]
        exact congrArg S.st ht
      · rw [List.getElem?_set_self (by rw [List.length_set]; omega)]
      · refine hk1.trans ⟨by simp, fun i cs hi hbi => ?_⟩
        rw [List.getElem?_set_ne (fun e => hi e.symm), List.getElem?_set_ne (fun e => by subst e; rw [hrow1] at hbi; cases hbi), hbi]
  · rw [if_neg hlt, if_neg hlt]
    refine ⟨st, e, Wp.impure (fn := c_engine_machine_call) rfl rfl rfl ?_, hm, Keep.refl st⟩
    have hge : (c.ans.length : Int) ≤ m.asked := by omega
    obtain ⟨R, ch, ans, fuel, lq⟩ := c
    obtain ⟨r0, r1, r2, r3, r4, r5, r6, r7, rfl⟩ := R8 hR
    simp only [mcU, formC, csU, List.map_cons, List.map_nil, List.cons_append, List.nil_append] at hb hge ⊢
    have dg : decide ((ans.length : Int) ≤ m.asked) = true := decide_eq_true hge
    have dg2 : decide (ans.length ≤ m.asked) = true := decide_eq_true (by omega)
    (repeat' first | refine Wp.u ?_ | (refine Wp.c ?_ ?_ <;> intro))
    refine Wp.draw (by (simp [c_engine_machine_call_D0, I.need]) <;> rfl) (by first | ((simp [hb]) <;> rfl) | exact rfl) (by (simp [hb]) <;> rfl) (by (unfold c_engine_machine_call_D0); (repeat (first | ((first | apply Dr.op | apply Dr.opN | (apply Dr.opG; exact rfl)); ((simp [hb]) <;> rfl); (apply Evt.all; intro; (simp [hb]) <;> (try simp (disch := omega) only [wrap_id]) <;> first | exact ⟨rfl, rfl⟩ | exact rfl); ((simp [I.need]) <;> rfl)) | ((first | (apply Dr.opS; exact rfl; decide) | (apply Dr.opS0; exact rfl)); ((simp [I.need]) <;> rfl)))); exact Dr.nil) (by first | decide +kernel | exact rfl) (by (simp [M2.keep]) <;> rfl) ?_
    (repeat' first | refine Wp.u ?_ | (refine Wp.c ?_ ?_ <;> intro))
    exact Wp.ret ⟨rfl, congrArg S.st (trimO_len rfl)⟩
set_option maxHeartbeats 4000000 in
theorem ret_heap {l1 l2 l3 l4 l5 l6 l7 l8 l9 l10 l11 l12 l13 l14 wy w h l15 l16 d1 d2 e how val o s1 s2 : U} {G : List Ob} {L : Nat} (hL : G[L]? = some (.box [.bp 6 0])) (h6 : 6 < G.length) (hL6 : L < G.length) (hb : G[6]? = some (.box [l1, l2, l3, l4, l5, l6, l7, l8, l9, l10, l11, l12, l13, l14, wy, w, h, l15, l16, d1, d2, e, how, val, o, s1, s2]))
    {ints : List Int} (hh : RU G 2 1 h (ints.map intC)) (hl : ints.length ≤ 1000) {K R : S → Prop} {B : Nat → S → Prop} (k : K ⟨[], (G ++ [Ob.row 2 1 false (ints.map intC), Ob.hole]).set 6 (.box [l1, l2, l3, l4, l5, l6, l7, l8, l9, l10, l11, l12, l13, l14, wy, w, h, l15, l16, d1, d2, e, how, val, .own G.length ints.length, s1, s2])⟩) :
    Wp T (.opsD c_engine_machine_node_D2 [0, 0, 0, 4, 12, 28, 62, 127, 255, 511, 1023, 2047] []) ⟨[(2, .bp L 0)], G⟩ K R B := by
  have k6 : ∀ X : List Ob, (G ++ X)[6]? = G[6]? := fun X => List.getElem?_append_left h6
  have kL : ∀ X : List Ob, (G ++ X)[L]? = G[L]? := fun X => List.getElem?_append_left hL6
  have g0 : ∀ a b : Ob, (G ++ [a, b])[G.length]? = some a := fun a b => by simp
  have g1 : ∀ a b a' : Ob, (G ++ [a, b]).set G.length a' = G ++ [a', b] := fun a b a' => by simp
  have htx : ∃ th : List (Nat × Bool), (∀ X : List Ob, touchX (G ++ X) h = some th) ∧ (th = [] ∨ ∃ id, th = [(id, false)]) := by
    have hpl : (ints.map intC).all (fun z => z.all plainU) = true := by
      rw [List.all_eq_true]
      intro z hz
      obtain ⟨v, _, rfl⟩ := List.mem_map.1 hz
      rfl
    rcases hh with rfl | ⟨rfl, h0⟩ | ⟨id, rfl, hr⟩
    · refine ⟨[], fun X => ?_, .inl rfl⟩
      simp only [touchX, touchE, M2.elems, Option.bind_some]
      rw [if_pos hpl]
    · refine ⟨[], fun X => ?_, .inl rfl⟩
      rfl
    · refine ⟨[(id, false)], fun X => ?_, .inr ⟨id, rfl⟩⟩
      have hq : (G ++ X)[id]? = some (.row 2 1 false (ints.map intC)) := by rw [List.getElem?_append_left (List.getElem?_eq_some_iff.1 hr).1, hr]
      simp only [touchX, touchE, hq, M2.elems, rowAt, List.length_map, if_true, Option.bind_some]
      rw [if_pos hpl]
  obtain ⟨th, hth, hts⟩ := htx
  have hel : ∀ X : List Ob, M2.elems (G ++ X) h = some (ints.map intC) := fun X => (hh.ext fun id ys hy => by rw [List.getElem?_append_left (List.getElem?_eq_some_iff.1 hy).1, hy] : RU (G ++ X) 2 1 h (ints.map intC)).elems
  have happ : ∀ (cl : Nat → List U → List Ob → Option (U × List Ob)) (e' : Env) (s' x' : A) (nid : Nat), s'.ev e' = .own G.length 0 → x'.ev e' = h → ev1 cl e' (G ++ [Ob.row 2 1 false [], Ob.hole]) nid (.append 2 1 8 false s' x') = some (.own G.length ints.length, G ++ [Ob.row 2 1 false (ints.map intC), Ob.hole]) := by
    intro cl e' s' x' nid hs' hx'
    have := app_el intC 1 (fun _ => rfl) (fun _ _ => rfl) cl e' (G ++ [Ob.row 2 1 false [], Ob.hole]) G.length 2 8 [] ints (by simp; omega) s' x' hs' (by rw [hx']; exact hel _) (g0 _ _) nid
    rw [this, g1]
    simp
  have htt : ∀ (pf : Nat → Bool) (e' : Env) (s' x' : A) (nid : Nat), s'.ev e' = .own G.length 0 → x'.ev e' = h → touch pf e' (G ++ [Ob.row 2 1 false [], Ob.hole]) nid (.append 2 1 8 false s' x') = some (th ++ [(G.length, true)]) := by
    intro pf e' s' x' nid hs' hx'
    simp only [touch, hs', hx', hth, Option.map_some]
  refine Wp.draw (ts := [some [(L, false)], some [(G.length, true)], some [(L, false)], some [], some [], some [(6, false)], some (th ++ [(G.length, true)]), some [], some [], some [], some [], some [(6, true)]]) (m := 2) (k := G.length) (st0 := G ++ [Ob.hole, Ob.hole]) (by (simp [c_engine_machine_node_D2, I.need]) <;> rfl) rfl rfl (s' := ⟨[(111, .bp 6 24), (110, .bp 6 22), (109, .bp 6 21), (108, .bp 6 0), (107, .own G.length ints.length), (106, h), (105, .bp 6 16), (104, .bp 6 0), (103, .bp 6 0), (102, .own G.length 0), (101, .bp 6 0), (2, .bp L 0)], (G ++ [Ob.row 2 1 false (ints.map intC), Ob.hole]).set 6 (.box [l1, l2, l3, l4, l5, l6, l7, l8, l9, l10, l11, l12, l13, l14, wy, w, h, l15, l16, d1, d2, e, how, val, .own G.length ints.length, s1, s2])⟩) ?_ ?_ rfl k
  · unfold c_engine_machine_node_D2
    repeat (first | ((first | apply Dr.op | apply Dr.opN | (apply Dr.opG; exact rfl)); ((simp [hL, kL, k6, hb, g0, g1]) <;> rfl); (apply Evt.all; intro; (simp [hL, kL, k6, hb, g0, g1]) <;> (try simp (disch := omega) only [wrap_id]) <;> first | exact ⟨rfl, rfl⟩ | exact rfl); ((simp [I.need]) <;> rfl)) | ((first | (apply Dr.opS; exact rfl; decide) | (apply Dr.opS0; exact rfl)); ((simp [I.need]) <;> rfl)))
    refine Dr.op (htt _ _ _ _ _ rfl rfl) (Evt.all fun n => happ _ _ _ _ _ rfl rfl) rfl ?_
    repeat (first | ((first | apply Dr.op | apply Dr.opN | (apply Dr.opG; exact rfl)); ((simp [hL, kL, k6, hb, g0, g1]) <;> rfl); (apply Evt.all; intro; (simp [hL, kL, k6, hb, g0, g1]) <;> (try simp (disch := omega) only [wrap_id]) <;> first | exact ⟨rfl, rfl⟩ | exact rfl); ((simp [I.need]) <;> rfl)) | ((first | (apply Dr.opS; exact rfl; decide) | (apply Dr.opS0; exact rfl)); ((simp [I.need]) <;> rfl)))
    exact Dr.nil
  · have hne : ¬ L = G.length := by omega
    have hne2 : ¬ G.length = L := by omega
    have hne3 : ¬ 6 = G.length := by omega
    rcases hts with rfl | ⟨id, rfl⟩
    · simp [chkD, aside, tmpInd, ind, c_engine_machine_node_D2, O.uses, I.uses, M2.A.uses, hne, hne2, hne3]
      refine ⟨by decide, by decide, ⟨.inr (by omega), by decide⟩, ⟨by decide, by decide⟩, by decide, by decide, by decide, .inl (by decide), .inl (by decide), by decide, by decide, by decide⟩
    · simp [chkD, aside, tmpInd, ind, c_engine_machine_node_D2, O.uses, I.uses, M2.A.uses, hne, hne2, hne3]
      refine ⟨by decide, by decide, ⟨.inr (by omega), by decide⟩, ⟨by decide, by decide⟩, by decide, by decide, by decide, .inl (by decide), .inl (by decide), by decide, by decide, by decide⟩
end Go.Proofs.YtfmhnfimkpffnaaGreatDoor.M2
