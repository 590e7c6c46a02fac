/- Plain: what a form that is right has at hand in each step. -/
import Derived.Test.YtfmhnfimkpffnaaGreatDoorCg
import Derived.Test.YtfmhnfimkpffnaaGreatDoorCc
import Derived.KernelRfl
import Derived.Test.YtfmhnfimkpffnaaGreatDoorCh
set_option linter.unusedSimpArgs false
set_option linter.unusedVariables false
set_option linter.unusedSectionVars false
namespace Go.Proofs.YtfmhnfimkpffnaaGreatDoor.M2
open Go
attribute [local simp] ev1 M2.get put A.ev ld sub part elems bin arith un opt idx fillC cellsO splice over newOb sto fillR laidOwn appTo appRow touch touchN touchM touchE touchA plainU flatU plainAs allM rowAt stoRow accM_nil accM_cons accMM_nil accMM_cons frz_int frz_bool frz_str frz_slt frz_nils frz_nilI frz_nilF frz_own frzRow_row frzRow_frow Ob.blw blw_bool blw_int blw_str blw_nils blw_nilI blw_nilF blw_nilp blw_nilm blw_sl blw_own blw_bp blw_rp blw_mp blw_it params
attribute [local simp] frz_agg frz_tup frz_iface frzS_agg frzS_iface accMS_cons frzS_int frzS_bool frzS_str frzS_slt frzS_nils frzS_nilI beq_dec bne_dec
def heapU (p : Bool) (h : List Int) : U := .sl p (h.map fun v => [i64 v])
abbrev intsU (l : List Int) : U := .sl true (l.map fun v => [i64 v])
theorem heapRight_call (p : Bool) (h : List Int) (st : List Ob) : Cl T n_heap_Right [heapU p h] st (.bool (decide (h.length ≤ 16))) st := by
  refine Wp.pure (fn := c_heap_Right) rfl rfl rfl («as» := [heapU p h]) rfl ?_
  simp only [heapU]
  (repeat' first | refine Wp.u ?_ | (refine Wp.c ?_ ?_ <;> intro))
  refine Wp.ret ?_
  simp [Res, resU, res1, c_heap_Right]
  try omega
theorem acc_ints (st : List Ob) : ∀ h : List Int, accM (accM (frz frzD)) st (h.map fun v => [i64 v]) = some (h.map fun v => [i64 v], st)
  | [] => rfl
  | v :: h => by
    have ih := acc_ints st h
    simp only [List.map_cons]
    rw [accMM_cons]
    have h1 : accM (frz frzD) st [i64 v] = some ([i64 v], st) := rfl
    simp only [h1, ih, Option.bind_some]
theorem app_ints (cl : Nat → List U → List Ob → Option (U × List Ob)) (e : Env) (st : List Ob) (i : Nat) (p : Bool) (h : List Int) (hh : h.length ≤ 1000) (s x : A) (hs : s.ev e = .own i 0) (hx : x.ev e = heapU p h) (hi : st[i]? = some (.row 2 1 false [])) (nid : Nat) :
    ev1 cl e st nid (.append 2 1 8 false s x) = some (.own i h.length, st.set i (.row 2 1 false (h.map fun v => [i64 v]))) := by
  have hall : ((h.map fun v => [i64 v]).all fun y => y.length == 1) = true := by
    rw [List.all_eq_true]
    intro y hy
    obtain ⟨b, _, rfl⟩ := List.mem_map.1 hy
    rfl
  have hlim : (0 + (h.map fun v => [i64 v]).length) * 8 ≤ 140737488355328 := by simp; omega
  rw [ev1, hx]
  simp only [heapU, elems, Option.bind_some]
  rw [if_pos hall, hs]
  simp only
  unfold appTo
  simp only [hi]
  rw [acc_ints]
  simp only [Option.bind_some]
  unfold appRow
  simp only [hi]
  rw [if_pos ⟨rfl, trivial, trivial, hlim⟩]
  simp only [Option.bind_some, List.length_map, List.nil_append, Nat.zero_add]
theorem Wp.callv {T : Nat → Option F} {K R : S → Prop} {B : Nat → S → Prop} {d f : Nat} {x : A} {xs : List A} {caps : List U} {l : List O} {live : List Nat} {e : Env} {st st1 : List Ob} {u : U} (hx : x.ev e = .fn f caps) (h : Cl T f (xs.map (·.ev e) ++ caps) st u st1) (k : Wp T (.ops l live) ⟨(d, u) :: e, st1⟩ K R B) : Wp T (.ops (⟨some d, .callv x xs, none⟩ :: l) live) ⟨e, st⟩ K R B :=
  Wp.op (h.mono fun n h => by simp only [ev1, hx]; exact h) k
theorem acc_gen {α : Type} (f : α → List U) (hz : ∀ a st, accM (frz frzD) st (f a) = some (f a, st)) (st : List Ob) : ∀ l : List α, accM (accM (frz frzD)) st (l.map f) = some (l.map f, st)
  | [] => rfl
  | v :: h => by
    have ih := acc_gen f hz st h
    simp only [List.map_cons]
    rw [accMM_cons]
    simp only [hz, ih, Option.bind_some]
theorem app_gen {α : Type} (f : α → List U) (es : Nat) (hf : ∀ a, (f a).length = es) (hz : ∀ a st, accM (frz frzD) st (f a) = some (f a, st)) (cl : Nat → List U → List Ob → Option (U × List Ob)) (e : Env) (st : List Ob) (i tag by_ : Nat) (p : Bool) (a b : List α) (hl : (a.length + b.length) * by_ ≤ 140737488355328) (s x : A) (hs : s.ev e = .own i a.length) (hx : x.ev e = .sl p (b.map f)) (hi : st[i]? = some (.row tag es false (a.map f))) (nid : Nat) :
    ev1 cl e st nid (.append tag es by_ false s x) = some (.own i (a ++ b).length, st.set i (.row tag es false ((a ++ b).map f))) := by
  have hall : ((b.map f).all fun y => y.length == es) = true := by
    rw [List.all_eq_true]
    intro y hy
    obtain ⟨b, _, rfl⟩ := List.mem_map.1 hy
    simp [hf]
  have hlim : (a.length + (b.map f).length) * by_ ≤ 140737488355328 := by rw [List.length_map]; exact hl
  rw [ev1, hx]
  simp only [elems, Option.bind_some]
  rw [if_pos hall, hs]
  simp only
  unfold appTo
  simp only [hi]
  rw [acc_gen f hz]
  simp only [Option.bind_some]
  unfold appRow
  simp only [hi]
  rw [if_pos ⟨by simp, trivial, trivial, hlim⟩]
  simp only [Option.bind_some, List.length_map, List.map_append, List.length_append]
theorem app_el {α : Type} (f : α → List U) (es : Nat) (hf : ∀ a, (f a).length = es) (hz : ∀ a st, accM (frz frzD) st (f a) = some (f a, st)) (cl : Nat → List U → List Ob → Option (U × List Ob)) (e : Env) (st : List Ob) (i tag by_ : Nat) (a b : List α) (hl : (a.length + b.length) * by_ ≤ 140737488355328) (s x : A) (hs : s.ev e = .own i a.length) (hx : M2.elems st (x.ev e) = some (b.map f)) (hi : st[i]? = some (.row tag es false (a.map f))) (nid : Nat) :
    ev1 cl e st nid (.append tag es by_ false s x) = some (.own i (a ++ b).length, st.set i (.row tag es false ((a ++ b).map f))) := by
  have hall : ((b.map f).all fun y => y.length == es) = true := by
    rw [List.all_eq_true]
    intro y hy
    obtain ⟨b, _, rfl⟩ := List.mem_map.1 hy
    simp [hf]
  have hlim : (a.length + (b.map f).length) * by_ ≤ 140737488355328 := by rw [List.length_map]; exact hl
  rw [ev1, hx]
  simp only [Option.bind_some]
  rw [if_pos hall, hs]
  simp only
  unfold appTo
  simp only [hi]
  rw [acc_gen f hz]
  simp only [Option.bind_some]
  unfold appRow
  simp only [hi]
  rw [if_pos ⟨by simp, trivial, trivial, hlim⟩]
  simp only [Option.bind_some, List.length_map, List.map_append, List.length_append]
theorem trim_list {st l : List Ob} {e : Env} (he : e.all (fun p => blw blwD st.length p.2) = true) (hB : st.all (Ob.blw st.length) = true) : trimO st.length ⟨e, st ++ l⟩ = ⟨e, st⟩ := by
  unfold trimO trim
  simp only [List.take_left, he, hB, Bool.and_self, if_true, Option.getD_some]
/-! Arithmetic. -/
def wrapU (n : Int) : Int := IntKind.wrap .i64 n
def deedF (op a b : Int) : Int :=
  if op = 4 then wrapU (a + b) else if op = 5 then wrapU (a - b) else if op = 6 then wrapU (a * b) else if op = 7 then wrapU (a.tdiv b)
  else if op = 8 then wrapU (BitVec.ofInt 64 a &&& BitVec.ofInt 64 b).toNat else if op = 9 then wrapU (BitVec.ofInt 64 a ||| BitVec.ofInt 64 b).toNat
  else if op = 10 then wrapU (BitVec.ofInt 64 a ^^^ BitVec.ofInt 64 b).toNat else if op = 11 then (if a < b then 1 else 0) else (if a = b then 1 else 0)
def numF (op a b : Int) : Int × Int := if op < 4 ∨ 12 < op then (0, 2) else if op = 7 ∧ b = 0 then (0, 3) else (deedF op a b, 0)
theorem flag_call (t : Bool) (st : List Ob) : Cl T n_num_flag [.bool t] st (i64 (if t then 1 else 0)) st := by
  refine Wp.pure (fn := c_num_flag) rfl rfl rfl («as» := [.bool t]) rfl ?_
  cases t
  all_goals
    (repeat' first | refine Wp.u ?_ | (refine Wp.c ?_ ?_ <;> intro))
    refine Wp.ret ?_
    simp [Res, resU, res1, c_num_flag]
theorem deed1_call (a b : Int) (st : List Ob) : Cl T n_num_deeds_1 [i64 a, i64 b] st (i64 (wrapU (a + b))) st := by
  refine Wp.pure (fn := c_num_deeds_1) rfl rfl rfl («as» := [i64 a, i64 b]) rfl ?_
  (repeat' first | refine Wp.u ?_ | (refine Wp.c ?_ ?_ <;> intro))
  exact Wp.ret rfl
theorem deed2_call (a b : Int) (st : List Ob) : Cl T n_num_deeds_2 [i64 a, i64 b] st (i64 (wrapU (a - b))) st := by
  refine Wp.pure (fn := c_num_deeds_2) rfl rfl rfl («as» := [i64 a, i64 b]) rfl ?_
  (repeat' first | refine Wp.u ?_ | (refine Wp.c ?_ ?_ <;> intro))
  exact Wp.ret rfl
theorem deed3_call (a b : Int) (st : List Ob) : Cl T n_num_deeds_3 [i64 a, i64 b] st (i64 (wrapU (a * b))) st := by
  refine Wp.pure (fn := c_num_deeds_3) rfl rfl rfl («as» := [i64 a, i64 b]) rfl ?_
  (repeat' first | refine Wp.u ?_ | (refine Wp.c ?_ ?_ <;> intro))
  exact Wp.ret rfl
theorem deed5_call (a b : Int) (st : List Ob) : Cl T n_num_deeds_5 [i64 a, i64 b] st (i64 (wrapU (BitVec.ofInt 64 a &&& BitVec.ofInt 64 b).toNat)) st := by
  refine Wp.pure (fn := c_num_deeds_5) rfl rfl rfl («as» := [i64 a, i64 b]) rfl ?_
  (repeat' first | refine Wp.u ?_ | (refine Wp.c ?_ ?_ <;> intro))
  exact Wp.ret rfl
theorem deed6_call (a b : Int) (st : List Ob) : Cl T n_num_deeds_6 [i64 a, i64 b] st (i64 (wrapU (BitVec.ofInt 64 a ||| BitVec.ofInt 64 b).toNat)) st := by
  refine Wp.pure (fn := c_num_deeds_6) rfl rfl rfl («as» := [i64 a, i64 b]) rfl ?_
  (repeat' first | refine Wp.u ?_ | (refine Wp.c ?_ ?_ <;> intro))
  exact Wp.ret rfl
theorem deed7_call (a b : Int) (st : List Ob) : Cl T n_num_deeds_7 [i64 a, i64 b] st (i64 (wrapU (BitVec.ofInt 64 a ^^^ BitVec.ofInt 64 b).toNat)) st := by
  refine Wp.pure (fn := c_num_deeds_7) rfl rfl rfl («as» := [i64 a, i64 b]) rfl ?_
  (repeat' first | refine Wp.u ?_ | (refine Wp.c ?_ ?_ <;> intro))
  exact Wp.ret rfl
theorem deed4_call (a b : Int) (hb : ¬ b = 0) (st : List Ob) : Cl T n_num_deeds_4 [i64 a, i64 b] st (i64 (wrapU (a.tdiv b))) st := by
  refine Wp.pure (fn := c_num_deeds_4) rfl rfl rfl («as» := [i64 a, i64 b]) rfl ?_
  (all_goals have := fa hb; repeat' first | refine Wp.v ?_ | (refine Wp.c ?_ ?_ <;> intro))
  exact Wp.ret rfl
theorem deed8_call (a b : Int) (st : List Ob) : Cl T n_num_deeds_8 [i64 a, i64 b] st (i64 (if a < b then 1 else 0)) st := by
  refine Wp.pure (fn := c_num_deeds_8) rfl rfl rfl («as» := [i64 a, i64 b]) rfl ?_
  have hf := flag_call (decide (a < b))
  simp only [decide_eq_true_eq] at hf
  (repeat' first | refine Wp.u ?_ | (apply Wp.call; exact hf _) | (refine Wp.c ?_ ?_ <;> intro))
  exact Wp.ret rfl
theorem deed9_call (a b : Int) (st : List Ob) : Cl T n_num_deeds_9 [i64 a, i64 b] st (i64 (if a = b then 1 else 0)) st := by
  refine Wp.pure (fn := c_num_deeds_9) rfl rfl rfl («as» := [i64 a, i64 b]) rfl ?_
  have hf := flag_call (decide (a = b))
  simp only [decide_eq_true_eq] at hf
  (repeat' first | refine Wp.u ?_ | (apply Wp.call; exact hf _) | (refine Wp.c ?_ ?_ <;> intro))
  exact Wp.ret rfl
abbrev deedsM : List (U × U) := [(i64 4, .fn n_num_deeds_1 []), (i64 5, .fn n_num_deeds_2 []), (i64 6, .fn n_num_deeds_3 []), (i64 7, .fn n_num_deeds_4 []), (i64 8, .fn n_num_deeds_5 []), (i64 9, .fn n_num_deeds_6 []), (i64 10, .fn n_num_deeds_7 []), (i64 11, .fn n_num_deeds_8 []), (i64 12, .fn n_num_deeds_9 [])]
theorem deeds_call : Cl T n_num_deeds [] [] (.mp 0) [.map deedsM] := ⟨60, fun n hn => by
  have h : M2.call T 60 n_num_deeds [] [] = some (.mp 0, [.map deedsM]) := by kernel_rfl
  exact call_mono hn h⟩
theorem look_deeds (op : Int) : look .ti (i64 op) deedsM = some (if op = 4 then some (.fn n_num_deeds_1 []) else if op = 5 then some (.fn n_num_deeds_2 []) else if op = 6 then some (.fn n_num_deeds_3 []) else if op = 7 then some (.fn n_num_deeds_4 []) else if op = 8 then some (.fn n_num_deeds_5 []) else if op = 9 then some (.fn n_num_deeds_6 []) else if op = 10 then some (.fn n_num_deeds_7 []) else if op = 11 then some (.fn n_num_deeds_8 []) else if op = 12 then some (.fn n_num_deeds_9 []) else none) := by
  have hs : ∀ k : Int, sameV .ti (i64 op) (i64 k) = some (decide (op = k)) := fun k => by simp [sameV, cellsS, sameD, same, beq_dec]
  simp only [look, hs, Option.bind_some, decide_eq_true_eq]
  by_cases h4 : op = 4
  · simp [h4]
  by_cases h5 : op = 5
  · simp [h5]
  by_cases h6 : op = 6
  · simp [h6]
  by_cases h7 : op = 7
  · simp [h7]
  by_cases h8 : op = 8
  · simp [h8]
  by_cases h9 : op = 9
  · simp [h9]
  by_cases h10 : op = 10
  · simp [h10]
  by_cases h11 : op = 11
  · simp [h11]
  by_cases h12 : op = 12
  · simp [h12]
  simp [h4, h5, h6, h7, h8, h9, h10, h11, h12]
theorem sameTi (n : Int) : sameV .ti (i64 n) (i64 n) = some true := by simp [sameV, cellsS, sameD, same]
theorem tf_fn (f : Nat) : sameV .tf (.fn f []) .nilF = some false := rfl
theorem tf_nil : sameV .tf .nilF .nilF = some true := rfl
set_option maxHeartbeats 8000000 in
theorem numDo_call (op a b : Int) (st : List Ob) : Cl T n_num_Do [i64 op, i64 a, i64 b] st (.tup [i64 (numF op a b).1, i64 (numF op a b).2]) st := by
  refine Wp.pure (fn := c_num_Do) rfl rfl rfl («as» := [i64 op, i64 a, i64 b]) rfl ?_
  have hd := deeds_call
  have hl := look_deeds op
  by_cases ho : op < 4 ∨ 12 < op
  · have hn : numF op a b = (0, 2) := by unfold numF; rw [if_pos ho]
    have e : look .ti (i64 op) deedsM = some none := by
      rw [hl]
      have : ¬ op = 4 ∧ ¬ op = 5 ∧ ¬ op = 6 ∧ ¬ op = 7 ∧ ¬ op = 8 ∧ ¬ op = 9 ∧ ¬ op = 10 ∧ ¬ op = 11 ∧ ¬ op = 12 := by omega
      simp [this]
    rw [hn]
    (all_goals have := fa (a3 e @tf_nil @sameTi); repeat' first | refine Wp.v ?_ | (apply Wp.call; exact hd) | (refine Wp.c ?_ ?_ <;> intro))
    refine Wp.ret ?_
    simp [Res, resU, res1, c_num_Do]
  have hk : op = 4 ∨ op = 5 ∨ op = 6 ∨ op = 8 ∨ op = 9 ∨ op = 10 ∨ op = 11 ∨ op = 12 ∨ op = 7 := by omega
  rcases hk with rfl | rfl | rfl | rfl | rfl | rfl | rfl | rfl | rfl
  · have hn : numF 4 a b = (deedF 4 a b, 0) := by unfold numF; simp
    have hv := deed1_call a b
    rw [hn]
    simp [deedF] at hl ⊢
    (all_goals have := fa (a3 hl @tf_fn @sameTi); repeat' first | refine Wp.v ?_ | (apply Wp.call; exact hd) | (apply Wp.callv; exact rfl; exact hv _) | (refine Wp.c ?_ ?_ <;> intro))
    refine Wp.ret ?_
    simp [Res, resU, res1, c_num_Do]
  · have hn : numF 5 a b = (deedF 5 a b, 0) := by unfold numF; simp
    have hv := deed2_call a b
    rw [hn]
    simp [deedF] at hl ⊢
    (all_goals have := fa (a3 hl @tf_fn @sameTi); repeat' first | refine Wp.v ?_ | (apply Wp.call; exact hd) | (apply Wp.callv; exact rfl; exact hv _) | (refine Wp.c ?_ ?_ <;> intro))
    refine Wp.ret ?_
    simp [Res, resU, res1, c_num_Do]
  · have hn : numF 6 a b = (deedF 6 a b, 0) := by unfold numF; simp
    have hv := deed3_call a b
    rw [hn]
    simp [deedF] at hl ⊢
    (all_goals have := fa (a3 hl @tf_fn @sameTi); repeat' first | refine Wp.v ?_ | (apply Wp.call; exact hd) | (apply Wp.callv; exact rfl; exact hv _) | (refine Wp.c ?_ ?_ <;> intro))
    refine Wp.ret ?_
    simp [Res, resU, res1, c_num_Do]
  · have hn : numF 8 a b = (deedF 8 a b, 0) := by unfold numF; simp
    have hv := deed5_call a b
    rw [hn]
    simp [deedF] at hl ⊢
    (all_goals have := fa (a3 hl @tf_fn @sameTi); repeat' first | refine Wp.v ?_ | (apply Wp.call; exact hd) | (apply Wp.callv; exact rfl; exact hv _) | (refine Wp.c ?_ ?_ <;> intro))
    refine Wp.ret ?_
    simp [Res, resU, res1, c_num_Do]
  · have hn : numF 9 a b = (deedF 9 a b, 0) := by unfold numF; simp
    have hv := deed6_call a b
    rw [hn]
    simp [deedF] at hl ⊢
    (all_goals have := fa (a3 hl @tf_fn @sameTi); repeat' first | refine Wp.v ?_ | (apply Wp.call; exact hd) | (apply Wp.callv; exact rfl; exact hv _) | (refine Wp.c ?_ ?_ <;> intro))
    refine Wp.ret ?_
    simp [Res, resU, res1, c_num_Do]
  · have hn : numF 10 a b = (deedF 10 a b, 0) := by unfold numF; simp
    have hv := deed7_call a b
    rw [hn]
    simp [deedF] at hl ⊢
    (all_goals have := fa (a3 hl @tf_fn @sameTi); repeat' first | refine Wp.v ?_ | (apply Wp.call; exact hd) | (apply Wp.callv; exact rfl; exact hv _) | (refine Wp.c ?_ ?_ <;> intro))
    refine Wp.ret ?_
    simp [Res, resU, res1, c_num_Do]
  · have hn : numF 11 a b = (deedF 11 a b, 0) := by unfold numF; simp
    have hv := deed8_call a b
    rw [hn]
    simp [deedF] at hl ⊢
    (all_goals have := fa (a3 hl @tf_fn @sameTi); repeat' first | refine Wp.v ?_ | (apply Wp.call; exact hd) | (apply Wp.callv; exact rfl; exact hv _) | (refine Wp.c ?_ ?_ <;> intro))
    refine Wp.ret ?_
    simp [Res, resU, res1, c_num_Do]
  · have hn : numF 12 a b = (deedF 12 a b, 0) := by unfold numF; simp
    have hv := deed9_call a b
    rw [hn]
    simp [deedF] at hl ⊢
    (all_goals have := fa (a3 hl @tf_fn @sameTi); repeat' first | refine Wp.v ?_ | (apply Wp.call; exact hd) | (apply Wp.callv; exact rfl; exact hv _) | (refine Wp.c ?_ ?_ <;> intro))
    refine Wp.ret ?_
    simp [Res, resU, res1, c_num_Do]
  · by_cases hb : b = 0
    · have hn : numF 7 a b = (0, 3) := by unfold numF; simp [hb]
      have db : decide (b = 0) = true := decide_eq_true hb
      rw [hn]
      simp at hl
      (all_goals have := fa (a3 hl @tf_fn @sameTi); repeat' first | refine Wp.v ?_ | (apply Wp.call; exact hd) | (refine Wp.c ?_ ?_ <;> intro))
      refine Wp.ret ?_
      simp [Res, resU, res1, c_num_Do]
    · have hn : numF 7 a b = (deedF 7 a b, 0) := by unfold numF; simp [hb]
      have db : decide (b = 0) = false := decide_eq_false hb
      have hv := deed4_call a b hb
      rw [hn]
      simp [deedF] at hl ⊢
      (all_goals have := fa (a3 hl @tf_fn @sameTi); repeat' first | refine Wp.v ?_ | (apply Wp.call; exact hd) | (apply Wp.callv; exact rfl; exact hv _) | (refine Wp.c ?_ ?_ <;> intro))
      refine Wp.ret ?_
      simp [Res, resU, res1, c_num_Do]
theorem heapIn_call (p : Bool) (h : List Int) (a : Int) (st : List Ob) : Cl T n_heap_in [heapU p h, i64 a] st (.bool (decide (h.length ≤ 16) && (decide (0 ≤ a) && decide (a < h.length)))) st := by
  refine Wp.pure (fn := c_heap_in) rfl rfl rfl («as» := [heapU p h, i64 a]) rfl ?_
  have hr := heapRight_call p h
  by_cases h1 : h.length ≤ 16
  · have d1 : decide (h.length ≤ 16) = true := decide_eq_true h1
    rw [d1] at hr ⊢
    by_cases h2 : 0 ≤ a
    · have d2 : decide (0 ≤ a) = true := decide_eq_true h2
      rw [d2]
      (all_goals have := fa @heapU.eq_1; repeat' first | refine Wp.v ?_ | (apply Wp.call; exact hr _) | (refine Wp.c ?_ ?_ <;> intro))
      refine Wp.ret ?_
      simp [Res, resU, res1, c_heap_in]
    · have d2 : decide (0 ≤ a) = false := decide_eq_false h2
      rw [d2]
      (all_goals have := fa @heapU.eq_1; repeat' first | refine Wp.v ?_ | (apply Wp.call; exact hr _) | (refine Wp.c ?_ ?_ <;> intro))
      refine Wp.ret ?_
      simp [Res, resU, res1, c_heap_in]
  · have d1 : decide (h.length ≤ 16) = false := decide_eq_false h1
    rw [d1] at hr ⊢
    (all_goals have := fa @heapU.eq_1; repeat' first | refine Wp.v ?_ | (apply Wp.call; exact hr _) | (refine Wp.c ?_ ?_ <;> intro))
    refine Wp.ret ?_
    simp [Res, resU, res1, c_heap_in]
def inF (h : List Int) (a : Int) : Bool := decide (h.length ≤ 16) && (decide (0 ≤ a) && decide (a < h.length))
def loadF (h : List Int) (a : Int) : Int × Int := if inF h a then (h.getD a.toNat 0, 0) else (0, 4)
def storeF (h : List Int) (a v : Int) : List Int × Int := if inF h a then (h.set a.toNat v, 0) else ([], 4)
theorem heapLoad_call (p : Bool) (h : List Int) (a : Int) (st : List Ob) : Cl T n_heap_Load [heapU p h, i64 a] st (.tup [i64 (loadF h a).1, i64 (loadF h a).2]) st := by
  refine Wp.pure (fn := c_heap_Load) rfl rfl rfl («as» := [heapU p h, i64 a]) rfl ?_
  have hi : ∀ st, Cl T n_heap_in [heapU p h, i64 a] st (.bool (inF h a)) st := heapIn_call p h a
  unfold loadF
  cases hc : inF h a with
  | false =>
    rw [hc] at hi
    (all_goals have := fa @heapU.eq_1; repeat' first | refine Wp.v ?_ | (apply Wp.call; exact hi _) | (refine Wp.c ?_ ?_ <;> intro))
    refine Wp.ret ?_
    simp [Res, resU, res1, c_heap_Load]
  | true =>
    rw [hc] at hi
    simp only [inF, Bool.and_eq_true, decide_eq_true_eq] at hc
    obtain ⟨A, rfl⟩ := Int.eq_ofNat_of_zero_le hc.2.1
    have hA : A < h.length := by omega
    have hA' : (A : Int) < h.length := hc.2.2
    have eg : h[A]? = some h[A] := List.getElem?_eq_getElem hA
    (all_goals have := fa (a3 @heapU.eq_1 hA' eg); repeat' first | refine Wp.v ?_ | (apply Wp.call; exact hi _) | (refine Wp.c ?_ ?_ <;> intro))
    refine Wp.ret ?_
    simp [Res, resU, res1, c_heap_Load, hA]
theorem copy_ints (cl : Nat → List U → List Ob → Option (U × List Ob)) (e : Env) (p : Bool) (h : List Int) (R : List (List U)) (hR : R.length = h.length) (d x : A) (hd : d.ev e = .own 0 h.length) (hx : x.ev e = .sl p (h.map fun v => [i64 v])) (nid : Nat) :
    ev1 cl e [.row 2 1 false R] nid (.copy 1 d x) = some (i64 (h.length : Nat), [.row 2 1 false (h.map fun v => [i64 v])]) := by
  have hall : ((h.map fun v => [i64 v]).all fun y => y.length == 1) = true := by
    rw [List.all_eq_true]
    intro y hy
    obtain ⟨b, _, rfl⟩ := List.mem_map.1 hy
    rfl
  rw [ev1, hx]
  simp only [elems, Option.bind_some, hd, List.getElem?_cons_zero]
  rw [List.take_of_length_le (by simp), acc_ints]
  simp only [Option.bind_some]
  unfold cpyRow
  simp only [List.getElem?_cons_zero]
  rw [if_pos ⟨hR, trivial, by simp, hall⟩, List.drop_eq_nil_of_le (by simp [hR])]
  simp
set_option maxHeartbeats 4000000 in
theorem heapStore_call (p : Bool) (h : List Int) (a v : Int) (st : List Ob) : Cl T n_heap_Store [heapU p h, i64 a, i64 v] st (.tup [heapU true (storeF h a v).1, i64 (storeF h a v).2]) st := by
  refine Wp.pure (fn := c_heap_Store) rfl rfl rfl («as» := [heapU p h, i64 a, i64 v]) rfl ?_
  have hi : ∀ st, Cl T n_heap_in [heapU p h, i64 a] st (.bool (inF h a)) st := heapIn_call p h a
  unfold storeF
  cases hc : inF h a with
  | false =>
    rw [hc] at hi
    (all_goals have := fa @heapU.eq_1; repeat' first | refine Wp.v ?_ | (apply Wp.call; exact hi _) | (refine Wp.c ?_ ?_ <;> intro))
    refine Wp.ret ?_
    simp [Res, resU, res1, c_heap_Store, heapU]
  | true =>
    rw [hc] at hi
    simp only [inF, Bool.and_eq_true, decide_eq_true_eq] at hc
    obtain ⟨A, rfl⟩ := Int.eq_ofNat_of_zero_le hc.2.1
    have hA : A < h.length := by omega
    have hA' : (A : Int) < h.length := hc.2.2
    have h16 : h.length ≤ 16 := hc.1
    have eg : h[A]? = some h[A] := List.getElem?_eq_getElem hA
    have lim : (h.length : Int) * 8 ≤ limit := by
      show (h.length : Int) * 8 ≤ 140737488355328
      omega
    have hset : (h.map fun v => [i64 v]).set A [i64 v] = (h.set A v).map fun v => [i64 v] := (List.map_set ..).symm
    (all_goals have := fa (a2 @heapU.eq_1 lim); repeat' first | refine Wp.v ?_ | (apply Wp.call; exact hi _) | (refine Wp.c ?_ ?_ <;> intro))
    refine Wp.op (Evt.all fun n => copy_ints _ _ p h _ (by simp) _ _ rfl rfl _) ?_
    (all_goals have := fa (a2 hA' eg); repeat' first | refine Wp.v ?_ | (refine Wp.c ?_ ?_ <;> intro))
    refine Wp.ret ?_
    have hz : frz 11 [.row 2 1 false ((h.map fun v => [i64 v]).set A [i64 v])] (.own 0 h.length) = some (.sl true ((h.map fun v => [i64 v]).set A [i64 v]), [.frow ((h.map fun v => [i64 v]).set A [i64 v])]) := frzS_row rfl (by simp)
    simp [Res, resU, res1, c_heap_Store, heapU, hz]
theorem wrapU_bmod (n : Int) : wrapU n = Int.bmod n (2 ^ 64) := by
  unfold wrapU IntKind.wrap
  simp only [IntKind.bits, IntKind.signed, Bool.true_and]
  have e1 : (2 : Int) ^ 64 = 18446744073709551616 := by decide
  have e2 : (2 : Int) ^ (64 - 1) = 9223372036854775808 := by decide
  have e3 : (2 : Nat) ^ 64 = 18446744073709551616 := by decide
  simp only [e1, e2, e3, Int.bmod]
  split <;> rename_i h <;> simp only [decide_eq_true_eq, ge_iff_le] at h <;> split <;> omega
theorem wrapU_sub (a b : Int) : wrapU (a + wrapU (0 - b)) = wrapU (a - b) := by
  rw [wrapU_bmod, wrapU_bmod, wrapU_bmod, Int.add_bmod_bmod]
  congr 1
  omega
theorem wrapU_xor (a b : Int) : wrapU (wrapU (BitVec.ofInt 64 a ||| BitVec.ofInt 64 b).toNat - wrapU (BitVec.ofInt 64 a &&& BitVec.ofInt 64 b).toNat) = wrapU (BitVec.ofInt 64 a ^^^ BitVec.ofInt 64 b).toNat := by
  generalize BitVec.ofInt 64 a = x
  generalize BitVec.ofInt 64 b = y
  have e : x ||| y = (x ^^^ y) + (x &&& y) := by
    rw [BitVec.add_eq_or_of_and_eq_zero]
    · ext i hi
      simp only [BitVec.getElem_or, BitVec.getElem_xor, BitVec.getElem_and]
      cases x[i] <;> cases y[i] <;> rfl
    · ext i hi
      simp only [BitVec.getElem_xor, BitVec.getElem_and, BitVec.getElem_zero]
      cases x[i] <;> cases y[i] <;> rfl
  rw [e, BitVec.toNat_add]
  simp only [wrapU_bmod]
  rw [Int.natCast_emod, Int.natCast_add]
  have e4 : ((2 ^ 64 : Nat) : Int) = 18446744073709551616 := by decide
  rw [e4]
  generalize ((x ^^^ y).toNat : Int) = p
  generalize ((x &&& y).toNat : Int) = q
  have e3 : (2 : Nat) ^ 64 = 18446744073709551616 := by decide
  simp only [e3, Int.bmod]
  split <;> split <;> split <;> split <;> omega
set_option maxHeartbeats 16000000 in
theorem rnum_call (op a b : Int) (st : List Ob) : Cl T n_joineryref01_Do [i64 op, i64 a, i64 b] st (.tup [i64 (numF op a b).1, i64 (numF op a b).2]) st := by
  refine Wp.pure (fn := c_joineryref01_Do) rfl rfl rfl («as» := [i64 op, i64 a, i64 b]) rfl ?_
  by_cases ho : op < 4 ∨ 12 < op
  · have hn : numF op a b = (0, 2) := by unfold numF; rw [if_pos ho]
    rw [hn]
    have h4 : ¬ op = 4 := by omega
    have h5 : ¬ op = 5 := by omega
    have h6 : ¬ op = 6 := by omega
    have h7 : ¬ op = 7 := by omega
    have h8 : ¬ op = 8 := by omega
    have h9 : ¬ op = 9 := by omega
    have h10 : ¬ op = 10 := by omega
    have h11 : ¬ op = 11 := by omega
    have h12 : ¬ op = 12 := by omega
    (all_goals have := fa (a5 h4 h5 h6 h7 (a5 h8 h9 h10 h11 h12)); repeat' first | refine Wp.v ?_ | (refine Wp.c ?_ ?_ <;> intro))
    refine Wp.ret ?_
    simp [Res, resU, res1, c_joineryref01_Do]
  have hk : op = 4 ∨ op = 5 ∨ op = 6 ∨ op = 8 ∨ op = 9 ∨ op = 10 ∨ op = 11 ∨ op = 12 ∨ op = 7 := by omega
  rcases hk with rfl | rfl | rfl | rfl | rfl | rfl | rfl | rfl | rfl
  · (repeat' first | refine Wp.u ?_ | (refine Wp.c ?_ ?_ <;> intro))
    exact Wp.ret rfl
  · (repeat' first | refine Wp.u ?_ | (refine Wp.c ?_ ?_ <;> intro))
    refine Wp.ret ?_
    have := wrapU_sub a b
    unfold wrapU at this
    simp [Res, resU, res1, c_joineryref01_Do, numF, deedF, wrapU] at this ⊢
    exact this
  · (repeat' first | refine Wp.u ?_ | (refine Wp.c ?_ ?_ <;> intro))
    exact Wp.ret rfl
  · (repeat' first | refine Wp.u ?_ | (refine Wp.c ?_ ?_ <;> intro))
    exact Wp.ret rfl
  · (repeat' first | refine Wp.u ?_ | (refine Wp.c ?_ ?_ <;> intro))
    exact Wp.ret rfl
  · (repeat' first | refine Wp.u ?_ | (refine Wp.c ?_ ?_ <;> intro))
    refine Wp.ret ?_
    have := wrapU_xor a b
    unfold wrapU at this
    simp [Res, resU, res1, c_joineryref01_Do, numF, deedF, wrapU, IntKind.bits] at this ⊢
    exact this
  · by_cases h : a < b
    · (all_goals have := fa h; repeat' first | refine Wp.v ?_ | (refine Wp.c ?_ ?_ <;> intro))
      refine Wp.ret ?_
      simp [Res, resU, res1, c_joineryref01_Do, numF, deedF, h]
    · (all_goals have := fa h; repeat' first | refine Wp.v ?_ | (refine Wp.c ?_ ?_ <;> intro))
      refine Wp.ret ?_
      simp [Res, resU, res1, c_joineryref01_Do, numF, deedF, h]
  · by_cases h : a < b
    · have hne : ¬ a = b := by omega
      (all_goals have := fa h; repeat' first | refine Wp.v ?_ | (refine Wp.c ?_ ?_ <;> intro))
      refine Wp.ret ?_
      simp [Res, resU, res1, c_joineryref01_Do, numF, deedF, hne]
    · by_cases h2 : b < a
      · have hne : ¬ a = b := by omega
        (all_goals have := fa (a2 h h2); repeat' first | refine Wp.v ?_ | (refine Wp.c ?_ ?_ <;> intro))
        refine Wp.ret ?_
        simp [Res, resU, res1, c_joineryref01_Do, numF, deedF, hne]
      · have hne : a = b := by omega
        subst hne
        (all_goals have := fa h; repeat' first | refine Wp.v ?_ | (refine Wp.c ?_ ?_ <;> intro))
        refine Wp.ret ?_
        simp [Res, resU, res1, c_joineryref01_Do, numF, deedF]
  · by_cases h0 : b = 0
    · subst h0
      (repeat' first | refine Wp.u ?_ | (refine Wp.c ?_ ?_ <;> intro))
      exact Wp.ret rfl
    · by_cases h1 : b = -1
      · subst h1
        (repeat' first | refine Wp.u ?_ | (refine Wp.c ?_ ?_ <;> intro))
        refine Wp.ret ?_
        simp [Res, resU, res1, c_joineryref01_Do, numF, deedF, wrapU, Int.tdiv_neg]
      · (all_goals have := fa (a2 h0 h1); repeat' first | refine Wp.v ?_ | (refine Wp.c ?_ ?_ <;> intro))
        refine Wp.ret ?_
        simp [Res, resU, res1, c_joineryref01_Do, numF, deedF, wrapU, h0]
/-! Heaps. -/
theorem loadF_hit {h : List Int} (hl : h.length ≤ 16) {a : Nat} (ha : a < h.length) : loadF h a = (h[a], 0) := by
  unfold loadF inF
  simp [hl, ha]
theorem loadF_miss {h : List Int} {a : Int} (h1 : ¬ h.length ≤ 16 ∨ ∀ i : Nat, i < h.length → ¬ (i : Int) = a) : loadF h a = (0, 4) := by
  unfold loadF
  rw [if_neg]
  intro hc
  simp only [inF, Bool.and_eq_true, decide_eq_true_eq] at hc
  rcases h1 with h1 | h1
  · exact h1 hc.1
  · exact h1 a.toNat (by omega) (by omega)
def rlS (p : Bool) (h : List Int) (a : Int) (i : Nat) : S := ⟨[(0, heapU p h), (1, i64 a), (6, i64 i)], []⟩
set_option maxHeartbeats 4000000 in
theorem rload_call (p : Bool) (h : List Int) (a : Int) (st : List Ob) : Cl T n_joineryref06_Load [heapU p h, i64 a] st (.tup [i64 (loadF h a).1, i64 (loadF h a).2]) st := by
  refine Wp.pure (fn := c_joineryref06_Load) rfl rfl rfl («as» := [heapU p h, i64 a]) rfl ?_
  by_cases hl : h.length ≤ 16
  · have hl' : (h.length : Int) ≤ 16 := by omega
    (all_goals have := fa (a2 @heapU.eq_1 hl'); repeat' first | refine Wp.v ?_ | (refine Wp.c ?_ ?_ <;> intro))
    refine (show Wp T (.loop c_joineryref06_Load_L0) (rlS p h a 0) _ _ _ from Wp.count h.length (fun i => rlS p h a i) (fun i => ∀ j : Nat, j < i → ¬ (j : Int) = a) (fun i hi hP => ?_) (fun hP => ?_) 0 (by omega) (fun j hj => by omega))
    · have hi' : (i : Int) < h.length := by omega
      have eg : h[i]? = some h[i] := List.getElem?_eq_getElem hi
      have hh := loadF_hit hl hi
      generalize h[i] = y at *
      simp only [rlS, heapU]
      (have := fa hi'; repeat refine Wp.f ?_)
      refine Wp.i ?_ ?_ <;> intro h1
      · by_cases hia : (i : Int) = a
        · subst hia
          rw [hh]
          (all_goals have := fa (a2 hi' eg); repeat' first | refine Wp.v ?_ | (refine Wp.c ?_ ?_ <;> intro))
          refine Wp.ret ?_
          simp [Res, resU, res1, c_joineryref06_Load]
        · (all_goals have := fa hia; repeat' first | refine Wp.v ?_ | (refine Wp.c ?_ ?_ <;> intro))
          (have := fa @wrap_id; repeat refine Wp.f ?_)
          refine ⟨trimO_len rfl, fun j hj => ?_⟩
          rcases Nat.lt_or_ge j i with hj2 | hj2
          · exact hP j hj2
          · have : j = i := by omega
            subst this
            exact hia
      · cases h1
    · simp only [rlS, heapU]
      repeat refine Wp.a ?_
      refine Wp.i ?_ ?_ <;> intro h1
      · simp at h1
      · refine Wp.exit ?_
        rw [if_pos rfl, loadF_miss (.inr hP)]
        repeat refine Wp.a ?_
        refine Wp.ret ?_
        simp [Res, resU, res1, c_joineryref06_Load]
  · have hl' : ¬ (h.length : Int) ≤ 16 := by omega
    rw [loadF_miss (.inl hl)]
    (all_goals have := fa (a2 @heapU.eq_1 hl'); repeat' first | refine Wp.v ?_ | (refine Wp.c ?_ ?_ <;> intro))
    refine Wp.ret ?_
    simp [Res, resU, res1, c_joineryref06_Load]
def rsS (p : Bool) (h : List Int) (a v : Int) (i : Nat) : S := ⟨[(0, heapU p h), (1, i64 a), (2, i64 v), (10, .own 0 i), (11, i64 i)], [.row 2 1 false (((h.take i).zipIdx.map fun x => if (x.2 : Int) = a then v else x.1).map fun v => [i64 v])]⟩
set_option maxHeartbeats 4000000 in
theorem rstore_call (p : Bool) (h : List Int) (a v : Int) (st : List Ob) : Cl T n_joineryref06_Store [heapU p h, i64 a, i64 v] st (.tup [heapU true (storeF h a v).1, i64 (storeF h a v).2]) st := by
  refine Wp.pure (fn := c_joineryref06_Store) rfl rfl rfl («as» := [heapU p h, i64 a, i64 v]) rfl ?_
  have hlo := rload_call p h a
  cases hc : inF h a with
  | false =>
    have e1 : loadF h a = (0, 4) := by unfold loadF; rw [hc]; rfl
    have e2 : storeF h a v = ([], 4) := by unfold storeF; rw [hc]; rfl
    rw [e1] at hlo
    rw [e2]
    simp only [heapU] at hlo
    (all_goals have := fa @heapU.eq_1; repeat' first | refine Wp.v ?_ | (apply Wp.call; exact hlo _) | (refine Wp.c ?_ ?_ <;> intro))
    refine Wp.ret ?_
    simp [Res, resU, res1, c_joineryref06_Store, heapU]
  | true =>
    have e1 : (loadF h a).2 = 0 := by unfold loadF; rw [hc]; rfl
    have e2 : storeF h a v = (h.set a.toNat v, 0) := by unfold storeF; rw [hc]; rfl
    simp only [inF, Bool.and_eq_true, decide_eq_true_eq] at hc
    obtain ⟨A, rfl⟩ := Int.eq_ofNat_of_zero_le hc.2.1
    have hA : A < h.length := by omega
    have h16 : h.length ≤ 16 := hc.1
    have e3 : (h.zipIdx.map fun x => if (x.2 : Int) = (A : Int) then v else x.1) = h.set A v := by
      refine List.ext_getElem (by simp) fun i h1 h2 => ?_
      simp only [List.getElem_map, List.getElem_zipIdx, Nat.zero_add, List.getElem_set]
      by_cases hi : i = A
      · subst hi; simp
      · rw [if_neg (by omega), if_neg (by omega)]
    rw [e1] at hlo
    rw [e2, show ((A : Int)).toNat = A from rfl, ← e3]
    simp only [heapU] at hlo
    (all_goals have := fa @heapU.eq_1; repeat' first | refine Wp.v ?_ | (apply Wp.call; exact hlo _) | (refine Wp.c ?_ ?_ <;> intro))
    refine (show Wp T (.loop c_joineryref06_Store_L0) (rsS p h A v 0) _ _ _ from Wp.count h.length (fun i => rsS p h A v i) (fun _ => True) (fun i hi _ => ?_) (fun _ => ?_) 0 (by omega) trivial)
    · have hi' : (i : Int) < h.length := by omega
      have eg : h[i]? = some h[i] := List.getElem?_eq_getElem hi
      have hz : i < h.zipIdx.length := by simpa using hi
      have et : ((h.take (i + 1)).zipIdx.map fun x => if (x.2 : Int) = (A : Int) then v else x.1) = ((h.take i).zipIdx.map fun x => if (x.2 : Int) = (A : Int) then v else x.1) ++ [if (i : Int) = (A : Int) then v else h[i]] := by
        rw [List.take_succ_eq_append_getElem hi, List.zipIdx_append, List.map_append]
        congr 1
        simp [Nat.min_eq_left (Nat.le_of_lt hi)]
      have hln : ((h.take i).zipIdx.map fun x => if (x.2 : Int) = (A : Int) then v else x.1).length = i := by simp; omega
      have lim : ((i : Nat) + 1) * 8 ≤ 140737488355328 := by omega
      simp only [rsS, heapU]
      rw [et]
      generalize ((h.take i).zipIdx.map fun x => if (x.2 : Int) = (A : Int) then v else x.1) = w at *
      generalize h[i] = y at *
      have happ : ∀ (z : Int) (cl : Nat → List U → List Ob → Option (U × List Ob)) (e' : Env) (s' x' : M2.A) (nid : Nat), s'.ev e' = .own 0 i → x'.ev e' = .own 1 1 → ev1 cl e' [Ob.row 2 1 false (w.map fun v => [i64 v]), Ob.row 2 1 false [[i64 z]]] nid (.append 2 1 8 false s' x') = some (.own 0 (i + 1), [Ob.row 2 1 false ((w ++ [z]).map fun v => [i64 v]), Ob.row 2 1 false [[i64 z]]]) := by
        intro z cl e' s' x' nid hs' hx'
        have := app_el (fun v => [i64 v]) 1 (fun _ => rfl) (fun _ _ => rfl) cl e' [Ob.row 2 1 false (w.map fun v => [i64 v]), Ob.row 2 1 false [[i64 z]]] 0 2 8 w [z] (by simp; omega) s' x' (by rw [hs', hln]) (by rw [hx']; rfl) rfl nid
        rw [this]
        simp [hln]
      (have := fa hi'; repeat refine Wp.f ?_)
      refine Wp.i ?_ ?_ <;> intro h1
      · by_cases hia : (i : Int) = (A : Int)
        · rw [if_pos hia]
          have hia' : i = A := by omega
          have hd : decide ((i : Int) = (A : Int)) = true := decide_eq_true hia
          (repeat' first | refine Wp.u ?_ | (refine Wp.c ?_ ?_ <;> intro))
          refine Wp.op (Evt.all fun n => happ _ _ _ _ _ _ rfl rfl) ?_
          (all_goals have := fa @wrap_id; repeat' first | refine Wp.v ?_ | (refine Wp.c ?_ ?_ <;> intro))
          refine ⟨?_, trivial⟩
          simp [trimO, trim]
        · rw [if_neg hia]
          have hd : decide ((i : Int) = (A : Int)) = false := decide_eq_false hia
          (all_goals have := fa (a2 hi' eg); repeat' first | refine Wp.v ?_ | (refine Wp.c ?_ ?_ <;> intro))
          refine Wp.op (Evt.all fun n => happ _ _ _ _ _ _ rfl rfl) ?_
          (all_goals have := fa @wrap_id; repeat' first | refine Wp.v ?_ | (refine Wp.c ?_ ?_ <;> intro))
          refine ⟨?_, trivial⟩
          simp [trimO, trim]
      · cases h1
    · simp only [rsS, heapU]
      rw [List.take_of_length_le (Nat.le_refl _)]
      have hw : (h.zipIdx.map fun x => if (x.2 : Int) = (A : Int) then v else x.1).length = h.length := by simp
      generalize (h.zipIdx.map fun x => if (x.2 : Int) = (A : Int) then v else x.1) = w at *
      repeat refine Wp.a ?_
      refine Wp.i ?_ ?_ <;> intro h1
      · simp at h1
      · refine Wp.exit ?_
        rw [if_pos rfl]
        repeat refine Wp.a ?_
        refine Wp.ret ?_
        have hz : frz 11 [.row 2 1 false (w.map fun v => [i64 v])] (.own 0 h.length) = some (.sl true (w.map fun v => [i64 v]), [.frow (w.map fun v => [i64 v])]) := frzS_row rfl (by simp [hw])
        simp [Res, resU, res1, c_joineryref06_Store, hz]
end Go.Proofs.YtfmhnfimkpffnaaGreatDoor.M2
namespace Go.Proofs.YtfmhnfimkpffnaaGreatDoor.M2
open Go
abbrev Wd := Bool × Int
abbrev Evn := Int × Int × Int
structure TR where
  ev : List Evn
  how : Int
  val : Int
  out : List Int
  steps : Int
  work : Int
  deriving DecidableEq
def tr0 : TR := ⟨[], 0, 0, [], 0, 0⟩
structure Cs where
  R : List Int
  h : List Int
  ans : List Int
  fuel : Int
  q : Bool
def csRight (c : Cs) : Bool := decide (c.h.length ≤ 16) && (decide (c.ans.length ≤ 5000) && (decide (0 ≤ c.fuel) && decide (c.fuel ≤ 5000)))
def begins (a b : List Evn) : Bool := decide (a.length ≤ b.length) && decide (a = b.take a.length)
structure EnS where
  pos : Int
  ws : List Wd
  h : List Int
  asked : Nat
  ev : List Evn
def wordE (c : Cs) (ws : List Wd) (v : Int) (s : Int × Int) : Wd :=
  if s.1 = 1 then (true, c.R.getD s.2.toNat 0) else if s.1 = 2 then (true, s.2) else if s.1 = 3 then (true, v) else if s.1 = 4 then ws.getD s.2.toNat (false, 0) else (false, 0)
def whichE (e : Int × Int) (W : List (Int × Int)) : Nat := W.zipIdx.foldl (fun k p => if p.1 = e then p.2 else k) 0
def goesE (x : FForm) (c : Cs) (ws : List Wd) (v : Int) (e : Int × Int) (to : Int) : List Wd :=
  if to < 0 then ws else (x.vals.zip ws).map fun p => if p.1.pos = to then wordE c ws v (p.1.src.getD (whichE e (waysF x to)) (0, 0)) else p.2
def argsE (c : Cs) (ws : List Wd) : List (Int × Int) → Option (List Int)
  | [] => some []
  | s :: l => if (wordE c ws 0 s).1 then (argsE c ws l).map ((wordE c ws 0 s).2 :: ·) else none
structure NodeR' where
  how : Int
  way : Nat
  v : Int
  s : EnS
  val : Int
def doE (c : Cs) (s : EnS) (y : FNode) : NodeR' :=
  match argsE c s.ws y.args with
  | none => ⟨2, 0, 0, s, 0⟩
  | some l =>
    if y.op = 0 then ⟨2, 0, 0, s, 0⟩
    else if y.op = 13 then ⟨(loadF s.h (l.getD 0 0)).2, 0, (loadF s.h (l.getD 0 0)).1, s, 0⟩
    else if y.op = 14 then ⟨(storeF s.h (l.getD 0 0) (l.getD 1 0)).2, 0, 0, if (storeF s.h (l.getD 0 0) (l.getD 1 0)).2 = 0 then { s with h := (storeF s.h (l.getD 0 0) (l.getD 1 0)).1 } else s, 0⟩
    else if y.op = 15 then (if s.asked < c.ans.length then ⟨0, 0, c.ans.getD s.asked 0, { s with asked := s.asked + 1, ev := s.ev ++ [(y.n, l.getD 0 0, c.ans.getD s.asked 0)] }, 0⟩ else ⟨5, 0, 0, s, 0⟩)
    else if y.op = 17 then ⟨0, if l.getD 0 0 = 0 then 0 else 1, 0, s, 0⟩
    else if y.op = 18 then ⟨1, 0, 0, s, l.getD 0 0⟩
    else ⟨(numF y.op (l.getD 0 0) (l.getD 1 0)).2, 0, (numF y.op (l.getD 0 0) (l.getD 1 0)).1, s, 0⟩
def onE (x : FForm) (c : Cs) (y : FNode) (from_ : Int) (r : NodeR') : EnS := { r.s with pos := y.outs.getD r.way 0, ws := goesE x c r.s.ws r.v (from_, (r.way : Int)) (y.outs.getD r.way 0) }
def endE (r : NodeR') (k : Nat) : TR := ⟨r.s.ev, r.how, r.val, if r.how = 1 then r.s.h else [], (k : Int) + 1, (k : Int) + 1⟩
def runE (x : FForm) (c : Cs) : Nat → Nat → EnS → TR
  | 0, k, s => ⟨s.ev, 0, 0, [], k, k⟩
  | n + 1, k, s =>
    if s.pos < 0 then ⟨s.ev, 0, 0, [], k, k⟩
    else
      let y := x.nodes.getD s.pos.toNat default
      let r := doE c s y
      if r.how = 0 then runE x c n (k + 1) (onE x c y s.pos r) else endE r k
def newE (x : FForm) (c : Cs) : EnS := ⟨x.entry, goesE x c (List.replicate x.vals.length (false, 0)) 0 (-1, 0) x.entry, c.h, 0, []⟩
def engF (x : FForm) (c : Cs) : TR := runE x c c.fuel.toNat 0 (newE x c)
/-! What holds of all runs. -/
theorem doE_ev (c : Cs) (s : EnS) (y : FNode) : s.ev <+: (doE c s y).s.ev := by
  unfold doE
  split
  · exact List.prefix_refl _
  · split
    · exact List.prefix_refl _
    · split
      · exact List.prefix_refl _
      · split
        · dsimp only
          split <;> exact List.prefix_refl _
        · split
          · split
            · exact List.prefix_append _ _
            · exact List.prefix_refl _
          · split
            · exact List.prefix_refl _
            · split <;> exact List.prefix_refl _
theorem runE_ev (x : FForm) (c : Cs) : ∀ (n k : Nat) (s : EnS), s.ev <+: (runE x c n k s).ev ∧ (k : Int) ≤ (runE x c n k s).steps ∧ (runE x c n k s).steps ≤ (k : Int) + n ∧ (runE x c n k s).work = (runE x c n k s).steps
  | 0, k, s => ⟨List.prefix_refl _, by simp [runE], by simp [runE], rfl⟩
  | n + 1, k, s => by
    have hd := doE_ev c s (x.nodes.getD s.pos.toNat default)
    rw [runE]
    split
    · exact ⟨List.prefix_refl _, by simp, by simp; omega, rfl⟩
    · dsimp only
      split
      · obtain ⟨h1, h2, h3, h4⟩ := runE_ev x c n (k + 1) (onE x c (x.nodes.getD s.pos.toNat default) s.pos (doE c s (x.nodes.getD s.pos.toNat default)))
        exact ⟨hd.trans h1, by omega, by omega, h4⟩
      · exact ⟨hd, by simp [endE]; omega, by simp [endE]; omega, rfl⟩
theorem runE_more (x : FForm) (c : Cs) (m : Nat) : ∀ (n k : Nat) (s : EnS), (runE x c n k s).ev <+: (runE x c (n + m) k s).ev ∧ (runE x c n k s).steps ≤ (runE x c (n + m) k s).steps ∧ ((runE x c n k s).how ≠ 0 → runE x c (n + m) k s = runE x c n k s)
  | 0, k, s => by
    obtain ⟨h1, h2, _, _⟩ := runE_ev x c (0 + m) k s
    exact ⟨h1, h2, fun h => absurd rfl h⟩
  | n + 1, k, s => by
    rw [show n + 1 + m = (n + m) + 1 by omega, runE, runE]
    split
    · exact ⟨List.prefix_refl _, Int.le_refl _, fun _ => rfl⟩
    · dsimp only
      split
      · exact runE_more x c m n (k + 1) _
      · exact ⟨List.prefix_refl _, Int.le_refl _, fun _ => rfl⟩
theorem argsE_ans (c d : Cs) (hR : c.R = d.R) (ws : List Wd) : ∀ l, argsE c ws l = argsE d ws l
  | [] => rfl
  | s :: l => by
    have hw : wordE c ws 0 s = wordE d ws 0 s := by unfold wordE; rw [hR]
    unfold argsE
    rw [hw, argsE_ans c d hR ws l]
theorem goesE_ans (x : FForm) (c d : Cs) (hR : c.R = d.R) (ws : List Wd) (v : Int) (e : Int × Int) (to : Int) : goesE x c ws v e to = goesE x d ws v e to := by
  unfold goesE wordE
  rw [hR]
theorem getD_app {a b : List Int} {i : Nat} (h : i < a.length) : (a ++ b).getD i 0 = a.getD i 0 := by
  rw [List.getD_eq_getElem?_getD, List.getD_eq_getElem?_getD, List.getElem?_append_left h]
theorem doE_ans (c : Cs) (ext : List Int) (fu : Int) (s : EnS) (y : FNode) : ((doE c s y).how ≠ 5 → doE ⟨c.R, c.h, c.ans ++ ext, fu, c.q⟩ s y = doE c s y) ∧ ((doE c s y).how = 5 → (doE c s y).s.ev = s.ev) := by
  unfold doE
  rw [argsE_ans ⟨c.R, c.h, c.ans ++ ext, fu, c.q⟩ c rfl]
  cases argsE c s.ws y.args with
  | none => exact ⟨fun _ => rfl, fun _ => rfl⟩
  | some l =>
    dsimp only
    split
    · exact ⟨fun _ => rfl, fun _ => rfl⟩
    · split
      · exact ⟨fun _ => rfl, fun _ => rfl⟩
      · split
        · refine ⟨fun _ => rfl, fun _ => ?_⟩
          dsimp only
          split <;> rfl
        · split
          · by_cases h : s.asked < c.ans.length
            · have h2 : s.asked < (c.ans ++ ext).length := by rw [List.length_append]; omega
              rw [if_pos h, if_pos h2, getD_app h]
              exact ⟨fun _ => rfl, fun h5 => by cases h5⟩
            · rw [if_neg h]
              exact ⟨fun h5 => absurd rfl h5, fun _ => rfl⟩
          · split
            · exact ⟨fun _ => rfl, fun _ => rfl⟩
            · split <;> exact ⟨fun _ => rfl, fun _ => rfl⟩
theorem runE_ans (x : FForm) (c : Cs) (ext : List Int) : ∀ (n k : Nat) (s : EnS), (runE x c n k s).ev <+: (runE x ⟨c.R, c.h, c.ans ++ ext, c.fuel, c.q⟩ n k s).ev ∧ ((runE x c n k s).how ≠ 5 → runE x ⟨c.R, c.h, c.ans ++ ext, c.fuel, c.q⟩ n k s = runE x c n k s)
  | 0, k, s => ⟨List.prefix_refl _, fun _ => rfl⟩
  | n + 1, k, s => by
    obtain ⟨h1, h2⟩ := doE_ans c ext c.fuel s (x.nodes.getD s.pos.toNat default)
    have h3 := (runE_ev x ⟨c.R, c.h, c.ans ++ ext, c.fuel, c.q⟩ (n + 1) k s).1
    by_cases hp : s.pos < 0
    · rw [runE, if_pos hp, runE, if_pos hp]
      exact ⟨List.prefix_refl _, fun _ => rfl⟩
    · by_cases h5 : (doE c s (x.nodes.getD s.pos.toNat default)).how = 5
      · have e1 : runE x c (n + 1) k s = endE (doE c s (x.nodes.getD s.pos.toNat default)) k := by
          rw [runE, if_neg hp]
          dsimp only
          rw [if_neg (by omega)]
        rw [e1]
        refine ⟨?_, fun h => absurd h5 h⟩
        show (doE c s (x.nodes.getD s.pos.toNat default)).s.ev <+: _
        rw [h2 h5]
        exact h3
      · rw [runE, if_neg hp, runE, if_neg hp]
        dsimp only
        rw [h1 h5]
        split
        · have e2 : onE x ⟨c.R, c.h, c.ans ++ ext, c.fuel, c.q⟩ (x.nodes.getD s.pos.toNat default) s.pos (doE c s (x.nodes.getD s.pos.toNat default)) = onE x c (x.nodes.getD s.pos.toNat default) s.pos (doE c s (x.nodes.getD s.pos.toNat default)) := by
            unfold onE
            rw [goesE_ans x ⟨c.R, c.h, c.ans ++ ext, c.fuel, c.q⟩ c rfl]
          rw [e2]
          exact runE_ans x c ext n (k + 1) _
        · exact ⟨List.prefix_refl _, fun _ => rfl⟩
theorem begins_iff {a b : List Evn} : begins a b = true ↔ a <+: b := by
  unfold begins
  rw [Bool.and_eq_true, decide_eq_true_eq, decide_eq_true_eq]
  constructor
  · rintro ⟨_, h⟩
    rw [h]
    exact List.take_prefix _ _
  · intro h
    exact ⟨h.length_le, List.prefix_iff_eq_take.1 h⟩
theorem oEs_in {n m : Int} : ∀ {l : List Int} {k i : Nat}, l[i]? = some n → (m, ((k + i : Nat) : Int)) ∈ oEs n m k l
  | o :: l, k, 0, h => by
    simp only [List.getElem?_cons_zero, Option.some.injEq] at h
    subst h
    unfold oEs
    simp
  | o :: l, k, i + 1, h => by
    have := oEs_in (m := m) (k := k + 1) (l := l) (i := i) (by simpa using h)
    unfold oEs
    rw [show k + (i + 1) = k + 1 + i by omega]
    exact List.mem_append_right _ this
  | [], k, i, h => by simp at h
theorem nEs_in {n : Int} : ∀ {l : List FNode} {m i j : Nat} {y : FNode}, l[i]? = some y → y.outs[j]? = some n → (((m + i : Nat) : Int), (j : Int)) ∈ nEs n m l
  | y :: l, m, 0, j, z, h, h2 => by
    simp only [List.getElem?_cons_zero, Option.some.injEq] at h
    subst h
    have := oEs_in (m := (m : Int)) (k := 0) h2
    unfold nEs
    refine List.mem_append_left _ ?_
    simpa using this
  | y :: l, m, i + 1, j, z, h, h2 => by
    have := nEs_in (m := m + 1) (l := l) (i := i) (by simpa using h) h2
    unfold nEs
    rw [show m + (i + 1) = m + 1 + i by omega]
    exact List.mem_append_right _ this
  | [], m, i, j, z, h, h2 => by simp at h
theorem ways_in {x : FForm} {n j : Nat} {y : FNode} {to : Int} (h : x.nodes[n]? = some y) (h2 : y.outs[j]? = some to) (h3 : 0 ≤ to ∧ to < x.nodes.length) : ((n : Int), (j : Int)) ∈ waysF x to := by
  unfold waysF
  rw [if_pos h3]
  refine List.mem_append_right _ ?_
  have := nEs_in (m := 0) h h2
  simpa using this
theorem ways_ent {x : FForm} (h3 : 0 ≤ x.entry ∧ x.entry < x.nodes.length) : ((-1 : Int), (0 : Int)) ∈ waysF x x.entry := by
  unfold waysF entEs
  rw [if_pos h3, if_pos rfl]
  simp
/-! The place of a way. -/
theorem fold_which {α : Type} (g : Nat → α) (e : Int × Int) : ∀ (l : List ((Int × Int) × Nat)) (k : Nat), l.foldl (fun w p => if p.1 = e then g p.2 else w) (g k) = g (l.foldl (fun k p => if p.1 = e then p.2 else k) k)
  | [], _ => rfl
  | p :: l, k => by
    simp only [List.foldl_cons]
    by_cases h : p.1 = e
    · rw [if_pos h, if_pos h]
      exact fold_which g e l p.2
    · rw [if_neg h, if_neg h]
      exact fold_which g e l k
theorem fold_same {α : Type} (g : Nat → α) (e : Int × Int) : ∀ (l : List ((Int × Int) × Nat)) (w w' : α), (∃ p ∈ l, p.1 = e) → l.foldl (fun w p => if p.1 = e then g p.2 else w) w = l.foldl (fun w p => if p.1 = e then g p.2 else w) w'
  | [], _, _, h => by obtain ⟨p, hp, _⟩ := h; cases hp
  | p :: l, w, w', h => by
    simp only [List.foldl_cons]
    by_cases hp : p.1 = e
    · rw [if_pos hp, if_pos hp]
    · rw [if_neg hp, if_neg hp]
      obtain ⟨q, hq, e1⟩ := h
      rcases List.mem_cons.1 hq with rfl | hq
      · exact absurd e1 hp
      · exact fold_same g e l w w' ⟨q, hq, e1⟩
theorem zip_of_mem {e : Int × Int} {W : List (Int × Int)} (h : e ∈ W) : ∃ p ∈ W.zipIdx, p.1 = e := by
  obtain ⟨i, hi, rfl⟩ := List.getElem_of_mem h
  exact ⟨(W[i], i), by rw [List.mem_iff_getElem]; exact ⟨i, by simpa using hi, by simp⟩, rfl⟩
theorem fold_at {α : Type} (g : Nat → α) {e : Int × Int} {W : List (Int × Int)} (h : e ∈ W) (w : α) : W.zipIdx.foldl (fun w p => if p.1 = e then g p.2 else w) w = g (whichE e W) := by
  rw [fold_same g e _ w (g 0) (zip_of_mem h), fold_which]
  rfl
theorem which_at (e : Int × Int) : ∀ (l : List ((Int × Int) × Nat)) (k : Nat), (∃ p ∈ l, p.1 = e) → ∃ p ∈ l, p.1 = e ∧ l.foldl (fun k p => if p.1 = e then p.2 else k) k = p.2
  | [], _, h => by obtain ⟨p, hp, _⟩ := h; cases hp
  | p :: l, k, h => by
    simp only [List.foldl_cons]
    by_cases h2 : ∃ q ∈ l, q.1 = e
    · obtain ⟨q, hq, e1, e2⟩ := which_at e l (if p.1 = e then p.2 else k) h2
      exact ⟨q, List.mem_cons_of_mem _ hq, e1, e2⟩
    · obtain ⟨q, hq, e1⟩ := h
      rcases List.mem_cons.1 hq with rfl | hq
      · refine ⟨q, List.mem_cons_self .., e1, ?_⟩
        rw [if_pos e1]
        have : ∀ (m : List ((Int × Int) × Nat)) (k : Nat), (¬ ∃ q ∈ m, q.1 = e) → m.foldl (fun k p => if p.1 = e then p.2 else k) k = k := by
          intro m
          induction m with
          | nil => intro k _; rfl
          | cons r m ih =>
            intro k hm
            rw [List.foldl_cons, if_neg (fun h => hm ⟨r, List.mem_cons_self .., h⟩)]
            exact ih k (fun ⟨q, hq, h⟩ => hm ⟨q, List.mem_cons_of_mem _ hq, h⟩)
        exact this l q.2 h2
      · exact absurd ⟨q, hq, e1⟩ h2
theorem which_get {e : Int × Int} {W : List (Int × Int)} (h : e ∈ W) : W[whichE e W]? = some e := by
  obtain ⟨p, hp, e1, e2⟩ := which_at e W.zipIdx 0 (zip_of_mem h)
  unfold whichE
  rw [e2]
  have := List.mem_zipIdx hp
  simp only [Nat.zero_add, Nat.sub_zero] at this
  rw [List.getElem?_eq_getElem (by omega), ← e1]
  exact congrArg some this.2.2.symm
/-! What a right form's parts are. -/
theorem right_parts {x : FForm} (h : rightF x = true) : (-1 ≤ x.entry ∧ x.entry < x.nodes.length) ∧ (∀ (n : Nat) (y : FNode), x.nodes[n]? = some y → nodeF x n y = true) ∧ (∀ v ∈ x.vals, valOk x v = true) := by
  unfold rightF at h
  simp only [Bool.and_eq_true, decide_eq_true_eq, List.all_eq_true] at h
  refine ⟨h.1.1, fun n y hy => ?_, h.2⟩
  have hi := (List.getElem?_eq_some_iff.1 hy).1
  have := h.1.2 (y, n) (by
    rw [List.mem_iff_getElem]
    exact ⟨n, by simpa using hi, by rw [List.getElem_zipIdx]; simp [(List.getElem?_eq_some_iff.1 hy).2]⟩)
  exact this
theorem node_parts {x : FForm} {n : Nat} {y : FNode} (h : nodeF x n y = true) : opOk y.op = true ∧ y.args.length = argsF y.op ∧ y.outs.length = outsF y.op ∧ (0 ≤ y.n ∧ y.n ≤ 99) ∧ (∀ s ∈ y.args, argOk x n s = true) ∧ (∀ o ∈ y.outs, -1 ≤ o ∧ o < x.nodes.length) := by
  unfold nodeF at h
  simp only [Bool.and_eq_true, decide_eq_true_eq, List.all_eq_true, outOk] at h
  exact ⟨h.1.1.1.1.1.1.1, h.1.1.1.1.1.1.2, h.1.1.1.1.1.2, ⟨h.1.1.1.1.2, h.1.1.1.2⟩, h.1.2, h.2⟩
def srcIn (x : FForm) (s : Int × Int) : Prop := (s.1 = 1 → 0 ≤ s.2 ∧ s.2 < 8) ∧ (s.1 = 4 → 0 ≤ s.2 ∧ s.2 < x.vals.length) ∧ (0 ≤ s.1 ∧ s.1 ≤ 4)
theorem val_in {x : FForm} {s : Int × Int} {n : Int} (h : valF x s n = true) : s.1 = 4 ∧ 0 ≤ s.2 ∧ s.2 < x.vals.length := by
  unfold valF at h
  simp only [Bool.and_eq_true, decide_eq_true_eq] at h
  obtain ⟨⟨h1, h2⟩, h3⟩ := h
  cases hv : x.vals[s.2.toNat]? with
  | none => rw [hv] at h3; simp at h3
  | some v =>
    have := (List.getElem?_eq_some_iff.1 hv).1
    exact ⟨h1, h2, by omega⟩
theorem arg_in {x : FForm} {n : Int} {s : Int × Int} (h : argOk x n s = true) : srcIn x s ∧ ¬ s.1 = 3 := by
  unfold argOk at h
  simp only [Bool.or_eq_true, decide_eq_true_eq] at h
  rcases h with h | h
  · exact ⟨⟨by omega, by omega, by omega⟩, by omega⟩
  · obtain ⟨h1, h2, h3⟩ := val_in h
    exact ⟨⟨by omega, fun _ => ⟨h2, h3⟩, by omega⟩, by omega⟩
theorem comes_in {x : FForm} {s e : Int × Int} (h : comesF x s e = true) : srcIn x s ∧ (s.1 = 3 → 0 ≤ e.1 ∧ ∃ y, x.nodes[e.1.toNat]? = some y ∧ defF y.op = true) := by
  unfold comesF at h
  split at h
  · exact ⟨⟨by omega, by omega, by omega⟩, by omega⟩
  · split at h
    · exact ⟨⟨by omega, by omega, by omega⟩, by omega⟩
    · split at h
      · simp only [Bool.and_eq_true, decide_eq_true_eq] at h
        exact ⟨⟨fun _ => ⟨h.1.2, h.2⟩, by omega, by omega⟩, by omega⟩
      · split at h
        · simp only [Bool.and_eq_true, decide_eq_true_eq] at h
          refine ⟨⟨by omega, by omega, by omega⟩, fun _ => ⟨h.1.1, ?_⟩⟩
          cases hy : x.nodes[e.1.toNat]? with
          | none => rw [hy] at h; simp at h
          | some y => rw [hy] at h; exact ⟨y, rfl, by simpa using h.2⟩
        · simp only [Bool.and_eq_true] at h
          obtain ⟨h1, h2, h3⟩ := val_in h.2
          exact ⟨⟨by omega, fun _ => ⟨h2, h3⟩, by omega⟩, by omega⟩
theorem from_ok {x : FForm} (hr : rightF x = true) {v : FVal} (hv : v ∈ x.vals) {e : Int × Int} (he : e ∈ waysF x v.pos) : whichE e (waysF x v.pos) < v.src.length ∧ comesF x (v.src.getD (whichE e (waysF x v.pos)) (0, 0)) e = true := by
  have h := (right_parts hr).2.2 v hv
  unfold valOk at h
  simp only [Bool.and_eq_true, decide_eq_true_eq, List.all_eq_true] at h
  have hw := which_get he
  have hi := (List.getElem?_eq_some_iff.1 hw).1
  have hl : whichE e (waysF x v.pos) < v.src.length := by omega
  refine ⟨hl, ?_⟩
  have := h.2 (v.src[whichE e (waysF x v.pos)], e) (by
    rw [List.mem_iff_getElem]
    refine ⟨whichE e (waysF x v.pos), by rw [List.length_zip]; omega, ?_⟩
    rw [List.getElem_zip]
    rw [(List.getElem?_eq_some_iff.1 hw).2])
  simp only at this
  rw [List.getD_eq_getElem?_getD, List.getElem?_eq_getElem hl]
  exact this
theorem goesE_len (x : FForm) (c : Cs) (ws : List Wd) (hw : ws.length = x.vals.length) (v : Int) (e : Int × Int) (to : Int) : (goesE x c ws v e to).length = x.vals.length := by
  unfold goesE
  split
  · exact hw
  · rw [List.length_map, List.length_zip]
    omega
theorem doE_ws (c : Cs) (s : EnS) (y : FNode) : (doE c s y).s.ws = s.ws ∧ (doE c s y).s.pos = s.pos := by
  unfold doE
  split
  · exact ⟨rfl, rfl⟩
  · split
    · exact ⟨rfl, rfl⟩
    · split
      · exact ⟨rfl, rfl⟩
      · split
        · dsimp only
          split <;> exact ⟨rfl, rfl⟩
        · split
          · split <;> exact ⟨rfl, rfl⟩
          · split
            · exact ⟨rfl, rfl⟩
            · split <;> exact ⟨rfl, rfl⟩
end Go.Proofs.YtfmhnfimkpffnaaGreatDoor.M2
