/- What the functions answer in M2: may a form be? (the document's, whole) -/
import Derived.Test.YtfmhnfimkpffnaaGreatDoorCg
set_option linter.unusedSimpArgs false
set_option linter.unusedVariables false
set_option linter.unusedSectionVars false
namespace Go.Proofs.YtfmhnfimkpffnaaGreatDoor.M2
open Go
attribute [local simp] ev1 M2.get put A.ev ld sub part elems bin arith un opt idx fillC cellsO splice over newOb sto fillR laidOwn appTo appRow touch touchN touchM touchE touchA plainU flatU plainAs allM rowAt stoRow accM_nil accM_cons accMM_nil accMM_cons frz_int frz_bool frz_str frz_slt frz_nils frz_nilI frz_nilF frz_own frzRow_row frzRow_frow Ob.blw blw_bool blw_int blw_str blw_nils blw_nilI blw_nilF blw_nilp blw_nilm blw_sl blw_own blw_bp blw_rp blw_mp blw_it params
attribute [local simp] frz_agg frz_tup frz_iface frzS_agg frzS_iface accMS_cons frzS_int frzS_bool frzS_str frzS_slt frzS_nils frzS_nilI beq_dec bne_dec
def opOk (op : Int) : Bool := decide (op = 0) || decide (4 ≤ op) && decide (op ≤ 15) || decide (op = 17) || decide (op = 18)
def argsF (op : Int) : Nat := if 4 ≤ op ∧ op ≤ 12 ∨ op = 14 then 2 else if op = 0 then 0 else 1
def outsF (op : Int) : Nat := if op = 0 ∨ op = 18 then 0 else if op = 17 then 2 else 1
def defF (op : Int) : Bool := decide (4 ≤ op) && decide (op ≤ 13) || decide (op = 15)
def opWords : List (List UInt8) := [[99, 117, 116], [], [], [], [97, 100, 100], [115, 117, 98], [109, 117, 108], [100, 105, 118], [97, 110, 100], [111, 114], [120, 111, 114], [108, 101, 115, 115], [115, 97, 109, 101], [108, 111, 97, 100], [115, 116, 111, 114, 101], [99, 97, 108, 108], [], [122, 101, 114, 111], [114, 101, 116]]
def wordF (op : Int) : List UInt8 := if op < 0 then [] else opWords.getD op.toNat []
def kindC (op : Int) : List U := if opOk op then [.str (wordF op), i64 (argsF op), i64 (outsF op), .bool (defF op)] else [.str [], i64 0, i64 0, .bool false]
theorem op_cases {op : Int} (h : opOk op = true) : op = 0 ∨ op = 4 ∨ op = 5 ∨ op = 6 ∨ op = 7 ∨ op = 8 ∨ op = 9 ∨ op = 10 ∨ op = 11 ∨ op = 12 ∨ op = 13 ∨ op = 14 ∨ op = 15 ∨ op = 17 ∨ op = 18 := by
  simp only [opOk, Bool.or_eq_true, Bool.and_eq_true, decide_eq_true_eq] at h
  omega
theorem op_none {op : Int} (h : opOk op = false) : op < 0 ∨ 19 ≤ op ∨ op = 1 ∨ op = 2 ∨ op = 3 ∨ op = 16 := by
  simp only [opOk, Bool.or_eq_false_iff, Bool.and_eq_false_iff, decide_eq_false_iff_not] at h
  omega
theorem word_none {op : Int} (h : opOk op = false) : wordF op = [] := by
  rcases op_none h with h | h | rfl | rfl | rfl | rfl
  · simp [wordF, h]
  · unfold wordF
    rw [if_neg (by omega), List.getD_eq_getElem?_getD, List.getElem?_eq_none (by simp [opWords]; omega)]
    rfl
  all_goals rfl
theorem word_some {op : Int} (h : opOk op = true) : wordF op ≠ [] := by
  rcases op_cases h with rfl | rfl | rfl | rfl | rfl | rfl | rfl | rfl | rfl | rfl | rfl | rfl | rfl | rfl | rfl
  all_goals decide
theorem word_len (op : Int) : (wordF op).length ≤ 5 := by
  cases h : opOk op
  · rw [word_none h]; simp
  · rcases op_cases h with rfl | rfl | rfl | rfl | rfl | rfl | rfl | rfl | rfl | rfl | rfl | rfl | rfl | rfl | rfl
    all_goals decide
set_option maxHeartbeats 16000000 in
theorem of_call (op : Int) (st : List Ob) : Cl T n_shape_of [i64 op] st (.tup [.agg (kindC op), .bool (opOk op)]) st := by
  refine Wp.pure (fn := c_shape_of) rfl rfl rfl («as» := [i64 op]) rfl ?_
  cases h : opOk op with
  | false =>
    have hk : kindC op = [.str [], i64 0, i64 0, .bool false] := by simp [kindC, h]
    rw [hk]
    rcases op_none h with h | h | rfl | rfl | rfl | rfl
    · (all_goals have := fa h; repeat' first | refine Wp.v ?_ | (refine Wp.c ?_ ?_ <;> intro))
      refine Wp.ret ?_; simp [Res, resU, res1, c_shape_of]
    · have h0 : ¬ op < 0 := by omega
      (all_goals have := fa (a2 h h0); repeat' first | refine Wp.v ?_ | (refine Wp.c ?_ ?_ <;> intro))
      refine Wp.ret ?_; simp [Res, resU, res1, c_shape_of]
    all_goals (all_goals have := fa @gl_2.eq_1; repeat' first | refine Wp.v ?_ | (refine Wp.c ?_ ?_ <;> intro))
    all_goals refine Wp.ret ?_; simp [Res, resU, res1, c_shape_of]
  | true =>
    have hk : kindC op = [.str (wordF op), i64 (argsF op), i64 (outsF op), .bool (defF op)] := by simp [kindC, h]
    rw [hk]
    clear hk
    rcases op_cases h with rfl | rfl | rfl | rfl | rfl | rfl | rfl | rfl | rfl | rfl | rfl | rfl | rfl | rfl | rfl
    all_goals (all_goals have := fa @gl_2.eq_1; repeat' first | refine Wp.v ?_ | (refine Wp.c ?_ ?_ <;> intro))
    all_goals refine Wp.ret ?_; simp [Res, resU, res1, c_shape_of, wordF, opWords, argsF, outsF, defF]
set_option maxHeartbeats 16000000 in
theorem rword_call (op : Int) (st : List Ob) : Cl T n_joineryref14_Word [i64 op] st (.str (wordF op)) st := by
  refine Wp.pure (fn := c_joineryref14_Word) rfl rfl rfl («as» := [i64 op]) rfl ?_
  cases h : opOk op with
  | false =>
    rw [word_none h]
    have h0 : ¬ op = 0 := by rintro rfl; cases h
    have h13 : ¬ op = 13 := by rintro rfl; cases h
    have h14 : ¬ op = 14 := by rintro rfl; cases h
    have h15 : ¬ op = 15 := by rintro rfl; cases h
    have h17 : ¬ op = 17 := by rintro rfl; cases h
    have h18 : ¬ op = 18 := by rintro rfl; cases h
    by_cases h4 : (4 : Int) ≤ op
    · have h12 : ¬ op ≤ 12 := by
        rcases op_none h with h | h | rfl | rfl | rfl | rfl <;> omega
      (all_goals have := fa (a5 h0 h13 h14 h15 (a4 h17 h18 h4 h12)); repeat' first | refine Wp.v ?_ | (refine Wp.c ?_ ?_ <;> intro))
      refine Wp.ret ?_; simp [Res, resU, res1, c_joineryref14_Word]
    · (all_goals have := fa (a5 h0 h13 h14 h15 (a3 h17 h18 h4)); repeat' first | refine Wp.v ?_ | (refine Wp.c ?_ ?_ <;> intro))
      refine Wp.ret ?_; simp [Res, resU, res1, c_joineryref14_Word]
  | true =>
    rcases op_cases h with rfl | rfl | rfl | rfl | rfl | rfl | rfl | rfl | rfl | rfl | rfl | rfl | rfl | rfl | rfl
    all_goals (repeat' first | refine Wp.u ?_ | (refine Wp.c ?_ ?_ <;> intro))
    all_goals refine Wp.ret ?_; simp [Res, resU, res1, c_joineryref14_Word, wordF, opWords]
set_option maxHeartbeats 16000000 in
theorem rargs_call (op : Int) (st : List Ob) : Cl T n_joineryref14_args [i64 op] st (i64 (argsF op)) st := by
  refine Wp.pure (fn := c_joineryref14_args) rfl rfl rfl («as» := [i64 op]) rfl ?_
  unfold argsF
  by_cases h4 : (4 : Int) ≤ op
  · by_cases h12 : op ≤ 12
    · (all_goals have := fa (a2 h4 h12); repeat' first | refine Wp.v ?_ | (refine Wp.c ?_ ?_ <;> intro))
      refine Wp.ret ?_; simp [Res, resU, res1, c_joineryref14_args, h4, h12]
    · by_cases h14 : op = 14
      · subst h14
        (repeat' first | refine Wp.u ?_ | (refine Wp.c ?_ ?_ <;> intro))
        refine Wp.ret ?_; simp [Res, resU, res1, c_joineryref14_args]
      · have h0 : ¬ op = 0 := by omega
        (all_goals have := fa (a4 h4 h12 h14 h0); repeat' first | refine Wp.v ?_ | (refine Wp.c ?_ ?_ <;> intro))
        refine Wp.ret ?_; simp [Res, resU, res1, c_joineryref14_args, h4, h12, h14, h0]
  · have h14 : ¬ op = 14 := by omega
    by_cases h0 : op = 0
    · subst h0
      (repeat' first | refine Wp.u ?_ | (refine Wp.c ?_ ?_ <;> intro))
      refine Wp.ret ?_; simp [Res, resU, res1, c_joineryref14_args]
    · (all_goals have := fa (a3 h4 h14 h0); repeat' first | refine Wp.v ?_ | (refine Wp.c ?_ ?_ <;> intro))
      refine Wp.ret ?_; simp [Res, resU, res1, c_joineryref14_args, h4, h14, h0]
set_option maxHeartbeats 16000000 in
theorem routs_call (op : Int) (st : List Ob) : Cl T n_joineryref14_outs [i64 op] st (i64 (outsF op)) st := by
  refine Wp.pure (fn := c_joineryref14_outs) rfl rfl rfl («as» := [i64 op]) rfl ?_
  unfold outsF
  by_cases h0 : op = 0
  · subst h0
    (repeat' first | refine Wp.u ?_ | (refine Wp.c ?_ ?_ <;> intro))
    refine Wp.ret ?_; simp [Res, resU, res1, c_joineryref14_outs]
  · by_cases h18 : op = 18
    · subst h18
      (repeat' first | refine Wp.u ?_ | (refine Wp.c ?_ ?_ <;> intro))
      refine Wp.ret ?_; simp [Res, resU, res1, c_joineryref14_outs]
    · by_cases h17 : op = 17
      · subst h17
        (repeat' first | refine Wp.u ?_ | (refine Wp.c ?_ ?_ <;> intro))
        refine Wp.ret ?_; simp [Res, resU, res1, c_joineryref14_outs]
      · (all_goals have := fa (a3 h0 h17 h18); repeat' first | refine Wp.v ?_ | (refine Wp.c ?_ ?_ <;> intro))
        refine Wp.ret ?_; simp [Res, resU, res1, c_joineryref14_outs, h0, h17, h18]
def valF (x : FForm) (s : Int × Int) (n : Int) : Bool := decide (s.1 = 4) && decide (0 ≤ s.2) && (x.vals[s.2.toNat]?).any (fun v => decide (v.pos = n))
def comesF (x : FForm) (s e : Int × Int) : Bool :=
  if s.1 = 2 then true else if s.1 = 0 then decide (s.2 = 0) else if s.1 = 1 then decide (e.1 < 0) && decide (0 ≤ s.2) && decide (s.2 < 8)
  else if s.1 = 3 then decide (0 ≤ e.1) && decide (s.2 = 0) && (x.nodes[e.1.toNat]?).any (fun y => defF y.op) else decide (0 ≤ e.1) && valF x s e.1
set_option maxHeartbeats 8000000 in
theorem value_call (x : FForm) (s : Int × Int) (n : Int) (st : List Ob) : Cl T n_shape_value [formU x, .agg (srcC s), i64 n] st (.bool (valF x s n)) st := by
  refine Wp.pure (fn := c_shape_value) rfl rfl rfl («as» := [formU x, .agg (srcC s), i64 n]) rfl ?_
  obtain ⟨k, m⟩ := s
  unfold valF
  by_cases h4 : k = 4
  · subst h4
    by_cases h0 : (0 : Int) ≤ m
    · obtain ⟨i, rfl⟩ : ∃ i : Nat, m = i := ⟨m.toNat, by omega⟩
      by_cases hi : i < x.vals.length
      · have hi' : (i : Int) < x.vals.length := by omega
        have eg : x.vals[i]? = some x.vals[i] := List.getElem?_eq_getElem hi
        have et : ((i : Int)).toNat = i := by omega
        rw [et, eg]
        generalize x.vals[i] = v at *
        by_cases hp : v.pos = n
        · (all_goals have := fa (a5 @formC.eq_1 @srcC.eq_1 @valC.eq_1 hi' (a2 eg hp)); repeat' first | refine Wp.v ?_ | (refine Wp.c ?_ ?_ <;> intro))
          refine Wp.ret ?_; simp [Res, resU, res1, c_shape_value, hp]
        · (all_goals have := fa (a5 @formC.eq_1 @srcC.eq_1 @valC.eq_1 hi' (a2 eg hp)); repeat' first | refine Wp.v ?_ | (refine Wp.c ?_ ?_ <;> intro))
          refine Wp.ret ?_; simp [Res, resU, res1, c_shape_value, hp]
      · have hi' : ¬ (i : Int) < x.vals.length := by omega
        have et : ((i : Int)).toNat = i := by omega
        have en : x.vals[i]? = none := List.getElem?_eq_none (by omega)
        rw [et, en]
        (all_goals have := fa (a4 @formC.eq_1 @srcC.eq_1 hi' hi); repeat' first | refine Wp.v ?_ | (refine Wp.c ?_ ?_ <;> intro))
        refine Wp.ret ?_; simp [Res, resU, res1, c_shape_value]
    · (all_goals have := fa (a3 @formC.eq_1 @srcC.eq_1 h0); repeat' first | refine Wp.v ?_ | (refine Wp.c ?_ ?_ <;> intro))
      refine Wp.ret ?_; simp [Res, resU, res1, c_shape_value, h0]
  · (all_goals have := fa (a3 @formC.eq_1 @srcC.eq_1 h4); repeat' first | refine Wp.v ?_ | (refine Wp.c ?_ ?_ <;> intro))
    refine Wp.ret ?_; simp [Res, resU, res1, c_shape_value, h4]
def rv0S (x : FForm) (s : Int × Int) (n : Int) (i : Nat) : S := ⟨[(2, i64 n), (3, .bp 0 0), (4, .bp 1 0), (7, i64 i)], [.box (formC x), .box (srcC s)]⟩
set_option maxHeartbeats 8000000 in
theorem rv0_loop (x : FForm) (hx : Small x) (s : Int × Int) (n : Int) : Wp T (.loop c_joineryref14_val_L0) (rv0S x s n 0) (fun _ => False) (Res c_joineryref14_val (.bool (valF x s n)))
    (fun b s' => b = 0 ∧ valF x s n = false ∧ s' = ⟨[(2, i64 n), (3, .bp 0 0), (4, .bp 1 0), (7, i64 (x.vals.length : Nat)), (12, .bool false)], [.box (formC x), .box (srcC s)]⟩) := by
  have hbv := hx.vals
  refine Wp.count x.vals.length (fun i => rv0S x s n i) (fun i => ∀ j (h : j < x.vals.length), j < i → ¬ (s.1 = 4 ∧ s.2 = j ∧ x.vals[j].pos = n)) (fun i hi hI => ?_) (fun hI => ?_) 0 (by omega) (fun j h h0 => by omega)
  · have hi' : (i : Int) < x.vals.length := by omega
    have eg : x.vals[i]? = some x.vals[i] := List.getElem?_eq_getElem hi
    have hnx : ¬ (s.1 = 4 ∧ s.2 = i ∧ x.vals[i].pos = n) → ∀ j (h : j < x.vals.length), j < i + 1 → ¬ (s.1 = 4 ∧ s.2 = j ∧ x.vals[j].pos = n) := fun hh j h hj => by
      by_cases e : j = i
      · subst e; exact hh
      · exact hI j h (by omega)
    have hyes : s.1 = 4 → s.2 = i → x.vals[i].pos = n → valF x s n = true := fun a b c => by
      have et : ((i : Int)).toNat = i := by omega
      simp [valF, a, b, et, eg, c]
    obtain ⟨k, m⟩ := s
    simp only at hnx hyes
    generalize x.vals[i] = v at *
    simp only [rv0S, srcC]
    (have := fa (a2 @formC.eq_1 hi'); repeat refine Wp.f ?_)
    refine Wp.i ?_ ?_ <;> intro h1
    · by_cases h4 : k = 4
      · subst h4
        by_cases hm : m = i
        · subst hm
          by_cases hp : v.pos = n
          · rw [hyes rfl rfl hp]
            (all_goals have := fa (a5 @formC.eq_1 @valC.eq_1 hi' eg hp); repeat' first | refine Wp.v ?_ | (refine Wp.c ?_ ?_ <;> intro))
            refine Wp.ret ?_; simp [Res, resU, res1, c_joineryref14_val]
          · (all_goals have := fa (a5 @formC.eq_1 @valC.eq_1 hi' eg hp); repeat' first | refine Wp.v ?_ | (refine Wp.c ?_ ?_ <;> intro))
            (have := fa @wrap_id; repeat refine Wp.f ?_)
            exact ⟨trimO_len rfl, hnx (fun h => hp h.2.2)⟩
        · (all_goals have := fa (a5 @formC.eq_1 @valC.eq_1 hi' eg hm); repeat' first | refine Wp.v ?_ | (refine Wp.c ?_ ?_ <;> intro))
          (have := fa @wrap_id; repeat refine Wp.f ?_)
          exact ⟨trimO_len rfl, hnx (fun h => hm h.2.1)⟩
      · (all_goals have := fa (a5 @formC.eq_1 @valC.eq_1 hi' eg h4); repeat' first | refine Wp.v ?_ | (refine Wp.c ?_ ?_ <;> intro))
        (have := fa @wrap_id; repeat refine Wp.f ?_)
        exact ⟨trimO_len rfl, hnx (fun h => h4 h.1)⟩
    · cases h1
  · have hfalse : valF x s n = false := by
      cases h : valF x s n with
      | false => rfl
      | true =>
        simp only [valF, Bool.and_eq_true, decide_eq_true_eq] at h
        obtain ⟨⟨h4, h0⟩, h2⟩ := h
        cases hv : x.vals[s.2.toNat]? with
        | none => rw [hv] at h2; cases h2
        | some v =>
          obtain ⟨hj, e⟩ := List.getElem?_eq_some_iff.1 hv
          rw [hv] at h2
          exact absurd ⟨h4, by omega, by rw [e]; simpa using h2⟩ (hI s.2.toNat hj hj)
    simp only [rv0S]
    (have := fa @formC.eq_1; repeat refine Wp.f ?_)
    refine Wp.i ?_ ?_ <;> intro h1
    · simp at h1
    · exact Wp.exit ⟨rfl, hfalse, rfl⟩
set_option maxHeartbeats 8000000 in
theorem rval_call (x : FForm) (hx : Small x) (s : Int × Int) (n : Int) (st : List Ob) : Cl T n_joineryref14_val [formU x, .agg (srcC s), i64 n] st (.bool (valF x s n)) st := by
  refine Wp.pure (fn := c_joineryref14_val) rfl rfl rfl («as» := [formU x, .agg (srcC s), i64 n]) rfl ?_
  have hl0 := rv0_loop x hx s n
  simp only [rv0S] at hl0
  (repeat' first | refine Wp.u ?_ | (refine Wp.c ?_ ?_ <;> intro))
  refine hl0.imp (fun _ h => h.elim) (fun _ h => h) ?_
  rintro k s ⟨rfl, hf, rfl⟩
  rw [if_pos rfl, hf]
  (repeat' first | refine Wp.u ?_ | (refine Wp.c ?_ ?_ <;> intro))
  refine Wp.ret ?_; simp [Res, resU, res1, c_joineryref14_val]
def EdgeOK (x : FForm) (e : Int × Int) : Prop := e.1 = -1 ∨ 0 ≤ e.1 ∧ e.1 < x.nodes.length
set_option maxHeartbeats 16000000 in
theorem comes_call (x : FForm) (s e : Int × Int) (he : EdgeOK x e) (st : List Ob) : Cl T n_shape_comes [formU x, .agg (srcC s), .agg (srcC e)] st (.bool (comesF x s e)) st := by
  have hv := fun st => value_call x s e.1 st
  refine Wp.pure (fn := c_shape_comes) rfl rfl rfl («as» := [formU x, .agg (srcC s), .agg (srcC e)]) rfl ?_
  obtain ⟨k, m⟩ := s
  obtain ⟨f, w⟩ := e
  simp only [srcC] at hv
  unfold comesF
  by_cases h2 : k = 2
  · subst h2
    (all_goals have := fa @srcC.eq_1; repeat' first | refine Wp.v ?_ | (refine Wp.c ?_ ?_ <;> intro))
    refine Wp.ret ?_; simp [Res, resU, res1, c_shape_comes]
  · by_cases h0 : k = 0
    · subst h0
      by_cases hm : m = 0
      · subst hm
        (all_goals have := fa @srcC.eq_1; repeat' first | refine Wp.v ?_ | (refine Wp.c ?_ ?_ <;> intro))
        refine Wp.ret ?_; simp [Res, resU, res1, c_shape_comes]
      · (all_goals have := fa (a2 @srcC.eq_1 hm); repeat' first | refine Wp.v ?_ | (refine Wp.c ?_ ?_ <;> intro))
        refine Wp.ret ?_; simp [Res, resU, res1, c_shape_comes, hm]
    · by_cases h1 : k = 1
      · subst h1
        by_cases hf : f < 0
        · by_cases hm0 : (0 : Int) ≤ m
          · by_cases hm8 : m < 8
            · (all_goals have := fa (a4 @srcC.eq_1 hf hm0 hm8); repeat' first | refine Wp.v ?_ | (refine Wp.c ?_ ?_ <;> intro))
              refine Wp.ret ?_; simp [Res, resU, res1, c_shape_comes, hf, hm0, hm8]
            · (all_goals have := fa (a4 @srcC.eq_1 hf hm0 hm8); repeat' first | refine Wp.v ?_ | (refine Wp.c ?_ ?_ <;> intro))
              refine Wp.ret ?_; simp [Res, resU, res1, c_shape_comes, hf, hm0, hm8]
          · (all_goals have := fa (a3 @srcC.eq_1 hf hm0); repeat' first | refine Wp.v ?_ | (refine Wp.c ?_ ?_ <;> intro))
            refine Wp.ret ?_; simp [Res, resU, res1, c_shape_comes, hf, hm0]
        · (all_goals have := fa (a2 @srcC.eq_1 hf); repeat' first | refine Wp.v ?_ | (refine Wp.c ?_ ?_ <;> intro))
          refine Wp.ret ?_; simp [Res, resU, res1, c_shape_comes, hf]
      · by_cases h3 : k = 3
        · subst h3
          by_cases hf : f < 0
          · have hf' : ¬ (0 : Int) ≤ f := by omega
            (all_goals have := fa (a2 @srcC.eq_1 hf); repeat' first | refine Wp.v ?_ | (refine Wp.c ?_ ?_ <;> intro))
            refine Wp.ret ?_; simp [Res, resU, res1, c_shape_comes, hf']
          · by_cases hm : m = 0
            · subst hm
              rcases he with he | ⟨hf0, hfl⟩
              · simp only at he; omega
              · simp only at hf0 hfl
                obtain ⟨i, rfl⟩ : ∃ i : Nat, f = i := ⟨f.toNat, by omega⟩
                have hi : i < x.nodes.length := by omega
                have eg : x.nodes[i]? = some x.nodes[i] := List.getElem?_eq_getElem hi
                have et : ((i : Int)).toNat = i := by omega
                have hof := fun st => of_call x.nodes[i].op st
                rw [et, eg]
                generalize x.nodes[i] = y at *
                have hkl : (kindC y.op).length = 4 := by unfold kindC; split <;> rfl
                cases ho : opOk y.op with
                | true =>
                  have hk : kindC y.op = [.str (wordF y.op), i64 (argsF y.op), i64 (outsF y.op), .bool (defF y.op)] := by simp [kindC, ho]
                  rw [hk] at hof
                  (all_goals have := fa (a5 @srcC.eq_1 @formC.eq_1 @nodeC.eq_1 hf (a3 hf0 hfl eg)); repeat' first | refine Wp.v ?_ | (apply Wp.call; exact hof _) | (refine Wp.c ?_ ?_ <;> intro))
                  refine Wp.ret ?_; simp [Res, resU, res1, c_shape_comes]
                | false =>
                  have hk : kindC y.op = [.str [], i64 0, i64 0, .bool false] := by simp [kindC, ho]
                  have hd : defF y.op = false := by
                    have := op_none ho
                    simp only [defF, Bool.or_eq_false_iff, Bool.and_eq_false_iff, decide_eq_false_iff_not]
                    omega
                  rw [hk] at hof
                  (all_goals have := fa (a5 @srcC.eq_1 @formC.eq_1 @nodeC.eq_1 hf (a3 hf0 hfl eg)); repeat' first | refine Wp.v ?_ | (apply Wp.call; exact hof _) | (refine Wp.c ?_ ?_ <;> intro))
                  refine Wp.ret ?_; simp [Res, resU, res1, c_shape_comes, hd]
            · (all_goals have := fa (a3 @srcC.eq_1 hf hm); repeat' first | refine Wp.v ?_ | (refine Wp.c ?_ ?_ <;> intro))
              refine Wp.ret ?_; simp [Res, resU, res1, c_shape_comes, hm]
        · by_cases hf : (0 : Int) ≤ f
          · (all_goals have := fa (a5 @srcC.eq_1 @formC.eq_1 h0 h1 (a3 h2 h3 hf)); repeat' first | refine Wp.v ?_ | (apply Wp.call; exact hv _) | (refine Wp.c ?_ ?_ <;> intro))
            refine Wp.ret ?_; simp [Res, resU, res1, c_shape_comes, h0, h1, h2, h3, hf]
          · (all_goals have := fa (a5 @srcC.eq_1 @formC.eq_1 h0 h1 (a3 h2 h3 hf)); repeat' first | refine Wp.v ?_ | (apply Wp.call; exact hv _) | (refine Wp.c ?_ ?_ <;> intro))
            refine Wp.ret ?_; simp [Res, resU, res1, c_shape_comes, h0, h1, h2, h3, hf]
set_option maxHeartbeats 16000000 in
theorem may_call (x : FForm) (hx : Small x) (s e : Int × Int) (he : EdgeOK x e) (st : List Ob) : Cl T n_joineryref14_may [formU x, .agg (srcC s), .agg (srcC e)] st (.bool (comesF x s e)) st := by
  have hv := fun st => rval_call x hx s e.1 st
  refine Wp.pure (fn := c_joineryref14_may) rfl rfl rfl («as» := [formU x, .agg (srcC s), .agg (srcC e)]) rfl ?_
  obtain ⟨k, m⟩ := s
  obtain ⟨f, w⟩ := e
  simp only [srcC] at hv
  unfold comesF
  by_cases h2 : k = 2
  · subst h2
    (all_goals have := fa @srcC.eq_1; repeat' first | refine Wp.v ?_ | (refine Wp.c ?_ ?_ <;> intro))
    refine Wp.ret ?_; simp [Res, resU, res1, c_joineryref14_may]
  · by_cases h0 : k = 0
    · subst h0
      by_cases hm : m = 0
      · subst hm
        (all_goals have := fa @srcC.eq_1; repeat' first | refine Wp.v ?_ | (refine Wp.c ?_ ?_ <;> intro))
        refine Wp.ret ?_; simp [Res, resU, res1, c_joineryref14_may]
      · (all_goals have := fa (a2 @srcC.eq_1 hm); repeat' first | refine Wp.v ?_ | (refine Wp.c ?_ ?_ <;> intro))
        refine Wp.ret ?_; simp [Res, resU, res1, c_joineryref14_may, hm]
    · rcases he with he | ⟨hf0, hfl⟩
      · simp only at he
        subst he
        by_cases h1 : k = 1
        · subst h1
          by_cases hm0 : (0 : Int) ≤ m
          · by_cases hm8 : m ≤ 7
            · have hm8' : m < 8 := by omega
              (all_goals have := fa (a3 @srcC.eq_1 hm0 hm8); repeat' first | refine Wp.v ?_ | (refine Wp.c ?_ ?_ <;> intro))
              refine Wp.ret ?_; simp [Res, resU, res1, c_joineryref14_may, hm0, hm8']
            · have hm8' : ¬ m < 8 := by omega
              (all_goals have := fa (a3 @srcC.eq_1 hm0 hm8); repeat' first | refine Wp.v ?_ | (refine Wp.c ?_ ?_ <;> intro))
              refine Wp.ret ?_; simp [Res, resU, res1, c_joineryref14_may, hm0, hm8']
          · (all_goals have := fa (a2 @srcC.eq_1 hm0); repeat' first | refine Wp.v ?_ | (refine Wp.c ?_ ?_ <;> intro))
            refine Wp.ret ?_; simp [Res, resU, res1, c_joineryref14_may, hm0]
        · (all_goals have := fa (a4 @srcC.eq_1 h0 h1 h2); repeat' first | refine Wp.v ?_ | (refine Wp.c ?_ ?_ <;> intro))
          refine Wp.ret ?_; simp [Res, resU, res1, c_joineryref14_may, h0, h1, h2]
      · simp only at hf0 hfl
        obtain ⟨i, rfl⟩ : ∃ i : Nat, f = i := ⟨f.toNat, by omega⟩
        have hi : i < x.nodes.length := by omega
        have eg : x.nodes[i]? = some x.nodes[i] := List.getElem?_eq_getElem hi
        have et : ((i : Int)).toNat = i := by omega
        have hne : ¬ (i : Int) = -1 := by omega
        have hlt : ¬ (i : Int) < 0 := by omega
        rw [et, eg]
        generalize x.nodes[i] = y at *
        by_cases h3 : k = 3
        · subst h3
          by_cases hm : m = 0
          · subst hm
            by_cases o4 : (4 : Int) ≤ y.op
            · by_cases o13 : y.op ≤ 13
              · (all_goals have := fa (a5 @srcC.eq_1 @formC.eq_1 @nodeC.eq_1 hne (a4 hfl eg o4 o13)); repeat' first | refine Wp.v ?_ | (refine Wp.c ?_ ?_ <;> intro))
                refine Wp.ret ?_; simp [Res, resU, res1, c_joineryref14_may, defF, o4, o13]
              · by_cases o15 : y.op = 15
                · (all_goals have := fa (a5 @srcC.eq_1 @formC.eq_1 @nodeC.eq_1 hne (a5 hfl eg o4 o13 o15)); repeat' first | refine Wp.v ?_ | (refine Wp.c ?_ ?_ <;> intro))
                  refine Wp.ret ?_; simp [Res, resU, res1, c_joineryref14_may, defF, o15]
                · (all_goals have := fa (a5 @srcC.eq_1 @formC.eq_1 @nodeC.eq_1 hne (a5 hfl eg o4 o13 o15)); repeat' first | refine Wp.v ?_ | (refine Wp.c ?_ ?_ <;> intro))
                  refine Wp.ret ?_; simp [Res, resU, res1, c_joineryref14_may, defF, o4, o13, o15]
            · have o15 : ¬ y.op = 15 := by omega
              (all_goals have := fa (a5 @srcC.eq_1 @formC.eq_1 @nodeC.eq_1 hne (a4 hfl eg o4 o15)); repeat' first | refine Wp.v ?_ | (refine Wp.c ?_ ?_ <;> intro))
              refine Wp.ret ?_; simp [Res, resU, res1, c_joineryref14_may, defF, o4, o15]
          · (all_goals have := fa (a5 @srcC.eq_1 @formC.eq_1 @nodeC.eq_1 hne (a3 hfl eg hm)); repeat' first | refine Wp.v ?_ | (refine Wp.c ?_ ?_ <;> intro))
            refine Wp.ret ?_; simp [Res, resU, res1, c_joineryref14_may, hm]
        · by_cases h1 : k = 1
          · subst h1
            have hvf : valF x (1, m) i = false := by simp [valF]
            rw [hvf] at hv
            (all_goals have := fa (a5 @srcC.eq_1 @formC.eq_1 @nodeC.eq_1 hne (a2 hfl eg)); repeat' first | refine Wp.v ?_ | (apply Wp.call; exact hv _) | (refine Wp.c ?_ ?_ <;> intro))
            refine Wp.ret ?_; simp [Res, resU, res1, c_joineryref14_may, hlt]
          · (all_goals have := fa (a5 @srcC.eq_1 @formC.eq_1 @nodeC.eq_1 h0 (a5 h1 h2 h3 hne (a2 hfl eg))); repeat' first | refine Wp.v ?_ | (apply Wp.call; exact hv _) | (refine Wp.c ?_ ?_ <;> intro))
            refine Wp.ret ?_; simp [Res, resU, res1, c_joineryref14_may, h0, h1, h2, h3, hf0]
def oEs (n m : Int) : Nat → List Int → List (Int × Int)
  | _, [] => []
  | k, o :: os => (if o = n then [(m, (k : Int))] else []) ++ oEs n m (k + 1) os
def nEs (n : Int) : Nat → List FNode → List (Int × Int)
  | _, [] => []
  | m, y :: ys => oEs n m 0 y.outs ++ nEs n (m + 1) ys
theorem oEs_app (n m : Int) : ∀ (k : Nat) (a b : List Int), oEs n m k (a ++ b) = oEs n m k a ++ oEs n m (k + a.length) b
  | k, [], b => by simp [oEs]
  | k, o :: a, b => by
    rw [List.cons_append, oEs, oEs, oEs_app n m (k + 1) a b, List.append_assoc, List.length_cons, show k + 1 + a.length = k + (a.length + 1) by omega]
theorem nEs_app (n : Int) : ∀ (m : Nat) (a b : List FNode), nEs n m (a ++ b) = nEs n m a ++ nEs n (m + a.length) b
  | m, [], b => by simp [nEs]
  | m, y :: a, b => by
    rw [List.cons_append, nEs, nEs, nEs_app n (m + 1) a b, List.append_assoc, List.length_cons, show m + 1 + a.length = m + (a.length + 1) by omega]
theorem oEs_take {n m : Int} {l : List Int} {k : Nat} (hk : k < l.length) : oEs n m 0 (l.take (k + 1)) = oEs n m 0 (l.take k) ++ (if l[k] = n then [(m, (k : Int))] else []) := by
  rw [List.take_succ_eq_append_getElem hk, oEs_app, List.length_take, show 0 + min k l.length = k by omega]
  simp [oEs]
theorem nEs_take {n : Int} {l : List FNode} {m : Nat} (hm : m < l.length) : nEs n 0 (l.take (m + 1)) = nEs n 0 (l.take m) ++ oEs n m 0 l[m].outs := by
  rw [List.take_succ_eq_append_getElem hm, nEs_app, List.length_take, show 0 + min m l.length = m by omega]
  simp [nEs]
theorem oEs_len (n m : Int) : ∀ (k : Nat) (l : List Int), (oEs n m k l).length ≤ l.length
  | _, [] => Nat.le_refl _
  | k, o :: os => by
    have := oEs_len n m (k + 1) os
    unfold oEs
    split <;> simp <;> omega
theorem nEs_len (n : Int) (b : Nat) : ∀ (m : Nat) (l : List FNode), (∀ y ∈ l, y.outs.length ≤ b) → (nEs n m l).length ≤ l.length * b
  | _, [], _ => by simp [nEs]
  | m, y :: l, h => by
    have h1 := nEs_len n b (m + 1) l (fun z hz => h z (by simp [hz]))
    have h2 := oEs_len n m 0 y.outs
    have h3 := h y (by simp)
    unfold nEs
    rw [List.length_append, List.length_cons, Nat.add_mul]
    omega
def entEs (x : FForm) (n : Int) : List (Int × Int) := if x.entry = n then [(-1, 0)] else []
def waysF (x : FForm) (n : Int) : List (Int × Int) := if 0 ≤ n ∧ n < x.nodes.length then entEs x n ++ nEs n 0 x.nodes else []
def Xok (X : List Ob) : Prop := X = [] ∨ X = [.row 70 2 false [[i64 (-1), i64 0]]]
def wi0S (x : FForm) (y : FNode) (n : Int) (m : Nat) (es : List (Int × Int)) (X : List Ob) (k : Nat) : S :=
  ⟨[(1, i64 n), (5, .own 1 es.length), (6, i64 m), (28, .sl true (x.nodes.map nodeC)), (29, i64 x.nodes.length), (30, i64 m), (36, outsU y.outs), (37, i64 y.outs.length), (38, i64 k)], .box (formC x) :: .row 70 2 false (es.map srcC) :: (X ++ [.box (nodeC y)])⟩
theorem row_snoc (es : List (Int × Int)) (a b : Int) : es.map srcC ++ [[i64 a, i64 b]] = (es ++ [(a, b)]).map srcC := by simp [srcC]
set_option maxHeartbeats 8000000 in
theorem wi0_loop (x : FForm) (y : FNode) (n : Int) (m : Nat) (es : List (Int × Int)) (X : List Ob) (hX : Xok X) (he : es.length ≤ 10000) (ho : y.outs.length ≤ 20) (R : S → Prop) :
    Wp T (.loop c_shape_Ways_L0) (wi0S x y n m es X 0) (fun _ => False) R
      (fun b s' => b = 2 ∧ s' = ⟨[(1, i64 n), (5, .own 1 (es ++ oEs n m 0 y.outs).length), (6, i64 m), (28, .sl true (x.nodes.map nodeC)), (29, i64 x.nodes.length), (30, i64 m), (36, outsU y.outs), (37, i64 y.outs.length), (38, i64 (y.outs.length : Nat)), (39, .bool false)], .box (formC x) :: .row 70 2 false ((es ++ oEs n m 0 y.outs).map srcC) :: (X ++ [.box (nodeC y)])⟩) := by
  rw [show wi0S x y n m es X 0 = wi0S x y n m (es ++ oEs n m 0 (y.outs.take 0)) X 0 by simp [oEs]]
  refine Wp.count y.outs.length (fun k => wi0S x y n m (es ++ oEs n m 0 (y.outs.take k)) X k) (fun _ => True) (fun k hk _ => ?_) (fun _ => ?_) 0 (by omega) trivial
  · have hk' : (k : Int) < y.outs.length := by omega
    have eg : y.outs[k]? = some y.outs[k] := List.getElem?_eq_getElem hk
    have hnx := oEs_take (n := n) (m := m) hk
    have hle := oEs_len n m 0 (y.outs.take k)
    rw [List.length_take] at hle
    rw [hnx, ← List.append_assoc]
    have hlen : (es ++ oEs n m 0 (y.outs.take k)).length ≤ 10020 := by rw [List.length_append]; omega
    generalize es ++ oEs n m 0 (y.outs.take k) = E at *
    generalize y.outs[k] = o at *
    have e1 := row_snoc E m k
    have e2 : (E.map srcC).length = E.length := List.length_map _
    have e3 : (E ++ [((m : Int), (k : Int))]).length = E.length + 1 := by simp
    have lim : (E.length + 1) * 16 ≤ 140737488355328 := by omega
    by_cases h : o = n
    · rw [if_pos h]
      simp only [wi0S, e3]
      generalize (E ++ [((m : Int), (k : Int))]).map srcC = R1 at *
      generalize E.map srcC = R0 at *
      rcases hX with rfl | rfl
      · (all_goals have := fa (a5 @outsU.eq_1 @outC.eq_1 hk' eg (a4 h e1 e2 lim)); repeat' first | refine Wp.v ?_ | (refine Wp.c ?_ ?_ <;> intro))
        (have := fa @wrap_id; repeat refine Wp.f ?_)
        exact ⟨by simp [trimO, trim, formC, nodeC, outsU, srcsU], trivial⟩
      · (all_goals have := fa (a5 @outsU.eq_1 @outC.eq_1 hk' eg (a4 h e1 e2 lim)); repeat' first | refine Wp.v ?_ | (refine Wp.c ?_ ?_ <;> intro))
        (have := fa @wrap_id; repeat refine Wp.f ?_)
        exact ⟨by simp [trimO, trim, formC, nodeC, outsU, srcsU], trivial⟩
    · rw [if_neg h, List.append_nil]
      simp only [wi0S]
      generalize E.map srcC = R0 at *
      (all_goals have := fa (a5 @outsU.eq_1 @outC.eq_1 hk' eg h); repeat' first | refine Wp.v ?_ | (refine Wp.c ?_ ?_ <;> intro))
      (have := fa @wrap_id; repeat refine Wp.f ?_)
      exact ⟨trimO_len rfl, trivial⟩
  · rw [List.take_of_length_le (Nat.le_refl _)]
    simp only [wi0S]
    repeat refine Wp.a ?_
    refine Wp.i ?_ ?_ <;> intro h1
    · simp at h1
    · exact Wp.exit ⟨rfl, by simp⟩
def wi1S (x : FForm) (n : Int) (es : List (Int × Int)) (X : List Ob) (m : Nat) : S :=
  ⟨[(1, i64 n), (5, .own 1 es.length), (28, .sl true (x.nodes.map nodeC)), (29, i64 x.nodes.length), (30, i64 m)], .box (formC x) :: .row 70 2 false (es.map srcC) :: X⟩
set_option maxHeartbeats 8000000 in
theorem wi1_loop (x : FForm) (hx : Small x) (n : Int) (es : List (Int × Int)) (X : List Ob) (hX : Xok X) (he : es.length ≤ 10) (R : S → Prop) :
    Wp T (.loop c_shape_Ways_L1) (wi1S x n es X 0) (fun _ => False) R
      (fun b s' => b = 0 ∧ s' = ⟨[(1, i64 n), (5, .own 1 (es ++ nEs n 0 x.nodes).length), (28, .sl true (x.nodes.map nodeC)), (29, i64 x.nodes.length), (30, i64 (x.nodes.length : Nat)), (31, .bool false)], .box (formC x) :: .row 70 2 false ((es ++ nEs n 0 x.nodes).map srcC) :: X⟩) := by
  have hbn := hx.nodes
  rw [show wi1S x n es X 0 = wi1S x n (es ++ nEs n 0 (x.nodes.take 0)) X 0 by simp [nEs]]
  refine Wp.count x.nodes.length (fun m => wi1S x n (es ++ nEs n 0 (x.nodes.take m)) X m) (fun _ => True) (fun m hm _ => ?_) (fun _ => ?_) 0 (by omega) trivial
  · have hm' : (m : Int) < x.nodes.length := by omega
    have eg : x.nodes[m]? = some x.nodes[m] := List.getElem?_eq_getElem hm
    have hle := nEs_len n 20 0 (x.nodes.take m) (fun y hy => hx.outs y (List.mem_of_mem_take hy))
    rw [List.length_take] at hle
    rw [nEs_take hm, ← List.append_assoc]
    have hlen : (es ++ nEs n 0 (x.nodes.take m)).length ≤ 10000 := by
      rw [List.length_append]
      have : min m x.nodes.length * 20 ≤ 60 * 20 := Nat.mul_le_mul_right _ (by omega)
      omega
    have ho := hx.outs _ (List.getElem_mem hm)
    generalize es ++ nEs n 0 (x.nodes.take m) = E at *
    generalize x.nodes[m] = y at *
    have hl := fun B => wi0_loop x y n m E X hX hlen ho B
    simp only [wi0S, outsU] at hl
    simp only [wi1S]
    generalize E.map srcC = R0 at *
    generalize (E ++ oEs n m 0 y.outs).map srcC = R1 at *
    rcases hX with rfl | rfl
    · (all_goals have := fa (a4 hm' eg @nodeC.eq_1 @outsU.eq_1); repeat' first | refine Wp.v ?_ | (refine Wp.c ?_ ?_ <;> intro))
      refine (show Wp T (.loop c_shape_Ways_L0) _ _ _ _ from (hl _).imp (fun _ h => h.elim) (fun _ h => h) ?_)
      rintro b s ⟨rfl, rfl⟩
      rw [if_pos rfl]
      (have := fa @wrap_id; repeat refine Wp.f ?_)
      exact ⟨by simp [trimO, trim, formC, nodeC, outsU], trivial⟩
    · (all_goals have := fa (a4 hm' eg @nodeC.eq_1 @outsU.eq_1); repeat' first | refine Wp.v ?_ | (refine Wp.c ?_ ?_ <;> intro))
      refine (show Wp T (.loop c_shape_Ways_L0) _ _ _ _ from (hl _).imp (fun _ h => h.elim) (fun _ h => h) ?_)
      rintro b s ⟨rfl, rfl⟩
      rw [if_pos rfl]
      (have := fa @wrap_id; repeat refine Wp.f ?_)
      exact ⟨by simp [trimO, trim, formC, nodeC, outsU], trivial⟩
  · rw [List.take_of_length_le (Nat.le_refl _)]
    simp only [wi1S]
    repeat refine Wp.a ?_
    refine Wp.i ?_ ?_ <;> intro h1
    · simp at h1
    · exact Wp.exit ⟨rfl, by simp⟩
set_option maxHeartbeats 8000000 in
theorem ways_call (x : FForm) (hx : Small x) (n : Int) (st : List Ob) : Cl T n_shape_Ways [formU x, i64 n] st (srcsU (waysF x n)) st := by
  refine Wp.pure (fn := c_shape_Ways) rfl rfl rfl («as» := [formU x, i64 n]) rfl ?_
  unfold waysF
  by_cases h0 : n < 0
  · rw [if_neg (by omega)]
    (all_goals have := fa h0; repeat' first | refine Wp.v ?_ | (refine Wp.c ?_ ?_ <;> intro))
    refine Wp.ret ?_; simp [Res, resU, res1, c_shape_Ways, srcsU]
  · by_cases h1 : n < x.nodes.length
    · rw [if_pos ⟨by omega, h1⟩]
      have hge : ¬ (x.nodes.length : Int) ≤ n := by omega
      by_cases he : x.entry = n
      · have hl := fun B => wi1_loop x hx n [(-1, 0)] [.row 70 2 false [[i64 (-1), i64 0]]] (.inr rfl) (by simp) B
        have ee : entEs x n = [(-1, 0)] := by simp [entEs, he]
        rw [ee]
        have hE : (([(-1, 0)] ++ nEs n 0 x.nodes).map srcC).length = ([(-1, 0)] ++ nEs n 0 x.nodes).length := List.length_map _
        generalize ([(-1, 0)] ++ nEs n 0 x.nodes : List (Int × Int)) = E at *
        unfold srcsU
        generalize E.map srcC = R at *
        simp only [wi1S, List.map_cons, List.map_nil, srcC, List.length_cons, List.length_nil, formC, he] at hl
        (all_goals have := fa (a4 @formC.eq_1 h0 hge he); repeat' first | refine Wp.v ?_ | (refine Wp.c ?_ ?_ <;> intro))
        refine (show Wp T (.loop c_shape_Ways_L1) _ _ _ _ from (hl _).imp (fun _ h => h.elim) (fun _ h => h) ?_)
        rintro b s ⟨rfl, rfl⟩
        rw [if_pos rfl]
        repeat refine Wp.a ?_
        refine Wp.ret ?_; simp [Res, resU, res1, c_shape_Ways, hE]
      · have hl := fun B => wi1_loop x hx n [] [] (.inl rfl) (by simp) B
        have ee : entEs x n = [] := by simp [entEs, he]
        rw [ee]
        have hE : (([] ++ nEs n 0 x.nodes).map srcC).length = ([] ++ nEs n 0 x.nodes).length := List.length_map _
        generalize ([] ++ nEs n 0 x.nodes : List (Int × Int)) = E at *
        unfold srcsU
        generalize E.map srcC = R at *
        simp only [wi1S, List.map_nil, List.length_nil, formC] at hl
        (all_goals have := fa (a4 @formC.eq_1 h0 hge he); repeat' first | refine Wp.v ?_ | (refine Wp.c ?_ ?_ <;> intro))
        refine (show Wp T (.loop c_shape_Ways_L1) _ _ _ _ from (hl _).imp (fun _ h => h.elim) (fun _ h => h) ?_)
        rintro b s ⟨rfl, rfl⟩
        rw [if_pos rfl]
        repeat refine Wp.a ?_
        refine Wp.ret ?_; simp [Res, resU, res1, c_shape_Ways, hE]
    · rw [if_neg (by omega)]
      have hge : (x.nodes.length : Int) ≤ n := by omega
      (all_goals have := fa (a3 @formC.eq_1 h0 hge); repeat' first | refine Wp.v ?_ | (refine Wp.c ?_ ?_ <;> intro))
      refine Wp.ret ?_; simp [Res, resU, res1, c_shape_Ways, srcsU]
def rw0S (x : FForm) (n : Int) (m : Nat) (es : List (Int × Int)) (X : List Ob) (k : Nat) : S :=
  ⟨[(1, i64 n), (2, .bp 0 0), (5, .own 1 es.length), (6, i64 m), (7, i64 k)], .box (formC x) :: .row 70 2 false (es.map srcC) :: X⟩
set_option maxHeartbeats 8000000 in
theorem rw0_loop (x : FForm) (n : Int) (m : Nat) (hm : m < x.nodes.length) (es : List (Int × Int)) (X : List Ob) (hX : Xok X) (he : es.length ≤ 10000) (ho : x.nodes[m].outs.length ≤ 20) (R : S → Prop) :
    Wp T (.loop c_joineryref14_Ways_L0) (rw0S x n m es X 0) (fun _ => False) R
      (fun b s' => b = 2 ∧ s' = ⟨[(1, i64 n), (2, .bp 0 0), (5, .own 1 (es ++ oEs n m 0 x.nodes[m].outs).length), (6, i64 m), (7, i64 (x.nodes[m].outs.length : Nat)), (41, .bool false)], .box (formC x) :: .row 70 2 false ((es ++ oEs n m 0 x.nodes[m].outs).map srcC) :: X⟩) := by
  have hm' : (m : Int) < x.nodes.length := by omega
  have em : x.nodes[m]? = some x.nodes[m] := List.getElem?_eq_getElem hm
  generalize x.nodes[m] = y at *
  rw [show rw0S x n m es X 0 = rw0S x n m (es ++ oEs n m 0 (y.outs.take 0)) X 0 by simp [oEs]]
  refine Wp.count y.outs.length (fun k => rw0S x n m (es ++ oEs n m 0 (y.outs.take k)) X k) (fun _ => True) (fun k hk _ => ?_) (fun _ => ?_) 0 (by omega) trivial
  · have hk' : (k : Int) < y.outs.length := by omega
    have eg : y.outs[k]? = some y.outs[k] := List.getElem?_eq_getElem hk
    have hnx := oEs_take (n := n) (m := m) hk
    have hle := oEs_len n m 0 (y.outs.take k)
    rw [List.length_take] at hle
    rw [hnx, ← List.append_assoc]
    have hlen : (es ++ oEs n m 0 (y.outs.take k)).length ≤ 10020 := by rw [List.length_append]; omega
    generalize es ++ oEs n m 0 (y.outs.take k) = E at *
    generalize y.outs[k] = o at *
    have e1 := row_snoc E m k
    have e2 : (E.map srcC).length = E.length := List.length_map _
    have e3 : (E ++ [((m : Int), (k : Int))]).length = E.length + 1 := by simp
    have lim : (E.length + 1) * 16 ≤ 140737488355328 := by omega
    by_cases h : o = n
    · rw [if_pos h]
      simp only [rw0S, e3]
      generalize (E ++ [((m : Int), (k : Int))]).map srcC = R1 at *
      generalize E.map srcC = R0 at *
      rcases hX with rfl | rfl
      · (all_goals have := fa (a5 @formC.eq_1 @nodeC.eq_1 @outsU.eq_1 @outC.eq_1 (a5 hm' em hk' eg (a4 h e1 e2 lim))); repeat' first | refine Wp.v ?_ | (refine Wp.c ?_ ?_ <;> intro))
        (have := fa @wrap_id; repeat refine Wp.f ?_)
        exact ⟨by simp [trimO, trim, formC, nodeC, outsU, srcsU], trivial⟩
      · (all_goals have := fa (a5 @formC.eq_1 @nodeC.eq_1 @outsU.eq_1 @outC.eq_1 (a5 hm' em hk' eg (a4 h e1 e2 lim))); repeat' first | refine Wp.v ?_ | (refine Wp.c ?_ ?_ <;> intro))
        (have := fa @wrap_id; repeat refine Wp.f ?_)
        exact ⟨by simp [trimO, trim, formC, nodeC, outsU, srcsU], trivial⟩
    · rw [if_neg h, List.append_nil]
      simp only [rw0S]
      generalize E.map srcC = R0 at *
      (all_goals have := fa (a5 @formC.eq_1 @nodeC.eq_1 @outsU.eq_1 @outC.eq_1 (a5 hm' em hk' eg h)); repeat' first | refine Wp.v ?_ | (refine Wp.c ?_ ?_ <;> intro))
      (have := fa @wrap_id; repeat refine Wp.f ?_)
      exact ⟨trimO_len rfl, trivial⟩
  · rw [List.take_of_length_le (Nat.le_refl _)]
    simp only [rw0S]
    (have := fa (a5 @formC.eq_1 @nodeC.eq_1 @outsU.eq_1 hm' em); repeat refine Wp.f ?_)
    refine Wp.i ?_ ?_ <;> intro h1
    · simp at h1
    · exact Wp.exit ⟨rfl, by simp [formC]⟩
def rw1S (x : FForm) (n : Int) (es : List (Int × Int)) (X : List Ob) (m : Nat) : S :=
  ⟨[(1, i64 n), (2, .bp 0 0), (5, .own 1 es.length), (6, i64 m)], .box (formC x) :: .row 70 2 false (es.map srcC) :: X⟩
set_option maxHeartbeats 8000000 in
theorem rw1_loop (x : FForm) (hx : Small x) (n : Int) (es : List (Int × Int)) (X : List Ob) (hX : Xok X) (he : es.length ≤ 10) (R : S → Prop) :
    Wp T (.loop c_joineryref14_Ways_L1) (rw1S x n es X 0) (fun _ => False) R
      (fun b s' => b = 0 ∧ s' = ⟨[(1, i64 n), (2, .bp 0 0), (5, .own 1 (es ++ nEs n 0 x.nodes).length), (6, i64 (x.nodes.length : Nat)), (30, .bool false)], .box (formC x) :: .row 70 2 false ((es ++ nEs n 0 x.nodes).map srcC) :: X⟩) := by
  have hbn := hx.nodes
  rw [show rw1S x n es X 0 = rw1S x n (es ++ nEs n 0 (x.nodes.take 0)) X 0 by simp [nEs]]
  refine Wp.count x.nodes.length (fun m => rw1S x n (es ++ nEs n 0 (x.nodes.take m)) X m) (fun _ => True) (fun m hm _ => ?_) (fun _ => ?_) 0 (by omega) trivial
  · have hm' : (m : Int) < x.nodes.length := by omega
    have hle := nEs_len n 20 0 (x.nodes.take m) (fun y hy => hx.outs y (List.mem_of_mem_take hy))
    rw [List.length_take] at hle
    rw [nEs_take hm, ← List.append_assoc]
    have hlen : (es ++ nEs n 0 (x.nodes.take m)).length ≤ 10000 := by
      rw [List.length_append]
      have : min m x.nodes.length * 20 ≤ 60 * 20 := Nat.mul_le_mul_right _ (by omega)
      omega
    have ho := hx.outs _ (List.getElem_mem hm)
    generalize es ++ nEs n 0 (x.nodes.take m) = E at *
    have hl := fun B => rw0_loop x n m hm E X hX hlen ho B
    simp only [rw0S] at hl
    simp only [rw1S]
    generalize E ++ oEs n m 0 x.nodes[m].outs = E2 at *
    (all_goals have := fa (a2 @formC.eq_1 hm'); repeat' first | refine Wp.v ?_ | (refine Wp.c ?_ ?_ <;> intro))
    simp only [formC] at hl
    refine (show Wp T (.loop c_joineryref14_Ways_L0) _ _ _ _ from (hl _).imp (fun _ h => h.elim) (fun _ h => h) ?_)
    rintro b s ⟨rfl, rfl⟩
    rw [if_pos rfl]
    (have := fa @wrap_id; repeat refine Wp.f ?_)
    exact ⟨trimO_len rfl, trivial⟩
  · rw [List.take_of_length_le (Nat.le_refl _)]
    simp only [rw1S]
    (have := fa @formC.eq_1; repeat refine Wp.f ?_)
    refine Wp.i ?_ ?_ <;> intro h1
    · simp at h1
    · exact Wp.exit ⟨rfl, by simp [formC]⟩
set_option maxHeartbeats 8000000 in
theorem rways_call (x : FForm) (hx : Small x) (n : Int) (st : List Ob) : Cl T n_joineryref14_Ways [formU x, i64 n] st (srcsU (waysF x n)) st := by
  refine Wp.pure (fn := c_joineryref14_Ways) rfl rfl rfl («as» := [formU x, i64 n]) rfl ?_
  unfold waysF
  by_cases h0 : n < 0
  · rw [if_neg (by omega)]
    (all_goals have := fa h0; repeat' first | refine Wp.v ?_ | (refine Wp.c ?_ ?_ <;> intro))
    refine Wp.ret ?_; simp [Res, resU, res1, c_joineryref14_Ways, srcsU]
  · by_cases h1 : n < x.nodes.length
    · rw [if_pos ⟨by omega, h1⟩]
      have hge : ¬ (x.nodes.length : Int) ≤ n := by omega
      by_cases he : x.entry = n
      · have hl := fun B => rw1_loop x hx n [(-1, 0)] [.row 70 2 false [[i64 (-1), i64 0]]] (.inr rfl) (by simp) B
        have ee : entEs x n = [(-1, 0)] := by simp [entEs, he]
        rw [ee]
        have hE : (([(-1, 0)] ++ nEs n 0 x.nodes).map srcC).length = ([(-1, 0)] ++ nEs n 0 x.nodes).length := List.length_map _
        generalize ([(-1, 0)] ++ nEs n 0 x.nodes : List (Int × Int)) = E at *
        unfold srcsU
        generalize E.map srcC = R at *
        simp only [rw1S, List.map_cons, List.map_nil, srcC, List.length_cons, List.length_nil, formC, he] at hl
        (all_goals have := fa (a4 @formC.eq_1 h0 hge he); repeat' first | refine Wp.v ?_ | (refine Wp.c ?_ ?_ <;> intro))
        refine (show Wp T (.loop c_joineryref14_Ways_L1) _ _ _ _ from (hl _).imp (fun _ h => h.elim) (fun _ h => h) ?_)
        rintro b s ⟨rfl, rfl⟩
        rw [if_pos rfl]
        repeat refine Wp.a ?_
        refine Wp.ret ?_; simp [Res, resU, res1, c_joineryref14_Ways, hE]
      · have hl := fun B => rw1_loop x hx n [] [] (.inl rfl) (by simp) B
        have ee : entEs x n = [] := by simp [entEs, he]
        rw [ee]
        have hE : (([] ++ nEs n 0 x.nodes).map srcC).length = ([] ++ nEs n 0 x.nodes).length := List.length_map _
        generalize ([] ++ nEs n 0 x.nodes : List (Int × Int)) = E at *
        unfold srcsU
        generalize E.map srcC = R at *
        simp only [rw1S, List.map_nil, List.length_nil, formC] at hl
        (all_goals have := fa (a4 @formC.eq_1 h0 hge he); repeat' first | refine Wp.v ?_ | (refine Wp.c ?_ ?_ <;> intro))
        refine (show Wp T (.loop c_joineryref14_Ways_L1) _ _ _ _ from (hl _).imp (fun _ h => h.elim) (fun _ h => h) ?_)
        rintro b s ⟨rfl, rfl⟩
        rw [if_pos rfl]
        repeat refine Wp.a ?_
        refine Wp.ret ?_; simp [Res, resU, res1, c_joineryref14_Ways, hE]
    · rw [if_neg (by omega)]
      have hge : (x.nodes.length : Int) ≤ n := by omega
      (all_goals have := fa (a3 @formC.eq_1 h0 hge); repeat' first | refine Wp.v ?_ | (refine Wp.c ?_ ?_ <;> intro))
      refine Wp.ret ?_; simp [Res, resU, res1, c_joineryref14_Ways, srcsU]
def argOk (x : FForm) (n : Int) (s : Int × Int) : Bool := decide (s.1 = 2) || valF x s n
def outOk (x : FForm) (o : Int) : Bool := decide (-1 ≤ o) && decide (o < x.nodes.length)
def nodeF (x : FForm) (n : Int) (y : FNode) : Bool := opOk y.op && decide (y.args.length = argsF y.op) && decide (y.outs.length = outsF y.op) && decide (0 ≤ y.n) && decide (y.n ≤ 99) && (decide (y.n = 0) || decide (y.op = 15)) && y.args.all (argOk x n) && y.outs.all (outOk x)
def no0S (x : FForm) (y : FNode) (K : List U) (n : Int) (i : Nat) : S := ⟨[(1, i64 n), (2, .bp 0 0), (5, .bp 1 0), (62, srcsU y.args), (63, i64 y.args.length), (64, i64 i)], [.box (formC x), .box (nodeC y), .box K]⟩
set_option maxHeartbeats 8000000 in
theorem no0_loop (x : FForm) (y : FNode) (w : List UInt8) (ka ko : Nat) (kd : Bool) (n : Int) (hl : y.args.length ≤ 20) (r : Bool) (hr : ∀ s ∈ y.args, argOk x n s = false → r = false) :
    Wp T (.loop c_shape_node_L0) (no0S x y [.str w, i64 ka, i64 ko, .bool kd] n 0) (fun _ => False) (Res c_shape_node (.bool r))
      (fun b s' => b = 0 ∧ (∀ s ∈ y.args, argOk x n s = true) ∧ s' = ⟨[(1, i64 n), (2, .bp 0 0), (5, .bp 1 0), (62, srcsU y.args), (63, i64 y.args.length), (64, i64 (y.args.length : Nat)), (65, .bool false)], [.box (formC x), .box (nodeC y), .box [.str w, i64 ka, i64 ko, .bool kd]]⟩) := by
  refine Wp.count y.args.length (fun i => no0S x y [.str w, i64 ka, i64 ko, .bool kd] n i) (fun i => ∀ s ∈ y.args.take i, argOk x n s = true) (fun i hi hI => ?_) (fun hI => ?_) 0 (by omega) (by simp)
  · have hi' : (i : Int) < y.args.length := by omega
    have eg : y.args[i]? = some y.args[i] := List.getElem?_eq_getElem hi
    have hnx := fun h => take_all (p := fun s => argOk x n s = true) hi hI h
    have hbad := hr _ (List.getElem_mem hi)
    have hv := fun st => value_call x y.args[i] n st
    generalize y.args[i] = s at *
    simp only [no0S]
    by_cases h2 : s.1 = 2
    · (all_goals have := fa (a5 @srcsU.eq_1 @srcC.eq_1 hi' eg h2); repeat' first | refine Wp.v ?_ | (apply Wp.call; exact hv _) | (refine Wp.c ?_ ?_ <;> intro))
      (have := fa @wrap_id; repeat refine Wp.f ?_)
      exact ⟨by simp [trimO, trim, formC, nodeC, outsU, srcsU], hnx (by simp [argOk, h2])⟩
    · cases hvf : valF x s n with
      | true =>
        rw [hvf] at hv
        simp only [srcC, formC] at hv
        (all_goals have := fa (a5 @srcsU.eq_1 @srcC.eq_1 @formC.eq_1 hi' (a2 eg h2)); repeat' first | refine Wp.v ?_ | (apply Wp.call; exact hv _) | (refine Wp.c ?_ ?_ <;> intro))
        (have := fa @wrap_id; repeat refine Wp.f ?_)
        exact ⟨by simp [trimO, trim, formC, nodeC, outsU, srcsU], hnx (by simp [argOk, hvf])⟩
      | false =>
        rw [hvf] at hv
        simp only [srcC, formC] at hv
        rw [hbad (by simp [argOk, hvf, h2])]
        (all_goals have := fa (a5 @srcsU.eq_1 @srcC.eq_1 @formC.eq_1 hi' (a2 eg h2)); repeat' first | refine Wp.v ?_ | (apply Wp.call; exact hv _) | (refine Wp.c ?_ ?_ <;> intro))
        refine Wp.ret ?_; simp [Res, resU, res1, c_shape_node]
  · rw [List.take_of_length_le (Nat.le_refl _)] at hI
    simp only [no0S]
    repeat refine Wp.a ?_
    refine Wp.i ?_ ?_ <;> intro h1
    · simp at h1
    · exact Wp.exit ⟨rfl, hI, rfl⟩
def no1S (x : FForm) (y : FNode) (K : List U) (i : Nat) : S := ⟨[(2, .bp 0 0), (80, outsU y.outs), (81, i64 y.outs.length), (82, i64 i)], [.box (formC x), .box (nodeC y), .box K]⟩
set_option maxHeartbeats 8000000 in
theorem no1_loop (x : FForm) (y : FNode) (w : List UInt8) (ka ko : Nat) (kd : Bool) (hl : y.outs.length ≤ 20) (r : Bool) (hr : ∀ o ∈ y.outs, outOk x o = false → r = false) :
    Wp T (.loop c_shape_node_L1) (no1S x y [.str w, i64 ka, i64 ko, .bool kd] 0) (fun _ => False) (Res c_shape_node (.bool r))
      (fun b s' => b = 2 ∧ (∀ o ∈ y.outs, outOk x o = true) ∧ s' = ⟨[(2, .bp 0 0), (80, outsU y.outs), (81, i64 y.outs.length), (82, i64 (y.outs.length : Nat)), (83, .bool false)], [.box (formC x), .box (nodeC y), .box [.str w, i64 ka, i64 ko, .bool kd]]⟩) := by
  refine Wp.count y.outs.length (fun i => no1S x y [.str w, i64 ka, i64 ko, .bool kd] i) (fun i => ∀ o ∈ y.outs.take i, outOk x o = true) (fun i hi hI => ?_) (fun hI => ?_) 0 (by omega) (by simp)
  · have hi' : (i : Int) < y.outs.length := by omega
    have eg : y.outs[i]? = some y.outs[i] := List.getElem?_eq_getElem hi
    have hnx := fun h => take_all (p := fun o => outOk x o = true) hi hI h
    have hbad := hr _ (List.getElem_mem hi)
    generalize y.outs[i] = o at *
    simp only [no1S]
    by_cases h1 : o < -1
    · rw [hbad (by simp [outOk]; omega)]
      (all_goals have := fa (a5 @outsU.eq_1 @outC.eq_1 hi' eg h1); repeat' first | refine Wp.v ?_ | (refine Wp.c ?_ ?_ <;> intro))
      refine Wp.ret ?_; simp [Res, resU, res1, c_shape_node]
    · by_cases h2 : (x.nodes.length : Int) ≤ o
      · rw [hbad (by simp [outOk]; omega)]
        (all_goals have := fa (a5 @outsU.eq_1 @outC.eq_1 @formC.eq_1 hi' (a3 eg h1 h2)); repeat' first | refine Wp.v ?_ | (refine Wp.c ?_ ?_ <;> intro))
        refine Wp.ret ?_; simp [Res, resU, res1, c_shape_node]
      · (all_goals have := fa (a5 @outsU.eq_1 @outC.eq_1 @formC.eq_1 hi' (a3 eg h1 h2)); repeat' first | refine Wp.v ?_ | (refine Wp.c ?_ ?_ <;> intro))
        (have := fa @wrap_id; repeat refine Wp.f ?_)
        exact ⟨trimO_len rfl, hnx (by simp [outOk]; omega)⟩
  · rw [List.take_of_length_le (Nat.le_refl _)] at hI
    simp only [no1S]
    repeat refine Wp.a ?_
    refine Wp.i ?_ ?_ <;> intro h1
    · simp at h1
    · exact Wp.exit ⟨rfl, hI, rfl⟩
set_option maxHeartbeats 16000000 in
theorem node_call (x : FForm) (hx : Small x) (n : Nat) (hn : n < x.nodes.length) (st : List Ob) : Cl T n_shape_node [formU x, i64 n] st (.bool (nodeF x n x.nodes[n])) st := by
  refine Wp.pure (fn := c_shape_node) rfl rfl rfl («as» := [formU x, i64 n]) rfl ?_
  have hn' : (n : Int) < x.nodes.length := by omega
  have eg : x.nodes[n]? = some x.nodes[n] := List.getElem?_eq_getElem hn
  have ha := hx.args _ (List.getElem_mem hn)
  have hos := hx.outs _ (List.getElem_mem hn)
  generalize x.nodes[n] = y at *
  have hof := fun st => of_call y.op st
  have hl0 := fun w ka ko kd r hr => no0_loop x y w ka ko kd n ha r hr
  have hl1 := fun w ka ko kd r hr => no1_loop x y w ka ko kd hos r hr
  simp only [no0S, srcsU, formC, nodeC] at hl0
  simp only [no1S, outsU, formC, nodeC, srcsU] at hl1
  generalize hr : nodeF x n y = r
  unfold nodeF at hr
  cases h0 : opOk y.op with
  | false =>
    have : r = false := by rw [← hr]; simp [h0]
    rw [this]
    have hk : kindC y.op = [.str [], i64 0, i64 0, .bool false] := by simp [kindC, h0]
    rw [h0, hk] at hof
    (all_goals have := fa (a4 @formC.eq_1 @nodeC.eq_1 hn' eg); repeat' first | refine Wp.v ?_ | (apply Wp.call; exact hof _) | (refine Wp.c ?_ ?_ <;> intro))
    refine Wp.ret ?_; simp [Res, resU, res1, c_shape_node]
  | true =>
    have hk : kindC y.op = [.str (wordF y.op), i64 (argsF y.op), i64 (outsF y.op), .bool (defF y.op)] := by simp [kindC, h0]
    rw [h0, hk] at hof
    generalize wordF y.op = w at *
    generalize argsF y.op = ka at *
    generalize outsF y.op = ko at *
    generalize defF y.op = kd at *
    by_cases h1 : y.args.length = ka
    · have h1' : (y.args.length : Int) = ka := by omega
      by_cases h2 : y.outs.length = ko
      · have h2' : (y.outs.length : Int) = ko := by omega
        by_cases h3 : y.n < 0
        · have : r = false := by rw [← hr]; simp; omega
          rw [this]
          (all_goals have := fa (a5 @formC.eq_1 @nodeC.eq_1 @srcsU.eq_1 @outsU.eq_1 (a5 hn' eg h1' h2' h3)); repeat' first | refine Wp.v ?_ | (apply Wp.call; exact hof _) | (refine Wp.c ?_ ?_ <;> intro))
          refine Wp.ret ?_; simp [Res, resU, res1, c_shape_node]
        · by_cases h4 : (99 : Int) < y.n
          · have : r = false := by rw [← hr]; simp; omega
            rw [this]
            (all_goals have := fa (a5 @formC.eq_1 @nodeC.eq_1 @srcsU.eq_1 @outsU.eq_1 (a5 hn' eg h1' h2' (a2 h3 h4))); repeat' first | refine Wp.v ?_ | (apply Wp.call; exact hof _) | (refine Wp.c ?_ ?_ <;> intro))
            refine Wp.ret ?_; simp [Res, resU, res1, c_shape_node]
          · have hA := hl0 w ka ko kd r (fun s hs h => by rw [← hr]; simp only [Bool.and_eq_false_iff]; exact .inl (.inr (List.all_eq_false.2 ⟨s, hs, by simp [h]⟩)))
            have hB := hl1 w ka ko kd r (fun s hs h => by rw [← hr]; simp only [Bool.and_eq_false_iff]; exact .inr (List.all_eq_false.2 ⟨s, hs, by simp [h]⟩))
            simp only [h1'] at hA
            simp only [h2'] at hB
            have hyes : (y.n = 0 ∨ y.op = 15) → (∀ s ∈ y.args, argOk x n s = true) → (∀ o ∈ y.outs, outOk x o = true) → r = true := fun h e1 e2 => by
              rw [← hr]
              simp only [Bool.and_eq_true, decide_eq_true_eq, Bool.or_eq_true, List.all_eq_true]
              exact ⟨⟨⟨⟨⟨⟨⟨h0, h1⟩, h2⟩, by omega⟩, by omega⟩, h⟩, e1⟩, e2⟩
            by_cases h6 : 0 < y.n
            · by_cases h7 : y.op = 15
              · rw [h7] at hof hA hB
                (all_goals have := fa (a5 @formC.eq_1 @nodeC.eq_1 @srcsU.eq_1 @outsU.eq_1 (a5 hn' eg h1' h2' (a4 h3 h4 h6 h7))); repeat' first | refine Wp.v ?_ | (apply Wp.call; exact hof _) | (refine Wp.c ?_ ?_ <;> intro))
                refine hA.imp (fun _ h => h.elim) (fun _ h => h) ?_
                rintro b s ⟨rfl, e1, rfl⟩
                rw [if_pos rfl]
                (all_goals have := fa (a2 @outsU.eq_1 h2'); repeat' first | refine Wp.v ?_ | (refine Wp.c ?_ ?_ <;> intro))
                refine hB.imp (fun _ h => h.elim) (fun _ h => h) ?_
                rintro b s ⟨rfl, e2, rfl⟩
                rw [if_pos rfl, hyes (.inr h7) e1 e2]
                (repeat' first | refine Wp.u ?_ | (refine Wp.c ?_ ?_ <;> intro))
                refine Wp.ret ?_; simp [Res, resU, res1, c_shape_node]
              · have : r = false := by rw [← hr]; simp [h7]; omega
                rw [this]
                (all_goals have := fa (a5 @formC.eq_1 @nodeC.eq_1 @srcsU.eq_1 @outsU.eq_1 (a5 hn' eg h1' h2' (a4 h3 h4 h6 h7))); repeat' first | refine Wp.v ?_ | (apply Wp.call; exact hof _) | (refine Wp.c ?_ ?_ <;> intro))
                refine Wp.ret ?_; simp [Res, resU, res1, c_shape_node]
            · (all_goals have := fa (a5 @formC.eq_1 @nodeC.eq_1 @srcsU.eq_1 @outsU.eq_1 (a5 hn' eg h1' h2' (a3 h3 h4 h6))); repeat' first | refine Wp.v ?_ | (apply Wp.call; exact hof _) | (refine Wp.c ?_ ?_ <;> intro))
              refine hA.imp (fun _ h => h.elim) (fun _ h => h) ?_
              rintro b s ⟨rfl, e1, rfl⟩
              rw [if_pos rfl]
              (all_goals have := fa (a2 @outsU.eq_1 h2'); repeat' first | refine Wp.v ?_ | (refine Wp.c ?_ ?_ <;> intro))
              refine hB.imp (fun _ h => h.elim) (fun _ h => h) ?_
              rintro b s ⟨rfl, e2, rfl⟩
              rw [if_pos rfl, hyes (.inl (by omega)) e1 e2]
              (repeat' first | refine Wp.u ?_ | (refine Wp.c ?_ ?_ <;> intro))
              refine Wp.ret ?_; simp [Res, resU, res1, c_shape_node]
      · have h2' : ¬ (y.outs.length : Int) = ko := by omega
        have : r = false := by rw [← hr]; simp [h2]
        rw [this]
        (all_goals have := fa (a5 @formC.eq_1 @nodeC.eq_1 @srcsU.eq_1 @outsU.eq_1 (a4 hn' eg h1' h2')); repeat' first | refine Wp.v ?_ | (apply Wp.call; exact hof _) | (refine Wp.c ?_ ?_ <;> intro))
        refine Wp.ret ?_; simp [Res, resU, res1, c_shape_node]
    · have h1' : ¬ (y.args.length : Int) = ka := by omega
      have : r = false := by rw [← hr]; simp [h1]
      rw [this]
      (all_goals have := fa (a5 @formC.eq_1 @nodeC.eq_1 @srcsU.eq_1 @outsU.eq_1 (a3 hn' eg h1')); repeat' first | refine Wp.v ?_ | (apply Wp.call; exact hof _) | (refine Wp.c ?_ ?_ <;> intro))
      refine Wp.ret ?_; simp [Res, resU, res1, c_shape_node]
def valOk (x : FForm) (v : FVal) : Bool := decide (0 ≤ v.pos) && decide (v.pos < x.nodes.length) && decide ((waysF x v.pos).length = v.src.length) && (v.src.zip (waysF x v.pos)).all (fun p => comesF x p.1 p.2)
def rightF (x : FForm) : Bool := decide (-1 ≤ x.entry) && decide (x.entry < x.nodes.length) && x.nodes.zipIdx.all (fun p => nodeF x p.2 p.1) && x.vals.all (valOk x)
theorem oEs_mem {n m : Int} {e : Int × Int} : ∀ {k : Nat} {l : List Int}, e ∈ oEs n m k l → e.1 = m
  | _, [], h => by simp [oEs] at h
  | k, o :: l, h => by
    unfold oEs at h
    rcases List.mem_append.1 h with h | h
    · split at h
      · simp only [List.mem_singleton] at h
        subst h
        rfl
      · cases h
    · exact oEs_mem h
theorem nEs_mem {n : Int} {e : Int × Int} : ∀ {m : Nat} {l : List FNode}, e ∈ nEs n m l → (m : Int) ≤ e.1 ∧ e.1 < (m + l.length : Nat)
  | _, [], h => by simp [nEs] at h
  | m, y :: l, h => by
    unfold nEs at h
    rcases List.mem_append.1 h with h | h
    · have := oEs_mem h
      rw [List.length_cons]
      omega
    · have := nEs_mem h
      rw [List.length_cons]
      omega
theorem ways_ok {x : FForm} {n : Int} {e : Int × Int} (h : e ∈ waysF x n) : EdgeOK x e := by
  unfold waysF at h
  split at h
  · rcases List.mem_append.1 h with h | h
    · unfold entEs at h
      split at h
      · simp only [List.mem_singleton] at h
        subst h
        exact .inl rfl
      · cases h
    · have := nEs_mem h
      exact .inr ⟨by omega, by omega⟩
  · cases h
theorem ways_len {x : FForm} (hx : Small x) (n : Int) : (waysF x n).length ≤ 1300 := by
  have h1 := nEs_len n 20 0 x.nodes hx.outs
  have h2 := hx.nodes
  have h3 : x.nodes.length * 20 ≤ 60 * 20 := Nat.mul_le_mul_right _ h2
  unfold waysF entEs
  split
  · rw [List.length_append]
    split
    · simp only [List.length_cons, List.length_nil]; omega
    · simp only [List.length_nil]; omega
  · simp
def sr0S (x : FForm) (i : Nat) : S := ⟨[(1, .bp 0 0), (22, i64 x.nodes.length), (23, i64 i)], [.box (formC x)]⟩
set_option maxHeartbeats 8000000 in
theorem sr0_loop (x : FForm) (hx : Small x) (r : Bool) (hr : ∀ p ∈ x.nodes.zipIdx, nodeF x p.2 p.1 = false → r = false) :
    Wp T (.loop c_shape_Right_L0) (sr0S x 0) (fun _ => False) (Res c_shape_Right (.bool r))
      (fun b s' => b = 0 ∧ (∀ p ∈ x.nodes.zipIdx, nodeF x p.2 p.1 = true) ∧ s' = ⟨[(1, .bp 0 0), (22, i64 x.nodes.length), (23, i64 (x.nodes.length : Nat)), (24, .bool false)], [.box (formC x)]⟩) := by
  have hbn := hx.nodes
  refine Wp.count x.nodes.length (fun i => sr0S x i) (fun i => ∀ p ∈ x.nodes.zipIdx.take i, nodeF x p.2 p.1 = true) (fun i hi hI => ?_) (fun hI => ?_) 0 (by omega) (by simp)
  · have hi' : (i : Int) < x.nodes.length := by omega
    have hz : i < x.nodes.zipIdx.length := by simpa using hi
    have ez : x.nodes.zipIdx[i] = (x.nodes[i], i) := by simp
    have hnx := fun h => take_all (p := fun p : FNode × Nat => nodeF x p.2 p.1 = true) hz hI h
    have hbad := hr _ (List.getElem_mem hz)
    rw [ez] at hnx hbad
    have hc := fun st => node_call x hx i hi st
    try simp only at hnx hbad
    generalize nodeF x i x.nodes[i] = nf at *
    simp only [sr0S, formC]
    cases nf with
    | true =>
      (all_goals have := fa hi'; repeat' first | refine Wp.v ?_ | (apply Wp.call; exact hc _) | (refine Wp.c ?_ ?_ <;> intro))
      (have := fa @wrap_id; repeat refine Wp.f ?_)
      exact ⟨trimO_len rfl, hnx rfl⟩
    | false =>
      rw [hbad rfl]
      (all_goals have := fa hi'; repeat' first | refine Wp.v ?_ | (apply Wp.call; exact hc _) | (refine Wp.c ?_ ?_ <;> intro))
      refine Wp.ret ?_; simp [Res, resU, res1, c_shape_Right]
  · rw [List.take_of_length_le (by simp)] at hI
    simp only [sr0S]
    repeat refine Wp.a ?_
    refine Wp.i ?_ ?_ <;> intro h1
    · simp at h1
    · exact Wp.exit ⟨rfl, hI, rfl⟩
def sr2S (x : FForm) (v : FVal) (W : List (Int × Int)) (i k : Nat) : S := ⟨[(1, .bp 0 0), (5, .bp 1 0), (32, .sl true (x.vals.map valC)), (33, i64 x.vals.length), (34, i64 i), (61, srcsU W), (62, i64 W.length), (63, i64 k)], [.box (formC x), .box (valC v)]⟩
set_option maxHeartbeats 8000000 in
theorem sr2_loop (x : FForm) (v : FVal) (W : List (Int × Int)) (i : Nat) (hW : ∀ e ∈ W, EdgeOK x e) (hl : W.length = v.src.length) (hb : W.length ≤ 1300) (r : Bool) (hr : ∀ p ∈ v.src.zip W, comesF x p.1 p.2 = false → r = false) :
    Wp T (.loop c_shape_Right_L2) (sr2S x v W i 0) (fun _ => False) (Res c_shape_Right (.bool r))
      (fun b s' => b = 4 ∧ (∀ p ∈ v.src.zip W, comesF x p.1 p.2 = true) ∧ s' = ⟨[(1, .bp 0 0), (5, .bp 1 0), (32, .sl true (x.vals.map valC)), (33, i64 x.vals.length), (34, i64 i), (61, srcsU W), (62, i64 W.length), (63, i64 (W.length : Nat)), (64, .bool false)], [.box (formC x), .box (valC v)]⟩) := by
  refine Wp.count W.length (fun k => sr2S x v W i k) (fun k => ∀ p ∈ (v.src.zip W).take k, comesF x p.1 p.2 = true) (fun k hk hI => ?_) (fun hI => ?_) 0 (by omega) (by simp)
  · have hk' : (k : Int) < W.length := by omega
    have hks : k < v.src.length := by omega
    have hks' : (k : Int) < v.src.length := by omega
    have hz : k < (v.src.zip W).length := by rw [List.length_zip]; omega
    have ez : (v.src.zip W)[k] = (v.src[k], W[k]) := List.getElem_zip
    have e1 : W[k]? = some W[k] := List.getElem?_eq_getElem hk
    have e2 : v.src[k]? = some v.src[k] := List.getElem?_eq_getElem hks
    have hnx := fun h => take_all (p := fun p : (Int × Int) × (Int × Int) => comesF x p.1 p.2 = true) hz hI h
    have hbad := hr _ (List.getElem_mem hz)
    rw [ez] at hnx hbad
    have hc := fun st => comes_call x v.src[k] W[k] (hW _ (List.getElem_mem hk)) st
    simp only at hnx hbad
    generalize comesF x v.src[k] W[k] = cf at *
    generalize W[k] = e at *
    generalize v.src[k] = s at *
    simp only [formC, srcC] at hc
    simp only [sr2S, srcsU]
    cases cf with
    | true =>
      (have := fa (a3 hk' e1 @srcC.eq_1); repeat refine Wp.f ?_)
      refine Wp.i ?_ ?_ <;> intro h1
      · (have := fa (a3 hk' e1 @srcC.eq_1); repeat refine Wp.f ?_)
        refine Wp.draw (by (simp [c_shape_Right_D1, I.need]) <;> rfl) (by first | ((simp [formC, valC, srcsU, srcC, hks', e2]) <;> rfl) | exact rfl) (by (simp [formC, valC, srcsU, srcC, hks', e2]) <;> rfl) (by (unfold c_shape_Right_D1); (repeat (first | ((first | apply Dr.op | apply Dr.opN | (apply Dr.opG; exact rfl)); ((simp [formC, valC, srcsU, srcC, hks', e2]) <;> rfl); (apply Evt.all; intro; (simp [formC, valC, srcsU, srcC, hks', e2]) <;> (try simp (disch := omega) only [wrap_id]) <;> first | exact ⟨rfl, rfl⟩ | exact rfl); ((simp [I.need]) <;> rfl)) | ((first | (apply Dr.opS; exact rfl; decide) | (apply Dr.opS0; exact rfl)); ((simp [I.need]) <;> rfl)) | (apply Dr.call; ((simp [formC, valC, srcsU, srcC, hks', e2]) <;> rfl); exact hc _) | (apply Dr.callG; (exact rfl); ((simp [formC, valC, srcsU, srcC, hks', e2]) <;> rfl); exact hc _))); exact Dr.nil) (by first | decide +kernel | exact rfl) (by (simp [M2.keep]) <;> rfl) ?_
        repeat refine Wp.a ?_
        refine Wp.i ?_ ?_ <;> intro h2
        · cases h2
        · (have := fa @wrap_id; repeat refine Wp.f ?_)
          exact ⟨by simp [trimO, trim, formC, valC, srcsU], hnx rfl⟩
      · cases h1
    | false =>
      rw [hbad rfl]
      (have := fa (a3 hk' e1 @srcC.eq_1); repeat refine Wp.f ?_)
      refine Wp.i ?_ ?_ <;> intro h1
      · (have := fa (a3 hk' e1 @srcC.eq_1); repeat refine Wp.f ?_)
        refine Wp.draw (by (simp [c_shape_Right_D1, I.need]) <;> rfl) (by first | ((simp [formC, valC, srcsU, srcC, hks', e2]) <;> rfl) | exact rfl) (by (simp [formC, valC, srcsU, srcC, hks', e2]) <;> rfl) (by (unfold c_shape_Right_D1); (repeat (first | ((first | apply Dr.op | apply Dr.opN | (apply Dr.opG; exact rfl)); ((simp [formC, valC, srcsU, srcC, hks', e2]) <;> rfl); (apply Evt.all; intro; (simp [formC, valC, srcsU, srcC, hks', e2]) <;> (try simp (disch := omega) only [wrap_id]) <;> first | exact ⟨rfl, rfl⟩ | exact rfl); ((simp [I.need]) <;> rfl)) | ((first | (apply Dr.opS; exact rfl; decide) | (apply Dr.opS0; exact rfl)); ((simp [I.need]) <;> rfl)) | (apply Dr.call; ((simp [formC, valC, srcsU, srcC, hks', e2]) <;> rfl); exact hc _) | (apply Dr.callG; (exact rfl); ((simp [formC, valC, srcsU, srcC, hks', e2]) <;> rfl); exact hc _))); exact Dr.nil) (by first | decide +kernel | exact rfl) (by (simp [M2.keep]) <;> rfl) ?_
        repeat refine Wp.a ?_
        refine Wp.i ?_ ?_ <;> intro h2
        · repeat refine Wp.a ?_
          refine Wp.ret ?_; simp [Res, resU, res1, c_shape_Right]
        · cases h2
      · cases h1
  · rw [List.take_of_length_le (by rw [List.length_zip]; omega)] at hI
    simp only [sr2S]
    repeat refine Wp.a ?_
    refine Wp.i ?_ ?_ <;> intro h1
    · simp at h1
    · exact Wp.exit ⟨rfl, hI, rfl⟩
def sr3S (x : FForm) (i : Nat) : S := ⟨[(1, .bp 0 0), (32, .sl true (x.vals.map valC)), (33, i64 x.vals.length), (34, i64 i)], [.box (formC x)]⟩
set_option maxHeartbeats 8000000 in
theorem sr3_loop (x : FForm) (hx : Small x) (r : Bool) (hr : ∀ v ∈ x.vals, valOk x v = false → r = false) :
    Wp T (.loop c_shape_Right_L3) (sr3S x 0) (fun _ => False) (Res c_shape_Right (.bool r))
      (fun b s' => b = 2 ∧ (∀ v ∈ x.vals, valOk x v = true) ∧ s' = ⟨[(1, .bp 0 0), (32, .sl true (x.vals.map valC)), (33, i64 x.vals.length), (34, i64 (x.vals.length : Nat)), (35, .bool false)], [.box (formC x)]⟩) := by
  have hbn := hx.vals
  refine Wp.count x.vals.length (fun i => sr3S x i) (fun i => ∀ v ∈ x.vals.take i, valOk x v = true) (fun i hi hI => ?_) (fun hI => ?_) 0 (by omega) (by simp)
  · have hi' : (i : Int) < x.vals.length := by omega
    have eg : x.vals[i]? = some x.vals[i] := List.getElem?_eq_getElem hi
    have hnx := fun h => take_all (p := fun v => valOk x v = true) hi hI h
    have hbad := hr _ (List.getElem_mem hi)
    generalize x.vals[i] = v at *
    have hw := fun st => ways_call x hx v.pos st
    have hwl := ways_len hx v.pos
    have hwo : ∀ e ∈ waysF x v.pos, EdgeOK x e := fun e he => ways_ok he
    unfold valOk at hnx hbad
    generalize waysF x v.pos = W at *
    simp only [formC, srcsU] at hw
    simp only [sr3S, formC]
    by_cases h1 : v.pos < 0
    · rw [hbad (by simp; omega)]
      (all_goals have := fa (a4 @valC.eq_1 hi' eg h1); repeat' first | refine Wp.v ?_ | (apply Wp.call; exact hw _) | (refine Wp.c ?_ ?_ <;> intro))
      refine Wp.ret ?_; simp [Res, resU, res1, c_shape_Right]
    · by_cases h2 : (x.nodes.length : Int) ≤ v.pos
      · rw [hbad (by simp; omega)]
        (all_goals have := fa (a5 @valC.eq_1 hi' eg h1 h2); repeat' first | refine Wp.v ?_ | (apply Wp.call; exact hw _) | (refine Wp.c ?_ ?_ <;> intro))
        refine Wp.ret ?_; simp [Res, resU, res1, c_shape_Right]
      · by_cases h3 : W.length = v.src.length
        · have h3' : (W.length : Int) = v.src.length := by omega
          have hl2 := sr2_loop x v W i hwo h3 hwl r (fun p hp h => hbad (by
            simp only [Bool.and_eq_false_iff]
            exact .inr (List.all_eq_false.2 ⟨p, hp, by simp [h]⟩)))
          simp only [sr2S, formC, valC, srcsU, h3'] at hl2
          (all_goals have := fa (a5 @valC.eq_1 @srcsU.eq_1 hi' eg (a3 h1 h2 h3')); repeat' first | refine Wp.v ?_ | (apply Wp.call; exact hw _) | (refine Wp.c ?_ ?_ <;> intro))
          refine hl2.imp (fun _ h => h.elim) (fun _ h => h) ?_
          rintro b s ⟨rfl, e1, rfl⟩
          rw [if_pos rfl]
          (have := fa @wrap_id; repeat refine Wp.f ?_)
          refine ⟨by simp [trimO, trim, srcsU], hnx ?_⟩
          simp only [Bool.and_eq_true, decide_eq_true_eq, List.all_eq_true]
          exact ⟨⟨⟨by omega, by omega⟩, h3⟩, e1⟩
        · have h3' : ¬ (W.length : Int) = v.src.length := by omega
          rw [hbad (by simp [h3])]
          (all_goals have := fa (a5 @valC.eq_1 @srcsU.eq_1 hi' eg (a3 h1 h2 h3')); repeat' first | refine Wp.v ?_ | (apply Wp.call; exact hw _) | (refine Wp.c ?_ ?_ <;> intro))
          refine Wp.ret ?_; simp [Res, resU, res1, c_shape_Right]
  · rw [List.take_of_length_le (Nat.le_refl _)] at hI
    simp only [sr3S]
    repeat refine Wp.a ?_
    refine Wp.i ?_ ?_ <;> intro h1
    · simp at h1
    · exact Wp.exit ⟨rfl, hI, rfl⟩
set_option maxHeartbeats 8000000 in
theorem right_call (x : FForm) (hx : Small x) (st : List Ob) : Cl T n_shape_Right [formU x] st (.bool (rightF x)) st := by
  refine Wp.pure (fn := c_shape_Right) rfl rfl rfl («as» := [formU x]) rfl ?_
  generalize hr : rightF x = r
  unfold rightF at hr
  by_cases h1 : x.entry < -1
  · have : r = false := by rw [← hr]; simp; omega
    rw [this]
    (all_goals have := fa (a2 @formC.eq_1 h1); repeat' first | refine Wp.v ?_ | (refine Wp.c ?_ ?_ <;> intro))
    refine Wp.ret ?_; simp [Res, resU, res1, c_shape_Right]
  · by_cases h2 : (x.nodes.length : Int) ≤ x.entry
    · have : r = false := by rw [← hr]; simp; omega
      rw [this]
      (all_goals have := fa (a3 @formC.eq_1 h1 h2); repeat' first | refine Wp.v ?_ | (refine Wp.c ?_ ?_ <;> intro))
      refine Wp.ret ?_; simp [Res, resU, res1, c_shape_Right]
    · have hl0 := sr0_loop x hx r (fun p hp h => by
        rw [← hr]
        simp only [Bool.and_eq_false_iff]
        exact .inl (.inr (List.all_eq_false.2 ⟨p, hp, by simp [h]⟩)))
      have hl3 := sr3_loop x hx r (fun p hp h => by
        rw [← hr]
        simp only [Bool.and_eq_false_iff]
        exact .inr (List.all_eq_false.2 ⟨p, hp, by simp [h]⟩))
      simp only [sr0S, formC] at hl0
      simp only [sr3S, formC] at hl3
      (all_goals have := fa (a3 @formC.eq_1 h1 h2); repeat' first | refine Wp.v ?_ | (refine Wp.c ?_ ?_ <;> intro))
      refine hl0.imp (fun _ h => h.elim) (fun _ h => h) ?_
      rintro b s ⟨rfl, e1, rfl⟩
      rw [if_pos rfl]
      (repeat' first | refine Wp.u ?_ | (refine Wp.c ?_ ?_ <;> intro))
      refine hl3.imp (fun _ h => h.elim) (fun _ h => h) ?_
      rintro b s ⟨rfl, e2, rfl⟩
      rw [if_pos rfl]
      have : r = true := by
        rw [← hr]
        simp only [Bool.and_eq_true, decide_eq_true_eq, List.all_eq_true]
        exact ⟨⟨⟨by omega, by omega⟩, e1⟩, e2⟩
      rw [this]
      (repeat' first | refine Wp.u ?_ | (refine Wp.c ?_ ?_ <;> intro))
      refine Wp.ret ?_; simp [Res, resU, res1, c_shape_Right]
def qa0S (x : FForm) (y : FNode) (n i : Nat) : S := ⟨[(1, .bp 0 0), (3, i64 x.nodes.length), (4, i64 n), (5, .bp 1 0), (6, i64 i)], [.box (formC x), .box (nodeC y)]⟩
set_option maxHeartbeats 8000000 in
theorem qa0_loop (x : FForm) (hx : Small x) (y : FNode) (n : Nat) (hl : y.args.length ≤ 20) (r : Bool) (hr : ∀ s ∈ y.args, argOk x n s = false → r = false) :
    Wp T (.loop c_joineryref14_Right_L2) (qa0S x y n 0) (fun _ => False) (Res c_joineryref14_Right (.bool r))
      (fun b s' => b = 2 ∧ (∀ s ∈ y.args, argOk x n s = true) ∧ s' = ⟨[(1, .bp 0 0), (3, i64 x.nodes.length), (4, i64 n), (5, .bp 1 0), (6, i64 (y.args.length : Nat)), (83, .bool false)], [.box (formC x), .box (nodeC y)]⟩) := by
  refine Wp.count y.args.length (fun i => qa0S x y n i) (fun i => ∀ s ∈ y.args.take i, argOk x n s = true) (fun i hi hI => ?_) (fun hI => ?_) 0 (by omega) (by simp)
  · have hi' : (i : Int) < y.args.length := by omega
    have eg : y.args[i]? = some y.args[i] := List.getElem?_eq_getElem hi
    have hnx := fun h => take_all (p := fun s => argOk x n s = true) hi hI h
    have hbad := hr _ (List.getElem_mem hi)
    have hv := fun st => rval_call x hx y.args[i] n st
    generalize y.args[i] = s at *
    simp only [qa0S]
    simp only [srcC, formC] at hv
    by_cases h2 : s.1 = 2
    · (have := fa (a3 @nodeC.eq_1 @srcsU.eq_1 hi'); repeat refine Wp.f ?_)
      refine Wp.i ?_ ?_ <;> intro h1
      · repeat refine Wp.a ?_
        refine Wp.draw (by (simp [c_joineryref14_Right_D1, I.need]) <;> rfl) (by first | ((simp [formC, nodeC, srcsU, srcC, hi', eg, h2]) <;> rfl) | exact rfl) (by (simp [formC, nodeC, srcsU, srcC, hi', eg, h2]) <;> rfl) (by (unfold c_joineryref14_Right_D1); (repeat (first | ((first | apply Dr.op | apply Dr.opN | (apply Dr.opG; exact rfl)); ((simp [formC, nodeC, srcsU, srcC, hi', eg, h2]) <;> rfl); (apply Evt.all; intro; (simp [formC, nodeC, srcsU, srcC, hi', eg, h2]) <;> (try simp (disch := omega) only [wrap_id]) <;> first | exact ⟨rfl, rfl⟩ | exact rfl); ((simp [I.need]) <;> rfl)) | ((first | (apply Dr.opS; exact rfl; decide) | (apply Dr.opS0; exact rfl)); ((simp [I.need]) <;> rfl)) | (apply Dr.call; ((simp [formC, nodeC, srcsU, srcC, hi', eg, h2]) <;> rfl); exact hv _) | (apply Dr.callG; (exact rfl); ((simp [formC, nodeC, srcsU, srcC, hi', eg, h2]) <;> rfl); exact hv _))); exact Dr.nil) (by first | decide +kernel | exact rfl) (by (simp [M2.keep]) <;> rfl) ?_
        repeat refine Wp.a ?_
        refine Wp.i ?_ ?_ <;> intro h3
        · cases h3
        · (have := fa @wrap_id; repeat refine Wp.f ?_)
          exact ⟨by simp [trimO, trim, formC, nodeC, outsU, srcsU], hnx (by simp [argOk, h2])⟩
      · cases h1
    · cases hvf : valF x s n with
      | true =>
        rw [hvf] at hv
        (have := fa (a3 @nodeC.eq_1 @srcsU.eq_1 hi'); repeat refine Wp.f ?_)
        refine Wp.i ?_ ?_ <;> intro h1
        · repeat refine Wp.a ?_
          refine Wp.draw (by (simp [c_joineryref14_Right_D1, I.need]) <;> rfl) (by first | ((simp [formC, nodeC, srcsU, srcC, hi', eg, h2]) <;> rfl) | exact rfl) (by (simp [formC, nodeC, srcsU, srcC, hi', eg, h2]) <;> rfl) (by (unfold c_joineryref14_Right_D1); (repeat (first | ((first | apply Dr.op | apply Dr.opN | (apply Dr.opG; exact rfl)); ((simp [formC, nodeC, srcsU, srcC, hi', eg, h2]) <;> rfl); (apply Evt.all; intro; (simp [formC, nodeC, srcsU, srcC, hi', eg, h2]) <;> (try simp (disch := omega) only [wrap_id]) <;> first | exact ⟨rfl, rfl⟩ | exact rfl); ((simp [I.need]) <;> rfl)) | ((first | (apply Dr.opS; exact rfl; decide) | (apply Dr.opS0; exact rfl)); ((simp [I.need]) <;> rfl)) | (apply Dr.call; ((simp [formC, nodeC, srcsU, srcC, hi', eg, h2]) <;> rfl); exact hv _) | (apply Dr.callG; (exact rfl); ((simp [formC, nodeC, srcsU, srcC, hi', eg, h2]) <;> rfl); exact hv _))); exact Dr.nil) (by first | decide +kernel | exact rfl) (by (simp [M2.keep]) <;> rfl) ?_
          repeat refine Wp.a ?_
          refine Wp.i ?_ ?_ <;> intro h3
          · cases h3
          · (have := fa @wrap_id; repeat refine Wp.f ?_)
            exact ⟨by simp [trimO, trim, formC, nodeC, outsU, srcsU], hnx (by simp [argOk, hvf])⟩
        · cases h1
      | false =>
        rw [hvf] at hv
        rw [hbad (by simp [argOk, hvf, h2])]
        (have := fa (a3 @nodeC.eq_1 @srcsU.eq_1 hi'); repeat refine Wp.f ?_)
        refine Wp.i ?_ ?_ <;> intro h1
        · repeat refine Wp.a ?_
          refine Wp.draw (by (simp [c_joineryref14_Right_D1, I.need]) <;> rfl) (by first | ((simp [formC, nodeC, srcsU, srcC, hi', eg, h2]) <;> rfl) | exact rfl) (by (simp [formC, nodeC, srcsU, srcC, hi', eg, h2]) <;> rfl) (by (unfold c_joineryref14_Right_D1); (repeat (first | ((first | apply Dr.op | apply Dr.opN | (apply Dr.opG; exact rfl)); ((simp [formC, nodeC, srcsU, srcC, hi', eg, h2]) <;> rfl); (apply Evt.all; intro; (simp [formC, nodeC, srcsU, srcC, hi', eg, h2]) <;> (try simp (disch := omega) only [wrap_id]) <;> first | exact ⟨rfl, rfl⟩ | exact rfl); ((simp [I.need]) <;> rfl)) | ((first | (apply Dr.opS; exact rfl; decide) | (apply Dr.opS0; exact rfl)); ((simp [I.need]) <;> rfl)) | (apply Dr.call; ((simp [formC, nodeC, srcsU, srcC, hi', eg, h2]) <;> rfl); exact hv _) | (apply Dr.callG; (exact rfl); ((simp [formC, nodeC, srcsU, srcC, hi', eg, h2]) <;> rfl); exact hv _))); exact Dr.nil) (by first | decide +kernel | exact rfl) (by (simp [M2.keep]) <;> rfl) ?_
          repeat refine Wp.a ?_
          refine Wp.i ?_ ?_ <;> intro h3
          · repeat refine Wp.a ?_
            refine Wp.ret ?_; simp [Res, resU, res1, c_joineryref14_Right]
          · cases h3
        · cases h1
  · rw [List.take_of_length_le (Nat.le_refl _)] at hI
    simp only [qa0S]
    (have := fa (a2 @nodeC.eq_1 @srcsU.eq_1); repeat refine Wp.f ?_)
    refine Wp.i ?_ ?_ <;> intro h1
    · simp at h1
    · exact Wp.exit ⟨rfl, hI, by simp [nodeC, srcsU]⟩
def qa1S (x : FForm) (y : FNode) (n i : Nat) : S := ⟨[(1, .bp 0 0), (3, i64 x.nodes.length), (4, i64 n), (5, .bp 1 0), (7, i64 i)], [.box (formC x), .box (nodeC y)]⟩
set_option maxHeartbeats 8000000 in
theorem qa1_loop (x : FForm) (y : FNode) (n : Nat) (hl : y.outs.length ≤ 20) (r : Bool) (hr : ∀ o ∈ y.outs, outOk x o = false → r = false) :
    Wp T (.loop c_joineryref14_Right_L3) (qa1S x y n 0) (fun _ => False) (Res c_joineryref14_Right (.bool r))
      (fun b s' => b = 4 ∧ (∀ o ∈ y.outs, outOk x o = true) ∧ s' = ⟨[(1, .bp 0 0), (3, i64 x.nodes.length), (4, i64 n), (5, .bp 1 0), (7, i64 (y.outs.length : Nat)), (108, .bool false)], [.box (formC x), .box (nodeC y)]⟩) := by
  refine Wp.count y.outs.length (fun i => qa1S x y n i) (fun i => ∀ o ∈ y.outs.take i, outOk x o = true) (fun i hi hI => ?_) (fun hI => ?_) 0 (by omega) (by simp)
  · have hi' : (i : Int) < y.outs.length := by omega
    have eg : y.outs[i]? = some y.outs[i] := List.getElem?_eq_getElem hi
    have hnx := fun h => take_all (p := fun o => outOk x o = true) hi hI h
    have hbad := hr _ (List.getElem_mem hi)
    generalize y.outs[i] = o at *
    simp only [qa1S]
    by_cases h1 : o < -1
    · rw [hbad (by simp [outOk]; omega)]
      (all_goals have := fa (a5 @nodeC.eq_1 @outsU.eq_1 @outC.eq_1 hi' (a2 eg h1)); repeat' first | refine Wp.v ?_ | (refine Wp.c ?_ ?_ <;> intro))
      refine Wp.ret ?_; simp [Res, resU, res1, c_joineryref14_Right]
    · by_cases h2 : (x.nodes.length : Int) ≤ o
      · rw [hbad (by simp [outOk]; omega)]
        (all_goals have := fa (a5 @nodeC.eq_1 @outsU.eq_1 @outC.eq_1 hi' (a3 eg h1 h2)); repeat' first | refine Wp.v ?_ | (refine Wp.c ?_ ?_ <;> intro))
        refine Wp.ret ?_; simp [Res, resU, res1, c_joineryref14_Right]
      · (all_goals have := fa (a5 @nodeC.eq_1 @outsU.eq_1 @outC.eq_1 hi' (a3 eg h1 h2)); repeat' first | refine Wp.v ?_ | (refine Wp.c ?_ ?_ <;> intro))
        (have := fa @wrap_id; repeat refine Wp.f ?_)
        exact ⟨trimO_len rfl, hnx (by simp [outOk]; omega)⟩
  · rw [List.take_of_length_le (Nat.le_refl _)] at hI
    simp only [qa1S]
    (have := fa (a2 @nodeC.eq_1 @outsU.eq_1); repeat refine Wp.f ?_)
    refine Wp.i ?_ ?_ <;> intro h1
    · simp at h1
    · exact Wp.exit ⟨rfl, hI, by simp [nodeC, outsU]⟩
def qa4S (x : FForm) (n : Nat) : S := ⟨[(1, .bp 0 0), (3, i64 x.nodes.length), (4, i64 n)], [.box (formC x)]⟩
set_option maxHeartbeats 16000000 in
theorem qa4_step (x : FForm) (hx : Small x) (y : FNode) (n : Nat) (hn : n < x.nodes.length) (eg : x.nodes[n]? = some y) (ha : y.args.length ≤ 20) (hos : y.outs.length ≤ 20) (r : Bool) (P : Prop) (hbad : nodeF x n y = false → r = false) (hnx : nodeF x n y = true → P) (B : Nat → S → Prop) :
    Wp T c_joineryref14_Right_L4 (qa4S x n) (fun s' => trimO (qa4S x n).st.length s' = qa4S x (n + 1) ∧ P) (Res c_joineryref14_Right (.bool r)) B := by
  have hbn := hx.nodes
  have hn' : (n : Int) < x.nodes.length := by omega
  have hw := fun st => rword_call y.op st
  have hka := fun st => rargs_call y.op st
  have hko := fun st => routs_call y.op st
  have hwn : opOk y.op = false → wordF y.op = [] := word_none
  have hws : opOk y.op = true → wordF y.op ≠ [] := word_some
  have hA := fun h => qa0_loop x hx y n ha r h
  have hB := fun h => qa1_loop x y n hos r h
  unfold nodeF at hbad hnx
  simp only [qa4S, formC]
  cases h0 : opOk y.op with
  | false =>
    rw [hbad (by simp [h0])]
    rw [hwn h0] at hw
    (all_goals have := fa (a3 hn' eg @nodeC.eq_1); repeat' first | refine Wp.v ?_ | (refine Wp.c ?_ ?_ <;> intro))
    refine Wp.draw (by (simp [c_joineryref14_Right_D0, I.need]) <;> rfl) (by first | ((simp [nodeC, formC]) <;> rfl) | exact rfl) (by (simp [nodeC, formC]) <;> rfl) (by (unfold c_joineryref14_Right_D0); (repeat (first | ((first | apply Dr.op | apply Dr.opN | (apply Dr.opG; exact rfl)); ((simp [nodeC, formC]) <;> rfl); (apply Evt.all; intro; (simp [nodeC, formC]) <;> (try simp (disch := omega) only [wrap_id]) <;> first | exact ⟨rfl, rfl⟩ | exact rfl); ((simp [I.need]) <;> rfl)) | ((first | (apply Dr.opS; exact rfl; decide) | (apply Dr.opS0; exact rfl)); ((simp [I.need]) <;> rfl)) | (apply Dr.call; ((simp [nodeC, formC]) <;> rfl); exact hw _) | (apply Dr.callG; (exact rfl); ((simp [nodeC, formC]) <;> rfl); exact hw _) | (apply Dr.call; ((simp [nodeC, formC]) <;> rfl); exact hka _) | (apply Dr.callG; (exact rfl); ((simp [nodeC, formC]) <;> rfl); exact hka _) | (apply Dr.call; ((simp [nodeC, formC]) <;> rfl); exact hko _) | (apply Dr.callG; (exact rfl); ((simp [nodeC, formC]) <;> rfl); exact hko _))); exact Dr.nil) (by first | decide +kernel | exact rfl) (by (simp [M2.keep]) <;> rfl) ?_
    (repeat' first | refine Wp.u ?_ | (refine Wp.c ?_ ?_ <;> intro))
    refine Wp.ret ?_; simp [Res, resU, res1, c_joineryref14_Right]
  | true =>
    have hwne : (wordF y.op).isEmpty = false := List.isEmpty_eq_false_iff.2 (hws h0)
    generalize wordF y.op = w at *
    generalize argsF y.op = ka at *
    generalize outsF y.op = ko at *
    by_cases h1 : y.args.length = ka
    · have h1' : (y.args.length : Int) = ka := by omega
      by_cases h2 : y.outs.length = ko
      · have h2' : (y.outs.length : Int) = ko := by omega
        have hyes : 0 ≤ y.n → y.n ≤ 99 → (y.n = 0 ∨ y.op = 15) → (∀ s ∈ y.args, argOk x n s = true) → (∀ o ∈ y.outs, outOk x o = true) → P := fun a b h e1 e2 => by
          apply hnx
          simp only [Bool.and_eq_true, decide_eq_true_eq, Bool.or_eq_true, List.all_eq_true]
          exact ⟨⟨⟨⟨⟨⟨⟨h0, h1⟩, h2⟩, a⟩, b⟩, h⟩, e1⟩, e2⟩
        have hA := hA (fun s hs h => hbad (by simp only [Bool.and_eq_false_iff]; exact .inl (.inr (List.all_eq_false.2 ⟨s, hs, by simp [h]⟩))))
        have hB := hB (fun s hs h => hbad (by simp only [Bool.and_eq_false_iff]; exact .inr (List.all_eq_false.2 ⟨s, hs, by simp [h]⟩)))
        simp only [qa0S, formC, nodeC, srcsU, outsU, h1', h2'] at hA
        simp only [qa1S, formC, nodeC, srcsU, outsU, h1', h2'] at hB
        by_cases h7 : y.op = 15
        · by_cases h3 : y.n < 0
          · rw [hbad (by simp; omega)]
            (all_goals have := fa (a3 hn' eg @nodeC.eq_1); repeat' first | refine Wp.v ?_ | (refine Wp.c ?_ ?_ <;> intro))
            refine Wp.draw (by (simp [c_joineryref14_Right_D0, I.need]) <;> rfl) (by first | ((simp [nodeC, srcsU, outsU, hwne, h1', h2']) <;> rfl) | exact rfl) (by (simp [nodeC, srcsU, outsU, hwne, h1', h2']) <;> rfl) (by (unfold c_joineryref14_Right_D0); (repeat (first | ((first | apply Dr.op | apply Dr.opN | (apply Dr.opG; exact rfl)); ((simp [nodeC, srcsU, outsU, hwne, h1', h2']) <;> rfl); (apply Evt.all; intro; (simp [nodeC, srcsU, outsU, hwne, h1', h2']) <;> (try simp (disch := omega) only [wrap_id]) <;> first | exact ⟨rfl, rfl⟩ | exact rfl); ((simp [I.need]) <;> rfl)) | ((first | (apply Dr.opS; exact rfl; decide) | (apply Dr.opS0; exact rfl)); ((simp [I.need]) <;> rfl)) | (apply Dr.call; ((simp [nodeC, srcsU, outsU, hwne, h1', h2']) <;> rfl); exact hw _) | (apply Dr.callG; (exact rfl); ((simp [nodeC, srcsU, outsU, hwne, h1', h2']) <;> rfl); exact hw _) | (apply Dr.call; ((simp [nodeC, srcsU, outsU, hwne, h1', h2']) <;> rfl); exact hka _) | (apply Dr.callG; (exact rfl); ((simp [nodeC, srcsU, outsU, hwne, h1', h2']) <;> rfl); exact hka _) | (apply Dr.call; ((simp [nodeC, srcsU, outsU, hwne, h1', h2']) <;> rfl); exact hko _) | (apply Dr.callG; (exact rfl); ((simp [nodeC, srcsU, outsU, hwne, h1', h2']) <;> rfl); exact hko _))); exact Dr.nil) (by first | decide +kernel | exact rfl) (by (simp [M2.keep]) <;> rfl) ?_
            (all_goals have := fa (a3 @nodeC.eq_1 h7 h3); repeat' first | refine Wp.v ?_ | (refine Wp.c ?_ ?_ <;> intro))
            refine Wp.ret ?_; simp [Res, resU, res1, c_joineryref14_Right]
          · by_cases h4 : (99 : Int) < y.n
            · rw [hbad (by simp; omega)]
              (all_goals have := fa (a3 hn' eg @nodeC.eq_1); repeat' first | refine Wp.v ?_ | (refine Wp.c ?_ ?_ <;> intro))
              refine Wp.draw (by (simp [c_joineryref14_Right_D0, I.need]) <;> rfl) (by first | ((simp [nodeC, srcsU, outsU, hwne, h1', h2']) <;> rfl) | exact rfl) (by (simp [nodeC, srcsU, outsU, hwne, h1', h2']) <;> rfl) (by (unfold c_joineryref14_Right_D0); (repeat (first | ((first | apply Dr.op | apply Dr.opN | (apply Dr.opG; exact rfl)); ((simp [nodeC, srcsU, outsU, hwne, h1', h2']) <;> rfl); (apply Evt.all; intro; (simp [nodeC, srcsU, outsU, hwne, h1', h2']) <;> (try simp (disch := omega) only [wrap_id]) <;> first | exact ⟨rfl, rfl⟩ | exact rfl); ((simp [I.need]) <;> rfl)) | ((first | (apply Dr.opS; exact rfl; decide) | (apply Dr.opS0; exact rfl)); ((simp [I.need]) <;> rfl)) | (apply Dr.call; ((simp [nodeC, srcsU, outsU, hwne, h1', h2']) <;> rfl); exact hw _) | (apply Dr.callG; (exact rfl); ((simp [nodeC, srcsU, outsU, hwne, h1', h2']) <;> rfl); exact hw _) | (apply Dr.call; ((simp [nodeC, srcsU, outsU, hwne, h1', h2']) <;> rfl); exact hka _) | (apply Dr.callG; (exact rfl); ((simp [nodeC, srcsU, outsU, hwne, h1', h2']) <;> rfl); exact hka _) | (apply Dr.call; ((simp [nodeC, srcsU, outsU, hwne, h1', h2']) <;> rfl); exact hko _) | (apply Dr.callG; (exact rfl); ((simp [nodeC, srcsU, outsU, hwne, h1', h2']) <;> rfl); exact hko _))); exact Dr.nil) (by first | decide +kernel | exact rfl) (by (simp [M2.keep]) <;> rfl) ?_
              (all_goals have := fa (a4 @nodeC.eq_1 h7 h3 h4); repeat' first | refine Wp.v ?_ | (refine Wp.c ?_ ?_ <;> intro))
              refine Wp.ret ?_; simp [Res, resU, res1, c_joineryref14_Right]
            · rw [h7] at hA hB hw hka hko
              (all_goals have := fa (a4 hn' eg @nodeC.eq_1 h7); repeat' first | refine Wp.v ?_ | (refine Wp.c ?_ ?_ <;> intro))
              refine Wp.draw (by (simp [c_joineryref14_Right_D0, I.need]) <;> rfl) (by first | ((simp [nodeC, srcsU, outsU, hwne, h1', h2']) <;> rfl) | exact rfl) (by (simp [nodeC, srcsU, outsU, hwne, h1', h2']) <;> rfl) (by (unfold c_joineryref14_Right_D0); (repeat (first | ((first | apply Dr.op | apply Dr.opN | (apply Dr.opG; exact rfl)); ((simp [nodeC, srcsU, outsU, hwne, h1', h2']) <;> rfl); (apply Evt.all; intro; (simp [nodeC, srcsU, outsU, hwne, h1', h2']) <;> (try simp (disch := omega) only [wrap_id]) <;> first | exact ⟨rfl, rfl⟩ | exact rfl); ((simp [I.need]) <;> rfl)) | ((first | (apply Dr.opS; exact rfl; decide) | (apply Dr.opS0; exact rfl)); ((simp [I.need]) <;> rfl)) | (apply Dr.call; ((simp [nodeC, srcsU, outsU, hwne, h1', h2']) <;> rfl); exact hw _) | (apply Dr.callG; (exact rfl); ((simp [nodeC, srcsU, outsU, hwne, h1', h2']) <;> rfl); exact hw _) | (apply Dr.call; ((simp [nodeC, srcsU, outsU, hwne, h1', h2']) <;> rfl); exact hka _) | (apply Dr.callG; (exact rfl); ((simp [nodeC, srcsU, outsU, hwne, h1', h2']) <;> rfl); exact hka _) | (apply Dr.call; ((simp [nodeC, srcsU, outsU, hwne, h1', h2']) <;> rfl); exact hko _) | (apply Dr.callG; (exact rfl); ((simp [nodeC, srcsU, outsU, hwne, h1', h2']) <;> rfl); exact hko _))); exact Dr.nil) (by first | decide +kernel | exact rfl) (by (simp [M2.keep]) <;> rfl) ?_
              (all_goals have := fa (a5 @nodeC.eq_1 @srcsU.eq_1 @outsU.eq_1 h3 h4); repeat' first | refine Wp.v ?_ | (refine Wp.c ?_ ?_ <;> intro))
              refine hA.imp (fun _ h => h.elim) (fun _ h => h) ?_
              rintro b s ⟨rfl, e1, rfl⟩
              rw [if_pos rfl]
              (repeat' first | refine Wp.u ?_ | (refine Wp.c ?_ ?_ <;> intro))
              refine hB.imp (fun _ h => h.elim) (fun _ h => h) ?_
              rintro b s ⟨rfl, e2, rfl⟩
              rw [if_pos rfl]
              (have := fa @wrap_id; repeat refine Wp.f ?_)
              exact ⟨by simp [trimO, trim, formC], hyes (by omega) (by omega) (.inr h7) e1 e2⟩
        · by_cases h6 : y.n = 0
          · rw [h6] at hA hB
            (all_goals have := fa (a4 hn' eg @nodeC.eq_1 h6); repeat' first | refine Wp.v ?_ | (refine Wp.c ?_ ?_ <;> intro))
            refine Wp.draw (by (simp [c_joineryref14_Right_D0, I.need]) <;> rfl) (by first | ((simp [nodeC, srcsU, outsU, hwne, h1', h2']) <;> rfl) | exact rfl) (by (simp [nodeC, srcsU, outsU, hwne, h1', h2']) <;> rfl) (by (unfold c_joineryref14_Right_D0); (repeat (first | ((first | apply Dr.op | apply Dr.opN | (apply Dr.opG; exact rfl)); ((simp [nodeC, srcsU, outsU, hwne, h1', h2']) <;> rfl); (apply Evt.all; intro; (simp [nodeC, srcsU, outsU, hwne, h1', h2']) <;> (try simp (disch := omega) only [wrap_id]) <;> first | exact ⟨rfl, rfl⟩ | exact rfl); ((simp [I.need]) <;> rfl)) | ((first | (apply Dr.opS; exact rfl; decide) | (apply Dr.opS0; exact rfl)); ((simp [I.need]) <;> rfl)) | (apply Dr.call; ((simp [nodeC, srcsU, outsU, hwne, h1', h2']) <;> rfl); exact hw _) | (apply Dr.callG; (exact rfl); ((simp [nodeC, srcsU, outsU, hwne, h1', h2']) <;> rfl); exact hw _) | (apply Dr.call; ((simp [nodeC, srcsU, outsU, hwne, h1', h2']) <;> rfl); exact hka _) | (apply Dr.callG; (exact rfl); ((simp [nodeC, srcsU, outsU, hwne, h1', h2']) <;> rfl); exact hka _) | (apply Dr.call; ((simp [nodeC, srcsU, outsU, hwne, h1', h2']) <;> rfl); exact hko _) | (apply Dr.callG; (exact rfl); ((simp [nodeC, srcsU, outsU, hwne, h1', h2']) <;> rfl); exact hko _))); exact Dr.nil) (by first | decide +kernel | exact rfl) (by (simp [M2.keep]) <;> rfl) ?_
            (all_goals have := fa (a4 @nodeC.eq_1 @srcsU.eq_1 @outsU.eq_1 h7); repeat' first | refine Wp.v ?_ | (refine Wp.c ?_ ?_ <;> intro))
            refine hA.imp (fun _ h => h.elim) (fun _ h => h) ?_
            rintro b s ⟨rfl, e1, rfl⟩
            rw [if_pos rfl]
            (repeat' first | refine Wp.u ?_ | (refine Wp.c ?_ ?_ <;> intro))
            refine hB.imp (fun _ h => h.elim) (fun _ h => h) ?_
            rintro b s ⟨rfl, e2, rfl⟩
            rw [if_pos rfl]
            (have := fa @wrap_id; repeat refine Wp.f ?_)
            exact ⟨by simp [trimO, trim, formC], hyes (by omega) (by omega) (.inl h6) e1 e2⟩
          · rw [hbad (by simp [h6, h7])]
            (all_goals have := fa (a3 hn' eg @nodeC.eq_1); repeat' first | refine Wp.v ?_ | (refine Wp.c ?_ ?_ <;> intro))
            refine Wp.draw (by (simp [c_joineryref14_Right_D0, I.need]) <;> rfl) (by first | ((simp [nodeC, srcsU, outsU, hwne, h1', h2']) <;> rfl) | exact rfl) (by (simp [nodeC, srcsU, outsU, hwne, h1', h2']) <;> rfl) (by (unfold c_joineryref14_Right_D0); (repeat (first | ((first | apply Dr.op | apply Dr.opN | (apply Dr.opG; exact rfl)); ((simp [nodeC, srcsU, outsU, hwne, h1', h2']) <;> rfl); (apply Evt.all; intro; (simp [nodeC, srcsU, outsU, hwne, h1', h2']) <;> (try simp (disch := omega) only [wrap_id]) <;> first | exact ⟨rfl, rfl⟩ | exact rfl); ((simp [I.need]) <;> rfl)) | ((first | (apply Dr.opS; exact rfl; decide) | (apply Dr.opS0; exact rfl)); ((simp [I.need]) <;> rfl)) | (apply Dr.call; ((simp [nodeC, srcsU, outsU, hwne, h1', h2']) <;> rfl); exact hw _) | (apply Dr.callG; (exact rfl); ((simp [nodeC, srcsU, outsU, hwne, h1', h2']) <;> rfl); exact hw _) | (apply Dr.call; ((simp [nodeC, srcsU, outsU, hwne, h1', h2']) <;> rfl); exact hka _) | (apply Dr.callG; (exact rfl); ((simp [nodeC, srcsU, outsU, hwne, h1', h2']) <;> rfl); exact hka _) | (apply Dr.call; ((simp [nodeC, srcsU, outsU, hwne, h1', h2']) <;> rfl); exact hko _) | (apply Dr.callG; (exact rfl); ((simp [nodeC, srcsU, outsU, hwne, h1', h2']) <;> rfl); exact hko _))); exact Dr.nil) (by first | decide +kernel | exact rfl) (by (simp [M2.keep]) <;> rfl) ?_
            (all_goals have := fa (a3 @nodeC.eq_1 h6 h7); repeat' first | refine Wp.v ?_ | (refine Wp.c ?_ ?_ <;> intro))
            refine Wp.ret ?_; simp [Res, resU, res1, c_joineryref14_Right]
      · have h2' : ¬ (y.outs.length : Int) = ko := by omega
        rw [hbad (by simp [h2])]
        (all_goals have := fa (a3 hn' eg @nodeC.eq_1); repeat' first | refine Wp.v ?_ | (refine Wp.c ?_ ?_ <;> intro))
        refine Wp.draw (by (simp [c_joineryref14_Right_D0, I.need]) <;> rfl) (by first | ((simp [nodeC, srcsU, outsU, hwne, h1', h2']) <;> rfl) | exact rfl) (by (simp [nodeC, srcsU, outsU, hwne, h1', h2']) <;> rfl) (by (unfold c_joineryref14_Right_D0); (repeat (first | ((first | apply Dr.op | apply Dr.opN | (apply Dr.opG; exact rfl)); ((simp [nodeC, srcsU, outsU, hwne, h1', h2']) <;> rfl); (apply Evt.all; intro; (simp [nodeC, srcsU, outsU, hwne, h1', h2']) <;> (try simp (disch := omega) only [wrap_id]) <;> first | exact ⟨rfl, rfl⟩ | exact rfl); ((simp [I.need]) <;> rfl)) | ((first | (apply Dr.opS; exact rfl; decide) | (apply Dr.opS0; exact rfl)); ((simp [I.need]) <;> rfl)) | (apply Dr.call; ((simp [nodeC, srcsU, outsU, hwne, h1', h2']) <;> rfl); exact hw _) | (apply Dr.callG; (exact rfl); ((simp [nodeC, srcsU, outsU, hwne, h1', h2']) <;> rfl); exact hw _) | (apply Dr.call; ((simp [nodeC, srcsU, outsU, hwne, h1', h2']) <;> rfl); exact hka _) | (apply Dr.callG; (exact rfl); ((simp [nodeC, srcsU, outsU, hwne, h1', h2']) <;> rfl); exact hka _) | (apply Dr.call; ((simp [nodeC, srcsU, outsU, hwne, h1', h2']) <;> rfl); exact hko _) | (apply Dr.callG; (exact rfl); ((simp [nodeC, srcsU, outsU, hwne, h1', h2']) <;> rfl); exact hko _))); exact Dr.nil) (by first | decide +kernel | exact rfl) (by (simp [M2.keep]) <;> rfl) ?_
        (repeat' first | refine Wp.u ?_ | (refine Wp.c ?_ ?_ <;> intro))
        refine Wp.ret ?_; simp [Res, resU, res1, c_joineryref14_Right]
    · have h1' : ¬ (y.args.length : Int) = ka := by omega
      rw [hbad (by simp [h1])]
      (all_goals have := fa (a3 hn' eg @nodeC.eq_1); repeat' first | refine Wp.v ?_ | (refine Wp.c ?_ ?_ <;> intro))
      refine Wp.draw (by (simp [c_joineryref14_Right_D0, I.need]) <;> rfl) (by first | ((simp [nodeC, srcsU, outsU, hwne, h1']) <;> rfl) | exact rfl) (by (simp [nodeC, srcsU, outsU, hwne, h1']) <;> rfl) (by (unfold c_joineryref14_Right_D0); (repeat (first | ((first | apply Dr.op | apply Dr.opN | (apply Dr.opG; exact rfl)); ((simp [nodeC, srcsU, outsU, hwne, h1']) <;> rfl); (apply Evt.all; intro; (simp [nodeC, srcsU, outsU, hwne, h1']) <;> (try simp (disch := omega) only [wrap_id]) <;> first | exact ⟨rfl, rfl⟩ | exact rfl); ((simp [I.need]) <;> rfl)) | ((first | (apply Dr.opS; exact rfl; decide) | (apply Dr.opS0; exact rfl)); ((simp [I.need]) <;> rfl)) | (apply Dr.call; ((simp [nodeC, srcsU, outsU, hwne, h1']) <;> rfl); exact hw _) | (apply Dr.callG; (exact rfl); ((simp [nodeC, srcsU, outsU, hwne, h1']) <;> rfl); exact hw _) | (apply Dr.call; ((simp [nodeC, srcsU, outsU, hwne, h1']) <;> rfl); exact hka _) | (apply Dr.callG; (exact rfl); ((simp [nodeC, srcsU, outsU, hwne, h1']) <;> rfl); exact hka _) | (apply Dr.call; ((simp [nodeC, srcsU, outsU, hwne, h1']) <;> rfl); exact hko _) | (apply Dr.callG; (exact rfl); ((simp [nodeC, srcsU, outsU, hwne, h1']) <;> rfl); exact hko _))); exact Dr.nil) (by first | decide +kernel | exact rfl) (by (simp [M2.keep]) <;> rfl) ?_
      (repeat' first | refine Wp.u ?_ | (refine Wp.c ?_ ?_ <;> intro))
      refine Wp.ret ?_; simp [Res, resU, res1, c_joineryref14_Right]
theorem qa4_loop (x : FForm) (hx : Small x) (r : Bool) (hr : ∀ p ∈ x.nodes.zipIdx, nodeF x p.2 p.1 = false → r = false) :
    Wp T (.loop c_joineryref14_Right_L4) (qa4S x 0) (fun _ => False) (Res c_joineryref14_Right (.bool r))
      (fun b s' => b = 0 ∧ (∀ p ∈ x.nodes.zipIdx, nodeF x p.2 p.1 = true) ∧ s' = ⟨[(1, .bp 0 0), (3, i64 x.nodes.length), (4, i64 (x.nodes.length : Nat)), (26, .bool false)], [.box (formC x)]⟩) := by
  refine Wp.count x.nodes.length (fun i => qa4S x i) (fun i => ∀ p ∈ x.nodes.zipIdx.take i, nodeF x p.2 p.1 = true) (fun i hi hI => ?_) (fun hI => ?_) 0 (by omega) (by simp)
  · have hz : i < x.nodes.zipIdx.length := by simpa using hi
    have ez : x.nodes.zipIdx[i] = (x.nodes[i], i) := by simp
    have hnx := fun h => take_all (p := fun p : FNode × Nat => nodeF x p.2 p.1 = true) hz hI h
    have hbad := hr _ (List.getElem_mem hz)
    rw [ez] at hnx hbad
    exact qa4_step x hx x.nodes[i] i hi (List.getElem?_eq_getElem hi) (hx.args _ (List.getElem_mem hi)) (hx.outs _ (List.getElem_mem hi)) r _ hbad hnx _
  · rw [List.take_of_length_le (by simp)] at hI
    simp only [qa4S]
    repeat refine Wp.a ?_
    refine Wp.i ?_ ?_ <;> intro h1
    · simp at h1
    · exact Wp.exit ⟨rfl, hI, rfl⟩
def qv6S (x : FForm) (v : FVal) (W : List (Int × Int)) (i k : Nat) : S := ⟨[(1, .bp 0 0), (3, i64 x.nodes.length), (8, i64 i), (9, .bp 1 0), (10, srcsU W), (11, i64 k)], [.box (formC x), .box (valC v)]⟩
set_option maxHeartbeats 8000000 in
theorem qv6_loop (x : FForm) (hx : Small x) (v : FVal) (W : List (Int × Int)) (i : Nat) (hW : ∀ e ∈ W, EdgeOK x e) (hl : W.length = v.src.length) (hb : W.length ≤ 1300) (r : Bool) (hr : ∀ p ∈ v.src.zip W, comesF x p.1 p.2 = false → r = false) :
    Wp T (.loop c_joineryref14_Right_L6) (qv6S x v W i 0) (fun _ => False) (Res c_joineryref14_Right (.bool r))
      (fun b s' => b = 8 ∧ (∀ p ∈ v.src.zip W, comesF x p.1 p.2 = true) ∧ s' = ⟨[(1, .bp 0 0), (3, i64 x.nodes.length), (8, i64 i), (9, .bp 1 0), (10, srcsU W), (11, i64 (W.length : Nat)), (162, .bool false)], [.box (formC x), .box (valC v)]⟩) := by
  refine Wp.count W.length (fun k => qv6S x v W i k) (fun k => ∀ p ∈ (v.src.zip W).take k, comesF x p.1 p.2 = true) (fun k hk hI => ?_) (fun hI => ?_) 0 (by omega) (by simp)
  · have hk' : (k : Int) < W.length := by omega
    have hks : k < v.src.length := by omega
    have hks' : (k : Int) < v.src.length := by omega
    have hz : k < (v.src.zip W).length := by rw [List.length_zip]; omega
    have ez : (v.src.zip W)[k] = (v.src[k], W[k]) := List.getElem_zip
    have e1 : W[k]? = some W[k] := List.getElem?_eq_getElem hk
    have e2 : v.src[k]? = some v.src[k] := List.getElem?_eq_getElem hks
    have hnx := fun h => take_all (p := fun p : (Int × Int) × (Int × Int) => comesF x p.1 p.2 = true) hz hI h
    have hbad := hr _ (List.getElem_mem hz)
    rw [ez] at hnx hbad
    have hc := fun st => may_call x hx v.src[k] W[k] (hW _ (List.getElem_mem hk)) st
    simp only at hnx hbad
    generalize comesF x v.src[k] W[k] = cf at *
    generalize W[k] = e at *
    generalize v.src[k] = s at *
    simp only [formC, srcC] at hc
    simp only [qv6S, srcsU]
    cases cf with
    | true =>
      (have := fa hk'; repeat refine Wp.f ?_)
      refine Wp.i ?_ ?_ <;> intro h1
      · repeat refine Wp.a ?_
        refine Wp.draw (by (simp [c_joineryref14_Right_D5, I.need]) <;> rfl) (by first | ((simp [formC, valC, srcsU, srcC, hk', e1, hks', e2]) <;> rfl) | exact rfl) (by (simp [formC, valC, srcsU, srcC, hk', e1, hks', e2]) <;> rfl) (by (unfold c_joineryref14_Right_D5); (repeat (first | ((first | apply Dr.op | apply Dr.opN | (apply Dr.opG; exact rfl)); ((simp [formC, valC, srcsU, srcC, hk', e1, hks', e2]) <;> rfl); (apply Evt.all; intro; (simp [formC, valC, srcsU, srcC, hk', e1, hks', e2]) <;> (try simp (disch := omega) only [wrap_id]) <;> first | exact ⟨rfl, rfl⟩ | exact rfl); ((simp [I.need]) <;> rfl)) | ((first | (apply Dr.opS; exact rfl; decide) | (apply Dr.opS0; exact rfl)); ((simp [I.need]) <;> rfl)) | (apply Dr.call; ((simp [formC, valC, srcsU, srcC, hk', e1, hks', e2]) <;> rfl); exact hc _) | (apply Dr.callG; (exact rfl); ((simp [formC, valC, srcsU, srcC, hk', e1, hks', e2]) <;> rfl); exact hc _))); exact Dr.nil) (by first | decide +kernel | exact rfl) (by (simp [M2.keep]) <;> rfl) ?_
        repeat refine Wp.a ?_
        refine Wp.i ?_ ?_ <;> intro h2
        · cases h2
        · (have := fa @wrap_id; repeat refine Wp.f ?_)
          exact ⟨by simp [trimO, trim, formC, valC, srcsU], hnx rfl⟩
      · cases h1
    | false =>
      rw [hbad rfl]
      (have := fa hk'; repeat refine Wp.f ?_)
      refine Wp.i ?_ ?_ <;> intro h1
      · repeat refine Wp.a ?_
        refine Wp.draw (by (simp [c_joineryref14_Right_D5, I.need]) <;> rfl) (by first | ((simp [formC, valC, srcsU, srcC, hk', e1, hks', e2]) <;> rfl) | exact rfl) (by (simp [formC, valC, srcsU, srcC, hk', e1, hks', e2]) <;> rfl) (by (unfold c_joineryref14_Right_D5); (repeat (first | ((first | apply Dr.op | apply Dr.opN | (apply Dr.opG; exact rfl)); ((simp [formC, valC, srcsU, srcC, hk', e1, hks', e2]) <;> rfl); (apply Evt.all; intro; (simp [formC, valC, srcsU, srcC, hk', e1, hks', e2]) <;> (try simp (disch := omega) only [wrap_id]) <;> first | exact ⟨rfl, rfl⟩ | exact rfl); ((simp [I.need]) <;> rfl)) | ((first | (apply Dr.opS; exact rfl; decide) | (apply Dr.opS0; exact rfl)); ((simp [I.need]) <;> rfl)) | (apply Dr.call; ((simp [formC, valC, srcsU, srcC, hk', e1, hks', e2]) <;> rfl); exact hc _) | (apply Dr.callG; (exact rfl); ((simp [formC, valC, srcsU, srcC, hk', e1, hks', e2]) <;> rfl); exact hc _))); exact Dr.nil) (by first | decide +kernel | exact rfl) (by (simp [M2.keep]) <;> rfl) ?_
        repeat refine Wp.a ?_
        refine Wp.i ?_ ?_ <;> intro h2
        · repeat refine Wp.a ?_
          refine Wp.ret ?_; simp [Res, resU, res1, c_joineryref14_Right]
        · cases h2
      · cases h1
  · rw [List.take_of_length_le (by rw [List.length_zip]; omega)] at hI
    simp only [qv6S, srcsU]
    repeat refine Wp.a ?_
    refine Wp.i ?_ ?_ <;> intro h1
    · simp at h1
    · exact Wp.exit ⟨rfl, hI, rfl⟩
def qv7S (x : FForm) (i : Nat) : S := ⟨[(1, .bp 0 0), (3, i64 x.nodes.length), (8, i64 i)], [.box (formC x)]⟩
set_option maxHeartbeats 8000000 in
theorem qv7_loop (x : FForm) (hx : Small x) (r : Bool) (hr : ∀ v ∈ x.vals, valOk x v = false → r = false) :
    Wp T (.loop c_joineryref14_Right_L7) (qv7S x 0) (fun _ => False) (Res c_joineryref14_Right (.bool r))
      (fun b s' => b = 6 ∧ (∀ v ∈ x.vals, valOk x v = true) ∧ s' = ⟨[(1, .bp 0 0), (3, i64 x.nodes.length), (8, i64 (x.vals.length : Nat)), (130, .bool false)], [.box (formC x)]⟩) := by
  have hbn := hx.vals
  refine Wp.count x.vals.length (fun i => qv7S x i) (fun i => ∀ v ∈ x.vals.take i, valOk x v = true) (fun i hi hI => ?_) (fun hI => ?_) 0 (by omega) (by simp)
  · have hi' : (i : Int) < x.vals.length := by omega
    have eg : x.vals[i]? = some x.vals[i] := List.getElem?_eq_getElem hi
    have hnx := fun h => take_all (p := fun v => valOk x v = true) hi hI h
    have hbad := hr _ (List.getElem_mem hi)
    generalize x.vals[i] = v at *
    have hw := fun st => rways_call x hx v.pos st
    have hwl := ways_len hx v.pos
    have hwo : ∀ e ∈ waysF x v.pos, EdgeOK x e := fun e he => ways_ok he
    unfold valOk at hnx hbad
    generalize waysF x v.pos = W at *
    simp only [formC, srcsU] at hw
    simp only [qv7S, formC]
    by_cases h1 : v.pos < 0
    · rw [hbad (by simp; omega)]
      (all_goals have := fa (a4 @valC.eq_1 hi' eg h1); repeat' first | refine Wp.v ?_ | (apply Wp.call; exact hw _) | (refine Wp.c ?_ ?_ <;> intro))
      refine Wp.ret ?_; simp [Res, resU, res1, c_joineryref14_Right]
    · by_cases h2 : (x.nodes.length : Int) ≤ v.pos
      · rw [hbad (by simp; omega)]
        (all_goals have := fa (a5 @valC.eq_1 hi' eg h1 h2); repeat' first | refine Wp.v ?_ | (apply Wp.call; exact hw _) | (refine Wp.c ?_ ?_ <;> intro))
        refine Wp.ret ?_; simp [Res, resU, res1, c_joineryref14_Right]
      · by_cases h3 : W.length = v.src.length
        · have h3' : (W.length : Int) = v.src.length := by omega
          have hl2 := qv6_loop x hx v W i hwo h3 hwl r (fun p hp h => hbad (by
            simp only [Bool.and_eq_false_iff]
            exact .inr (List.all_eq_false.2 ⟨p, hp, by simp [h]⟩)))
          simp only [qv6S, formC, valC, srcsU] at hl2
          (all_goals have := fa (a5 @valC.eq_1 @srcsU.eq_1 hi' eg (a3 h1 h2 h3')); repeat' first | refine Wp.v ?_ | (apply Wp.call; exact hw _) | (refine Wp.c ?_ ?_ <;> intro))
          refine hl2.imp (fun _ h => h.elim) (fun _ h => h) ?_
          rintro b s ⟨rfl, e1, rfl⟩
          rw [if_pos rfl]
          (have := fa @wrap_id; repeat refine Wp.f ?_)
          refine ⟨by simp [trimO, trim, srcsU], hnx ?_⟩
          simp only [Bool.and_eq_true, decide_eq_true_eq, List.all_eq_true]
          exact ⟨⟨⟨by omega, by omega⟩, h3⟩, e1⟩
        · have h3' : ¬ (W.length : Int) = v.src.length := by omega
          rw [hbad (by simp [h3])]
          (all_goals have := fa (a5 @valC.eq_1 @srcsU.eq_1 hi' eg (a3 h1 h2 h3')); repeat' first | refine Wp.v ?_ | (apply Wp.call; exact hw _) | (refine Wp.c ?_ ?_ <;> intro))
          refine Wp.ret ?_; simp [Res, resU, res1, c_joineryref14_Right]
  · rw [List.take_of_length_le (Nat.le_refl _)] at hI
    simp only [qv7S, formC]
    repeat refine Wp.a ?_
    refine Wp.i ?_ ?_ <;> intro h1
    · simp at h1
    · exact Wp.exit ⟨rfl, hI, rfl⟩
set_option maxHeartbeats 8000000 in
theorem rright_call (x : FForm) (hx : Small x) (st : List Ob) : Cl T n_joineryref14_Right [formU x] st (.bool (rightF x)) st := by
  refine Wp.pure (fn := c_joineryref14_Right) rfl rfl rfl («as» := [formU x]) rfl ?_
  generalize hr : rightF x = r
  unfold rightF at hr
  by_cases h1 : x.entry < -1
  · have : r = false := by rw [← hr]; simp; omega
    rw [this]
    (all_goals have := fa (a2 @formC.eq_1 h1); repeat' first | refine Wp.v ?_ | (refine Wp.c ?_ ?_ <;> intro))
    refine Wp.ret ?_; simp [Res, resU, res1, c_joineryref14_Right]
  · by_cases h2 : (x.nodes.length : Int) ≤ x.entry
    · have : r = false := by rw [← hr]; simp; omega
      rw [this]
      (all_goals have := fa (a3 @formC.eq_1 h1 h2); repeat' first | refine Wp.v ?_ | (refine Wp.c ?_ ?_ <;> intro))
      refine Wp.ret ?_; simp [Res, resU, res1, c_joineryref14_Right]
    · have hl0 := qa4_loop x hx r (fun p hp h => by
        rw [← hr]
        simp only [Bool.and_eq_false_iff]
        exact .inl (.inr (List.all_eq_false.2 ⟨p, hp, by simp [h]⟩)))
      have hl3 := qv7_loop x hx r (fun p hp h => by
        rw [← hr]
        simp only [Bool.and_eq_false_iff]
        exact .inr (List.all_eq_false.2 ⟨p, hp, by simp [h]⟩))
      simp only [qa4S, formC] at hl0
      simp only [qv7S, formC] at hl3
      (all_goals have := fa (a3 @formC.eq_1 h1 h2); repeat' first | refine Wp.v ?_ | (refine Wp.c ?_ ?_ <;> intro))
      refine hl0.imp (fun _ h => h.elim) (fun _ h => h) ?_
      rintro b s ⟨rfl, e1, rfl⟩
      rw [if_pos rfl]
      (repeat' first | refine Wp.u ?_ | (refine Wp.c ?_ ?_ <;> intro))
      refine hl3.imp (fun _ h => h.elim) (fun _ h => h) ?_
      rintro b s ⟨rfl, e2, rfl⟩
      rw [if_pos rfl]
      have : r = true := by
        rw [← hr]
        simp only [Bool.and_eq_true, decide_eq_true_eq, List.all_eq_true]
        exact ⟨⟨⟨by omega, by omega⟩, e1⟩, e2⟩
      rw [this]
      (repeat' first | refine Wp.u ?_ | (refine Wp.c ?_ ?_ <;> intro))
      refine Wp.ret ?_; simp [Res, resU, res1, c_joineryref14_Right]
end Go.Proofs.YtfmhnfimkpffnaaGreatDoor.M2
