/- What the functions answer in M2. Part 9: Apart. -/
import Derived.Test.YtaefnggoempdlaaCd
import Derived.Test.YtaefnggoempdlaaCc
import Derived.KernelRfl
set_option linter.unusedSimpArgs false
set_option linter.unusedVariables false
set_option linter.unusedSectionVars false
/- What the functions answer in M2. Part 1: the data, great. -/
namespace Go.Proofs.Ytaefnggoempdlaa.M2
open Go

structure Row where
  q : Bool
  c : Int
  to : List (Int × Int)
  deriving Inhabited
abbrev i64 (n : Int) : U := .int .i64 n
def refU (x : Int × Int) : List U := [i64 x.1, i64 x.2]
def refsU (l : List (Int × Int)) : List (List U) := l.map refU
def rowU (r : Row) : List U := [i64 r.c, .sl r.q (refsU r.to)]
def rowsU (p : Bool) (l : List Row) : U := .sl p (l.map rowU)

theorem wrap_id {n : Int} (h1 : -9223372036854775808 ≤ n) (h2 : n < 9223372036854775808) : IntKind.wrap .i64 n = n := by
  simp only [IntKind.wrap, IntKind.bits, IntKind.signed, Bool.true_and]
  have : (2 : Int) ^ 64 = 18446744073709551616 := by decide
  have : (2 : Int) ^ (64 - 1) = 9223372036854775808 := by decide
  simp only [*]
  split <;> rename_i h <;> simp only [decide_eq_true_eq, ge_iff_le] at h <;> omega
theorem trimO_same {L : Nat} {s : S} (h1 : s.env.all (fun p => blw blwD L p.2) = true) (h2 : s.st.length = L) (h3 : s.st.all (Ob.blw L) = true) : trimO L s = s := by
  unfold trimO trim
  rw [← h2, List.take_length]
  rw [← h2] at h1 h3
  simp [h1, h3]
def great (l : List Row) : Bool := l.any (fun r => decide (20 < r.to.length)) || decide (60 < l.length)
theorem great_step (l : List Row) (p : Bool) (i : Nat) (h : i < l.length) (hs : ¬ (20 : Int) < ((l[i]).to.length : Int)) (hl : l.length < 9223372036854775808) :
    Ev T c_joinerylaw12_great_L0 ⟨[(0, rowsU p l), (3, i64 i)], []⟩ .nrm ⟨[(0, rowsU p l), (3, i64 (i + 1))], []⟩ := by
  refine .all fun n => ?_
  simp [evC, evOs, evO, ev1, M2.get, put, keep, A.ev, ld, sub, part, elems, bin, arith, un, opt, idx, fillC, cellsO, splice, over, newOb, c_joinerylaw12_great_L0, rowsU, h, rowU, refsU, hs]
  exact wrap_id (by omega) (by omega)
theorem great_hit (l : List Row) (p : Bool) (i : Nat) (h : i < l.length) (hs : (20 : Int) < ((l[i]).to.length : Int)) :
    Ev T c_joinerylaw12_great_L0 ⟨[(0, rowsU p l), (3, i64 i)], []⟩ .ret ⟨[(2, .bool true)], []⟩ := by
  refine .all fun n => ?_
  simp [evC, evOs, evO, ev1, M2.get, put, keep, A.ev, ld, sub, part, elems, bin, arith, un, opt, idx, fillC, cellsO, splice, over, newOb, c_joinerylaw12_great_L0, rowsU, h, rowU, refsU, hs]
theorem great_out (l : List Row) (p : Bool) (i : Nat) (h : i = l.length) :
    Ev T c_joinerylaw12_great_L0 ⟨[(0, rowsU p l), (3, i64 i)], []⟩ (.exit 0) ⟨[(0, rowsU p l), (3, i64 i), (7, .bool false)], []⟩ := by
  refine .all fun n => ?_
  simp [evC, evOs, evO, ev1, M2.get, put, keep, A.ev, ld, sub, part, elems, bin, arith, un, opt, idx, fillC, cellsO, splice, over, newOb, c_joinerylaw12_great_L0, rowsU, h]
theorem great_loop (l : List Row) (p : Bool) (hl : l.length < 9223372036854775808) : ∀ (k i : Nat), i + k = l.length →
    if (l.drop i).any (fun r => decide (20 < r.to.length)) then Ev T (.loop c_joinerylaw12_great_L0) ⟨[(0, rowsU p l), (3, i64 i)], []⟩ .ret ⟨[(2, .bool true)], []⟩
    else Ev T (.loop c_joinerylaw12_great_L0) ⟨[(0, rowsU p l), (3, i64 i)], []⟩ (.exit 0) ⟨[(0, rowsU p l), (3, i64 l.length), (7, .bool false)], []⟩
  | 0, i, h => by
    have : l.drop i = [] := List.drop_eq_nil_of_le (by omega)
    rw [this]
    simp only [List.any_nil, Bool.false_eq_true, if_false]
    have := great_out l p i (by omega)
    rw [show i = l.length by omega] at this ⊢
    exact Ev.loopExit this
  | k + 1, i, h => by
    have hi : i < l.length := by omega
    rw [List.drop_eq_getElem_cons hi, List.any_cons]
    by_cases hs : 20 < (l[i]).to.length
    · simp only [hs, decide_true, Bool.true_or, if_true]
      exact Ev.loopRet (great_hit l p i hi (by omega))
    · simp only [hs, decide_false, Bool.false_or]
      have ih := great_loop l p hl k (i + 1) (by omega)
      have hstep := great_step l p i hi (by omega) hl
      have ht : trimO ([] : List Ob).length ⟨[(0, rowsU p l), (3, i64 ((i : Int) + 1))], []⟩ = ⟨[(0, rowsU p l), (3, i64 ((i + 1 : Nat) : Int))], []⟩ := by
        rw [trimO_same] <;> simp [rowsU, blw, blwD]
      split at ih
      · rename_i hc
        rw [if_pos hc]
        exact Ev.loop hstep (by rw [ht]; exact ih)
      · rename_i hc
        rw [if_neg hc]
        exact Ev.loop hstep (by rw [ht]; exact ih)
theorem great_call (l : List Row) (p : Bool) (st : List Ob) (hl : l.length < 9223372036854775808) : Cl T 9 [rowsU p l] st (.bool (great l)) st := by
  have hloop := great_loop l p hl l.length 0 (by omega)
  rw [List.drop_zero] at hloop
  have h0 : Ev T (.ops [⟨(some 2), .mov (.k (.bool false)), none⟩] [0]) ⟨params 0 [rowsU p l], []⟩ .nrm ⟨[(0, rowsU p l)], []⟩ := .all fun n => by simp [evC, evOs, evO, ev1, M2.get, put, keep, A.ev, ld, sub, part, elems, bin, arith, un, opt, idx, fillC, cellsO, splice, over, newOb, params]
  have h1 : Ev T (.ops [⟨(some 3), .mov (.k (.int .i64 0)), none⟩] [0, 3]) ⟨[(0, rowsU p l)], []⟩ .nrm ⟨[(0, rowsU p l), (3, i64 (0 : Nat))], []⟩ := .all fun n => by simp [evC, evOs, evO, ev1, M2.get, put, keep, A.ev, ld, sub, part, elems, bin, arith, un, opt, idx, fillC, cellsO, splice, over, newOb]
  by_cases hg : l.any (fun r => decide (20 < r.to.length)) = true
  · rw [if_pos hg] at hloop
    have hb := Ev.block (id := 0) hloop
    refine Cl.pure (fn := c_joinerylaw12_great) (x := .ret) (s := ⟨[(2, .bool true)], []⟩) (u := .bool true) (st2 := []) rfl rfl rfl («as» := [rowsU p l]) ?_ ?_ rfl ?_ ?_
    · simp [allM, brw, frzD, rowsU]
    · exact .seq h0 (.seqRet (.seq h1 hb))
    · simp [resU, c_joinerylaw12_great, allM, res1, M2.get]
    · simp [frz, frzD, great, hg]
  · rw [if_neg hg] at hloop
    have hb := Ev.block (id := 0) hloop
    simp only [if_true] at hb
    refine Cl.pure (fn := c_joinerylaw12_great) (x := .ret) (s := ⟨[(2, .bool (decide (60 < l.length)))], []⟩) (u := .bool (decide (60 < l.length))) (st2 := []) rfl rfl rfl («as» := [rowsU p l]) ?_ ?_ rfl ?_ ?_
    · simp [allM, brw, frzD, rowsU]
    · refine .seq h0 (.seq (.seq h1 hb) (.seq (s1 := ⟨[(2, .bool (decide (60 < l.length)))], []⟩) (.all fun n => ?_) .ret))
      simp [evC, evOs, evO, ev1, M2.get, put, keep, A.ev, ld, sub, part, elems, bin, arith, un, opt, idx, fillC, cellsO, splice, over, newOb, rowsU]
      omega
    · simp [resU, c_joinerylaw12_great, allM, res1, M2.get]
    · simp [frz, frzD, great, hg]
end Go.Proofs.Ytaefnggoempdlaa.M2

/- What the functions answer in M2. Part 2: thing, now. -/
namespace Go.Proofs.Ytaefnggoempdlaa.M2
open Go

theorem knows_call (st : List Ob) : Cl T 10 [] st (.bool true) st := Cl.at (n := 40) (by kernel_rfl) rfl st
/-- Is a reference one to a thing? -/
def isThing (n : Nat) (x : Int × Int) : Bool := decide (x.1 = 0) && decide (0 ≤ x.2) && decide (x.2 < n)
theorem thing_call (l : List Row) (p : Bool) (x : Int × Int) (st : List Ob) : Cl T 22 [rowsU p l, .agg (refU x)] st (.bool (isThing l.length x)) st := by
  refine Cl.pure (fn := c_joineryref12_thing) (x := .ret) (s := ⟨[(4, .bool (isThing l.length x))], [.box (refU x)]⟩) (u := .bool (isThing l.length x)) (st2 := [.box (refU x)]) rfl rfl rfl («as» := [rowsU p l, .agg (refU x)]) ?_ ?_ rfl ?_ ?_
  · simp [allM, brw, frzD, rowsU, refU]
  · refine .all fun n => ?_
    by_cases h0 : x.1 = 0 <;> by_cases h1 : 0 ≤ x.2 <;> simp [evC, evOs, evO, ev1, M2.get, put, keep, A.ev, ld, sub, part, elems, bin, arith, un, opt, idx, fillC, cellsO, splice, over, newOb, c_joineryref12_thing, params, rowsU, refU, h0, h1, isThing]
  · simp [resU, c_joineryref12_thing, allM, res1, M2.get]
  · simp [frz, frzD]
end Go.Proofs.Ytaefnggoempdlaa.M2

/- What the functions answer in M2. Part 3: now. -/
namespace Go.Proofs.Ytaefnggoempdlaa.M2
open Go

def boolsU (r : List Bool) : List U := [.sl false (r.map fun b => [.bool b])]
def matU (M : List (List Bool)) : U := .sl false (M.map boolsU)
/-- A square table of len lines. -/
def Square (len : Nat) (M : List (List Bool)) : Prop := M.length = len ∧ ∀ r ∈ M, r.length = len
def look2 (M : List (List Bool)) (i k : Nat) : Bool := ((M[i]?.getD [])[k]?).getD false
def nowAt (len : Nat) (M : List (List Bool)) (x y : Int × Int) : Bool := if isThing len x && isThing len y then look2 M x.2.toNat y.2.toNat else x != y
def nowE (p : Bool) (l : List Row) (M : List (List Bool)) (n : Nat) : Env := [(0, rowsU p l), (1, matU M), (9, .bp 0 0), (10, .bp 1 0), (11, i64 n)]
def nowS (p : Bool) (l : List Row) (M : List (List Bool)) (a b : Row) (n : Nat) : S := ⟨nowE p l M n, [.box (rowU a), .box (rowU b)]⟩
theorem ref_same (x y : Int × Int) : sameV (.tst [(1, .ti), (1, .ti)]) (.agg (refU x)) (.agg (refU y)) = some (x == y) := by
  obtain ⟨x1, x2⟩ := x
  obtain ⟨y1, y2⟩ := y
  simp only [sameV, cellsS, Option.bind_some, refU, sameD, same, same.fields, List.length_cons, List.length_nil, List.take, List.drop, i64]
  by_cases h1 : x1 = y1 <;> by_cases h2 : x2 = y2 <;> simp [h1, h2]
theorem now_out (p : Bool) (l : List Row) (M : List (List Bool)) (a b : Row) (n : Nat) (h : n = a.to.length) : Ev T c_joineryref12_now_L3 (nowS p l M a b n) (.exit 0) ⟨nowE p l M n ++ [(40, .bool false)], [.box (rowU a), .box (rowU b)]⟩ := by
  refine .all fun m => ?_
  simp [evC, evOs, evO, ev1, M2.get, put, keep, A.ev, ld, sub, part, elems, bin, arith, un, opt, idx, fillC, cellsO, splice, over, newOb, c_joineryref12_now_L3, nowS, nowE, rowU, refsU, h]
theorem now_reg (p : Bool) (l : List Row) (M : List (List Bool)) (a b : Row) (n : Nat) (ha : n < a.to.length) (hb : n < b.to.length) :
    Ev T (.opsD c_joineryref12_now_D1 [0, 1, 0, 7, 15, 0, 32, 0, 224, 480, 0, 0, 3103, 8191] [0, 1, 9, 10, 11, 12, 13]) ⟨nowE p l M n ++ [(40, .bool true)], [.box (rowU a), .box (rowU b)]⟩ .nrm ⟨nowE p l M n ++ [(12, .bp 2 0), (13, .bp 3 0)], [.box (rowU a), .box (rowU b), .box (refU a.to[n]), .box (refU b.to[n])]⟩ := by
  refine Ev.draw (ts := [some [], some [(0, false)], some [], some [], some [], some [], some [(1, false)], some [], some [], some [], some [(2, true)], some [(3, true)], some [(2, true)], some [(3, true)]]) (.all fun m => ?_) (by rfl)
  simp [runD, evT, touch, touchN, touchM, touchE, touchA, I.need, evC, evOs, evO, ev1, M2.get, put, keep, A.ev, ld, sub, part, elems, bin, arith, un, opt, idx, fillC, cellsO, splice, over, newOb, sto, c_joineryref12_now_D1, nowS, nowE, rowU, refsU, ha, hb, refU]
theorem now_reg2 (p : Bool) (l : List Row) (M : List (List Bool)) (a b : Row) (n : Nat) (x y : Int × Int) (hM : Square l.length M) (hx : isThing l.length x = true) (hy : isThing l.length y = true) (v : U) :
    Ev T (.opsD c_joineryref12_now_D2 [0, 0, 2, 7, 15, 0, 32, 127, 255] [0, 1, 9, 10, 11, 69]) ⟨nowE p l M n ++ [(12, .bp 2 0), (13, .bp 3 0), (60, v)], [.box (rowU a), .box (rowU b), .box (refU x), .box (refU y)]⟩ .nrm ⟨nowE p l M n ++ [(69, .bool (look2 M x.2.toNat y.2.toNat))], [.box (rowU a), .box (rowU b), .box (refU x), .box (refU y)]⟩ := by
  simp only [isThing, Bool.and_eq_true, decide_eq_true_eq] at hx hy
  obtain ⟨X, hX⟩ := Int.eq_ofNat_of_zero_le hx.1.2
  obtain ⟨Y, hY⟩ := Int.eq_ofNat_of_zero_le hy.1.2
  have h1 : X < M.length := by have := hM.1; omega
  have h2 : (M[X]).length = l.length := hM.2 _ (List.getElem_mem h1)
  have h3 : Y < (M[X]).length := by omega
  refine Ev.draw (ts := [some [], some [], some [(2, false)], some [], some [], some [], some [(3, false)], some [], some []]) (.all fun m => ?_) (by rfl)
  simp [runD, evT, touch, touchN, touchM, touchE, touchA, I.need, evC, evOs, evO, ev1, M2.get, put, keep, A.ev, ld, sub, part, elems, bin, arith, un, opt, idx, fillC, cellsO, splice, over, newOb, sto, c_joineryref12_now_D2, nowE, matU, boolsU, refU, hX, hY, h1, h3, look2]
/-- The two questions whether references are ones to things. -/
theorem now_ask (p : Bool) (l : List Row) (M : List (List Bool)) (a b : Row) (n : Nat) (x y : Int × Int) :
    Ev T (.ops [
  ⟨(some 53), .mov (.t 0), none⟩,
  ⟨(some 54), .load true 2 (.t 12), none⟩,
  ⟨(some 55), .call 22 [(.t 53), (.t 54)], none⟩,
  ⟨(some 56), .mov (.t 55), none⟩,
  ⟨(some 57), .mov (.t 0), (some (56, true))⟩,
  ⟨(some 58), .load true 2 (.t 13), (some (56, true))⟩,
  ⟨(some 59), .call 22 [(.t 57), (.t 58)], (some (56, true))⟩,
  ⟨(some 60), .pick (.t 56) (.t 59) (.k (.bool false)), none⟩] [0, 1, 9, 10, 11, 12, 13, 60]) ⟨nowE p l M n ++ [(12, .bp 2 0), (13, .bp 3 0)], [.box (rowU a), .box (rowU b), .box (refU x), .box (refU y)]⟩ .nrm
      ⟨nowE p l M n ++ [(12, .bp 2 0), (13, .bp 3 0), (60, .bool (isThing l.length x && isThing l.length y))], [.box (rowU a), .box (rowU b), .box (refU x), .box (refU y)]⟩ := by
  refine ((thing_call l p x [.box (rowU a), .box (rowU b), .box (refU x), .box (refU y)]).and (thing_call l p y [.box (rowU a), .box (rowU b), .box (refU x), .box (refU y)])).mono fun m ⟨h1, h2⟩ => ?_
  have e1 : (refU x).length = 2 := rfl
  have e2 : (refU y).length = 2 := rfl
  have t1 : (refU x).take 2 = refU x := rfl
  have t2 : (refU y).take 2 = refU y := rfl
  cases hx : isThing l.length x <;> simp [evC, evOs, evO, ev1, M2.get, put, keep, A.ev, ld, sub, part, elems, bin, arith, un, opt, idx, fillC, cellsO, splice, over, newOb, nowE, h1, h2, e1, e2, t1, t2, hx]
theorem now_trim (p : Bool) (l : List Row) (M : List (List Bool)) (a b : Row) (n : Nat) (more : List Ob) : trimO 2 ⟨nowE p l M n, .box (rowU a) :: .box (rowU b) :: more⟩ = nowS p l M a b n := by
  simp [trimO, trim, nowE, nowS, blw, blwD, Ob.blw, rowU, rowsU, matU]
def nowThings (l : List Row) (a b : Row) (n : Nat) : Bool := isThing l.length (a.to.getD n (0, 0)) && isThing l.length (b.to.getD n (0, 0))
theorem now_step (p : Bool) (l : List Row) (M : List (List Bool)) (a b : Row) (n : Nat) (ha : n < a.to.length) (hb : n < b.to.length) (hM : Square l.length M) (hl : a.to.length < 1000000000000) :
    if nowAt l.length M a.to[n] b.to[n] then ∃ s', Ev T c_joineryref12_now_L3 (nowS p l M a b n) .ret s' ∧ s'.env = [(8, .bool true)] else
    ∃ s', Ev T c_joineryref12_now_L3 (nowS p l M a b n) .nrm s' ∧ trimO 2 s' = nowS p l M a b (n + 1) := by
  have head : Ev T (.seq (.ops [
  ⟨(some 36), .mov (.t 11), none⟩,
  ⟨(some 37), .faddr 1 (.t 9), none⟩,
  ⟨(some 38), .load false 1 (.t 37), none⟩,
  ⟨(some 39), .len 0 (.t 38), none⟩,
  ⟨(some 40), .bin .lss (.t 36) (.t 39), none⟩] [0, 1, 9, 10, 11, 40])
 (.cond (.t 40) .skip
 (.exit 0))) (nowS p l M a b n) .nrm ⟨nowE p l M n ++ [(40, .bool true)], [.box (rowU a), .box (rowU b)]⟩ := by
    refine .all fun m => ?_
    simp [evC, evOs, evO, ev1, M2.get, put, keep, A.ev, ld, sub, part, elems, bin, arith, un, opt, idx, fillC, cellsO, splice, over, newOb, nowS, nowE, rowU, refsU, ha]
  have inc : ∀ (more : List Ob) (k : Nat) (v : U), (k = 69 ∨ k = 72) → Ev T (.ops [
  ⟨(some 41), .mov (.t 11), none⟩,
  ⟨(some 42), .bin .add (.t 41) (.k (.int .i64 1)), none⟩,
  ⟨(some 11), .mov (.t 42), none⟩] [0, 1, 9, 10, 11]) ⟨nowE p l M n ++ [(k, v)], .box (rowU a) :: .box (rowU b) :: more⟩ .nrm ⟨nowE p l M (n + 1), .box (rowU a) :: .box (rowU b) :: more⟩ := by
    intro more k v hk
    refine .all fun m => ?_
    rcases hk with rfl | rfl <;> simp [evC, evOs, evO, ev1, M2.get, put, keep, A.ev, ld, sub, part, elems, bin, arith, un, opt, idx, fillC, cellsO, splice, over, newOb, nowE] <;> exact wrap_id (by omega) (by omega)
  have reg := now_reg p l M a b n ha hb
  have ask := now_ask p l M a b n a.to[n] b.to[n]
  generalize hx : a.to[n] = x at reg ask ⊢
  generalize hy : b.to[n] = y at reg ask ⊢
  have yes : ∀ (e : Env) (st : List Ob), Ev T (.seq (.ops [
  ⟨(some 8), .mov (.k (.bool true)), none⟩] [8])
 .ret) ⟨e, st⟩ .ret ⟨[(8, .bool true)], st⟩ := fun e st => .seq (.all fun m => by simp [evC, evOs, evO, ev1, M2.get, put, keep, A.ev, ld, sub, part, elems, bin, arith, un, opt, idx, fillC, cellsO, splice, over, newOb]) .ret
  unfold nowAt
  by_cases ht : (isThing l.length x && isThing l.length y) = true
  · rw [if_pos ht]
    have ht' := ht
    simp only [Bool.and_eq_true] at ht'
    have reg2 := now_reg2 p l M a b n x y hM ht'.1 ht'.2 (.bool (isThing l.length x && isThing l.length y))
    cases hv : look2 M x.2.toNat y.2.toNat with
    | true =>
      rw [if_pos rfl]
      rw [hv] at reg2
      exact ⟨_, .seq head (.seqRet (.block (id := 1) (x := .ret) (.seq reg (.seq ask (.cond (t := true) (by simp [A.ev, nowE, M2.get, ht]) (.seq reg2 (.cond (t := true) (by simp [A.ev, nowE, M2.get]) (yes _ _)))))))), rfl⟩
    | false =>
      rw [if_neg (by simp)]
      rw [hv] at reg2
      refine ⟨_, .seq head (.seq (.block (id := 1) (x := .nrm) (.seq reg (.seq ask (.cond (t := true) (by simp [A.ev, nowE, M2.get, ht]) (.seq reg2 (.cond (t := false) (by simp [A.ev, nowE, M2.get]) .skip)))))) (inc _ 69 _ (.inl rfl))), now_trim p l M a b (n + 1) _⟩
  · rw [if_neg ht]
    have eqs : Ev T (.ops [
  ⟨(some 70), .load true 2 (.t 12), none⟩,
  ⟨(some 71), .load true 2 (.t 13), none⟩,
  ⟨(some 72), .eq true (.tst [(1, .ti), (1, .ti)]) (.t 70) (.t 71), none⟩] [0, 1, 9, 10, 11, 72]) ⟨nowE p l M n ++ [(12, .bp 2 0), (13, .bp 3 0), (60, .bool (isThing l.length x && isThing l.length y))], [.box (rowU a), .box (rowU b), .box (refU x), .box (refU y)]⟩ .nrm
        ⟨nowE p l M n ++ [(72, .bool (x != y))], [.box (rowU a), .box (rowU b), .box (refU x), .box (refU y)]⟩ := by
      refine .all fun m => ?_
      have e1 : (refU x).length = 2 := rfl
      have e2 : (refU y).length = 2 := rfl
      have t1 : (refU x).take 2 = refU x := rfl
      have t2 : (refU y).take 2 = refU y := rfl
      simp [evC, evOs, evO, ev1, M2.get, put, keep, A.ev, ld, sub, part, elems, bin, arith, un, opt, idx, fillC, cellsO, splice, over, newOb, nowE, ref_same, e1, e2, t1, t2, bne]
    have hf : (isThing l.length x && isThing l.length y) = false := by simpa using ht
    cases hv : (x != y) with
    | true =>
      rw [if_pos rfl]
      rw [hv] at eqs
      exact ⟨_, .seq head (.seqRet (.block (id := 1) (x := .ret) (.seq reg (.seq ask (.cond (t := false) (by simp [A.ev, nowE, M2.get]; simpa using hf) (.seq eqs (.cond (t := true) (by simp [A.ev, nowE, M2.get]) (yes _ _)))))))), rfl⟩
    | false =>
      rw [if_neg (by simp)]
      rw [hv] at eqs
      refine ⟨_, .seq head (.seq (.block (id := 1) (x := .nrm) (.seq reg (.seq ask (.cond (t := false) (by simp [A.ev, nowE, M2.get]; simpa using hf) (.seq eqs (.cond (t := false) (by simp [A.ev, nowE, M2.get]) .skip)))))) (inc _ 72 _ (.inr rfl))), now_trim p l M a b (n + 1) _⟩
theorem now_loop (p : Bool) (l : List Row) (M : List (List Bool)) (a b : Row) (hab : a.to.length = b.to.length) (hM : Square l.length M) (hl : a.to.length < 1000000000000) : ∀ (k n : Nat), n + k = a.to.length →
    if ((a.to.drop n).zip (b.to.drop n)).any (fun xy => nowAt l.length M xy.1 xy.2) then ∃ s', Ev T (.loop c_joineryref12_now_L3) (nowS p l M a b n) .ret s' ∧ s'.env = [(8, .bool true)]
    else ∃ s', Ev T (.loop c_joineryref12_now_L3) (nowS p l M a b n) (.exit 0) s'
  | 0, n, h => by
    have : a.to.drop n = [] := List.drop_eq_nil_of_le (by omega)
    rw [this, if_neg (by simp)]
    exact ⟨_, Ev.loopExit (now_out p l M a b n (by omega))⟩
  | k + 1, n, h => by
    have ha : n < a.to.length := by omega
    have hb : n < b.to.length := by omega
    rw [List.drop_eq_getElem_cons ha, List.drop_eq_getElem_cons hb, List.zip_cons_cons, List.any_cons]
    have st := now_step p l M a b n ha hb hM hl
    have ih := now_loop p l M a b hab hM hl k (n + 1) (by omega)
    cases hv : nowAt l.length M a.to[n] b.to[n] with
    | true =>
      rw [hv, if_pos rfl] at st
      obtain ⟨s', h1, h2⟩ := st
      rw [Bool.true_or, if_pos rfl]
      exact ⟨s', .loopRet h1, h2⟩
    | false =>
      rw [hv, if_neg (by simp)] at st
      obtain ⟨s', h1, h2⟩ := st
      rw [Bool.false_or]
      have next : ∀ {x : X} {s2 : S}, Ev T (.loop c_joineryref12_now_L3) (nowS p l M a b (n + 1)) x s2 → Ev T (.loop c_joineryref12_now_L3) (nowS p l M a b n) x s2 := fun h => .loop h1 (by
        show Ev T _ (trimO 2 s') _ _
        rw [h2]; exact h)
      split at ih
      · rename_i hc
        rw [if_pos hc]
        obtain ⟨s2, h3, h4⟩ := ih
        exact ⟨s2, next h3, h4⟩
      · rename_i hc
        rw [if_neg hc]
        obtain ⟨s2, h3⟩ := ih
        exact ⟨s2, next h3⟩
/-- Can two things be told apart, by the pairs that are known to be? -/
def nowF (len : Nat) (M : List (List Bool)) (a b : Row) : Bool := decide (a.c ≠ b.c) || decide (a.to.length ≠ b.to.length) || (a.to.zip b.to).any fun xy => nowAt len M xy.1 xy.2
end Go.Proofs.Ytaefnggoempdlaa.M2

/- What the functions answer in M2. Part 4: now's call. -/
namespace Go.Proofs.Ytaefnggoempdlaa.M2
open Go

theorem now_start (p : Bool) (l : List Row) (M : List (List Bool)) (i k : Nat) (hi : i < l.length) (hk : k < l.length) :
    Ev T (.opsD c_joineryref12_now_D0 [0, 0, 3, 7, 0, 0, 48, 112, 0, 0, 783, 2047] [0, 1, 9, 10]) ⟨[(0, rowsU p l), (1, matU M), (2, i64 i), (3, i64 k)], []⟩ .nrm ⟨[(0, rowsU p l), (1, matU M), (9, .bp 0 0), (10, .bp 1 0)], [.box (rowU l[i]), .box (rowU l[k])]⟩ := by
  refine Ev.draw (ts := [some [], some [], some [], some [], some [], some [], some [], some [], some [(0, true)], some [(1, true)], some [(0, true)], some [(1, true)]]) (.all fun m => ?_) (by rfl)
  simp [runD, evT, touch, touchN, touchM, touchE, touchA, I.need, evC, evOs, evO, ev1, M2.get, put, keep, A.ev, ld, sub, part, elems, bin, arith, un, opt, idx, fillC, cellsO, splice, over, newOb, sto, c_joineryref12_now_D0, rowsU, rowU, hi, hk]
theorem now_call (p : Bool) (l : List Row) (M : List (List Bool)) (i k : Nat) (hi : i < l.length) (hk : k < l.length) (hM : Square l.length M) (hl : l[i].to.length < 1000000000000) {LA MA : U} {st : List Ob} (hL : brw frzD st LA = some (rowsU p l)) (hMA : brw frzD st MA = some (matU M)) :
    Cl T 18 [LA, MA, i64 i, i64 k] st (.bool (nowF l.length M l[i] l[k])) st := by
  have h0 : Ev T (.ops [⟨(some 8), .mov (.k (.bool false)), none⟩] [0, 1, 2, 3]) ⟨params 0 [rowsU p l, matU M, i64 i, i64 k], []⟩ .nrm ⟨[(0, rowsU p l), (1, matU M), (2, i64 i), (3, i64 k)], []⟩ := .all fun m => by simp [evC, evOs, evO, ev1, M2.get, put, keep, A.ev, ld, sub, part, elems, bin, arith, un, opt, idx, fillC, cellsO, splice, over, newOb, params]
  have h1 := now_start p l M i k hi hk
  generalize l[i] = a at *
  generalize l[k] = b at *
  have h2 : Ev T (.ops [
  ⟨(some 22), .faddr 0 (.t 9), none⟩,
  ⟨(some 23), .load false 1 (.t 22), none⟩,
  ⟨(some 24), .faddr 0 (.t 10), none⟩,
  ⟨(some 25), .load false 1 (.t 24), none⟩,
  ⟨(some 26), .bin .neq (.t 23) (.t 25), none⟩,
  ⟨(some 27), .mov (.t 26), none⟩,
  ⟨(some 28), .faddr 1 (.t 9), (some (27, false))⟩,
  ⟨(some 29), .load false 1 (.t 28), (some (27, false))⟩,
  ⟨(some 30), .len 0 (.t 29), (some (27, false))⟩,
  ⟨(some 31), .faddr 1 (.t 10), (some (27, false))⟩,
  ⟨(some 32), .load false 1 (.t 31), (some (27, false))⟩,
  ⟨(some 33), .len 0 (.t 32), (some (27, false))⟩,
  ⟨(some 34), .bin .neq (.t 30) (.t 33), (some (27, false))⟩,
  ⟨(some 35), .pick (.t 27) (.k (.bool true)) (.t 34), none⟩] [0, 1, 9, 10, 35]) ⟨[(0, rowsU p l), (1, matU M), (9, .bp 0 0), (10, .bp 1 0)], [.box (rowU a), .box (rowU b)]⟩ .nrm
      ⟨[(0, rowsU p l), (1, matU M), (9, .bp 0 0), (10, .bp 1 0), (35, .bool (decide (a.c ≠ b.c) || decide (a.to.length ≠ b.to.length)))], [.box (rowU a), .box (rowU b)]⟩ := by
    refine .all fun m => ?_
    by_cases hc : a.c = b.c <;> simp [evC, evOs, evO, ev1, M2.get, put, keep, A.ev, ld, sub, part, elems, bin, arith, un, opt, idx, fillC, cellsO, splice, over, newOb, rowU, refsU, hc]
    by_cases hd : a.to.length = b.to.length <;> simp [hd]
    omega
  have h3 : Ev T (.ops [⟨(some 11), .mov (.k (.int .i64 0)), none⟩] [0, 1, 9, 10, 11]) ⟨[(0, rowsU p l), (1, matU M), (9, .bp 0 0), (10, .bp 1 0), (35, .bool false)], [.box (rowU a), .box (rowU b)]⟩ .nrm (nowS p l M a b 0) := .all fun m => by simp [evC, evOs, evO, ev1, M2.get, put, keep, A.ev, ld, sub, part, elems, bin, arith, un, opt, idx, fillC, cellsO, splice, over, newOb, nowS, nowE]
  have ans : ∀ (e : Env) (st : List Ob) (v : Bool), Ev T (.seq (.ops [⟨(some 8), .mov (.k (.bool v)), none⟩] [8]) .ret) ⟨e, st⟩ .ret ⟨[(8, .bool v)], st⟩ := fun e st v => .seq (.all fun m => by simp [evC, evOs, evO, ev1, M2.get, put, keep, A.ev, ld, sub, part, elems, bin, arith, un, opt, idx, fillC, cellsO, splice, over, newOb]) .ret
  have fin : ∀ {s : S} {v : Bool}, Ev T c_joineryref12_now.body ⟨params 0 [rowsU p l, matU M, i64 i, i64 k], []⟩ .ret s → s.env = [(8, .bool v)] → Cl T 18 [LA, MA, i64 i, i64 k] st (.bool v) st := by
    intro s v he hs
    refine Cl.pure (fn := c_joineryref12_now) (x := .ret) (s := s) (u := .bool v) (st2 := s.st) rfl rfl rfl («as» := [rowsU p l, matU M, i64 i, i64 k]) ?_ he rfl ?_ ?_
    · simp only [allM, hL, hMA, Option.bind_some]; rfl
    · simp [resU, c_joineryref12_now, allM, res1, hs, M2.get]
    · simp [frz, frzD]
  unfold nowF
  cases hq : (decide (a.c ≠ b.c) || decide (a.to.length ≠ b.to.length)) with
  | true =>
    rw [hq] at h2
    rw [Bool.true_or]
    exact fin (.seq h0 (.seq h1 (.seqRet (.seq h2 (.cond (t := true) (by simp [A.ev, M2.get]) (ans _ _ true)))))) rfl
  | false =>
    rw [hq] at h2
    rw [Bool.false_or]
    have hab : a.to.length = b.to.length := by
      simp at hq
      exact hq.2
    have lp := now_loop p l M a b hab hM hl a.to.length 0 (by omega)
    rw [List.drop_zero, List.drop_zero] at lp
    split at lp
    · rename_i hc
      obtain ⟨s', h4, h5⟩ := lp
      rw [hc]
      exact fin (.seq h0 (.seq h1 (.seq (.seq h2 (.cond (t := false) (by simp [A.ev, M2.get]) .skip)) (.seqRet (.seq h3 (.block (id := 0) h4)))))) h5
    · rename_i hc
      obtain ⟨s', h4⟩ := lp
      have hb := Ev.block (id := 0) h4
      simp only [if_true] at hb
      rw [show ((a.to.zip b.to).any fun xy => nowAt l.length M xy.1 xy.2) = false by simpa using hc]
      obtain ⟨e', st'⟩ := s'
      exact fin (.seq h0 (.seq h1 (.seq (.seq h2 (.cond (t := false) (by simp [A.ev, M2.get]) .skip)) (.seq (.seq h3 hb) (ans e' st' false))))) rfl
end Go.Proofs.Ytaefnggoempdlaa.M2

/- What the functions answer in M2. Part 5: as. -/
namespace Go.Proofs.Ytaefnggoempdlaa.M2
open Go
attribute [local simp] ev1 M2.get put A.ev ld sub part elems bin arith un opt idx fillC cellsO splice over newOb sto fillR laidOwn appTo appRow touch touchN touchM touchE touchA plainU flatU plainAs allM rowAt stoRow accM_nil accM_cons accMM_nil accMM_cons frz_int frz_bool frz_str frz_slt frz_nils frz_nilI frz_nilF frz_own frzRow_row frzRow_frow Ob.blw blw_bool blw_int blw_str blw_nils blw_nilI blw_nilF blw_nilp blw_nilm blw_sl blw_own blw_bp blw_rp blw_mp blw_it params

def perm (r : Row) : Row := { r with q := true }
def rowT (r : Row) : List U := [i64 r.c, .sl true (refsU r.to)]
def asS (out : List (List U)) (c : Int) (to : List (Int × Int)) (j : Nat) : List Ob := [.row 45 2 false out, .box [i64 c, .own 3 j], .row 46 2 false (refsU (to.take 1)), .row 46 2 false (refsU (to.take j))]
def asSt (out : List (List U)) (c : Int) (to : List (Int × Int)) : Nat → List Ob
  | 0 => [.row 45 2 false out, .box [i64 c, .nils]]
  | k + 1 => asS out c to (k + 1)
def as1 (p : Bool) (l : List Row) (out : List (List U)) (i : Nat) (c : Int) (to : List (Int × Int)) (k : Nat) : S := ⟨[(0, rowsU p l), (3, .own 0 i), (4, i64 i), (5, .bp 1 0), (6, i64 k)], asSt out c to k⟩
theorem as1_0 (p : Bool) (l : List Row) (out : List (List U)) (i : Nat) (hi : i < l.length) (h : 0 < l[i].to.length) :
    Wp T c_joinerylaw12_as_L1 (as1 p l out i l[i].c l[i].to 0) (fun s' => trimO 2 s' = as1 p l out i l[i].c l[i].to 1) (fun _ => False) (fun _ _ => False) := by
  refine Wp.seq (Wp.seq ?_)
  (repeat (first | (apply Wp.op; (apply Evt.all; intro; (simp [as1, asSt, rowsU, rowU, refsU, hi]) <;> (try simp (disch := omega) only [wrap_id]) <;> first | exact ⟨rfl, rfl⟩ | exact rfl)) | (apply Wp.opN; (apply Evt.all; intro; (simp [as1, asSt, rowsU, rowU, refsU, hi]) <;> (try simp (disch := omega) only [wrap_id]) <;> first | exact ⟨rfl, rfl⟩ | exact rfl)) | (apply Wp.opG; (exact rfl); (apply Evt.all; intro; (simp [as1, asSt, rowsU, rowU, refsU, hi]) <;> (try simp (disch := omega) only [wrap_id]) <;> first | exact ⟨rfl, rfl⟩ | exact rfl)) | (apply Wp.opS; (exact rfl); decide) | (apply Wp.opS0; (exact rfl)))); refine Wp.op0 (by (simp [M2.keep]) <;> rfl) ?_
  refine Wp.cond (by first | rfl | (simp; rfl)) (fun ht => ?_) (fun ht => ?_)
  · refine Wp.skip (Wp.seq (Wp.block ?_))
    refine Wp.draw (by (simp [c_joinerylaw12_as_D0, I.need]) <;> rfl) (by (simp [as1, asSt, rowsU, rowU, refsU, hi, h, refU]) <;> rfl) (by (simp [as1, asSt, rowsU, rowU, refsU, hi, h, refU]) <;> rfl) (by (unfold c_joinerylaw12_as_D0); (repeat (first | (apply Dr.op; ((simp [as1, asSt, rowsU, rowU, refsU, hi, h, refU]) <;> rfl); (apply Evt.all; intro; (simp [as1, asSt, rowsU, rowU, refsU, hi, h, refU]) <;> (try simp (disch := omega) only [wrap_id]) <;> first | exact ⟨rfl, rfl⟩ | exact rfl); ((simp [I.need]) <;> rfl)) | (apply Dr.opN; ((simp [as1, asSt, rowsU, rowU, refsU, hi, h, refU]) <;> rfl); (apply Evt.all; intro; (simp [as1, asSt, rowsU, rowU, refsU, hi, h, refU]) <;> (try simp (disch := omega) only [wrap_id]) <;> first | exact ⟨rfl, rfl⟩ | exact rfl); ((simp [I.need]) <;> rfl)) | (apply Dr.opG; (exact rfl); ((simp [as1, asSt, rowsU, rowU, refsU, hi, h, refU]) <;> rfl); (apply Evt.all; intro; (simp [as1, asSt, rowsU, rowU, refsU, hi, h, refU]) <;> (try simp (disch := omega) only [wrap_id]) <;> first | exact ⟨rfl, rfl⟩ | exact rfl); ((simp [I.need]) <;> rfl)) | (apply Dr.opS; (exact rfl); decide; ((simp [I.need]) <;> rfl)) | (apply Dr.opS0; (exact rfl); ((simp [I.need]) <;> rfl)))); exact Dr.nil) (by first | decide +kernel | exact rfl) (by (simp [M2.keep]) <;> rfl) ?_
    (repeat (first | (apply Wp.op; (apply Evt.all; intro; (simp []) <;> (try simp (disch := omega) only [wrap_id]) <;> first | exact ⟨rfl, rfl⟩ | exact rfl)) | (apply Wp.opN; (apply Evt.all; intro; (simp []) <;> (try simp (disch := omega) only [wrap_id]) <;> first | exact ⟨rfl, rfl⟩ | exact rfl)) | (apply Wp.opG; (exact rfl); (apply Evt.all; intro; (simp []) <;> (try simp (disch := omega) only [wrap_id]) <;> first | exact ⟨rfl, rfl⟩ | exact rfl)) | (apply Wp.opS; (exact rfl); decide) | (apply Wp.opS0; (exact rfl)))); refine Wp.op0 (by (simp [M2.keep]) <;> rfl) ?_
    have : l[i].to.take 1 = [l[i].to[0]] := by rw [List.take_succ_eq_append_getElem h]; rfl
    simp [as1, asSt, asS, trimO, trim, rowsU, refsU, refU, this]
  · simp [h] at ht
theorem as1_s (p : Bool) (l : List Row) (out : List (List U)) (i j : Nat) (hi : i < l.length) (h : j < l[i].to.length) (h0 : 0 < j) (hl : l[i].to.length < 1000000000000) :
    Wp T c_joinerylaw12_as_L1 ⟨[(0, rowsU p l), (3, .own 0 i), (4, i64 i), (5, .bp 1 0), (6, i64 j)], asS out l[i].c l[i].to j⟩ (fun s' => trimO 4 s' = ⟨[(0, rowsU p l), (3, .own 0 i), (4, i64 i), (5, .bp 1 0), (6, i64 ((j + 1 : Nat) : Int))], asS out l[i].c l[i].to (j + 1)⟩) (fun _ => False) (fun _ _ => False) := by
  have h1 : (j + 1) * 16 ≤ 140737488355328 := by omega
  have h2 := Nat.min_eq_left (Nat.le_of_lt h)
  refine Wp.seq (Wp.seq ?_)
  (repeat (first | (apply Wp.op; (apply Evt.all; intro; (simp [asS, rowsU, rowU, refsU, hi]) <;> (try simp (disch := omega) only [wrap_id]) <;> first | exact ⟨rfl, rfl⟩ | exact rfl)) | (apply Wp.opN; (apply Evt.all; intro; (simp [asS, rowsU, rowU, refsU, hi]) <;> (try simp (disch := omega) only [wrap_id]) <;> first | exact ⟨rfl, rfl⟩ | exact rfl)) | (apply Wp.opG; (exact rfl); (apply Evt.all; intro; (simp [asS, rowsU, rowU, refsU, hi]) <;> (try simp (disch := omega) only [wrap_id]) <;> first | exact ⟨rfl, rfl⟩ | exact rfl)) | (apply Wp.opS; (exact rfl); decide) | (apply Wp.opS0; (exact rfl)))); refine Wp.op0 (by (simp [M2.keep]) <;> rfl) ?_
  refine Wp.cond (by first | rfl | (simp; rfl)) (fun ht => ?_) (fun ht => ?_)
  · refine Wp.skip (Wp.seq (Wp.block ?_))
    refine Wp.draw (by (simp [c_joinerylaw12_as_D0, I.need]) <;> rfl) (by (simp [asS, rowsU, rowU, refsU, hi, h, refU, h1, h2]) <;> rfl) (by (simp [asS, rowsU, rowU, refsU, hi, h, refU, h1, h2]) <;> rfl) (by (unfold c_joinerylaw12_as_D0); (repeat (first | (apply Dr.op; ((simp [asS, rowsU, rowU, refsU, hi, h, refU, h1, h2]) <;> rfl); (apply Evt.all; intro; (simp [asS, rowsU, rowU, refsU, hi, h, refU, h1, h2]) <;> (try simp (disch := omega) only [wrap_id]) <;> first | exact ⟨rfl, rfl⟩ | exact rfl); ((simp [I.need]) <;> rfl)) | (apply Dr.opN; ((simp [asS, rowsU, rowU, refsU, hi, h, refU, h1, h2]) <;> rfl); (apply Evt.all; intro; (simp [asS, rowsU, rowU, refsU, hi, h, refU, h1, h2]) <;> (try simp (disch := omega) only [wrap_id]) <;> first | exact ⟨rfl, rfl⟩ | exact rfl); ((simp [I.need]) <;> rfl)) | (apply Dr.opG; (exact rfl); ((simp [asS, rowsU, rowU, refsU, hi, h, refU, h1, h2]) <;> rfl); (apply Evt.all; intro; (simp [asS, rowsU, rowU, refsU, hi, h, refU, h1, h2]) <;> (try simp (disch := omega) only [wrap_id]) <;> first | exact ⟨rfl, rfl⟩ | exact rfl); ((simp [I.need]) <;> rfl)) | (apply Dr.opS; (exact rfl); decide; ((simp [I.need]) <;> rfl)) | (apply Dr.opS0; (exact rfl); ((simp [I.need]) <;> rfl)))); exact Dr.nil) (by first | decide +kernel | exact rfl) (by (simp [M2.keep]) <;> rfl) ?_
    (repeat (first | (apply Wp.op; (apply Evt.all; intro; (simp []) <;> (try simp (disch := omega) only [wrap_id]) <;> first | exact ⟨rfl, rfl⟩ | exact rfl)) | (apply Wp.opN; (apply Evt.all; intro; (simp []) <;> (try simp (disch := omega) only [wrap_id]) <;> first | exact ⟨rfl, rfl⟩ | exact rfl)) | (apply Wp.opG; (exact rfl); (apply Evt.all; intro; (simp []) <;> (try simp (disch := omega) only [wrap_id]) <;> first | exact ⟨rfl, rfl⟩ | exact rfl)) | (apply Wp.opS; (exact rfl); decide) | (apply Wp.opS0; (exact rfl)))); refine Wp.op0 (by (simp [M2.keep]) <;> rfl) ?_
    have h3 : refsU (l[i].to.take (j + 1)) = (l[i].to.map refU).take j ++ [[i64 l[i].to[j].1, i64 l[i].to[j].2]] := by
      rw [List.take_succ_eq_append_getElem h, refsU, List.map_append, List.map_take]; rfl
    rw [asS, h3]
    simp [trimO, trim, rowsU, refsU]
  · simp at ht; omega
theorem as1_out (p : Bool) (l : List Row) (out : List (List U)) (i : Nat) (hi : i < l.length) (n : Nat) (hn : n = l[i].to.length) :
    Wp T c_joinerylaw12_as_L1 (as1 p l out i l[i].c l[i].to n) (fun _ => False) (fun _ => False) (fun b s' => b = 2 ∧ s'.st = asSt out l[i].c l[i].to n ∧ s'.env = [(0, rowsU p l), (3, .own 0 i), (4, i64 i), (5, .bp 1 0), (6, i64 n), (26, .bool false)]) := by
  refine Wp.seq (Wp.seq ?_)
  (repeat (first | (apply Wp.op; (apply Evt.all; intro; (simp [as1, rowsU, rowU, refsU, hi]) <;> (try simp (disch := omega) only [wrap_id]) <;> first | exact ⟨rfl, rfl⟩ | exact rfl)) | (apply Wp.opN; (apply Evt.all; intro; (simp [as1, rowsU, rowU, refsU, hi]) <;> (try simp (disch := omega) only [wrap_id]) <;> first | exact ⟨rfl, rfl⟩ | exact rfl)) | (apply Wp.opG; (exact rfl); (apply Evt.all; intro; (simp [as1, rowsU, rowU, refsU, hi]) <;> (try simp (disch := omega) only [wrap_id]) <;> first | exact ⟨rfl, rfl⟩ | exact rfl)) | (apply Wp.opS; (exact rfl); decide) | (apply Wp.opS0; (exact rfl)))); refine Wp.op0 (by (simp [M2.keep]) <;> rfl) ?_
  refine Wp.cond (by first | rfl | (simp; rfl)) (fun ht => ?_) (fun ht => ?_)
  · simp [hn] at ht
  · exact Wp.exit ⟨rfl, rfl, by simp [rowsU, hn]⟩
theorem as1_loop (p : Bool) (l : List Row) (out : List (List U)) (i : Nat) (hi : i < l.length) (hl : l[i].to.length < 1000000000000) :
    Wp T (.loop c_joinerylaw12_as_L1) (as1 p l out i l[i].c l[i].to 0) (fun _ => False) (fun _ => False) (fun b s' => b = 2 ∧ s'.st = asSt out l[i].c l[i].to l[i].to.length ∧ s'.env = [(0, rowsU p l), (3, .own 0 i), (4, i64 i), (5, .bp 1 0), (6, i64 l[i].to.length), (26, .bool false)]) := by
  refine Wp.count l[i].to.length (as1 p l out i l[i].c l[i].to) (fun _ => True) (fun k hk _ => ?_) (fun _ => as1_out p l out i hi _ rfl) 0 (by omega) trivial
  cases k with
  | zero => exact (as1_0 p l out i hi hk).imp (fun s h => ⟨h, trivial⟩) (fun _ h => h.elim) (fun _ _ h => h.elim)
  | succ j => exact (as1_s p l out i (j + 1) hi hk (by omega) hl).imp (fun s h => ⟨h, trivial⟩) (fun _ h => h.elim) (fun _ _ h => h.elim)
def as2 (p : Bool) (l : List Row) (i : Nat) : S := ⟨[(0, rowsU p l), (3, .own 0 i), (4, i64 i)], [.row 45 2 false ((l.map rowT).take i)]⟩
theorem as2_step (p : Bool) (l : List Row) (i : Nat) (hi : i < l.length) (hl : l[i].to.length < 1000000000000) (hs : l.length < 1000000000000) :
    Wp T c_joinerylaw12_as_L2 (as2 p l i) (fun s' => trimO 1 s' = as2 p l (i + 1)) (fun _ => False) (fun _ _ => False) := by
  have h1 : (i + 1) * 32 ≤ 140737488355328 := by omega
  have h2 := Nat.min_eq_left (Nat.le_of_lt hi)
  refine Wp.seq (Wp.seq ?_)
  (repeat (first | (apply Wp.op; (apply Evt.all; intro; (simp [as2, rowsU]) <;> (try simp (disch := omega) only [wrap_id]) <;> first | exact ⟨rfl, rfl⟩ | exact rfl)) | (apply Wp.opN; (apply Evt.all; intro; (simp [as2, rowsU]) <;> (try simp (disch := omega) only [wrap_id]) <;> first | exact ⟨rfl, rfl⟩ | exact rfl)) | (apply Wp.opG; (exact rfl); (apply Evt.all; intro; (simp [as2, rowsU]) <;> (try simp (disch := omega) only [wrap_id]) <;> first | exact ⟨rfl, rfl⟩ | exact rfl)) | (apply Wp.opS; (exact rfl); decide) | (apply Wp.opS0; (exact rfl)))); refine Wp.op0 (by (simp [M2.keep]) <;> rfl) ?_
  refine Wp.cond (by first | rfl | (simp; rfl)) (fun ht => ?_) (fun ht => ?_)
  · refine Wp.skip (Wp.seq (Wp.block (Wp.seq ?_)))
    (repeat (first | (apply Wp.op; (apply Evt.all; intro; (simp [rowsU, rowU, hi]) <;> (try simp (disch := omega) only [wrap_id]) <;> first | exact ⟨rfl, rfl⟩ | exact rfl)) | (apply Wp.opN; (apply Evt.all; intro; (simp [rowsU, rowU, hi]) <;> (try simp (disch := omega) only [wrap_id]) <;> first | exact ⟨rfl, rfl⟩ | exact rfl)) | (apply Wp.opG; (exact rfl); (apply Evt.all; intro; (simp [rowsU, rowU, hi]) <;> (try simp (disch := omega) only [wrap_id]) <;> first | exact ⟨rfl, rfl⟩ | exact rfl)) | (apply Wp.opS; (exact rfl); decide) | (apply Wp.opS0; (exact rfl)))); refine Wp.op0 (by (simp [M2.keep]) <;> rfl) ?_
    refine Wp.seq (Wp.seq ?_)
    (repeat (first | (apply Wp.op; (apply Evt.all; intro; (simp []) <;> (try simp (disch := omega) only [wrap_id]) <;> first | exact ⟨rfl, rfl⟩ | exact rfl)) | (apply Wp.opN; (apply Evt.all; intro; (simp []) <;> (try simp (disch := omega) only [wrap_id]) <;> first | exact ⟨rfl, rfl⟩ | exact rfl)) | (apply Wp.opG; (exact rfl); (apply Evt.all; intro; (simp []) <;> (try simp (disch := omega) only [wrap_id]) <;> first | exact ⟨rfl, rfl⟩ | exact rfl)) | (apply Wp.opS; (exact rfl); decide) | (apply Wp.opS0; (exact rfl)))); refine Wp.op0 (by (simp [M2.keep]) <;> rfl) ?_
    refine Wp.block ?_
    refine (as1_loop p l ((l.map rowT).take i) i hi hl).imp (fun _ h => h.elim) (fun _ h => h.elim) ?_
    rintro b ⟨e, st⟩ ⟨rfl, h3, h4⟩
    simp only at h3 h4
    subst h3
    subst h4
    rw [if_pos rfl]
    have h5 : (l.map rowT).take (i + 1) = (l.map rowT).take i ++ [rowT l[i]] := by rw [List.take_succ_eq_append_getElem (by simpa using hi)]; simp
    cases hn : l[i].to.length with
    | zero =>
      have h0 : l[i].to = [] := List.eq_nil_of_length_eq_zero hn
      rw [asSt]
      (repeat (first | (apply Wp.op; (apply Evt.all; intro; (simp [rowsU, h1, h2]) <;> (try simp (disch := omega) only [wrap_id]) <;> first | exact ⟨rfl, rfl⟩ | exact rfl)) | (apply Wp.opN; (apply Evt.all; intro; (simp [rowsU, h1, h2]) <;> (try simp (disch := omega) only [wrap_id]) <;> first | exact ⟨rfl, rfl⟩ | exact rfl)) | (apply Wp.opG; (exact rfl); (apply Evt.all; intro; (simp [rowsU, h1, h2]) <;> (try simp (disch := omega) only [wrap_id]) <;> first | exact ⟨rfl, rfl⟩ | exact rfl)) | (apply Wp.opS; (exact rfl); decide) | (apply Wp.opS0; (exact rfl)))); refine Wp.op0 (by (simp [M2.keep]) <;> rfl) ?_
      (repeat (first | (apply Wp.op; (apply Evt.all; intro; (simp []) <;> (try simp (disch := omega) only [wrap_id]) <;> first | exact ⟨rfl, rfl⟩ | exact rfl)) | (apply Wp.opN; (apply Evt.all; intro; (simp []) <;> (try simp (disch := omega) only [wrap_id]) <;> first | exact ⟨rfl, rfl⟩ | exact rfl)) | (apply Wp.opG; (exact rfl); (apply Evt.all; intro; (simp []) <;> (try simp (disch := omega) only [wrap_id]) <;> first | exact ⟨rfl, rfl⟩ | exact rfl)) | (apply Wp.opS; (exact rfl); decide) | (apply Wp.opS0; (exact rfl)))); refine Wp.op0 (by (simp [M2.keep]) <;> rfl) ?_
      rw [as2, h5]
      simp [trimO, trim, rowsU, rowT, h0, refsU]
    | succ n =>
      rw [asSt, asS, ← hn, List.take_length]
      have h6 : (refsU l[i].to).length = l[i].to.length := by simp [refsU]
      (repeat (first | (apply Wp.op; (apply Evt.all; intro; (simp [rowsU, h1, h2, h6]) <;> (try simp (disch := omega) only [wrap_id]) <;> first | exact ⟨rfl, rfl⟩ | exact rfl)) | (apply Wp.opN; (apply Evt.all; intro; (simp [rowsU, h1, h2, h6]) <;> (try simp (disch := omega) only [wrap_id]) <;> first | exact ⟨rfl, rfl⟩ | exact rfl)) | (apply Wp.opG; (exact rfl); (apply Evt.all; intro; (simp [rowsU, h1, h2, h6]) <;> (try simp (disch := omega) only [wrap_id]) <;> first | exact ⟨rfl, rfl⟩ | exact rfl)) | (apply Wp.opS; (exact rfl); decide) | (apply Wp.opS0; (exact rfl)))); refine Wp.op0 (by (simp [M2.keep]) <;> rfl) ?_
      (repeat (first | (apply Wp.op; (apply Evt.all; intro; (simp []) <;> (try simp (disch := omega) only [wrap_id]) <;> first | exact ⟨rfl, rfl⟩ | exact rfl)) | (apply Wp.opN; (apply Evt.all; intro; (simp []) <;> (try simp (disch := omega) only [wrap_id]) <;> first | exact ⟨rfl, rfl⟩ | exact rfl)) | (apply Wp.opG; (exact rfl); (apply Evt.all; intro; (simp []) <;> (try simp (disch := omega) only [wrap_id]) <;> first | exact ⟨rfl, rfl⟩ | exact rfl)) | (apply Wp.opS; (exact rfl); decide) | (apply Wp.opS0; (exact rfl)))); refine Wp.op0 (by (simp [M2.keep]) <;> rfl) ?_
      rw [as2, h5]
      simp [trimO, trim, rowsU, rowT]
  · simp [hi] at ht
theorem as2_out (p : Bool) (l : List Row) : Wp T c_joinerylaw12_as_L2 (as2 p l l.length) (fun _ => False) (fun _ => False) (fun b s' => b = 0 ∧ s' = ⟨[(0, rowsU p l), (3, .own 0 l.length), (4, i64 l.length), (10, .bool false)], [.row 45 2 false (l.map rowT)]⟩) := by
  refine Wp.seq (Wp.seq ?_)
  (repeat (first | (apply Wp.op; (apply Evt.all; intro; (simp [as2, rowsU]) <;> (try simp (disch := omega) only [wrap_id]) <;> first | exact ⟨rfl, rfl⟩ | exact rfl)) | (apply Wp.opN; (apply Evt.all; intro; (simp [as2, rowsU]) <;> (try simp (disch := omega) only [wrap_id]) <;> first | exact ⟨rfl, rfl⟩ | exact rfl)) | (apply Wp.opG; (exact rfl); (apply Evt.all; intro; (simp [as2, rowsU]) <;> (try simp (disch := omega) only [wrap_id]) <;> first | exact ⟨rfl, rfl⟩ | exact rfl)) | (apply Wp.opS; (exact rfl); decide) | (apply Wp.opS0; (exact rfl)))); refine Wp.op0 (by (simp [M2.keep]) <;> rfl) ?_
  refine Wp.cond (by first | rfl | (simp; rfl)) (fun ht => ?_) (fun ht => ?_)
  · simp at ht
  · refine Wp.exit ⟨rfl, ?_⟩
    simp [rowsU, List.take_of_length_le]
theorem as_call (p : Bool) (l : List Row) (st : List Ob) (hl : ∀ r ∈ l, r.to.length < 1000000000000) (hs : l.length < 1000000000000) : Cl T 13 [rowsU p l] st (rowsU true (l.map perm)) st := by
  refine Wp.pure (fn := c_joinerylaw12_as) rfl rfl rfl («as» := [rowsU p l]) rfl ?_
  refine Wp.seq ?_
  (repeat (first | (apply Wp.op; (apply Evt.all; intro; (simp []) <;> (try simp (disch := omega) only [wrap_id]) <;> first | exact ⟨rfl, rfl⟩ | exact rfl)) | (apply Wp.opN; (apply Evt.all; intro; (simp []) <;> (try simp (disch := omega) only [wrap_id]) <;> first | exact ⟨rfl, rfl⟩ | exact rfl)) | (apply Wp.opG; (exact rfl); (apply Evt.all; intro; (simp []) <;> (try simp (disch := omega) only [wrap_id]) <;> first | exact ⟨rfl, rfl⟩ | exact rfl)) | (apply Wp.opS; (exact rfl); decide) | (apply Wp.opS0; (exact rfl)))); refine Wp.op0 (by (simp [M2.keep]) <;> rfl) ?_
  refine Wp.seq ?_
  (repeat (first | (apply Wp.op; (apply Evt.all; intro; (simp []) <;> (try simp (disch := omega) only [wrap_id]) <;> first | exact ⟨rfl, rfl⟩ | exact rfl)) | (apply Wp.opN; (apply Evt.all; intro; (simp []) <;> (try simp (disch := omega) only [wrap_id]) <;> first | exact ⟨rfl, rfl⟩ | exact rfl)) | (apply Wp.opG; (exact rfl); (apply Evt.all; intro; (simp []) <;> (try simp (disch := omega) only [wrap_id]) <;> first | exact ⟨rfl, rfl⟩ | exact rfl)) | (apply Wp.opS; (exact rfl); decide) | (apply Wp.opS0; (exact rfl)))); refine Wp.op0 (by (simp [M2.keep]) <;> rfl) ?_
  refine Wp.seq (Wp.seq ?_)
  (repeat (first | (apply Wp.op; (apply Evt.all; intro; (simp []) <;> (try simp (disch := omega) only [wrap_id]) <;> first | exact ⟨rfl, rfl⟩ | exact rfl)) | (apply Wp.opN; (apply Evt.all; intro; (simp []) <;> (try simp (disch := omega) only [wrap_id]) <;> first | exact ⟨rfl, rfl⟩ | exact rfl)) | (apply Wp.opG; (exact rfl); (apply Evt.all; intro; (simp []) <;> (try simp (disch := omega) only [wrap_id]) <;> first | exact ⟨rfl, rfl⟩ | exact rfl)) | (apply Wp.opS; (exact rfl); decide) | (apply Wp.opS0; (exact rfl)))); refine Wp.op0 (by (simp [M2.keep]) <;> rfl) ?_
  refine Wp.block ?_
  have hloop : Wp T (.loop c_joinerylaw12_as_L2) (as2 p l 0) (fun _ => False) (fun _ => False) (fun b s' => b = 0 ∧ s' = ⟨[(0, rowsU p l), (3, .own 0 l.length), (4, i64 l.length), (10, .bool false)], [.row 45 2 false (l.map rowT)]⟩) :=
    Wp.count l.length (as2 p l) (fun _ => True) (fun i hi _ => (as2_step p l i hi (hl _ (List.getElem_mem hi)) hs).imp0 (fun s h => ⟨h, trivial⟩)) (fun _ => as2_out p l) 0 (by omega) trivial
  refine hloop.impB ?_
  rintro b s ⟨rfl, rfl⟩
  rw [if_pos rfl]
  refine Wp.seq ?_
  (repeat (first | (apply Wp.op; (apply Evt.all; intro; (simp []) <;> (try simp (disch := omega) only [wrap_id]) <;> first | exact ⟨rfl, rfl⟩ | exact rfl)) | (apply Wp.opN; (apply Evt.all; intro; (simp []) <;> (try simp (disch := omega) only [wrap_id]) <;> first | exact ⟨rfl, rfl⟩ | exact rfl)) | (apply Wp.opG; (exact rfl); (apply Evt.all; intro; (simp []) <;> (try simp (disch := omega) only [wrap_id]) <;> first | exact ⟨rfl, rfl⟩ | exact rfl)) | (apply Wp.opS; (exact rfl); decide) | (apply Wp.opS0; (exact rfl)))); refine Wp.op0 (by (simp [M2.keep]) <;> rfl) ?_
  refine Wp.ret ?_; simp [Res, resU, res1, c_joinerylaw12_as, rowsU, rowT, rowU, perm]
end Go.Proofs.Ytaefnggoempdlaa.M2

/- What the functions answer in M2. Part 6: numbers that are given to things as they are met. -/
namespace Go.Proofs.Ytaefnggoempdlaa.M2
open Go
attribute [local simp] ev1 M2.get put A.ev ld sub part elems bin arith un opt idx fillC cellsO splice over newOb sto fillR laidOwn appTo appRow touch touchN touchM touchE touchA plainU flatU plainAs allM rowAt stoRow accM_nil accM_cons accMM_nil accMM_cons frz_int frz_bool frz_str frz_slt frz_nils frz_nilI frz_nilF frz_own frzRow_row frzRow_frow Ob.blw blw_bool blw_int blw_str blw_nils blw_nilI blw_nilF blw_nilp blw_nilm blw_sl blw_own blw_bp blw_rp blw_mp blw_it params

section
variable {α : Type}
def mapU (enc : α → List U) : Nat → List α → List (U × U)
  | _, [] => []
  | n, k :: ks => (.agg (enc k), i64 n) :: mapU enc (n + 1) ks
theorem mapU_len (enc : α → List U) : ∀ (n : Nat) (ks : List α), (mapU enc n ks).length = ks.length
  | _, [] => rfl
  | n, k :: ks => by simp [mapU, mapU_len enc (n + 1) ks]
variable [BEq α] [LawfulBEq α]
/-- The number of a key among those that were met, and the keys that were met with it. -/
def ofF (ks : List α) (k : α) : Nat × List α := if ks.contains k then (ks.idxOf k, ks) else (ks.length, ks ++ [k])
theorem look_in {enc : α → List U} {sh : Sh} (hs : ∀ a b, sameV sh (.agg (enc a)) (.agg (enc b)) = some (a == b)) (k : α) : ∀ (n : Nat) (ks : List α), look sh (.agg (enc k)) (mapU enc n ks) = some (if ks.contains k then some (i64 (n + ks.idxOf k : Nat)) else none)
  | n, [] => rfl
  | n, x :: ks => by
    rw [mapU, look, hs, Option.bind_some]
    by_cases h : k = x
    · subst h
      simp
    · have h1 : (k == x) = false := by simpa using h
      have h2 : (x == k) = false := by simpa using fun e => h e.symm
      rw [h1, if_neg (by simp), look_in hs k (n + 1) ks, List.contains_cons, h1, Bool.false_or, List.idxOf_cons, h2]
      simp only [cond_false]
      split
      · rw [show n + 1 + List.idxOf k ks = n + (List.idxOf k ks + 1) by omega]
      · rfl
omit [LawfulBEq α] in
theorem mset_new {enc : α → List U} {sh : Sh} (hs : ∀ a b, sameV sh (.agg (enc a)) (.agg (enc b)) = some (a == b)) (k : α) (v : Nat) : ∀ (n : Nat) (ks : List α), ks.contains k = false → n + ks.length = v → mset sh (.agg (enc k)) (i64 v) (mapU enc n ks) = some (mapU enc n (ks ++ [k]))
  | n, [], _, hv => by simp [mapU, mset, ← hv]
  | n, x :: ks, h, hv => by
    rw [List.contains_cons, Bool.or_eq_false_iff] at h
    rw [mapU, mset, hs, Option.bind_some, h.1, if_neg (by simp), mset_new hs k v (n + 1) ks h.2 (by rw [← hv, List.length_cons]; omega)]
    rfl
end
def startU (x : Int × Int × Int) : List U := [i64 x.1, i64 x.2.1, i64 x.2.2]
theorem start_same (x y : Int × Int × Int) : sameV (.tst [(1, .ti), (1, .ti), (1, .ti)]) (.agg (startU x)) (.agg (startU y)) = some (x == y) := by
  obtain ⟨x1, x2, x3⟩ := x
  obtain ⟨y1, y2, y3⟩ := y
  simp only [sameV, cellsS, Option.bind_some, startU, sameD, same, same.fields, same.items, List.length_cons, List.length_nil, List.take, List.drop, i64]
  by_cases h1 : x1 = y1 <;> by_cases h2 : x2 = y2 <;> by_cases h3 : x3 = y3 <;> simp [h1, h2, h3]
theorem start_of (ks : List (Int × Int × Int)) (k : Int × Int × Int) (st : List Ob) (id : Nat) (hid : st[id]? = some (.map (mapU startU 0 ks))) (hB : ∀ m, (st.set id (.map m)).all (Ob.blw (st.set id (.map m)).length) = true) :
    Cl T 19 [.mp id, .agg (startU k)] st (i64 (ofF ks k).1) (st.set id (.map (mapU startU 0 (ofF ks k).2))) := by
  have hlt : id < st.length := by
    rcases Nat.lt_or_ge id st.length with h | h
    · exact h
    · rw [List.getElem?_eq_none h] at hid; cases hid
  have hst : st.set id (.map (mapU startU 0 ks)) = st := by
    apply List.ext_getElem?
    intro j
    rw [List.getElem?_set]
    split
    · rename_i h; subst h; rw [hid]
    · rfl
  have hget : ∀ b, (st ++ [b])[id]? = some (.map (mapU startU 0 ks)) := fun b => by rw [List.getElem?_append_left hlt, hid]
  have hsm : sameV (.tst [(1, .ti), (1, .ti), (1, .ti)]) (.agg (startU k)) (.agg (startU k)) = some true := by rw [start_same]; simp
  have hlk := look_in start_same k 0 ks
  have hcl : closed (.agg (startU k)) = true := rfl
  have hw : (startU k).length = 3 := rfl
  have hw2 : (startU k).take 3 = startU k := rfl
  refine Wp.impure (fn := c_refine_start_of) rfl rfl rfl (Wp.seq ?_)
  (repeat (first | (apply Wp.op; (apply Evt.all; intro; (simp [newOb_end]) <;> (try simp (disch := omega) only [wrap_id]) <;> first | exact ⟨rfl, rfl⟩ | exact rfl)) | (apply Wp.opN; (apply Evt.all; intro; (simp [newOb_end]) <;> (try simp (disch := omega) only [wrap_id]) <;> first | exact ⟨rfl, rfl⟩ | exact rfl)) | (apply Wp.opG; (exact rfl); (apply Evt.all; intro; (simp [newOb_end]) <;> (try simp (disch := omega) only [wrap_id]) <;> first | exact ⟨rfl, rfl⟩ | exact rfl)) | (apply Wp.opS; (exact rfl); decide) | (apply Wp.opS0; (exact rfl)))); refine Wp.op0 (by (simp [M2.keep]) <;> rfl) ?_
  refine Wp.seq ?_
  cases hc : ks.contains k with
  | true =>
    rw [hc] at hlk
    have hof : ofF ks k = (ks.idxOf k, ks) := by simp only [ofF, hc, if_true]
    rw [hof]
    (repeat (first | (apply Wp.op; (apply Evt.all; intro; (simp [hw, hw2, hget, hsm, hlk]) <;> (try simp (disch := omega) only [wrap_id]) <;> first | exact ⟨rfl, rfl⟩ | exact rfl)) | (apply Wp.opN; (apply Evt.all; intro; (simp [hw, hw2, hget, hsm, hlk]) <;> (try simp (disch := omega) only [wrap_id]) <;> first | exact ⟨rfl, rfl⟩ | exact rfl)) | (apply Wp.opG; (exact rfl); (apply Evt.all; intro; (simp [hw, hw2, hget, hsm, hlk]) <;> (try simp (disch := omega) only [wrap_id]) <;> first | exact ⟨rfl, rfl⟩ | exact rfl)) | (apply Wp.opS; (exact rfl); decide) | (apply Wp.opS0; (exact rfl)))); refine Wp.op0 (by (simp [M2.keep]) <;> rfl) ?_
    refine Wp.seq (Wp.seq ?_)
    (repeat (first | (apply Wp.op; (apply Evt.all; intro; (simp []) <;> (try simp (disch := omega) only [wrap_id]) <;> first | exact ⟨rfl, rfl⟩ | exact rfl)) | (apply Wp.opN; (apply Evt.all; intro; (simp []) <;> (try simp (disch := omega) only [wrap_id]) <;> first | exact ⟨rfl, rfl⟩ | exact rfl)) | (apply Wp.opG; (exact rfl); (apply Evt.all; intro; (simp []) <;> (try simp (disch := omega) only [wrap_id]) <;> first | exact ⟨rfl, rfl⟩ | exact rfl)) | (apply Wp.opS; (exact rfl); decide) | (apply Wp.opS0; (exact rfl)))); refine Wp.op0 (by (simp [M2.keep]) <;> rfl) ?_
    refine Wp.cond (by first | rfl | (simp; rfl)) (fun ht => ?_) (fun ht => ?_)
    · cases ht
    · refine Wp.skip (Wp.seq ?_)
      (repeat (first | (apply Wp.op; (apply Evt.all; intro; (simp []) <;> (try simp (disch := omega) only [wrap_id]) <;> first | exact ⟨rfl, rfl⟩ | exact rfl)) | (apply Wp.opN; (apply Evt.all; intro; (simp []) <;> (try simp (disch := omega) only [wrap_id]) <;> first | exact ⟨rfl, rfl⟩ | exact rfl)) | (apply Wp.opG; (exact rfl); (apply Evt.all; intro; (simp []) <;> (try simp (disch := omega) only [wrap_id]) <;> first | exact ⟨rfl, rfl⟩ | exact rfl)) | (apply Wp.opS; (exact rfl); decide) | (apply Wp.opS0; (exact rfl)))); refine Wp.op0 (by (simp [M2.keep]) <;> rfl) ?_
      refine Wp.ret ⟨by simp [c_refine_start_of, resU, res1], ?_⟩
      rw [trim_back (by simp) (by have := hB (mapU startU 0 ks); rwa [hst] at this)]
      exact hst.symm
  | false =>
    rw [hc] at hlk
    have hof : ofF ks k = (ks.length, ks ++ [k]) := by simp only [ofF, hc, Bool.false_eq_true, if_false]
    rw [hof]
    have hms := mset_new start_same k ks.length 0 ks hc (by omega)
    have hcl2 : closed (i64 ks.length) = true := rfl
    have hml := mapU_len startU 0 ks
    have hset : ∀ b m, (st ++ [b]).set id (.map m) = st.set id (.map m) ++ [b] := fun b m => List.set_append_left _ _ hlt
    (repeat (first | (apply Wp.op; (apply Evt.all; intro; (simp [hw, hw2, hget, hsm, hlk]) <;> (try simp (disch := omega) only [wrap_id]) <;> first | exact ⟨rfl, rfl⟩ | exact rfl)) | (apply Wp.opN; (apply Evt.all; intro; (simp [hw, hw2, hget, hsm, hlk]) <;> (try simp (disch := omega) only [wrap_id]) <;> first | exact ⟨rfl, rfl⟩ | exact rfl)) | (apply Wp.opG; (exact rfl); (apply Evt.all; intro; (simp [hw, hw2, hget, hsm, hlk]) <;> (try simp (disch := omega) only [wrap_id]) <;> first | exact ⟨rfl, rfl⟩ | exact rfl)) | (apply Wp.opS; (exact rfl); decide) | (apply Wp.opS0; (exact rfl)))); refine Wp.op0 (by (simp [M2.keep]) <;> rfl) ?_
    refine Wp.seq (Wp.seq ?_)
    (repeat (first | (apply Wp.op; (apply Evt.all; intro; (simp []) <;> (try simp (disch := omega) only [wrap_id]) <;> first | exact ⟨rfl, rfl⟩ | exact rfl)) | (apply Wp.opN; (apply Evt.all; intro; (simp []) <;> (try simp (disch := omega) only [wrap_id]) <;> first | exact ⟨rfl, rfl⟩ | exact rfl)) | (apply Wp.opG; (exact rfl); (apply Evt.all; intro; (simp []) <;> (try simp (disch := omega) only [wrap_id]) <;> first | exact ⟨rfl, rfl⟩ | exact rfl)) | (apply Wp.opS; (exact rfl); decide) | (apply Wp.opS0; (exact rfl)))); refine Wp.op0 (by (simp [M2.keep]) <;> rfl) ?_
    refine Wp.cond (by first | rfl | (simp; rfl)) (fun ht => ?_) (fun ht => ?_)
    · refine Wp.seq ?_
      (repeat (first | (apply Wp.op; (apply Evt.all; intro; (simp [hget, hml]) <;> (try simp (disch := omega) only [wrap_id]) <;> first | exact ⟨rfl, rfl⟩ | exact rfl)) | (apply Wp.opN; (apply Evt.all; intro; (simp [hget, hml]) <;> (try simp (disch := omega) only [wrap_id]) <;> first | exact ⟨rfl, rfl⟩ | exact rfl)) | (apply Wp.opG; (exact rfl); (apply Evt.all; intro; (simp [hget, hml]) <;> (try simp (disch := omega) only [wrap_id]) <;> first | exact ⟨rfl, rfl⟩ | exact rfl)) | (apply Wp.opS; (exact rfl); decide) | (apply Wp.opS0; (exact rfl)))); refine Wp.op0 (by (simp [M2.keep]) <;> rfl) ?_
      (repeat (first | (apply Wp.op; (apply Evt.all; intro; (simp [hget, hml, hcl, hsm, hms, hw, hw2, hset, hcl2]) <;> (try simp (disch := omega) only [wrap_id]) <;> first | exact ⟨rfl, rfl⟩ | exact rfl)) | (apply Wp.opN; (apply Evt.all; intro; (simp [hget, hml, hcl, hsm, hms, hw, hw2, hset, hcl2]) <;> (try simp (disch := omega) only [wrap_id]) <;> first | exact ⟨rfl, rfl⟩ | exact rfl)) | (apply Wp.opG; (exact rfl); (apply Evt.all; intro; (simp [hget, hml, hcl, hsm, hms, hw, hw2, hset, hcl2]) <;> (try simp (disch := omega) only [wrap_id]) <;> first | exact ⟨rfl, rfl⟩ | exact rfl)) | (apply Wp.opS; (exact rfl); decide) | (apply Wp.opS0; (exact rfl)))); refine Wp.op0 (by (simp [M2.keep]) <;> rfl) ?_
      refine Wp.seq ?_
      (repeat (first | (apply Wp.op; (apply Evt.all; intro; (simp []) <;> (try simp (disch := omega) only [wrap_id]) <;> first | exact ⟨rfl, rfl⟩ | exact rfl)) | (apply Wp.opN; (apply Evt.all; intro; (simp []) <;> (try simp (disch := omega) only [wrap_id]) <;> first | exact ⟨rfl, rfl⟩ | exact rfl)) | (apply Wp.opG; (exact rfl); (apply Evt.all; intro; (simp []) <;> (try simp (disch := omega) only [wrap_id]) <;> first | exact ⟨rfl, rfl⟩ | exact rfl)) | (apply Wp.opS; (exact rfl); decide) | (apply Wp.opS0; (exact rfl)))); refine Wp.op0 (by (simp [M2.keep]) <;> rfl) ?_
      refine Wp.ret ⟨by simp [c_refine_start_of, resU, res1], ?_⟩
      have hl : st.length = (st.set id (.map (mapU startU 0 (ks ++ [k])))).length := by simp
      simp only
      rw [hl, trim_back (by simp) (hB _)]
    · cases ht
def linkU (x : Int × (Int × Int) × Bool) : List U := [i64 x.1, i64 x.2.1.1, i64 x.2.1.2, .bool x.2.2]
theorem link_same (x y : Int × (Int × Int) × Bool) : sameV (.tst [(1, .ti), (2, .tst [(1, .ti), (1, .ti)]), (1, .tb)]) (.agg (linkU x)) (.agg (linkU y)) = some (x == y) := by
  obtain ⟨x1, ⟨x2, x3⟩, x4⟩ := x
  obtain ⟨y1, ⟨y2, y3⟩, y4⟩ := y
  simp only [sameV, cellsS, Option.bind_some, linkU, sameD, same, same.fields, same.items, List.length_cons, List.length_nil, List.take, List.drop, i64]
  by_cases h1 : x1 = y1 <;> by_cases h2 : x2 = y2 <;> by_cases h3 : x3 = y3 <;> by_cases h4 : x4 = y4 <;> simp [h1, h2, h3, h4]
theorem link_of (ks : List (Int × (Int × Int) × Bool)) (k : Int × (Int × Int) × Bool) (st : List Ob) (id : Nat) (hid : st[id]? = some (.map (mapU linkU 0 ks))) (hB : ∀ m, (st.set id (.map m)).all (Ob.blw (st.set id (.map m)).length) = true) :
    Cl T 20 [.mp id, .agg (linkU k)] st (i64 (ofF ks k).1) (st.set id (.map (mapU linkU 0 (ofF ks k).2))) := by
  have hlt : id < st.length := by
    rcases Nat.lt_or_ge id st.length with h | h
    · exact h
    · rw [List.getElem?_eq_none h] at hid; cases hid
  have hst : st.set id (.map (mapU linkU 0 ks)) = st := by
    apply List.ext_getElem?
    intro j
    rw [List.getElem?_set]
    split
    · rename_i h; subst h; rw [hid]
    · rfl
  have hget : ∀ b, (st ++ [b])[id]? = some (.map (mapU linkU 0 ks)) := fun b => by rw [List.getElem?_append_left hlt, hid]
  have hsm : sameV (.tst [(1, .ti), (2, .tst [(1, .ti), (1, .ti)]), (1, .tb)]) (.agg (linkU k)) (.agg (linkU k)) = some true := by rw [link_same]; simp
  have hlk := look_in link_same k 0 ks
  have hcl : closed (.agg (linkU k)) = true := rfl
  have hw : (linkU k).length = 4 := rfl
  have hw2 : (linkU k).take 4 = linkU k := rfl
  refine Wp.impure (fn := c_refine_link_of) rfl rfl rfl (Wp.seq ?_)
  (repeat (first | (apply Wp.op; (apply Evt.all; intro; (simp [newOb_end]) <;> (try simp (disch := omega) only [wrap_id]) <;> first | exact ⟨rfl, rfl⟩ | exact rfl)) | (apply Wp.opN; (apply Evt.all; intro; (simp [newOb_end]) <;> (try simp (disch := omega) only [wrap_id]) <;> first | exact ⟨rfl, rfl⟩ | exact rfl)) | (apply Wp.opG; (exact rfl); (apply Evt.all; intro; (simp [newOb_end]) <;> (try simp (disch := omega) only [wrap_id]) <;> first | exact ⟨rfl, rfl⟩ | exact rfl)) | (apply Wp.opS; (exact rfl); decide) | (apply Wp.opS0; (exact rfl)))); refine Wp.op0 (by (simp [M2.keep]) <;> rfl) ?_
  refine Wp.seq ?_
  cases hc : ks.contains k with
  | true =>
    rw [hc] at hlk
    have hof : ofF ks k = (ks.idxOf k, ks) := by simp only [ofF, hc, if_true]
    rw [hof]
    (repeat (first | (apply Wp.op; (apply Evt.all; intro; (simp [hw, hw2, hget, hsm, hlk]) <;> (try simp (disch := omega) only [wrap_id]) <;> first | exact ⟨rfl, rfl⟩ | exact rfl)) | (apply Wp.opN; (apply Evt.all; intro; (simp [hw, hw2, hget, hsm, hlk]) <;> (try simp (disch := omega) only [wrap_id]) <;> first | exact ⟨rfl, rfl⟩ | exact rfl)) | (apply Wp.opG; (exact rfl); (apply Evt.all; intro; (simp [hw, hw2, hget, hsm, hlk]) <;> (try simp (disch := omega) only [wrap_id]) <;> first | exact ⟨rfl, rfl⟩ | exact rfl)) | (apply Wp.opS; (exact rfl); decide) | (apply Wp.opS0; (exact rfl)))); refine Wp.op0 (by (simp [M2.keep]) <;> rfl) ?_
    refine Wp.seq (Wp.seq ?_)
    (repeat (first | (apply Wp.op; (apply Evt.all; intro; (simp []) <;> (try simp (disch := omega) only [wrap_id]) <;> first | exact ⟨rfl, rfl⟩ | exact rfl)) | (apply Wp.opN; (apply Evt.all; intro; (simp []) <;> (try simp (disch := omega) only [wrap_id]) <;> first | exact ⟨rfl, rfl⟩ | exact rfl)) | (apply Wp.opG; (exact rfl); (apply Evt.all; intro; (simp []) <;> (try simp (disch := omega) only [wrap_id]) <;> first | exact ⟨rfl, rfl⟩ | exact rfl)) | (apply Wp.opS; (exact rfl); decide) | (apply Wp.opS0; (exact rfl)))); refine Wp.op0 (by (simp [M2.keep]) <;> rfl) ?_
    refine Wp.cond (by first | rfl | (simp; rfl)) (fun ht => ?_) (fun ht => ?_)
    · cases ht
    · refine Wp.skip (Wp.seq ?_)
      (repeat (first | (apply Wp.op; (apply Evt.all; intro; (simp []) <;> (try simp (disch := omega) only [wrap_id]) <;> first | exact ⟨rfl, rfl⟩ | exact rfl)) | (apply Wp.opN; (apply Evt.all; intro; (simp []) <;> (try simp (disch := omega) only [wrap_id]) <;> first | exact ⟨rfl, rfl⟩ | exact rfl)) | (apply Wp.opG; (exact rfl); (apply Evt.all; intro; (simp []) <;> (try simp (disch := omega) only [wrap_id]) <;> first | exact ⟨rfl, rfl⟩ | exact rfl)) | (apply Wp.opS; (exact rfl); decide) | (apply Wp.opS0; (exact rfl)))); refine Wp.op0 (by (simp [M2.keep]) <;> rfl) ?_
      refine Wp.ret ⟨by simp [c_refine_link_of, resU, res1], ?_⟩
      rw [trim_back (by simp) (by have := hB (mapU linkU 0 ks); rwa [hst] at this)]
      exact hst.symm
  | false =>
    rw [hc] at hlk
    have hof : ofF ks k = (ks.length, ks ++ [k]) := by simp only [ofF, hc, Bool.false_eq_true, if_false]
    rw [hof]
    have hms := mset_new link_same k ks.length 0 ks hc (by omega)
    have hcl2 : closed (i64 ks.length) = true := rfl
    have hml := mapU_len linkU 0 ks
    have hset : ∀ b m, (st ++ [b]).set id (.map m) = st.set id (.map m) ++ [b] := fun b m => List.set_append_left _ _ hlt
    (repeat (first | (apply Wp.op; (apply Evt.all; intro; (simp [hw, hw2, hget, hsm, hlk]) <;> (try simp (disch := omega) only [wrap_id]) <;> first | exact ⟨rfl, rfl⟩ | exact rfl)) | (apply Wp.opN; (apply Evt.all; intro; (simp [hw, hw2, hget, hsm, hlk]) <;> (try simp (disch := omega) only [wrap_id]) <;> first | exact ⟨rfl, rfl⟩ | exact rfl)) | (apply Wp.opG; (exact rfl); (apply Evt.all; intro; (simp [hw, hw2, hget, hsm, hlk]) <;> (try simp (disch := omega) only [wrap_id]) <;> first | exact ⟨rfl, rfl⟩ | exact rfl)) | (apply Wp.opS; (exact rfl); decide) | (apply Wp.opS0; (exact rfl)))); refine Wp.op0 (by (simp [M2.keep]) <;> rfl) ?_
    refine Wp.seq (Wp.seq ?_)
    (repeat (first | (apply Wp.op; (apply Evt.all; intro; (simp []) <;> (try simp (disch := omega) only [wrap_id]) <;> first | exact ⟨rfl, rfl⟩ | exact rfl)) | (apply Wp.opN; (apply Evt.all; intro; (simp []) <;> (try simp (disch := omega) only [wrap_id]) <;> first | exact ⟨rfl, rfl⟩ | exact rfl)) | (apply Wp.opG; (exact rfl); (apply Evt.all; intro; (simp []) <;> (try simp (disch := omega) only [wrap_id]) <;> first | exact ⟨rfl, rfl⟩ | exact rfl)) | (apply Wp.opS; (exact rfl); decide) | (apply Wp.opS0; (exact rfl)))); refine Wp.op0 (by (simp [M2.keep]) <;> rfl) ?_
    refine Wp.cond (by first | rfl | (simp; rfl)) (fun ht => ?_) (fun ht => ?_)
    · refine Wp.seq ?_
      (repeat (first | (apply Wp.op; (apply Evt.all; intro; (simp [hget, hml]) <;> (try simp (disch := omega) only [wrap_id]) <;> first | exact ⟨rfl, rfl⟩ | exact rfl)) | (apply Wp.opN; (apply Evt.all; intro; (simp [hget, hml]) <;> (try simp (disch := omega) only [wrap_id]) <;> first | exact ⟨rfl, rfl⟩ | exact rfl)) | (apply Wp.opG; (exact rfl); (apply Evt.all; intro; (simp [hget, hml]) <;> (try simp (disch := omega) only [wrap_id]) <;> first | exact ⟨rfl, rfl⟩ | exact rfl)) | (apply Wp.opS; (exact rfl); decide) | (apply Wp.opS0; (exact rfl)))); refine Wp.op0 (by (simp [M2.keep]) <;> rfl) ?_
      (repeat (first | (apply Wp.op; (apply Evt.all; intro; (simp [hget, hml, hcl, hsm, hms, hw, hw2, hset, hcl2]) <;> (try simp (disch := omega) only [wrap_id]) <;> first | exact ⟨rfl, rfl⟩ | exact rfl)) | (apply Wp.opN; (apply Evt.all; intro; (simp [hget, hml, hcl, hsm, hms, hw, hw2, hset, hcl2]) <;> (try simp (disch := omega) only [wrap_id]) <;> first | exact ⟨rfl, rfl⟩ | exact rfl)) | (apply Wp.opG; (exact rfl); (apply Evt.all; intro; (simp [hget, hml, hcl, hsm, hms, hw, hw2, hset, hcl2]) <;> (try simp (disch := omega) only [wrap_id]) <;> first | exact ⟨rfl, rfl⟩ | exact rfl)) | (apply Wp.opS; (exact rfl); decide) | (apply Wp.opS0; (exact rfl)))); refine Wp.op0 (by (simp [M2.keep]) <;> rfl) ?_
      refine Wp.seq ?_
      (repeat (first | (apply Wp.op; (apply Evt.all; intro; (simp []) <;> (try simp (disch := omega) only [wrap_id]) <;> first | exact ⟨rfl, rfl⟩ | exact rfl)) | (apply Wp.opN; (apply Evt.all; intro; (simp []) <;> (try simp (disch := omega) only [wrap_id]) <;> first | exact ⟨rfl, rfl⟩ | exact rfl)) | (apply Wp.opG; (exact rfl); (apply Evt.all; intro; (simp []) <;> (try simp (disch := omega) only [wrap_id]) <;> first | exact ⟨rfl, rfl⟩ | exact rfl)) | (apply Wp.opS; (exact rfl); decide) | (apply Wp.opS0; (exact rfl)))); refine Wp.op0 (by (simp [M2.keep]) <;> rfl) ?_
      refine Wp.ret ⟨by simp [c_refine_link_of, resU, res1], ?_⟩
      have hl : st.length = (st.set id (.map (mapU linkU 0 (ks ++ [k])))).length := by simp
      simp only
      rw [hl, trim_back (by simp) (hB _)]
    · cases ht
def pairU (x : Int × Int) : List U := [i64 x.1, i64 x.2]
theorem pair_same (x y : Int × Int) : sameV (.tarr 2 1 .ti) (.agg (pairU x)) (.agg (pairU y)) = some (x == y) := by
  obtain ⟨x1, x2⟩ := x
  obtain ⟨y1, y2⟩ := y
  simp only [sameV, cellsS, Option.bind_some, pairU, sameD, same, same.fields, same.items, List.length_cons, List.length_nil, List.take, List.drop, i64]
  by_cases h1 : x1 = y1 <;> by_cases h2 : x2 = y2 <;> simp [h1, h2]
theorem pair_of (ks : List (Int × Int)) (k : Int × Int) (st : List Ob) (id : Nat) (hid : st[id]? = some (.map (mapU pairU 0 ks))) (hB : ∀ m, (st.set id (.map m)).all (Ob.blw (st.set id (.map m)).length) = true) :
    Cl T 21 [.mp id, .agg (pairU k)] st (i64 (ofF ks k).1) (st.set id (.map (mapU pairU 0 (ofF ks k).2))) := by
  have hlt : id < st.length := by
    rcases Nat.lt_or_ge id st.length with h | h
    · exact h
    · rw [List.getElem?_eq_none h] at hid; cases hid
  have hst : st.set id (.map (mapU pairU 0 ks)) = st := by
    apply List.ext_getElem?
    intro j
    rw [List.getElem?_set]
    split
    · rename_i h; subst h; rw [hid]
    · rfl
  have hget : ∀ b, (st ++ [b])[id]? = some (.map (mapU pairU 0 ks)) := fun b => by rw [List.getElem?_append_left hlt, hid]
  have hsm : sameV (.tarr 2 1 .ti) (.agg (pairU k)) (.agg (pairU k)) = some true := by rw [pair_same]; simp
  have hlk := look_in pair_same k 0 ks
  have hcl : closed (.agg (pairU k)) = true := rfl
  have hw : (pairU k).length = 2 := rfl
  have hw2 : (pairU k).take 2 = pairU k := rfl
  refine Wp.impure (fn := c_refine_numbers_2_int_of) rfl rfl rfl (Wp.seq ?_)
  (repeat (first | (apply Wp.op; (apply Evt.all; intro; (simp [newOb_end]) <;> (try simp (disch := omega) only [wrap_id]) <;> first | exact ⟨rfl, rfl⟩ | exact rfl)) | (apply Wp.opN; (apply Evt.all; intro; (simp [newOb_end]) <;> (try simp (disch := omega) only [wrap_id]) <;> first | exact ⟨rfl, rfl⟩ | exact rfl)) | (apply Wp.opG; (exact rfl); (apply Evt.all; intro; (simp [newOb_end]) <;> (try simp (disch := omega) only [wrap_id]) <;> first | exact ⟨rfl, rfl⟩ | exact rfl)) | (apply Wp.opS; (exact rfl); decide) | (apply Wp.opS0; (exact rfl)))); refine Wp.op0 (by (simp [M2.keep]) <;> rfl) ?_
  refine Wp.seq ?_
  cases hc : ks.contains k with
  | true =>
    rw [hc] at hlk
    have hof : ofF ks k = (ks.idxOf k, ks) := by simp only [ofF, hc, if_true]
    rw [hof]
    (repeat (first | (apply Wp.op; (apply Evt.all; intro; (simp [hw, hw2, hget, hsm, hlk]) <;> (try simp (disch := omega) only [wrap_id]) <;> first | exact ⟨rfl, rfl⟩ | exact rfl)) | (apply Wp.opN; (apply Evt.all; intro; (simp [hw, hw2, hget, hsm, hlk]) <;> (try simp (disch := omega) only [wrap_id]) <;> first | exact ⟨rfl, rfl⟩ | exact rfl)) | (apply Wp.opG; (exact rfl); (apply Evt.all; intro; (simp [hw, hw2, hget, hsm, hlk]) <;> (try simp (disch := omega) only [wrap_id]) <;> first | exact ⟨rfl, rfl⟩ | exact rfl)) | (apply Wp.opS; (exact rfl); decide) | (apply Wp.opS0; (exact rfl)))); refine Wp.op0 (by (simp [M2.keep]) <;> rfl) ?_
    refine Wp.seq (Wp.seq ?_)
    (repeat (first | (apply Wp.op; (apply Evt.all; intro; (simp []) <;> (try simp (disch := omega) only [wrap_id]) <;> first | exact ⟨rfl, rfl⟩ | exact rfl)) | (apply Wp.opN; (apply Evt.all; intro; (simp []) <;> (try simp (disch := omega) only [wrap_id]) <;> first | exact ⟨rfl, rfl⟩ | exact rfl)) | (apply Wp.opG; (exact rfl); (apply Evt.all; intro; (simp []) <;> (try simp (disch := omega) only [wrap_id]) <;> first | exact ⟨rfl, rfl⟩ | exact rfl)) | (apply Wp.opS; (exact rfl); decide) | (apply Wp.opS0; (exact rfl)))); refine Wp.op0 (by (simp [M2.keep]) <;> rfl) ?_
    refine Wp.cond (by first | rfl | (simp; rfl)) (fun ht => ?_) (fun ht => ?_)
    · cases ht
    · refine Wp.skip (Wp.seq ?_)
      (repeat (first | (apply Wp.op; (apply Evt.all; intro; (simp []) <;> (try simp (disch := omega) only [wrap_id]) <;> first | exact ⟨rfl, rfl⟩ | exact rfl)) | (apply Wp.opN; (apply Evt.all; intro; (simp []) <;> (try simp (disch := omega) only [wrap_id]) <;> first | exact ⟨rfl, rfl⟩ | exact rfl)) | (apply Wp.opG; (exact rfl); (apply Evt.all; intro; (simp []) <;> (try simp (disch := omega) only [wrap_id]) <;> first | exact ⟨rfl, rfl⟩ | exact rfl)) | (apply Wp.opS; (exact rfl); decide) | (apply Wp.opS0; (exact rfl)))); refine Wp.op0 (by (simp [M2.keep]) <;> rfl) ?_
      refine Wp.ret ⟨by simp [c_refine_numbers_2_int_of, resU, res1], ?_⟩
      rw [trim_back (by simp) (by have := hB (mapU pairU 0 ks); rwa [hst] at this)]
      exact hst.symm
  | false =>
    rw [hc] at hlk
    have hof : ofF ks k = (ks.length, ks ++ [k]) := by simp only [ofF, hc, Bool.false_eq_true, if_false]
    rw [hof]
    have hms := mset_new pair_same k ks.length 0 ks hc (by omega)
    have hcl2 : closed (i64 ks.length) = true := rfl
    have hml := mapU_len pairU 0 ks
    have hset : ∀ b m, (st ++ [b]).set id (.map m) = st.set id (.map m) ++ [b] := fun b m => List.set_append_left _ _ hlt
    (repeat (first | (apply Wp.op; (apply Evt.all; intro; (simp [hw, hw2, hget, hsm, hlk]) <;> (try simp (disch := omega) only [wrap_id]) <;> first | exact ⟨rfl, rfl⟩ | exact rfl)) | (apply Wp.opN; (apply Evt.all; intro; (simp [hw, hw2, hget, hsm, hlk]) <;> (try simp (disch := omega) only [wrap_id]) <;> first | exact ⟨rfl, rfl⟩ | exact rfl)) | (apply Wp.opG; (exact rfl); (apply Evt.all; intro; (simp [hw, hw2, hget, hsm, hlk]) <;> (try simp (disch := omega) only [wrap_id]) <;> first | exact ⟨rfl, rfl⟩ | exact rfl)) | (apply Wp.opS; (exact rfl); decide) | (apply Wp.opS0; (exact rfl)))); refine Wp.op0 (by (simp [M2.keep]) <;> rfl) ?_
    refine Wp.seq (Wp.seq ?_)
    (repeat (first | (apply Wp.op; (apply Evt.all; intro; (simp []) <;> (try simp (disch := omega) only [wrap_id]) <;> first | exact ⟨rfl, rfl⟩ | exact rfl)) | (apply Wp.opN; (apply Evt.all; intro; (simp []) <;> (try simp (disch := omega) only [wrap_id]) <;> first | exact ⟨rfl, rfl⟩ | exact rfl)) | (apply Wp.opG; (exact rfl); (apply Evt.all; intro; (simp []) <;> (try simp (disch := omega) only [wrap_id]) <;> first | exact ⟨rfl, rfl⟩ | exact rfl)) | (apply Wp.opS; (exact rfl); decide) | (apply Wp.opS0; (exact rfl)))); refine Wp.op0 (by (simp [M2.keep]) <;> rfl) ?_
    refine Wp.cond (by first | rfl | (simp; rfl)) (fun ht => ?_) (fun ht => ?_)
    · refine Wp.seq ?_
      (repeat (first | (apply Wp.op; (apply Evt.all; intro; (simp [hget, hml]) <;> (try simp (disch := omega) only [wrap_id]) <;> first | exact ⟨rfl, rfl⟩ | exact rfl)) | (apply Wp.opN; (apply Evt.all; intro; (simp [hget, hml]) <;> (try simp (disch := omega) only [wrap_id]) <;> first | exact ⟨rfl, rfl⟩ | exact rfl)) | (apply Wp.opG; (exact rfl); (apply Evt.all; intro; (simp [hget, hml]) <;> (try simp (disch := omega) only [wrap_id]) <;> first | exact ⟨rfl, rfl⟩ | exact rfl)) | (apply Wp.opS; (exact rfl); decide) | (apply Wp.opS0; (exact rfl)))); refine Wp.op0 (by (simp [M2.keep]) <;> rfl) ?_
      (repeat (first | (apply Wp.op; (apply Evt.all; intro; (simp [hget, hml, hcl, hsm, hms, hw, hw2, hset, hcl2]) <;> (try simp (disch := omega) only [wrap_id]) <;> first | exact ⟨rfl, rfl⟩ | exact rfl)) | (apply Wp.opN; (apply Evt.all; intro; (simp [hget, hml, hcl, hsm, hms, hw, hw2, hset, hcl2]) <;> (try simp (disch := omega) only [wrap_id]) <;> first | exact ⟨rfl, rfl⟩ | exact rfl)) | (apply Wp.opG; (exact rfl); (apply Evt.all; intro; (simp [hget, hml, hcl, hsm, hms, hw, hw2, hset, hcl2]) <;> (try simp (disch := omega) only [wrap_id]) <;> first | exact ⟨rfl, rfl⟩ | exact rfl)) | (apply Wp.opS; (exact rfl); decide) | (apply Wp.opS0; (exact rfl)))); refine Wp.op0 (by (simp [M2.keep]) <;> rfl) ?_
      refine Wp.seq ?_
      (repeat (first | (apply Wp.op; (apply Evt.all; intro; (simp []) <;> (try simp (disch := omega) only [wrap_id]) <;> first | exact ⟨rfl, rfl⟩ | exact rfl)) | (apply Wp.opN; (apply Evt.all; intro; (simp []) <;> (try simp (disch := omega) only [wrap_id]) <;> first | exact ⟨rfl, rfl⟩ | exact rfl)) | (apply Wp.opG; (exact rfl); (apply Evt.all; intro; (simp []) <;> (try simp (disch := omega) only [wrap_id]) <;> first | exact ⟨rfl, rfl⟩ | exact rfl)) | (apply Wp.opS; (exact rfl); decide) | (apply Wp.opS0; (exact rfl)))); refine Wp.op0 (by (simp [M2.keep]) <;> rfl) ?_
      refine Wp.ret ⟨by simp [c_refine_numbers_2_int_of, resU, res1], ?_⟩
      have hl : st.length = (st.set id (.map (mapU pairU 0 (ks ++ [k])))).length := by simp
      simp only
      rw [hl, trim_back (by simp) (hB _)]
    · cases ht
end Go.Proofs.Ytaefnggoempdlaa.M2

/- What the functions answer in M2. Part 7: round. -/
namespace Go.Proofs.Ytaefnggoempdlaa.M2
open Go
attribute [local simp] ev1 M2.get put A.ev ld sub part elems bin arith un opt idx fillC cellsO splice over newOb sto fillR laidOwn appTo appRow touch touchN touchM touchE touchA plainU flatU plainAs allM rowAt stoRow accM_nil accM_cons accMM_nil accMM_cons frz_int frz_bool frz_str frz_slt frz_nils frz_nilI frz_nilF frz_own frzRow_row frzRow_frow Ob.blw blw_bool blw_int blw_str blw_nils blw_nilI blw_nilF blw_nilp blw_nilm blw_sl blw_own blw_bp blw_rp blw_mp blw_it params

def natsU (l : List Nat) : List (List U) := l.map fun n : Nat => [i64 n]
theorem natsU_len (l : List Nat) : (natsU l).length = l.length := by simp [natsU]
theorem natsU_get {l : List Nat} {i : Nat} (h : i < l.length) : (natsU l)[i]? = some [i64 l[i]] := by simp [natsU, h]
theorem natsU_getE {l : List Nat} {i : Nat} (h : i < (natsU l).length) : (natsU l)[i] = [i64 (l[i]'(by rwa [natsU_len] at h) : Nat)] := by simp [natsU]
theorem refsU_len (l : List (Int × Int)) : (refsU l).length = l.length := by simp [refsU]
theorem rowU_eq (r : Row) : rowU r = [i64 r.c, .sl r.q (refsU r.to)] := rfl
abbrev Link := Int × (Int × Int) × Bool
/-- A reference as a round looks at it: to what class it leads, if to a thing. -/
def refOf (len : Nat) (old : List Nat) (x : Int × Int) : (Int × Int) × Bool := if isThing len x then ((0, (old.getD x.2.toNat 0 : Nat)), true) else (x, false)
def linkF (len : Nat) (old : List Nat) (a : Int × List Link) (x : Int × Int) : Int × List Link := let r := ofF a.2 (a.1, refOf len old x); (r.1, r.2)
structure RS where
  starts : List (Int × Int × Int)
  links : List Link
  classes : List (Int × Int)
  out : List Nat
def rowF (len : Nat) (old : List Nat) (s : RS) (ro : Row × Nat) : RS :=
  let f := ofF s.starts ((ro.2 : Int), ro.1.c, (ro.1.to.length : Int))
  let a := ro.1.to.foldl (linkF len old) (-1 - (f.1 : Int), s.links)
  let p := ofF s.classes ((f.1 : Int), a.1)
  ⟨f.2, a.2, p.2, s.out ++ [p.1]⟩
def roundTo (l : List Row) (old : List Nat) (i : Nat) : RS := ((l.zip old).take i).foldl (rowF l.length old) ⟨[], [], [], []⟩
/-- A round: the new classes, and how many they are. -/
def roundF (l : List Row) (old : List Nat) : List Nat × Nat := ((roundTo l old l.length).out, (roundTo l old l.length).classes.length)

theorem ofF_le {α : Type} [BEq α] [LawfulBEq α] (ks : List α) (k : α) : (ofF ks k).1 ≤ ks.length ∧ (ofF ks k).2.length ≤ ks.length + 1 := by
  unfold ofF
  split
  · rename_i h
    exact ⟨List.idxOf_le_length, by simp⟩
  · simp

def r1E (p po : Bool) (l : List Row) (old : List Nat) (i : Nat) (f : Nat) (r : Row) (a : Int) (n : Nat) : Env :=
  [(0, rowsU p l), (1, .sl po (natsU old)), (6, .mp 0), (7, .mp 1), (8, .mp 2), (9, .own 3 l.length), (10, i64 i), (12, i64 f), (13, i64 a), (23, rowsU p l), (24, i64 l.length), (25, i64 i), (45, .sl r.q (refsU r.to)), (46, i64 r.to.length), (47, i64 n)]
def r1S (S0 S2 : List (U × U)) (X : List (List U)) (r : Row) (ls : List Link) : List Ob := [.map S0, .map (mapU linkU 0 ls), .map S2, .row 3 1 false X, .box (rowU r)]
theorem r1_step (p po : Bool) (l : List Row) (old : List Nat) (i f : Nat) (r : Row) (a : Int) (n : Nat) (S0 S2 : List (U × U)) (X : List (List U)) (ls : List Link) (hn : n < r.to.length) (hl : r.to.length < 1000000000000) (ho : old.length = l.length) :
    Wp T c_refine_round_L1 ⟨r1E p po l old i f r a n, r1S S0 S2 X r ls⟩ (fun s' => trimO 5 s' = ⟨r1E p po l old i f r (linkF l.length old (a, ls) r.to[n]).1 (n + 1 : Nat), r1S S0 S2 X r (linkF l.length old (a, ls) r.to[n]).2⟩) (fun _ => False) (fun _ _ => False) := by
  rw [r1E, r1S]
  refine Wp.seq ?_
  (repeat (first | (apply Wp.op; (apply Evt.all; intro; (simp []) <;> (try simp (disch := omega) only [wrap_id]) <;> first | exact ⟨rfl, rfl⟩ | exact rfl)) | (apply Wp.opN; (apply Evt.all; intro; (simp []) <;> (try simp (disch := omega) only [wrap_id]) <;> first | exact ⟨rfl, rfl⟩ | exact rfl)) | (apply Wp.opG; (exact rfl); (apply Evt.all; intro; (simp []) <;> (try simp (disch := omega) only [wrap_id]) <;> first | exact ⟨rfl, rfl⟩ | exact rfl)) | (apply Wp.opS; (exact rfl); decide) | (apply Wp.opS0; (exact rfl)))); refine Wp.op0 (by (simp [M2.keep]) <;> rfl) ?_
  refine Wp.seq ?_
  refine Wp.cond (by first | rfl | (simp; rfl)) (fun ht => ?_) (fun ht => ?_)
  · refine Wp.skip (Wp.seq (Wp.block (Wp.seq ?_)))
    (repeat (first | (apply Wp.op; (apply Evt.all; intro; (simp [refsU, hn, refU]) <;> (try simp (disch := omega) only [wrap_id]) <;> first | exact ⟨rfl, rfl⟩ | exact rfl)) | (apply Wp.opN; (apply Evt.all; intro; (simp [refsU, hn, refU]) <;> (try simp (disch := omega) only [wrap_id]) <;> first | exact ⟨rfl, rfl⟩ | exact rfl)) | (apply Wp.opG; (exact rfl); (apply Evt.all; intro; (simp [refsU, hn, refU]) <;> (try simp (disch := omega) only [wrap_id]) <;> first | exact ⟨rfl, rfl⟩ | exact rfl)) | (apply Wp.opS; (exact rfl); decide) | (apply Wp.opS0; (exact rfl)))); refine Wp.op0 (by (simp [M2.keep]) <;> rfl) ?_
    refine Wp.seq ?_
    (repeat (first | (apply Wp.op; (apply Evt.all; intro; (simp []) <;> (try simp (disch := omega) only [wrap_id]) <;> first | exact ⟨rfl, rfl⟩ | exact rfl)) | (apply Wp.opN; (apply Evt.all; intro; (simp []) <;> (try simp (disch := omega) only [wrap_id]) <;> first | exact ⟨rfl, rfl⟩ | exact rfl)) | (apply Wp.opG; (exact rfl); (apply Evt.all; intro; (simp []) <;> (try simp (disch := omega) only [wrap_id]) <;> first | exact ⟨rfl, rfl⟩ | exact rfl)) | (apply Wp.opS; (exact rfl); decide) | (apply Wp.opS0; (exact rfl)))); refine Wp.op0 (by (simp [M2.keep]) <;> rfl) ?_
    refine Wp.seq (Wp.seq ?_)
    generalize r.to[n] = x
    obtain ⟨x1, x2⟩ := x
    refine Wp.ops (s' := ⟨[(0, rowsU p l), (1, .sl po (natsU old)), (6, .mp 0), (7, .mp 1), (8, .mp 2), (9, .own 3 l.length), (10, i64 i), (12, i64 f), (15, .bp 5 0), (16, .bp 6 0), (23, rowsU p l), (24, i64 l.length), (25, i64 i), (45, .sl r.q (refsU r.to)), (46, i64 r.to.length), (47, i64 n), (68, .bool (isThing l.length (x1, x2)))],
      [.map S0, .map (mapU linkU 0 ls), .map S2, .row 3 1 false X, .box (rowU r), .box [i64 x1, i64 x2], .box [i64 a, i64 x1, i64 x2, .bool false]]⟩) (.all fun m => ?_) ?_
    · by_cases h0 : x1 = 0 <;> by_cases h1 : 0 ≤ x2 <;> simp [evC, evOs, evO, ev1, M2.get, put, keep, A.ev, ld, sub, part, elems, bin, arith, un, opt, idx, fillC, cellsO, splice, over, newOb, h0, h1, isThing, rowsU]
    have call : ∀ ref b, Cl T 20 [.mp 1, .agg (linkU (a, ref, b))] [.map S0, .map (mapU linkU 0 ls), .map S2, .row 3 1 false X, .box (rowU r), .box (refU (x1, x2)), .box (linkU (a, ref, b))] (i64 (ofF ls (a, ref, b)).1) [.map S0, .map (mapU linkU 0 (ofF ls (a, ref, b)).2), .map S2, .row 3 1 false X, .box (rowU r), .box (refU (x1, x2)), .box (linkU (a, ref, b))] := fun ref b =>
      link_of ls (a, ref, b) _ 1 rfl (fun m => by simp [rowU, refU, linkU])
    refine Wp.cond (by first | rfl | (simp; rfl)) (fun ht => ?_) (fun ht => ?_)
    · have hr : refOf l.length old (x1, x2) = ((0, ((old.getD x2.toNat 0 : Nat) : Int)), true) := by rw [refOf, if_pos ht]
      simp only [isThing, Bool.and_eq_true, decide_eq_true_eq] at ht
      obtain ⟨Y, rfl⟩ := Int.eq_ofNat_of_zero_le ht.1.2
      obtain rfl := ht.1.1
      have hY2 : Y < old.length := by omega
      have hr : refOf l.length old (0, (Y : Int)) = ((0, (old[Y] : Int)), true) := by simpa [hY2] using hr
      (repeat (first | (apply Wp.op; (apply Evt.all; intro; (simp [natsU, hY2]) <;> (try simp (disch := omega) only [wrap_id]) <;> first | exact ⟨rfl, rfl⟩ | exact rfl)) | (apply Wp.opN; (apply Evt.all; intro; (simp [natsU, hY2]) <;> (try simp (disch := omega) only [wrap_id]) <;> first | exact ⟨rfl, rfl⟩ | exact rfl)) | (apply Wp.opG; (exact rfl); (apply Evt.all; intro; (simp [natsU, hY2]) <;> (try simp (disch := omega) only [wrap_id]) <;> first | exact ⟨rfl, rfl⟩ | exact rfl)) | (apply Wp.opS; (exact rfl); decide) | (apply Wp.opS0; (exact rfl)))); refine Wp.op0 (by (simp [M2.keep]) <;> rfl) ?_
      repeat (first | (apply Wp.op; (apply Evt.all; intro; (simp []) <;> (try simp (disch := omega) only [wrap_id]) <;> first | exact ⟨rfl, rfl⟩ | exact rfl)) | (apply Wp.opN; (apply Evt.all; intro; (simp []) <;> (try simp (disch := omega) only [wrap_id]) <;> first | exact ⟨rfl, rfl⟩ | exact rfl)) | (apply Wp.opG; (exact rfl); (apply Evt.all; intro; (simp []) <;> (try simp (disch := omega) only [wrap_id]) <;> first | exact ⟨rfl, rfl⟩ | exact rfl)) | (apply Wp.opS; (exact rfl); decide) | (apply Wp.opS0; (exact rfl)))
      refine Wp.call (call (0, (old[Y] : Int)) true) ?_
      (repeat (first | (apply Wp.op; (apply Evt.all; intro; (simp []) <;> (try simp (disch := omega) only [wrap_id]) <;> first | exact ⟨rfl, rfl⟩ | exact rfl)) | (apply Wp.opN; (apply Evt.all; intro; (simp []) <;> (try simp (disch := omega) only [wrap_id]) <;> first | exact ⟨rfl, rfl⟩ | exact rfl)) | (apply Wp.opG; (exact rfl); (apply Evt.all; intro; (simp []) <;> (try simp (disch := omega) only [wrap_id]) <;> first | exact ⟨rfl, rfl⟩ | exact rfl)) | (apply Wp.opS; (exact rfl); decide) | (apply Wp.opS0; (exact rfl)))); refine Wp.op0 (by (simp [M2.keep]) <;> rfl) ?_
      (repeat (first | (apply Wp.op; (apply Evt.all; intro; (simp []) <;> (try simp (disch := omega) only [wrap_id]) <;> first | exact ⟨rfl, rfl⟩ | exact rfl)) | (apply Wp.opN; (apply Evt.all; intro; (simp []) <;> (try simp (disch := omega) only [wrap_id]) <;> first | exact ⟨rfl, rfl⟩ | exact rfl)) | (apply Wp.opG; (exact rfl); (apply Evt.all; intro; (simp []) <;> (try simp (disch := omega) only [wrap_id]) <;> first | exact ⟨rfl, rfl⟩ | exact rfl)) | (apply Wp.opS; (exact rfl); decide) | (apply Wp.opS0; (exact rfl)))); refine Wp.op0 (by (simp [M2.keep]) <;> rfl) ?_
      rw [r1E, r1S, linkF, hr]
      simp [trimO, trim, rowsU, rowU]
    · have hr : refOf l.length old (x1, x2) = ((x1, x2), false) := by rw [refOf, if_neg (by simp [ht])]
      refine Wp.skip ?_
      repeat (first | (apply Wp.op; (apply Evt.all; intro; (simp []) <;> (try simp (disch := omega) only [wrap_id]) <;> first | exact ⟨rfl, rfl⟩ | exact rfl)) | (apply Wp.opN; (apply Evt.all; intro; (simp []) <;> (try simp (disch := omega) only [wrap_id]) <;> first | exact ⟨rfl, rfl⟩ | exact rfl)) | (apply Wp.opG; (exact rfl); (apply Evt.all; intro; (simp []) <;> (try simp (disch := omega) only [wrap_id]) <;> first | exact ⟨rfl, rfl⟩ | exact rfl)) | (apply Wp.opS; (exact rfl); decide) | (apply Wp.opS0; (exact rfl)))
      refine Wp.call (call (x1, x2) false) ?_
      (repeat (first | (apply Wp.op; (apply Evt.all; intro; (simp []) <;> (try simp (disch := omega) only [wrap_id]) <;> first | exact ⟨rfl, rfl⟩ | exact rfl)) | (apply Wp.opN; (apply Evt.all; intro; (simp []) <;> (try simp (disch := omega) only [wrap_id]) <;> first | exact ⟨rfl, rfl⟩ | exact rfl)) | (apply Wp.opG; (exact rfl); (apply Evt.all; intro; (simp []) <;> (try simp (disch := omega) only [wrap_id]) <;> first | exact ⟨rfl, rfl⟩ | exact rfl)) | (apply Wp.opS; (exact rfl); decide) | (apply Wp.opS0; (exact rfl)))); refine Wp.op0 (by (simp [M2.keep]) <;> rfl) ?_
      (repeat (first | (apply Wp.op; (apply Evt.all; intro; (simp []) <;> (try simp (disch := omega) only [wrap_id]) <;> first | exact ⟨rfl, rfl⟩ | exact rfl)) | (apply Wp.opN; (apply Evt.all; intro; (simp []) <;> (try simp (disch := omega) only [wrap_id]) <;> first | exact ⟨rfl, rfl⟩ | exact rfl)) | (apply Wp.opG; (exact rfl); (apply Evt.all; intro; (simp []) <;> (try simp (disch := omega) only [wrap_id]) <;> first | exact ⟨rfl, rfl⟩ | exact rfl)) | (apply Wp.opS; (exact rfl); decide) | (apply Wp.opS0; (exact rfl)))); refine Wp.op0 (by (simp [M2.keep]) <;> rfl) ?_
      rw [r1E, r1S, linkF, hr]
      simp [trimO, trim, rowsU, rowU]
  · simp [hn] at ht
def linksAt (len : Nat) (old : List Nat) (a : Int) (ls : List Link) (to : List (Int × Int)) (n : Nat) : Int × List Link := (to.take n).foldl (linkF len old) (a, ls)
theorem linksAt_succ (len : Nat) (old : List Nat) (a : Int) (ls : List Link) (to : List (Int × Int)) (n : Nat) (hn : n < to.length) : linksAt len old a ls to (n + 1) = linkF len old (linksAt len old a ls to n) to[n] := by
  rw [linksAt, List.take_succ_eq_append_getElem hn, List.foldl_append]
  rfl
theorem r1_loop (p po : Bool) (l : List Row) (old : List Nat) (i f : Nat) (r : Row) (a : Int) (S0 S2 : List (U × U)) (X : List (List U)) (ls : List Link) (hl : r.to.length < 1000000000000) (ho : old.length = l.length) :
    Wp T (.loop c_refine_round_L1) ⟨r1E p po l old i f r a (0 : Nat), r1S S0 S2 X r ls⟩ (fun _ => False) (fun _ => False)
      (fun b s' => b = 2 ∧ s' = ⟨r1E p po l old i f r (r.to.foldl (linkF l.length old) (a, ls)).1 r.to.length ++ [(48, .bool false)], r1S S0 S2 X r (r.to.foldl (linkF l.length old) (a, ls)).2⟩) := by
  let σ : Nat → S := fun n => ⟨r1E p po l old i f r (linksAt l.length old a ls r.to n).1 n, r1S S0 S2 X r (linksAt l.length old a ls r.to n).2⟩
  refine Wp.count r.to.length σ (fun _ => True) (fun n hn _ => ?_) (fun _ => ?_) 0 (by omega) trivial
  · refine (r1_step p po l old i f r (linksAt l.length old a ls r.to n).1 n S0 S2 X (linksAt l.length old a ls r.to n).2 hn hl ho).imp0 (fun s h => ⟨?_, trivial⟩)
    simp only [σ, linksAt_succ _ _ _ _ _ _ hn]
    exact h
  · simp only [σ, linksAt, List.take_length]
    rw [r1E, r1S]
    refine Wp.seq ?_
    (repeat (first | (apply Wp.op; (apply Evt.all; intro; (simp []) <;> (try simp (disch := omega) only [wrap_id]) <;> first | exact ⟨rfl, rfl⟩ | exact rfl)) | (apply Wp.opN; (apply Evt.all; intro; (simp []) <;> (try simp (disch := omega) only [wrap_id]) <;> first | exact ⟨rfl, rfl⟩ | exact rfl)) | (apply Wp.opG; (exact rfl); (apply Evt.all; intro; (simp []) <;> (try simp (disch := omega) only [wrap_id]) <;> first | exact ⟨rfl, rfl⟩ | exact rfl)) | (apply Wp.opS; (exact rfl); decide) | (apply Wp.opS0; (exact rfl)))); refine Wp.op0 (by (simp [M2.keep]) <;> rfl) ?_
    refine Wp.seq ?_
    refine Wp.cond (by first | rfl | (simp; rfl)) (fun ht => ?_) (fun ht => ?_)
    · simp at ht
    · exact Wp.exit ⟨rfl, by simp [r1E, r1S]⟩
def r2S (p po : Bool) (l : List Row) (old : List Nat) (i : Nat) (s : RS) : S :=
  ⟨[(0, rowsU p l), (1, .sl po (natsU old)), (6, .mp 0), (7, .mp 1), (8, .mp 2), (9, .own 3 l.length), (23, rowsU p l), (24, i64 l.length), (25, i64 i)],
    [.map (mapU startU 0 s.starts), .map (mapU linkU 0 s.links), .map (mapU pairU 0 s.classes), .row 3 1 false (natsU s.out ++ List.replicate (l.length - i) [i64 0])]⟩
theorem r2_step (p po : Bool) (l : List Row) (old : List Nat) (i : Nat) (s : RS) (hi : i < l.length) (hl : l[i].to.length < 1000000000000) (hs : l.length < 1000000000000) (ho : old.length = l.length) (hf : s.starts.length ≤ i) (hout : s.out.length = i) :
    Wp T c_refine_round_L2 (r2S p po l old i s) (fun s' => trimO 4 s' = r2S p po l old (i + 1) (rowF l.length old s (l[i], old[i]))) (fun _ => False) (fun _ _ => False) := by
  rw [r2S]
  obtain ⟨X, hX⟩ : ∃ X, natsU s.out ++ List.replicate (l.length - i) [i64 0] = X := ⟨_, rfl⟩
  rw [hX]
  refine Wp.seq ?_
  (repeat (first | (apply Wp.op; (apply Evt.all; intro; (simp []) <;> (try simp (disch := omega) only [wrap_id]) <;> first | exact ⟨rfl, rfl⟩ | exact rfl)) | (apply Wp.opN; (apply Evt.all; intro; (simp []) <;> (try simp (disch := omega) only [wrap_id]) <;> first | exact ⟨rfl, rfl⟩ | exact rfl)) | (apply Wp.opG; (exact rfl); (apply Evt.all; intro; (simp []) <;> (try simp (disch := omega) only [wrap_id]) <;> first | exact ⟨rfl, rfl⟩ | exact rfl)) | (apply Wp.opS; (exact rfl); decide) | (apply Wp.opS0; (exact rfl)))); refine Wp.op0 (by (simp [M2.keep]) <;> rfl) ?_
  refine Wp.seq ?_
  have hio : i < old.length := by omega
  refine Wp.cond (by first | rfl | (simp; rfl)) (fun ht => ?_) (fun ht => ?_)
  · refine Wp.skip (Wp.seq (Wp.block (Wp.seq ?_)))
    (repeat (first | (apply Wp.op; (apply Evt.all; intro; (simp [rowsU, hi, rowU_eq]) <;> (try simp (disch := omega) only [wrap_id]) <;> first | exact ⟨rfl, rfl⟩ | exact rfl)) | (apply Wp.opN; (apply Evt.all; intro; (simp [rowsU, hi, rowU_eq]) <;> (try simp (disch := omega) only [wrap_id]) <;> first | exact ⟨rfl, rfl⟩ | exact rfl)) | (apply Wp.opG; (exact rfl); (apply Evt.all; intro; (simp [rowsU, hi, rowU_eq]) <;> (try simp (disch := omega) only [wrap_id]) <;> first | exact ⟨rfl, rfl⟩ | exact rfl)) | (apply Wp.opS; (exact rfl); decide) | (apply Wp.opS0; (exact rfl)))); refine Wp.op0 (by (simp [M2.keep]) <;> rfl) ?_
    generalize l[i] = r at *
    obtain ⟨q, c, to⟩ := r
    simp only at *
    refine Wp.seq ?_
    have c0 : Cl T 19 [.mp 0, .agg (startU (old[i], c, to.length))] [.map (mapU startU 0 s.starts), .map (mapU linkU 0 s.links), .map (mapU pairU 0 s.classes), .row 3 1 false X, .box [i64 c, .sl q (refsU to)]] (i64 (ofF s.starts ((old[i] : Int), c, (to.length : Int))).1) [.map (mapU startU 0 (ofF s.starts ((old[i] : Int), c, (to.length : Int))).2), .map (mapU linkU 0 s.links), .map (mapU pairU 0 s.classes), .row 3 1 false X, .box [i64 c, .sl q (refsU to)]] :=
      start_of s.starts _ _ 0 rfl (fun m => by simp)
    apply Wp.draw; ((simp [c_refine_round_D0, I.need]) <;> rfl); ((simp []) <;> rfl); ((simp []) <;> rfl); unfold c_refine_round_D0
    repeat (first | (apply Dr.op; ((simp [natsU_len, natsU_getE, refsU_len, hio]) <;> rfl); (apply Evt.all; intro; (simp [natsU_len, natsU_getE, refsU_len, hio]) <;> (try simp (disch := omega) only [wrap_id]) <;> first | exact ⟨rfl, rfl⟩ | exact rfl); ((simp [I.need]) <;> rfl)) | (apply Dr.opN; ((simp [natsU_len, natsU_getE, refsU_len, hio]) <;> rfl); (apply Evt.all; intro; (simp [natsU_len, natsU_getE, refsU_len, hio]) <;> (try simp (disch := omega) only [wrap_id]) <;> first | exact ⟨rfl, rfl⟩ | exact rfl); ((simp [I.need]) <;> rfl)) | (apply Dr.opG; (exact rfl); ((simp [natsU_len, natsU_getE, refsU_len, hio]) <;> rfl); (apply Evt.all; intro; (simp [natsU_len, natsU_getE, refsU_len, hio]) <;> (try simp (disch := omega) only [wrap_id]) <;> first | exact ⟨rfl, rfl⟩ | exact rfl); ((simp [I.need]) <;> rfl)) | (apply Dr.opS; (exact rfl); decide; ((simp [I.need]) <;> rfl)) | (apply Dr.opS0; (exact rfl); ((simp [I.need]) <;> rfl)))
    apply Dr.call
    · (simp) <;> rfl
    · exact c0
    repeat (first | (apply Dr.op; ((simp []) <;> rfl); (apply Evt.all; intro; (simp []) <;> (try simp (disch := omega) only [wrap_id]) <;> first | exact ⟨rfl, rfl⟩ | exact rfl); ((simp [I.need]) <;> rfl)) | (apply Dr.opN; ((simp []) <;> rfl); (apply Evt.all; intro; (simp []) <;> (try simp (disch := omega) only [wrap_id]) <;> first | exact ⟨rfl, rfl⟩ | exact rfl); ((simp [I.need]) <;> rfl)) | (apply Dr.opG; (exact rfl); ((simp []) <;> rfl); (apply Evt.all; intro; (simp []) <;> (try simp (disch := omega) only [wrap_id]) <;> first | exact ⟨rfl, rfl⟩ | exact rfl); ((simp [I.need]) <;> rfl)) | (apply Dr.opS; (exact rfl); decide; ((simp [I.need]) <;> rfl)) | (apply Dr.opS0; (exact rfl); ((simp [I.need]) <;> rfl)))
    exact Dr.nil; (first | decide +kernel | exact rfl); ((simp [M2.keep]) <;> rfl)
    refine Wp.seq ?_
    have hfle := ofF_le s.starts ((old[i] : Int), c, (to.length : Int))
    (repeat (first | (apply Wp.op; (apply Evt.all; intro; (simp []) <;> (try simp (disch := omega) only [wrap_id]) <;> first | exact ⟨rfl, rfl⟩ | exact rfl)) | (apply Wp.opN; (apply Evt.all; intro; (simp []) <;> (try simp (disch := omega) only [wrap_id]) <;> first | exact ⟨rfl, rfl⟩ | exact rfl)) | (apply Wp.opG; (exact rfl); (apply Evt.all; intro; (simp []) <;> (try simp (disch := omega) only [wrap_id]) <;> first | exact ⟨rfl, rfl⟩ | exact rfl)) | (apply Wp.opS; (exact rfl); decide) | (apply Wp.opS0; (exact rfl)))); refine Wp.op0 (by (simp [M2.keep]) <;> rfl) ?_
    refine Wp.seq (Wp.seq ?_)
    (repeat (first | (apply Wp.op; (apply Evt.all; intro; (simp [refsU_len]) <;> (try simp (disch := omega) only [wrap_id]) <;> first | exact ⟨rfl, rfl⟩ | exact rfl)) | (apply Wp.opN; (apply Evt.all; intro; (simp [refsU_len]) <;> (try simp (disch := omega) only [wrap_id]) <;> first | exact ⟨rfl, rfl⟩ | exact rfl)) | (apply Wp.opG; (exact rfl); (apply Evt.all; intro; (simp [refsU_len]) <;> (try simp (disch := omega) only [wrap_id]) <;> first | exact ⟨rfl, rfl⟩ | exact rfl)) | (apply Wp.opS; (exact rfl); decide) | (apply Wp.opS0; (exact rfl)))); refine Wp.op0 (by (simp [M2.keep]) <;> rfl) ?_
    refine Wp.block ?_
    have hX2 : X.length = l.length := by rw [← hX]; simp [natsU_len, hout]; omega
    have hX3 : ∀ v : Nat, X.set i [i64 v] = natsU (s.out ++ [v]) ++ List.replicate (l.length - (i + 1)) [i64 0] := fun v => by
      rw [← hX, List.set_append_right _ _ (by rw [natsU_len, hout]; exact Nat.le_refl _), natsU_len, hout, Nat.sub_self, show l.length - i = l.length - (i + 1) + 1 by omega, List.replicate_succ, List.set_cons_zero]
      simp [natsU]
    have hX4 : ∀ h : i < X.length, X[i]'h = [i64 0] := fun h => by
      subst hX
      rw [List.getElem_append_right (by rw [natsU_len, hout]; exact Nat.le_refl _)]
      simp
    generalize ha : (-1 - ((ofF s.starts ((old[i] : Int), c, (to.length : Int))).1 : Int)) = a
    have hrow : rowF l.length old s (⟨q, c, to⟩, old[i]) = ⟨(ofF s.starts ((old[i] : Int), c, (to.length : Int))).2, (to.foldl (linkF l.length old) (a, s.links)).2, (ofF s.classes (((ofF s.starts ((old[i] : Int), c, (to.length : Int))).1 : Int), (to.foldl (linkF l.length old) (a, s.links)).1)).2, s.out ++ [(ofF s.classes (((ofF s.starts ((old[i] : Int), c, (to.length : Int))).1 : Int), (to.foldl (linkF l.length old) (a, s.links)).1)).1]⟩ := by subst ha; rfl
    rw [hrow]
    generalize ofF s.starts ((old[i] : Int), c, (to.length : Int)) = f
    refine (r1_loop p po l old i f.1 ⟨q, c, to⟩ a (mapU startU 0 f.2) (mapU pairU 0 s.classes) X s.links hl ho).impB ?_
    rintro b s' ⟨rfl, rfl⟩
    rw [if_pos rfl]
    simp only
    generalize to.foldl (linkF l.length old) (a, s.links) = g
    simp only [r1E, r1S, List.cons_append, List.nil_append]
    repeat (first | (apply Wp.op; (apply Evt.all; intro; (simp []) <;> (try simp (disch := omega) only [wrap_id]) <;> first | exact ⟨rfl, rfl⟩ | exact rfl)) | (apply Wp.opN; (apply Evt.all; intro; (simp []) <;> (try simp (disch := omega) only [wrap_id]) <;> first | exact ⟨rfl, rfl⟩ | exact rfl)) | (apply Wp.opG; (exact rfl); (apply Evt.all; intro; (simp []) <;> (try simp (disch := omega) only [wrap_id]) <;> first | exact ⟨rfl, rfl⟩ | exact rfl)) | (apply Wp.opS; (exact rfl); decide) | (apply Wp.opS0; (exact rfl)))
    apply Wp.call
    · exact pair_of s.classes ((f.1 : Int), g.1) _ 2 rfl (fun m => by simp [rowU])
    generalize ofF s.classes ((f.1 : Int), g.1) = w
    (repeat (first | (apply Wp.op; (apply Evt.all; intro; (simp [hX2, hi, hX3, hX4]) <;> (try simp (disch := omega) only [wrap_id]) <;> first | exact ⟨rfl, rfl⟩ | exact rfl)) | (apply Wp.opN; (apply Evt.all; intro; (simp [hX2, hi, hX3, hX4]) <;> (try simp (disch := omega) only [wrap_id]) <;> first | exact ⟨rfl, rfl⟩ | exact rfl)) | (apply Wp.opG; (exact rfl); (apply Evt.all; intro; (simp [hX2, hi, hX3, hX4]) <;> (try simp (disch := omega) only [wrap_id]) <;> first | exact ⟨rfl, rfl⟩ | exact rfl)) | (apply Wp.opS; (exact rfl); decide) | (apply Wp.opS0; (exact rfl)))); refine Wp.op0 (by (simp [M2.keep]) <;> rfl) ?_
    (repeat (first | (apply Wp.op; (apply Evt.all; intro; (simp []) <;> (try simp (disch := omega) only [wrap_id]) <;> first | exact ⟨rfl, rfl⟩ | exact rfl)) | (apply Wp.opN; (apply Evt.all; intro; (simp []) <;> (try simp (disch := omega) only [wrap_id]) <;> first | exact ⟨rfl, rfl⟩ | exact rfl)) | (apply Wp.opG; (exact rfl); (apply Evt.all; intro; (simp []) <;> (try simp (disch := omega) only [wrap_id]) <;> first | exact ⟨rfl, rfl⟩ | exact rfl)) | (apply Wp.opS; (exact rfl); decide) | (apply Wp.opS0; (exact rfl)))); refine Wp.op0 (by (simp [M2.keep]) <;> rfl) ?_
    rw [r2S]
    simp [trimO, trim, rowsU, rowU, hX3]
  · simp [hi] at ht
end Go.Proofs.Ytaefnggoempdlaa.M2

/- What the functions answer in M2. Part 8: round's call, Classes, Apart. -/
namespace Go.Proofs.Ytaefnggoempdlaa.M2
open Go
attribute [local simp] ev1 M2.get put A.ev ld sub part elems bin arith un opt idx fillC cellsO splice over newOb sto fillR laidOwn appTo appRow touch touchN touchM touchE touchA plainU flatU plainAs allM rowAt stoRow accM_nil accM_cons accMM_nil accMM_cons frz_int frz_bool frz_str frz_slt frz_nils frz_nilI frz_nilF frz_own frzRow_row frzRow_frow Ob.blw blw_bool blw_int blw_str blw_nils blw_nilI blw_nilF blw_nilp blw_nilm blw_sl blw_own blw_bp blw_rp blw_mp blw_it params

theorem roundTo_succ (l : List Row) (old : List Nat) (i : Nat) (hi : i < l.length) (ho : i < old.length) : roundTo l old (i + 1) = rowF l.length old (roundTo l old i) (l[i], old[i]) := by
  rw [roundTo, List.take_succ_eq_append_getElem (by rw [List.length_zip]; omega), List.foldl_append, List.getElem_zip]
  rfl
theorem roundTo_fits (l : List Row) (old : List Nat) (ho : old.length = l.length) : ∀ i, i ≤ l.length → (roundTo l old i).starts.length ≤ i ∧ (roundTo l old i).out.length = i ∧ (roundTo l old i).classes.length ≤ i
  | 0, _ => by simp [roundTo]
  | i + 1, h => by
    have ih := roundTo_fits l old ho i (by omega)
    rw [roundTo_succ l old i (by omega) (by omega)]
    simp only [rowF, List.length_append, List.length_singleton]
    have h1 := ofF_le (roundTo l old i).starts ((old[i]'(by omega) : Int), l[i].c, (l[i].to.length : Int))
    refine ⟨by omega, by omega, ?_⟩
    refine Nat.le_trans (ofF_le _ _).2 ?_
    omega
theorem round_call (p po : Bool) (l : List Row) (old : List Nat) (LO : U) (st : List Ob) (hl : ∀ r ∈ l, r.to.length < 1000000000000) (hs : l.length < 1000000000000) (ho : old.length = l.length) (hO : brw frzD st LO = some (.sl po (natsU old))) :
    Cl T 17 [rowsU p l, LO] st (.tup [.sl true (natsU (roundF l old).1), i64 (roundF l old).2]) st := by
  refine Wp.pure (fn := c_refine_round) rfl rfl rfl («as» := [rowsU p l, .sl po (natsU old)]) ?_ ?_
  · simp only [allM, hO, Option.bind_some]
    rfl
  have h1 : (l.length : Int) * 8 ≤ limit := by simp only [limit]; omega
  repeat (first | apply Wp.seq | apply Wp.skip | apply Wp.block | (apply Wp.op0; ((simp [M2.keep]) <;> rfl)) | (apply Wp.op; (apply Evt.all; intro; (simp [rowsU, h1]) <;> (try simp (disch := omega) only [wrap_id]) <;> first | exact ⟨rfl, rfl⟩ | exact rfl)) | (apply Wp.opN; (apply Evt.all; intro; (simp [rowsU, h1]) <;> (try simp (disch := omega) only [wrap_id]) <;> first | exact ⟨rfl, rfl⟩ | exact rfl)) | (apply Wp.opG; (exact rfl); (apply Evt.all; intro; (simp [rowsU, h1]) <;> (try simp (disch := omega) only [wrap_id]) <;> first | exact ⟨rfl, rfl⟩ | exact rfl)) | (apply Wp.opS; (exact rfl); decide) | (apply Wp.opS0; (exact rfl)))
  have hloop : Wp T (.loop c_refine_round_L2) (r2S p po l old 0 (roundTo l old 0)) (fun _ => False) (fun _ => False) (fun b s' => b = 0 ∧ s' = ⟨(r2S p po l old l.length (roundTo l old l.length)).env ++ [(26, .bool false)], (r2S p po l old l.length (roundTo l old l.length)).st⟩) := by
    refine Wp.count l.length (fun i => r2S p po l old i (roundTo l old i)) (fun _ => True) (fun i hi _ => ?_) (fun _ => ?_) 0 (by omega) trivial
    · have hf := roundTo_fits l old ho i (by omega)
      refine (r2_step p po l old i (roundTo l old i) hi (hl _ (List.getElem_mem hi)) hs ho hf.1 hf.2.1).imp0 (fun s h => ⟨?_, trivial⟩)
      rw [roundTo_succ l old i hi (by omega)]
      exact h
    · rw [r2S]
      refine Wp.seq ?_
      (repeat (first | (apply Wp.op; (apply Evt.all; intro; (simp []) <;> (try simp (disch := omega) only [wrap_id]) <;> first | exact ⟨rfl, rfl⟩ | exact rfl)) | (apply Wp.opN; (apply Evt.all; intro; (simp []) <;> (try simp (disch := omega) only [wrap_id]) <;> first | exact ⟨rfl, rfl⟩ | exact rfl)) | (apply Wp.opG; (exact rfl); (apply Evt.all; intro; (simp []) <;> (try simp (disch := omega) only [wrap_id]) <;> first | exact ⟨rfl, rfl⟩ | exact rfl)) | (apply Wp.opS; (exact rfl); decide) | (apply Wp.opS0; (exact rfl)))); refine Wp.op0 (by (simp [M2.keep]) <;> rfl) ?_
      refine Wp.seq ?_
      refine Wp.cond (by first | rfl | (simp; rfl)) (fun ht => ?_) (fun ht => ?_)
      · simp at ht
      · exact Wp.exit ⟨rfl, by simp⟩
  have hst : (⟨[(0, rowsU p l), (1, .sl po (natsU old)), (6, .mp 0), (7, .mp 1), (8, .mp 2), (9, .own 3 l.length), (23, rowsU p l), (24, i64 l.length), (25, i64 (0 : Nat))], [.map [], .map [], .map [], .row 3 1 false (List.replicate l.length [i64 0])]⟩ : S) = r2S p po l old 0 (roundTo l old 0) := by
    simp [r2S, roundTo, mapU, natsU]
  rw [← hst] at hloop
  refine hloop.impB ?_
  rintro b s' ⟨rfl, rfl⟩
  rw [if_pos rfl]
  simp only [r2S, List.cons_append, List.nil_append]
  have hml := mapU_len pairU 0 (roundTo l old l.length).classes
  repeat (first | apply Wp.seq | apply Wp.skip | apply Wp.block | (apply Wp.op0; ((simp [M2.keep]) <;> rfl)) | (apply Wp.op; (apply Evt.all; intro; (simp [hml]) <;> (try simp (disch := omega) only [wrap_id]) <;> first | exact ⟨rfl, rfl⟩ | exact rfl)) | (apply Wp.opN; (apply Evt.all; intro; (simp [hml]) <;> (try simp (disch := omega) only [wrap_id]) <;> first | exact ⟨rfl, rfl⟩ | exact rfl)) | (apply Wp.opG; (exact rfl); (apply Evt.all; intro; (simp [hml]) <;> (try simp (disch := omega) only [wrap_id]) <;> first | exact ⟨rfl, rfl⟩ | exact rfl)) | (apply Wp.opS; (exact rfl); decide) | (apply Wp.opS0; (exact rfl)))
  refine Wp.ret ?_
  simp [Res, resU, c_refine_round, res1, roundF, natsU, frz, frzD, accM, (roundTo_fits l old ho l.length (Nat.le_refl _)).2.1]
/-- The classes after some rounds, and how many they are. -/
def cls (l : List Row) : Nat → List Nat
  | 0 => List.replicate l.length 0
  | t + 1 => (roundF l (cls l t)).1
def cnt (l : List Row) : Nat → Nat
  | 0 => 0
  | t + 1 => (roundF l (cls l t)).2
theorem cls_len (l : List Row) : ∀ t, (cls l t).length = l.length
  | 0 => by simp [cls]
  | t + 1 => (roundTo_fits l (cls l t) (cls_len l t) l.length (Nat.le_refl _)).2.1
def clsU (l : List Row) : Nat → U
  | 0 => .own 0 l.length
  | t + 1 => .sl true (natsU (cls l (t + 1)))
def clsS (p : Bool) (l : List Row) (t : Nat) : S := ⟨[(0, rowsU p l), (3, clsU l t), (4, i64 (cnt l t))], [.row 3 1 false (List.replicate l.length [i64 0])]⟩
theorem clsU_brw (l : List Row) (t : Nat) : brw frzD [.row 3 1 false (List.replicate l.length [i64 0])] (clsU l t) = some (.sl (decide (t ≠ 0)) (natsU (cls l t))) := by
  cases t with
  | zero => simp [clsU, brw, frzD, natsU, cls]
  | succ t => rfl
theorem classes_call (p : Bool) (l : List Row) (st : List Ob) (hl : ∀ r ∈ l, r.to.length < 1000000000000) (hs : l.length < 1000000000000) (t : Nat) (hgo : ∀ s, s < t → cnt l (s + 1) ≠ cnt l s) (hend : cnt l (t + 1) = cnt l t) :
    Cl T 11 [rowsU p l] st (.sl true (natsU (cls l (t + 1)))) st := by
  refine Wp.pure (fn := c_refine_Classes) rfl rfl rfl («as» := [rowsU p l]) rfl ?_
  have h1 : (l.length : Int) * 8 ≤ limit := by simp only [limit]; omega
  repeat (first | apply Wp.seq | apply Wp.skip | apply Wp.block | (apply Wp.op0; ((simp [M2.keep]) <;> rfl)) | (apply Wp.op; (apply Evt.all; intro; (simp [rowsU, h1]) <;> (try simp (disch := omega) only [wrap_id]) <;> first | exact ⟨rfl, rfl⟩ | exact rfl)) | (apply Wp.opN; (apply Evt.all; intro; (simp [rowsU, h1]) <;> (try simp (disch := omega) only [wrap_id]) <;> first | exact ⟨rfl, rfl⟩ | exact rfl)) | (apply Wp.opG; (exact rfl); (apply Evt.all; intro; (simp [rowsU, h1]) <;> (try simp (disch := omega) only [wrap_id]) <;> first | exact ⟨rfl, rfl⟩ | exact rfl)) | (apply Wp.opS; (exact rfl); decide) | (apply Wp.opS0; (exact rfl)))
  have hst : (⟨[(0, rowsU p l), (3, .own 0 l.length), (4, .int .i64 0)], [.row 3 1 false (List.replicate l.length [i64 0])]⟩ : S) = clsS p l 0 := rfl
  rw [hst]
  refine Wp.loop (fun s => t - s) (clsS p l) (fun s => s ≤ t) (fun s hst => ?_) 0 (by omega)
  rw [clsS]
  repeat (first | apply Wp.seq | apply Wp.skip | apply Wp.block | (apply Wp.op0; ((simp [M2.keep]) <;> rfl)) | (apply Wp.op; (apply Evt.all; intro; (simp []) <;> (try simp (disch := omega) only [wrap_id]) <;> first | exact ⟨rfl, rfl⟩ | exact rfl)) | (apply Wp.opN; (apply Evt.all; intro; (simp []) <;> (try simp (disch := omega) only [wrap_id]) <;> first | exact ⟨rfl, rfl⟩ | exact rfl)) | (apply Wp.opG; (exact rfl); (apply Evt.all; intro; (simp []) <;> (try simp (disch := omega) only [wrap_id]) <;> first | exact ⟨rfl, rfl⟩ | exact rfl)) | (apply Wp.opS; (exact rfl); decide) | (apply Wp.opS0; (exact rfl)))
  apply Wp.call
  · exact round_call p (decide (s ≠ 0)) l (cls l s) (clsU l s) _ hl hs (cls_len l s) (clsU_brw l s)
  repeat (first | apply Wp.seq | apply Wp.skip | apply Wp.block | (apply Wp.op0; ((simp [M2.keep]) <;> rfl)) | (apply Wp.op; (apply Evt.all; intro; (simp []) <;> (try simp (disch := omega) only [wrap_id]) <;> first | exact ⟨rfl, rfl⟩ | exact rfl)) | (apply Wp.opN; (apply Evt.all; intro; (simp []) <;> (try simp (disch := omega) only [wrap_id]) <;> first | exact ⟨rfl, rfl⟩ | exact rfl)) | (apply Wp.opG; (exact rfl); (apply Evt.all; intro; (simp []) <;> (try simp (disch := omega) only [wrap_id]) <;> first | exact ⟨rfl, rfl⟩ | exact rfl)) | (apply Wp.opS; (exact rfl); decide) | (apply Wp.opS0; (exact rfl)))
  refine Wp.cond (by first | rfl | (simp; rfl)) (fun ht => ?_) (fun ht => ?_)
  · have ht : cnt l (s + 1) = cnt l s := by simp at ht; exact Int.ofNat.inj ht
    have : s = t := by
      rcases Nat.lt_or_ge s t with h | h
      · exact absurd ht (hgo s h)
      · omega
    subst this
    repeat (first | apply Wp.seq | apply Wp.skip | apply Wp.block | (apply Wp.op0; ((simp [M2.keep]) <;> rfl)) | (apply Wp.op; (apply Evt.all; intro; (simp []) <;> (try simp (disch := omega) only [wrap_id]) <;> first | exact ⟨rfl, rfl⟩ | exact rfl)) | (apply Wp.opN; (apply Evt.all; intro; (simp []) <;> (try simp (disch := omega) only [wrap_id]) <;> first | exact ⟨rfl, rfl⟩ | exact rfl)) | (apply Wp.opG; (exact rfl); (apply Evt.all; intro; (simp []) <;> (try simp (disch := omega) only [wrap_id]) <;> first | exact ⟨rfl, rfl⟩ | exact rfl)) | (apply Wp.opS; (exact rfl); decide) | (apply Wp.opS0; (exact rfl)))
    refine Wp.ret ?_
    simp [Res, resU, c_refine_Classes, res1, cls]
  · have ht : cnt l (s + 1) ≠ cnt l s := by simp at ht; exact fun h => ht (congrArg Int.ofNat h)
    have : s < t := by
      rcases Nat.lt_or_ge s t with h | h
      · exact h
      · have : s = t := by omega
        subst this
        exact absurd hend ht
    repeat (first | apply Wp.seq | apply Wp.skip | apply Wp.block | (apply Wp.op0; ((simp [M2.keep]) <;> rfl)) | (apply Wp.op; (apply Evt.all; intro; (simp []) <;> (try simp (disch := omega) only [wrap_id]) <;> first | exact ⟨rfl, rfl⟩ | exact rfl)) | (apply Wp.opN; (apply Evt.all; intro; (simp []) <;> (try simp (disch := omega) only [wrap_id]) <;> first | exact ⟨rfl, rfl⟩ | exact rfl)) | (apply Wp.opG; (exact rfl); (apply Evt.all; intro; (simp []) <;> (try simp (disch := omega) only [wrap_id]) <;> first | exact ⟨rfl, rfl⟩ | exact rfl)) | (apply Wp.opS; (exact rfl); decide) | (apply Wp.opS0; (exact rfl)))
    refine ⟨s + 1, ?_, by omega, by omega⟩
    rw [clsS]
    simp [trimO, trim, rowsU, clsU, cls, cnt]
end Go.Proofs.Ytaefnggoempdlaa.M2

/- What the functions answer in M2. Part 9: Apart. -/
namespace Go.Proofs.Ytaefnggoempdlaa.M2
open Go
attribute [local simp] ev1 M2.get put A.ev ld sub part elems bin arith un opt idx fillC cellsO splice over newOb sto fillR laidOwn appTo appRow touch touchN touchM touchE touchA plainU flatU plainAs allM rowAt stoRow accM_nil accM_cons accMM_nil accMM_cons frz_int frz_bool frz_str frz_slt frz_nils frz_nilI frz_nilF frz_own frzRow_row frzRow_frow Ob.blw blw_bool blw_int blw_str blw_nils blw_nilI blw_nilF blw_nilp blw_nilm blw_sl blw_own blw_bp blw_rp blw_mp blw_it params
theorem beq_dec (x y : Int) : (x == y) = decide (x = y) := by by_cases h : x = y <;> simp [h]
theorem bne_dec (x y : Int) : (x != y) = !decide (x = y) := by by_cases h : x = y <;> simp [h]
attribute [local simp] beq_dec bne_dec

/-- Can two things be told apart, by their classes? -/
def apartF (C : List Nat) (i k : Int) : Bool := decide (i ≠ k) && (decide (i < 0) || decide (k < 0) || decide ((C.length : Int) ≤ i) || decide ((C.length : Int) ≤ k) || C.getD i.toNat 0 != C.getD k.toNat 0)
theorem apart_call (p : Bool) (l : List Row) (C : List Nat) (st : List Ob) (i k : Int) (hC : ∀ st, Cl T 11 [rowsU p l] st (.sl true (natsU C)) st) (hlen : C.length = l.length) :
    Cl T 14 [rowsU p l, i64 i, i64 k] st (.bool (apartF C i k)) st := by
  refine Wp.pure (fn := c_refine_Apart) rfl rfl rfl («as» := [rowsU p l, i64 i, i64 k]) rfl ?_
  by_cases h0 : i = k
  · subst h0
    repeat (first | apply Wp.seq | apply Wp.skip | apply Wp.block | (apply Wp.op0; ((simp [M2.keep]) <;> rfl)) | (apply Wp.op; (apply Evt.all; intro; (simp []) <;> (try simp (disch := omega) only [wrap_id]) <;> first | exact ⟨rfl, rfl⟩ | exact rfl)) | (apply Wp.opN; (apply Evt.all; intro; (simp []) <;> (try simp (disch := omega) only [wrap_id]) <;> first | exact ⟨rfl, rfl⟩ | exact rfl)) | (apply Wp.opG; (exact rfl); (apply Evt.all; intro; (simp []) <;> (try simp (disch := omega) only [wrap_id]) <;> first | exact ⟨rfl, rfl⟩ | exact rfl)) | (apply Wp.opS; (exact rfl); decide) | (apply Wp.opS0; (exact rfl)))
    refine Wp.cond (by first | rfl | (simp; rfl)) (fun ht => ?_) (fun ht => ?_)
    · repeat (first | apply Wp.seq | apply Wp.skip | apply Wp.block | (apply Wp.op0; ((simp [M2.keep]) <;> rfl)) | (apply Wp.op; (apply Evt.all; intro; (simp []) <;> (try simp (disch := omega) only [wrap_id]) <;> first | exact ⟨rfl, rfl⟩ | exact rfl)) | (apply Wp.opN; (apply Evt.all; intro; (simp []) <;> (try simp (disch := omega) only [wrap_id]) <;> first | exact ⟨rfl, rfl⟩ | exact rfl)) | (apply Wp.opG; (exact rfl); (apply Evt.all; intro; (simp []) <;> (try simp (disch := omega) only [wrap_id]) <;> first | exact ⟨rfl, rfl⟩ | exact rfl)) | (apply Wp.opS; (exact rfl); decide) | (apply Wp.opS0; (exact rfl)))
      refine Wp.ret ?_
      simp [Res, resU, c_refine_Apart, res1, apartF]
    · cases ht
  by_cases h1 : i < 0
  · repeat (first | apply Wp.seq | apply Wp.skip | apply Wp.block | (apply Wp.op0; ((simp [M2.keep]) <;> rfl)) | (apply Wp.op; (apply Evt.all; intro; (simp [h0]) <;> (try simp (disch := omega) only [wrap_id]) <;> first | exact ⟨rfl, rfl⟩ | exact rfl)) | (apply Wp.opN; (apply Evt.all; intro; (simp [h0]) <;> (try simp (disch := omega) only [wrap_id]) <;> first | exact ⟨rfl, rfl⟩ | exact rfl)) | (apply Wp.opG; (exact rfl); (apply Evt.all; intro; (simp [h0]) <;> (try simp (disch := omega) only [wrap_id]) <;> first | exact ⟨rfl, rfl⟩ | exact rfl)) | (apply Wp.opS; (exact rfl); decide) | (apply Wp.opS0; (exact rfl)))
    refine Wp.cond (by first | rfl | (simp; rfl)) (fun ht => ?_) (fun ht => ?_)
    · cases ht
    repeat (first | apply Wp.seq | apply Wp.skip | apply Wp.block | (apply Wp.op0; ((simp [M2.keep]) <;> rfl)) | (apply Wp.op; (apply Evt.all; intro; (simp [h1]) <;> (try simp (disch := omega) only [wrap_id]) <;> first | exact ⟨rfl, rfl⟩ | exact rfl)) | (apply Wp.opN; (apply Evt.all; intro; (simp [h1]) <;> (try simp (disch := omega) only [wrap_id]) <;> first | exact ⟨rfl, rfl⟩ | exact rfl)) | (apply Wp.opG; (exact rfl); (apply Evt.all; intro; (simp [h1]) <;> (try simp (disch := omega) only [wrap_id]) <;> first | exact ⟨rfl, rfl⟩ | exact rfl)) | (apply Wp.opS; (exact rfl); decide) | (apply Wp.opS0; (exact rfl)))
    refine Wp.cond (by first | rfl | (simp; rfl)) (fun ht2 => ?_) (fun ht2 => ?_)
    · repeat (first | apply Wp.seq | apply Wp.skip | apply Wp.block | (apply Wp.op0; ((simp [M2.keep]) <;> rfl)) | (apply Wp.op; (apply Evt.all; intro; (simp []) <;> (try simp (disch := omega) only [wrap_id]) <;> first | exact ⟨rfl, rfl⟩ | exact rfl)) | (apply Wp.opN; (apply Evt.all; intro; (simp []) <;> (try simp (disch := omega) only [wrap_id]) <;> first | exact ⟨rfl, rfl⟩ | exact rfl)) | (apply Wp.opG; (exact rfl); (apply Evt.all; intro; (simp []) <;> (try simp (disch := omega) only [wrap_id]) <;> first | exact ⟨rfl, rfl⟩ | exact rfl)) | (apply Wp.opS; (exact rfl); decide) | (apply Wp.opS0; (exact rfl)))
      refine Wp.ret ?_
      simp [Res, resU, c_refine_Apart, res1, apartF, h0, h1]
    · cases ht2
  by_cases h2 : k < 0
  · repeat (first | apply Wp.seq | apply Wp.skip | apply Wp.block | (apply Wp.op0; ((simp [M2.keep]) <;> rfl)) | (apply Wp.op; (apply Evt.all; intro; (simp [h0]) <;> (try simp (disch := omega) only [wrap_id]) <;> first | exact ⟨rfl, rfl⟩ | exact rfl)) | (apply Wp.opN; (apply Evt.all; intro; (simp [h0]) <;> (try simp (disch := omega) only [wrap_id]) <;> first | exact ⟨rfl, rfl⟩ | exact rfl)) | (apply Wp.opG; (exact rfl); (apply Evt.all; intro; (simp [h0]) <;> (try simp (disch := omega) only [wrap_id]) <;> first | exact ⟨rfl, rfl⟩ | exact rfl)) | (apply Wp.opS; (exact rfl); decide) | (apply Wp.opS0; (exact rfl)))
    refine Wp.cond (by first | rfl | (simp; rfl)) (fun ht => ?_) (fun ht => ?_)
    · cases ht
    repeat (first | apply Wp.seq | apply Wp.skip | apply Wp.block | (apply Wp.op0; ((simp [M2.keep]) <;> rfl)) | (apply Wp.op; (apply Evt.all; intro; (simp [h1, h2]) <;> (try simp (disch := omega) only [wrap_id]) <;> first | exact ⟨rfl, rfl⟩ | exact rfl)) | (apply Wp.opN; (apply Evt.all; intro; (simp [h1, h2]) <;> (try simp (disch := omega) only [wrap_id]) <;> first | exact ⟨rfl, rfl⟩ | exact rfl)) | (apply Wp.opG; (exact rfl); (apply Evt.all; intro; (simp [h1, h2]) <;> (try simp (disch := omega) only [wrap_id]) <;> first | exact ⟨rfl, rfl⟩ | exact rfl)) | (apply Wp.opS; (exact rfl); decide) | (apply Wp.opS0; (exact rfl)))
    refine Wp.cond (by first | rfl | (simp; rfl)) (fun ht2 => ?_) (fun ht2 => ?_)
    · repeat (first | apply Wp.seq | apply Wp.skip | apply Wp.block | (apply Wp.op0; ((simp [M2.keep]) <;> rfl)) | (apply Wp.op; (apply Evt.all; intro; (simp []) <;> (try simp (disch := omega) only [wrap_id]) <;> first | exact ⟨rfl, rfl⟩ | exact rfl)) | (apply Wp.opN; (apply Evt.all; intro; (simp []) <;> (try simp (disch := omega) only [wrap_id]) <;> first | exact ⟨rfl, rfl⟩ | exact rfl)) | (apply Wp.opG; (exact rfl); (apply Evt.all; intro; (simp []) <;> (try simp (disch := omega) only [wrap_id]) <;> first | exact ⟨rfl, rfl⟩ | exact rfl)) | (apply Wp.opS; (exact rfl); decide) | (apply Wp.opS0; (exact rfl)))
      refine Wp.ret ?_
      simp [Res, resU, c_refine_Apart, res1, apartF, h0, h1, h2]
    · cases ht2
  by_cases h3 : (l.length : Int) ≤ i
  · repeat (first | apply Wp.seq | apply Wp.skip | apply Wp.block | (apply Wp.op0; ((simp [M2.keep]) <;> rfl)) | (apply Wp.op; (apply Evt.all; intro; (simp [h0]) <;> (try simp (disch := omega) only [wrap_id]) <;> first | exact ⟨rfl, rfl⟩ | exact rfl)) | (apply Wp.opN; (apply Evt.all; intro; (simp [h0]) <;> (try simp (disch := omega) only [wrap_id]) <;> first | exact ⟨rfl, rfl⟩ | exact rfl)) | (apply Wp.opG; (exact rfl); (apply Evt.all; intro; (simp [h0]) <;> (try simp (disch := omega) only [wrap_id]) <;> first | exact ⟨rfl, rfl⟩ | exact rfl)) | (apply Wp.opS; (exact rfl); decide) | (apply Wp.opS0; (exact rfl)))
    refine Wp.cond (by first | rfl | (simp; rfl)) (fun ht => ?_) (fun ht => ?_)
    · cases ht
    repeat (first | apply Wp.seq | apply Wp.skip | apply Wp.block | (apply Wp.op0; ((simp [M2.keep]) <;> rfl)) | (apply Wp.op; (apply Evt.all; intro; (simp [h1, h2, rowsU, h3]) <;> (try simp (disch := omega) only [wrap_id]) <;> first | exact ⟨rfl, rfl⟩ | exact rfl)) | (apply Wp.opN; (apply Evt.all; intro; (simp [h1, h2, rowsU, h3]) <;> (try simp (disch := omega) only [wrap_id]) <;> first | exact ⟨rfl, rfl⟩ | exact rfl)) | (apply Wp.opG; (exact rfl); (apply Evt.all; intro; (simp [h1, h2, rowsU, h3]) <;> (try simp (disch := omega) only [wrap_id]) <;> first | exact ⟨rfl, rfl⟩ | exact rfl)) | (apply Wp.opS; (exact rfl); decide) | (apply Wp.opS0; (exact rfl)))
    refine Wp.cond (by first | rfl | (simp; rfl)) (fun ht2 => ?_) (fun ht2 => ?_)
    · repeat (first | apply Wp.seq | apply Wp.skip | apply Wp.block | (apply Wp.op0; ((simp [M2.keep]) <;> rfl)) | (apply Wp.op; (apply Evt.all; intro; (simp []) <;> (try simp (disch := omega) only [wrap_id]) <;> first | exact ⟨rfl, rfl⟩ | exact rfl)) | (apply Wp.opN; (apply Evt.all; intro; (simp []) <;> (try simp (disch := omega) only [wrap_id]) <;> first | exact ⟨rfl, rfl⟩ | exact rfl)) | (apply Wp.opG; (exact rfl); (apply Evt.all; intro; (simp []) <;> (try simp (disch := omega) only [wrap_id]) <;> first | exact ⟨rfl, rfl⟩ | exact rfl)) | (apply Wp.opS; (exact rfl); decide) | (apply Wp.opS0; (exact rfl)))
      refine Wp.ret ?_
      simp [Res, resU, c_refine_Apart, res1, apartF, h0, h1, h2, hlen, h3]
    · cases ht2
  by_cases h4 : (l.length : Int) ≤ k
  · repeat (first | apply Wp.seq | apply Wp.skip | apply Wp.block | (apply Wp.op0; ((simp [M2.keep]) <;> rfl)) | (apply Wp.op; (apply Evt.all; intro; (simp [h0]) <;> (try simp (disch := omega) only [wrap_id]) <;> first | exact ⟨rfl, rfl⟩ | exact rfl)) | (apply Wp.opN; (apply Evt.all; intro; (simp [h0]) <;> (try simp (disch := omega) only [wrap_id]) <;> first | exact ⟨rfl, rfl⟩ | exact rfl)) | (apply Wp.opG; (exact rfl); (apply Evt.all; intro; (simp [h0]) <;> (try simp (disch := omega) only [wrap_id]) <;> first | exact ⟨rfl, rfl⟩ | exact rfl)) | (apply Wp.opS; (exact rfl); decide) | (apply Wp.opS0; (exact rfl)))
    refine Wp.cond (by first | rfl | (simp; rfl)) (fun ht => ?_) (fun ht => ?_)
    · cases ht
    repeat (first | apply Wp.seq | apply Wp.skip | apply Wp.block | (apply Wp.op0; ((simp [M2.keep]) <;> rfl)) | (apply Wp.op; (apply Evt.all; intro; (simp [h1, h2, rowsU, h3, h4]) <;> (try simp (disch := omega) only [wrap_id]) <;> first | exact ⟨rfl, rfl⟩ | exact rfl)) | (apply Wp.opN; (apply Evt.all; intro; (simp [h1, h2, rowsU, h3, h4]) <;> (try simp (disch := omega) only [wrap_id]) <;> first | exact ⟨rfl, rfl⟩ | exact rfl)) | (apply Wp.opG; (exact rfl); (apply Evt.all; intro; (simp [h1, h2, rowsU, h3, h4]) <;> (try simp (disch := omega) only [wrap_id]) <;> first | exact ⟨rfl, rfl⟩ | exact rfl)) | (apply Wp.opS; (exact rfl); decide) | (apply Wp.opS0; (exact rfl)))
    refine Wp.cond (by first | rfl | (simp; rfl)) (fun ht2 => ?_) (fun ht2 => ?_)
    · repeat (first | apply Wp.seq | apply Wp.skip | apply Wp.block | (apply Wp.op0; ((simp [M2.keep]) <;> rfl)) | (apply Wp.op; (apply Evt.all; intro; (simp []) <;> (try simp (disch := omega) only [wrap_id]) <;> first | exact ⟨rfl, rfl⟩ | exact rfl)) | (apply Wp.opN; (apply Evt.all; intro; (simp []) <;> (try simp (disch := omega) only [wrap_id]) <;> first | exact ⟨rfl, rfl⟩ | exact rfl)) | (apply Wp.opG; (exact rfl); (apply Evt.all; intro; (simp []) <;> (try simp (disch := omega) only [wrap_id]) <;> first | exact ⟨rfl, rfl⟩ | exact rfl)) | (apply Wp.opS; (exact rfl); decide) | (apply Wp.opS0; (exact rfl)))
      refine Wp.ret ?_
      simp [Res, resU, c_refine_Apart, res1, apartF, h0, h1, h2, hlen, h3, h4]
    · cases ht2
  obtain ⟨a, rfl⟩ := Int.eq_ofNat_of_zero_le (Int.not_lt.1 h1)
  obtain ⟨b, rfl⟩ := Int.eq_ofNat_of_zero_le (Int.not_lt.1 h2)
  have hI : a < C.length := by omega
  have hJ : b < C.length := by omega
  have hI2 : ¬ l.length ≤ a := by omega
  have hJ2 : ¬ l.length ≤ b := by omega
  have h0' : ¬ a = b := fun h => h0 (by rw [h])
  repeat (first | apply Wp.seq | apply Wp.skip | apply Wp.block | (apply Wp.op0; ((simp [M2.keep]) <;> rfl)) | (apply Wp.op; (apply Evt.all; intro; (simp [h0]) <;> (try simp (disch := omega) only [wrap_id]) <;> first | exact ⟨rfl, rfl⟩ | exact rfl)) | (apply Wp.opN; (apply Evt.all; intro; (simp [h0]) <;> (try simp (disch := omega) only [wrap_id]) <;> first | exact ⟨rfl, rfl⟩ | exact rfl)) | (apply Wp.opG; (exact rfl); (apply Evt.all; intro; (simp [h0]) <;> (try simp (disch := omega) only [wrap_id]) <;> first | exact ⟨rfl, rfl⟩ | exact rfl)) | (apply Wp.opS; (exact rfl); decide) | (apply Wp.opS0; (exact rfl)))
  refine Wp.cond (by first | rfl | (simp; rfl)) (fun ht => ?_) (fun ht => ?_)
  · cases ht
  repeat (first | apply Wp.seq | apply Wp.skip | apply Wp.block | (apply Wp.op0; ((simp [M2.keep]) <;> rfl)) | (apply Wp.op; (apply Evt.all; intro; (simp [rowsU, hI2, hJ2]) <;> (try simp (disch := omega) only [wrap_id]) <;> first | exact ⟨rfl, rfl⟩ | exact rfl)) | (apply Wp.opN; (apply Evt.all; intro; (simp [rowsU, hI2, hJ2]) <;> (try simp (disch := omega) only [wrap_id]) <;> first | exact ⟨rfl, rfl⟩ | exact rfl)) | (apply Wp.opG; (exact rfl); (apply Evt.all; intro; (simp [rowsU, hI2, hJ2]) <;> (try simp (disch := omega) only [wrap_id]) <;> first | exact ⟨rfl, rfl⟩ | exact rfl)) | (apply Wp.opS; (exact rfl); decide) | (apply Wp.opS0; (exact rfl)))
  refine Wp.cond (by first | rfl | (simp; rfl)) (fun ht2 => ?_) (fun ht2 => ?_)
  · cases ht2
  repeat (first | apply Wp.seq | apply Wp.skip | apply Wp.block | (apply Wp.op0; ((simp [M2.keep]) <;> rfl)) | (apply Wp.op; (apply Evt.all; intro; (simp []) <;> (try simp (disch := omega) only [wrap_id]) <;> first | exact ⟨rfl, rfl⟩ | exact rfl)) | (apply Wp.opN; (apply Evt.all; intro; (simp []) <;> (try simp (disch := omega) only [wrap_id]) <;> first | exact ⟨rfl, rfl⟩ | exact rfl)) | (apply Wp.opG; (exact rfl); (apply Evt.all; intro; (simp []) <;> (try simp (disch := omega) only [wrap_id]) <;> first | exact ⟨rfl, rfl⟩ | exact rfl)) | (apply Wp.opS; (exact rfl); decide) | (apply Wp.opS0; (exact rfl)))
  apply Wp.call
  · exact hC _
  repeat (first | apply Wp.seq | apply Wp.skip | apply Wp.block | (apply Wp.op0; ((simp [M2.keep]) <;> rfl)) | (apply Wp.op; (apply Evt.all; intro; (simp []) <;> (try simp (disch := omega) only [wrap_id]) <;> first | exact ⟨rfl, rfl⟩ | exact rfl)) | (apply Wp.opN; (apply Evt.all; intro; (simp []) <;> (try simp (disch := omega) only [wrap_id]) <;> first | exact ⟨rfl, rfl⟩ | exact rfl)) | (apply Wp.opG; (exact rfl); (apply Evt.all; intro; (simp []) <;> (try simp (disch := omega) only [wrap_id]) <;> first | exact ⟨rfl, rfl⟩ | exact rfl)) | (apply Wp.opS; (exact rfl); decide) | (apply Wp.opS0; (exact rfl)))
  refine Wp.draw (by (simp [c_refine_Apart_D0, I.need]) <;> rfl) (by (simp [natsU_len, natsU_getE, hI, hJ]) <;> rfl) (by (simp [natsU_len, natsU_getE, hI, hJ]) <;> rfl) (by (unfold c_refine_Apart_D0); (repeat (first | (apply Dr.op; ((simp [natsU_len, natsU_getE, hI, hJ]) <;> rfl); (apply Evt.all; intro; (simp [natsU_len, natsU_getE, hI, hJ]) <;> (try simp (disch := omega) only [wrap_id]) <;> first | exact ⟨rfl, rfl⟩ | exact rfl); ((simp [I.need]) <;> rfl)) | (apply Dr.opN; ((simp [natsU_len, natsU_getE, hI, hJ]) <;> rfl); (apply Evt.all; intro; (simp [natsU_len, natsU_getE, hI, hJ]) <;> (try simp (disch := omega) only [wrap_id]) <;> first | exact ⟨rfl, rfl⟩ | exact rfl); ((simp [I.need]) <;> rfl)) | (apply Dr.opG; (exact rfl); ((simp [natsU_len, natsU_getE, hI, hJ]) <;> rfl); (apply Evt.all; intro; (simp [natsU_len, natsU_getE, hI, hJ]) <;> (try simp (disch := omega) only [wrap_id]) <;> first | exact ⟨rfl, rfl⟩ | exact rfl); ((simp [I.need]) <;> rfl)) | (apply Dr.opS; (exact rfl); decide; ((simp [I.need]) <;> rfl)) | (apply Dr.opS0; (exact rfl); ((simp [I.need]) <;> rfl)))); exact Dr.nil) (by first | decide +kernel | exact rfl) (by (simp [M2.keep]) <;> rfl) ?_
  refine Wp.ret ?_
  have e : decide ((C[a] : Int) = (C[b] : Int)) = decide (C[a] = C[b]) := by
    by_cases h : C[a] = C[b]
    · simp [h]
    · have : ¬ (C[a] : Int) = (C[b] : Int) := fun e => h (by omega)
      simp [h, this]
  have e2 : apartF C a b = !decide (C[a] = C[b]) := by
    have h3' : ¬ (C.length : Int) ≤ a := by omega
    have h4' : ¬ (C.length : Int) ≤ b := by omega
    rw [apartF, decide_eq_true h0, decide_eq_false h1, decide_eq_false h2, decide_eq_false h3', decide_eq_false h4']
    simp only [Bool.true_and, Bool.false_or, Int.toNat_natCast, List.getD_eq_getElem?_getD, List.getElem?_eq_getElem hI, List.getElem?_eq_getElem hJ, Option.getD_some]
    by_cases h : C[a] = C[b] <;> simp [h]
  rw [e2]
  simp [Res, resU, c_refine_Apart, res1, e]
end Go.Proofs.Ytaefnggoempdlaa.M2
