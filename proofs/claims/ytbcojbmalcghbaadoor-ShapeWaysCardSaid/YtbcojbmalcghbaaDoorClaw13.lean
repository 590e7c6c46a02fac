/- ShapeWays: the ways to all nodes of a form that is right are, together, all ways out that lead somewhere, and the beginning. No condition. -/
import Derived.Test.YtbcojbmalcghbaaDoorCj
import Derived.Test.YtbcojbmalcghbaaDoorCh
import Derived.Test.YtbcojbmalcghbaaDoorCg
import Derived.Test.YtbcojbmalcghbaaDoorCf
import Derived.Test.YtbcojbmalcghbaaDoorCards
import Derived.Test.YtbcojbmalcghbaaDoorTie
import Derived.SevenTiedAt
set_option linter.unusedSimpArgs false
set_option linter.unusedVariables false
set_option linter.unusedSectionVars false
namespace Go.Proofs.YtbcojbmalcghbaaDoor.M2
open Go
attribute [local simp] ev1 M2.get put A.ev ld sub part elems bin arith un opt idx fillC cellsO splice over newOb sto fillR laidOwn appTo appRow touch touchN touchM touchE touchA plainU flatU plainAs allM rowAt stoRow accM_nil accM_cons accMM_nil accMM_cons frz_int frz_bool frz_str frz_slt frz_nils frz_nilI frz_nilF frz_own frzRow_row frzRow_frow Ob.blw blw_bool blw_int blw_str blw_nils blw_nilI blw_nilF blw_nilp blw_nilm blw_sl blw_own blw_bp blw_rp blw_mp blw_it params
attribute [local simp] frz_agg frz_tup frz_iface frzS_agg frzS_iface accMS_cons frzS_int frzS_bool frzS_str frzS_slt frzS_nils frzS_nilI beq_dec bne_dec
attribute [local irreducible] Typed TypedA
/-! Counting: the ways in to the first nodes, the ways out. -/
def cO (N : Nat) (l : List Int) : Nat := (l.filter (fun (o : Int) => decide (0 ≤ o) && decide (o < (N : Int)))).length
def cN (N : Nat) : List FNode → Nat
  | [] => 0
  | y :: ys => cO N y.outs + cN N ys
def cE (x : FForm) (N : Nat) : Nat := if 0 ≤ x.entry ∧ x.entry < N then 1 else 0
def cP (l : List Int) : Nat := (l.filter (fun (o : Int) => decide (0 ≤ o))).length
def cQ : List FNode → Nat
  | [] => 0
  | y :: ys => cP y.outs + cQ ys
theorem cO_step (N : Nat) (m : Int) : ∀ (k : Nat) (l : List Int), cO (N + 1) l = cO N l + (oEs N m k l).length
  | _, [] => rfl
  | k, o :: l => by
    have ih := cO_step N m (k + 1) l
    unfold cO at ih ⊢
    unfold oEs
    simp only [List.filter_cons, List.length_append]
    by_cases h0 : 0 ≤ o
    · by_cases h1 : o < N
      · have h2 : o < ((N + 1 : Nat) : Int) := by omega
        have h3 : ¬ o = N := by omega
        simp only [h0, h1, h2, h3, decide_true, Bool.and_self, if_true, if_false, List.length_cons, List.length_nil]
        omega
      · by_cases h3 : o = N
        · subst h3
          have h2 : (N : Int) < ((N + 1 : Nat) : Int) := by omega
          have h4 : ¬ (N : Int) < N := by omega
          simp only [h0, h4, h2, decide_true, decide_false, Bool.and_self, Bool.and_false, Bool.false_eq_true, if_true, if_false, List.length_cons, List.length_nil]
          omega
        · have h2 : ¬ o < ((N + 1 : Nat) : Int) := by omega
          simp only [h0, h1, h2, h3, decide_true, decide_false, Bool.and_false, Bool.false_eq_true, if_false, List.length_nil]
          omega
    · have h3 : ¬ o = N := by omega
      simp only [h0, h3, decide_false, Bool.false_and, Bool.false_eq_true, if_false, List.length_nil]
      omega
theorem cN_step (N : Nat) : ∀ (m : Nat) (l : List FNode), cN (N + 1) l = cN N l + (nEs N m l).length
  | _, [] => rfl
  | m, y :: l => by
    have ih := cN_step N (m + 1) l
    have h := cO_step N m 0 y.outs
    unfold cN nEs
    rw [List.length_append]
    omega
theorem cE_step (x : FForm) (N : Nat) : cE x (N + 1) = cE x N + (entEs x N).length := by
  unfold cE entEs
  by_cases h0 : 0 ≤ x.entry
  · by_cases h1 : x.entry < N
    · rw [if_pos ⟨h0, by omega⟩, if_pos ⟨h0, h1⟩, if_neg (by omega)]
      rfl
    · by_cases h3 : x.entry = N
      · rw [if_pos ⟨h0, by omega⟩, if_neg (by omega), if_pos h3]
        rfl
      · rw [if_neg (by omega), if_neg (by omega), if_neg h3]
        rfl
  · rw [if_neg (by omega), if_neg (by omega), if_neg (by omega)]
    rfl
theorem in_step (x : FForm) {n : Nat} (hn : n < x.nodes.length) : cE x (n + 1) + cN (n + 1) x.nodes = cE x n + cN n x.nodes + (waysF x n).length := by
  have h1 := cE_step x n
  have h2 := cN_step n 0 x.nodes
  unfold waysF
  rw [if_pos ⟨by omega, by omega⟩, List.length_append]
  omega
theorem cO_all {N : Nat} : ∀ {l : List Int}, (∀ o ∈ l, o < N) → cO N l = cP l
  | [], _ => rfl
  | o :: l, h => by
    have ih := cO_all (l := l) (fun p hp => h p (by simp [hp]))
    have h1 := h o (by simp)
    unfold cO cP at ih ⊢
    simp only [List.filter_cons, h1, decide_true, Bool.and_true]
    split
    · rw [List.length_cons, List.length_cons, ih]
    · exact ih
theorem cN_all {N : Nat} : ∀ {l : List FNode}, (∀ y ∈ l, ∀ o ∈ y.outs, o < N) → cN N l = cQ l
  | [], _ => rfl
  | y :: l, h => by
    unfold cN cQ
    rw [cO_all (h y (by simp)), cN_all (fun z hz => h z (by simp [hz]))]
theorem cN_zero : ∀ (l : List FNode), cN 0 l = 0
  | [] => rfl
  | y :: l => by
    unfold cN
    rw [cN_zero l]
    have : cO 0 y.outs = 0 := by
      unfold cO
      rw [List.length_eq_zero_iff, List.filter_eq_nil_iff]
      intro o _
      simp
    omega
theorem cP_take {l : List Int} {k : Nat} (hk : k < l.length) : cP (l.take (k + 1)) = cP (l.take k) + if 0 ≤ l[k] then 1 else 0 := by
  unfold cP
  rw [List.take_succ_eq_append_getElem hk, List.filter_append, List.length_append]
  simp only [List.filter_cons, List.filter_nil]
  by_cases h : 0 ≤ l[k] <;> simp [h]
theorem cQ_app : ∀ (a b : List FNode), cQ (a ++ b) = cQ a + cQ b
  | [], b => by simp [cQ]
  | y :: a, b => by
    rw [List.cons_append, cQ, cQ, cQ_app a b]
    omega
theorem cQ_take {l : List FNode} {k : Nat} (hk : k < l.length) : cQ (l.take (k + 1)) = cQ (l.take k) + cP l[k].outs := by
  rw [List.take_succ_eq_append_getElem hk, cQ_app]
  simp [cQ]
theorem cP_len (l : List Int) : cP l ≤ l.length := List.length_filter_le ..
theorem cQ_len {b : Nat} : ∀ {l : List FNode}, (∀ y ∈ l, y.outs.length ≤ b) → cQ l ≤ l.length * b
  | [], _ => by simp [cQ]
  | y :: l, h => by
    have h1 := cQ_len (l := l) (fun z hz => h z (List.mem_cons_of_mem _ hz))
    have h2 := cP_len y.outs
    have h3 := h y (by simp)
    unfold cQ
    rw [List.length_cons, Nat.add_mul]
    omega
theorem right_below {x : FForm} (h : rightF x = true) : (x.entry < x.nodes.length) ∧ ∀ y ∈ x.nodes, ∀ o ∈ y.outs, o < x.nodes.length := by
  simp only [rightF, Bool.and_eq_true, decide_eq_true_eq, List.all_eq_true] at h
  obtain ⟨⟨⟨h1, h2⟩, h3⟩, h4⟩ := h
  refine ⟨h2, fun y hy o ho => ?_⟩
  obtain ⟨i, hi, e⟩ := List.mem_iff_getElem.1 hy
  have := h3 (y, i) (List.mem_zipIdx_iff_getElem?.2 (by simp [← e, hi]))
  simp only [nodeF, Bool.and_eq_true, decide_eq_true_eq, List.all_eq_true] at this
  have := this.2 o ho
  simp only [outOk, Bool.and_eq_true, decide_eq_true_eq] at this
  exact this.2
def sw0S (x : FForm) (a b n k : Nat) : S := ⟨[(1, .bp 0 0), (3, i64 a), (4, i64 b), (5, i64 n), (6, i64 k)], [.box (formC x)]⟩
set_option maxHeartbeats 8000000 in
theorem sw0_loop (x : FForm) (a b n : Nat) (hn : n < x.nodes.length) (hb : b ≤ 100000) (hl : x.nodes[n].outs.length ≤ 20) (R : S → Prop) : Wp T (.loop c_joinerylaw14_ShapeWays_L0) (sw0S x a b n 0) (fun _ => False) R
    (fun c s' => c = 2 ∧ s' = ⟨[(1, .bp 0 0), (3, i64 a), (4, i64 ((b + cP x.nodes[n].outs : Nat))), (5, i64 n), (6, i64 (x.nodes[n].outs.length : Nat)), (41, .bool false)], [.box (formC x)]⟩) := by
  have hn' : (n : Int) < x.nodes.length := by omega
  have em : x.nodes[n]? = some x.nodes[n] := List.getElem?_eq_getElem hn
  generalize x.nodes[n] = y at *
  rw [show sw0S x a b n 0 = sw0S x a (b + cP (y.outs.take 0)) n 0 by simp [cP]]
  refine Wp.count y.outs.length (fun k => sw0S x a (b + cP (y.outs.take k)) n k) (fun _ => True) (fun k hk _ => ?_) (fun _ => ?_) 0 (by omega) trivial
  · have hk' : (k : Int) < y.outs.length := by omega
    have eg : y.outs[k]? = some y.outs[k] := List.getElem?_eq_getElem hk
    have hcl := cP_len (y.outs.take k)
    rw [List.length_take] at hcl
    rw [cP_take hk]
    generalize cP (y.outs.take k) = c at *
    generalize y.outs[k] = o at *
    obtain ⟨d, hd⟩ : ∃ d, b + c = d := ⟨_, rfl⟩
    have hd2 : b + (c + 1) = d + 1 := by omega
    simp only [sw0S]
    by_cases h0 : 0 ≤ o
    · rw [if_pos h0, hd, hd2]
      have wd : IntKind.wrap .i64 ((d : Int) + 1) = (d : Int) + 1 := wrap_id (by omega) (by omega)
      (all_goals have := fa (a5 @formC.eq_1 @nodeC.eq_1 @outsU.eq_1 @outC.eq_1 (a5 hn' em hk' eg (a2 h0 wd))); repeat' first | refine Wp.v ?_ | (refine Wp.c ?_ ?_ <;> intro))
      (have := fa @wrap_id; repeat refine Wp.f ?_)
      exact ⟨by simp [trimO, trim, formC], trivial⟩
    · rw [if_neg h0, Nat.add_zero, hd]
      (all_goals have := fa (a5 @formC.eq_1 @nodeC.eq_1 @outsU.eq_1 @outC.eq_1 (a5 hn' em hk' eg h0)); repeat' first | refine Wp.v ?_ | (refine Wp.c ?_ ?_ <;> intro))
      (have := fa @wrap_id; repeat refine Wp.f ?_)
      exact ⟨by simp [trimO, trim, formC], trivial⟩
  · rw [List.take_of_length_le (Nat.le_refl _)]
    simp only [sw0S]
    (have := fa (a5 @formC.eq_1 @nodeC.eq_1 @outsU.eq_1 hn' em); repeat refine Wp.f ?_)
    refine Wp.i ?_ ?_ <;> intro h1
    · simp at h1
    · exact Wp.exit ⟨rfl, by simp [formC]⟩
def sw1S (x : FForm) (a b n : Nat) : S := ⟨[(1, .bp 0 0), (3, i64 a), (4, i64 b), (5, i64 n)], [.box (formC x)]⟩
set_option maxHeartbeats 8000000 in
theorem sw1_loop (x : FForm) (hx : Small x) (b : Nat) (hb : b ≤ 1) (R : S → Prop) : Wp T (.loop c_joinerylaw14_ShapeWays_L1) (sw1S x 0 b 0) (fun _ => False) R
    (fun c s' => c = 0 ∧ s' = ⟨[(1, .bp 0 0), (3, i64 ((cE x x.nodes.length + cN x.nodes.length x.nodes : Nat))), (4, i64 ((b + cQ x.nodes : Nat))), (5, i64 (x.nodes.length : Nat)), (24, .bool false)], [.box (formC x)]⟩) := by
  have hbn := hx.nodes
  rw [show sw1S x 0 b 0 = sw1S x (cE x 0 + cN 0 x.nodes) (b + cQ (x.nodes.take 0)) 0 by
    have : cE x 0 = 0 := by
      unfold cE
      rw [if_neg (by omega)]
    simp [this, cN_zero, cQ]]
  refine Wp.count x.nodes.length (fun n => sw1S x (cE x n + cN n x.nodes) (b + cQ (x.nodes.take n)) n) (fun n => cE x n + cN n x.nodes ≤ n * 1300) (fun n hn hI => ?_) (fun _ => ?_) 0 (by omega) (by
    have : cE x 0 = 0 := by
      unfold cE
      rw [if_neg (by omega)]
    simp [this, cN_zero])
  · have hn' : (n : Int) < x.nodes.length := by omega
    have hcq := cQ_len (b := 20) (l := x.nodes.take n) (fun y hy => hx.outs y (List.mem_of_mem_take hy))
    rw [List.length_take] at hcq
    have hm : min n x.nodes.length * 20 ≤ 60 * 20 := Nat.mul_le_mul_right _ (by omega)
    have hin := in_step x hn
    have hwl := ways_len hx n
    have hw := fun st => ways_call x hx n st
    have ho := hx.outs _ (List.getElem_mem hn)
    have hI2 : n * 1300 ≤ 60 * 1300 := Nat.mul_le_mul_right _ (by omega)
    have hI3 : (n + 1) * 1300 = n * 1300 + 1300 := by omega
    have hP : cE x n + cN n x.nodes + (waysF x n).length ≤ (n + 1) * 1300 := by omega
    rw [hin, cQ_take hn]
    generalize cE x n + cN n x.nodes = a at *
    have hl := fun B => sw0_loop x (a + (waysF x n).length) (b + cQ (x.nodes.take n)) n hn (by omega) ho B
    generalize cQ (x.nodes.take n) = q at *
    generalize waysF x n = W at *
    have wa : IntKind.wrap .i64 ((a : Int) + (W.length : Int)) = (a : Int) + (W.length : Int) := wrap_id (by omega) (by omega)
    have wb : ((a + W.length : Nat) : Int) = (a : Int) + (W.length : Int) := by omega
    simp only [sw0S, wb] at hl
    simp only [sw1S, formC, wb, show b + (q + cP x.nodes[n].outs) = b + q + cP x.nodes[n].outs by omega]
    simp only [formC] at hl
    generalize b + q + cP x.nodes[n].outs = bq at *
    generalize b + q = bb at *
    simp only [srcsU] at hw
    (all_goals have := fa (a2 hn' wa); repeat' first | refine Wp.v ?_ | (apply Wp.call; exact hw _) | (refine Wp.c ?_ ?_ <;> intro))
    refine (show Wp T (.loop c_joinerylaw14_ShapeWays_L0) _ _ _ _ from (hl _).imp (fun _ h => h.elim) (fun _ h => h) ?_)
    rintro c s ⟨rfl, rfl⟩
    rw [if_pos rfl]
    (have := fa @wrap_id; repeat refine Wp.f ?_)
    exact ⟨by simp [trimO, trim], hP⟩
  · rw [List.take_of_length_le (Nat.le_refl _)]
    simp only [sw1S]
    (have := fa @formC.eq_1; repeat refine Wp.f ?_)
    refine Wp.i ?_ ?_ <;> intro h1
    · simp at h1
    · exact Wp.exit ⟨rfl, by simp [formC]⟩
set_option maxHeartbeats 8000000 in
theorem law13_call (x : FForm) (hb : Big x) : Cl T n_joinerylaw14_ShapeWays [formU x] [] (.bool true) [] := by
  refine Wp.pure (fn := c_joinerylaw14_ShapeWays) rfl rfl rfl («as» := [formU x]) rfl ?_
  have kno := knows14_call
  have gx := fun st => great_call x hb st
  cases ex : greatF x with
  | true =>
    rw [ex] at gx
    (all_goals have := fa @formC.eq_1; repeat' first | refine Wp.v ?_ | (apply Wp.call; exact gx _) | (apply Wp.call; exact kno _) | (refine Wp.c ?_ ?_ <;> intro))
    refine Wp.ret ?_; simp [Res, resU, res1, c_joinerylaw14_ShapeWays]
  | false =>
    rw [ex] at gx
    have sx := small_of ex
    have hrr := fun st => rright_call x sx st
    cases hR : rightF x with
    | false =>
      rw [hR] at hrr
      (all_goals have := fa @formC.eq_1; repeat' first | refine Wp.v ?_ | (apply Wp.call; exact gx _) | (apply Wp.call; exact hrr _) | (apply Wp.call; exact kno _) | (refine Wp.c ?_ ?_ <;> intro))
      refine Wp.ret ?_; simp [Res, resU, res1, c_joinerylaw14_ShapeWays]
    | true =>
      rw [hR] at hrr
      obtain ⟨hel, hol⟩ := right_below hR
      have hN := cN_all (N := x.nodes.length) hol
      by_cases h0 : 0 ≤ x.entry
      · have hE : cE x x.nodes.length = 1 := by unfold cE; rw [if_pos ⟨h0, hel⟩]
        have hl := fun B => sw1_loop x sx 1 (by omega) B
        rw [hE, hN] at hl
        simp only [sw1S, formC] at hl
        generalize ((1 + cQ x.nodes : Nat) : Int) = q at *
        (all_goals have := fa (a2 @formC.eq_1 h0); repeat' first | refine Wp.v ?_ | (apply Wp.call; exact gx _) | (apply Wp.call; exact hrr _) | (refine Wp.c ?_ ?_ <;> intro))
        refine (show Wp T (.loop c_joinerylaw14_ShapeWays_L1) _ _ _ _ from (hl _).imp (fun _ h => h.elim) (fun _ h => h) ?_)
        rintro c s ⟨rfl, rfl⟩
        rw [if_pos rfl]
        (repeat' first | refine Wp.u ?_ | (apply Wp.call; exact kno _) | (refine Wp.c ?_ ?_ <;> intro))
        refine Wp.ret ?_; simp [Res, resU, res1, c_joinerylaw14_ShapeWays]
      · have hE : cE x x.nodes.length = 0 := by unfold cE; rw [if_neg (by omega)]
        have hl := fun B => sw1_loop x sx 0 (by omega) B
        rw [hE, hN] at hl
        simp only [sw1S, formC] at hl
        generalize ((0 + cQ x.nodes : Nat) : Int) = q at *
        (all_goals have := fa (a2 @formC.eq_1 h0); repeat' first | refine Wp.v ?_ | (apply Wp.call; exact gx _) | (apply Wp.call; exact hrr _) | (refine Wp.c ?_ ?_ <;> intro))
        refine (show Wp T (.loop c_joinerylaw14_ShapeWays_L1) _ _ _ _ from (hl _).imp (fun _ h => h.elim) (fun _ h => h) ?_)
        rintro c s ⟨rfl, rfl⟩
        rw [if_pos rfl]
        (repeat' first | refine Wp.u ?_ | (apply Wp.call; exact kno _) | (refine Wp.c ?_ ?_ <;> intro))
        refine Wp.ret ?_; simp [Res, resU, res1, c_joinerylaw14_ShapeWays]
theorem params13 : Tryd.f13.params.toList = [25] := by kernel_rfl
theorem law13 : Law 13 Tryd.f13.params.toList := by
  rw [params13]
  intro us hl hty
  match us, hl with
  | [u], _ =>
    obtain ⟨x, rfl, hx, _⟩ := typed_formA (hty 0 25 u rfl rfl)
    exact law_of (law13_call x hx)
end Go.Proofs.YtbcojbmalcghbaaDoor.M2
namespace Go.Proofs.YtbcojbmalcghbaaDoor.M2
open Go Go.ChangeShapes Go.WideShapes Go.ChangeAt Go.RowKit
theorem bool4 : Tryd.prog.underlying 4 = some .bool := by kernel_rfl
theorem types13 : Tryd.f13.resultTypes = #[4] := by kernel_rfl
set_option maxRecDepth 100000 in
theorem shapeWays_row (law : Law 13 Tryd.f13.params.toList) : Rows.ShapeWaysSaid :=
  OpenClaim.holds_of_wide 13 Tryd.f13 rfl rfl rfl rfl rfl rfl rfl ⟨rfl, rfl, rfl, rfl, rfl⟩ rfl rfl rfl rfl rfl (by kernel_rfl) Tryd.func13 (by kernel_rfl)
    (of_decide_eq_true (by kernel_rfl)) (by unfold Func.isWrapper; first | (rw [if_pos (by decide +kernel)]; kernel_rfl) | (rw [if_neg (by decide +kernel)]; exact ⟨rfl, rfl⟩))
    (fun os started H enc _ => lifted (s := Rows.shapeWaysSpec) law os started enc (by kernel_rfl) Tryd.func13 rfl (by kernel_rfl) types13 bool4
      (fun ds h => by
        have h1 : ds.length = 1 := h
        match ds, h1 with
        | [d0], _ => rfl)
      (ChangeSpec.witness_shaped (enc := enc) (C := Tryd.checked) (os := os) (X := fun w _ => laidMetH Tryd.prog laid1 w) false (World.doorLaid Tryd.prog 400 os) #[.agg #[.int .i64 0, .slice none 0 0, .slice none 0 0]] 8 rfl (World.shaped_of_RefB (by kernel_rfl) (by kernel_rfl)) (by kernel_rfl) (by kernel_rfl) (by kernel_rfl) (door_met os _)))
theorem shapeWays_card (law : Law 13 Tryd.f13.params.toList) : Rows.ShapeWaysCardSaid :=
  Claim7.holds_tied_plain_at .later [] [.data, .data, .data] true (true, "8aa61df4e82475081fe3e74a8ac6e91d118017ead69d553e152a5e9218672d2f") true
    (shapeWays_row law) (fun _ h => by cases h) (by kernel_rfl) (fun _ h => by cases h) shapeWays_row_tie rfl ⟨rfl, rfl⟩ (by kernel_rfl) rfl
    (fun f fn hf hfn => by
      obtain rfl : f = 13 := Option.some.inj ((show Tryd.prog.funcNamed "joinery/joinerylaw14.ShapeWays" = some 13 by kernel_rfl).symm.trans hf) |>.symm
      obtain rfl : fn = Tryd.f13 := (Option.some.inj (Tryd.func13.symm.trans hfn)).symm
      exact ⟨by kernel_rfl, fun j t ht => by
        rw [Tryd.params13] at ht
        have hm : t ∈ [25] := by simpa using Array.mem_of_getElem? ht
        have hall : ([25].all fun u => !Tryd.prog.wantsStandIn u) = true := by kernel_rfl
        exact (show Tryd.prog.wantsStandIn t = false by simpa using List.all_eq_true.1 hall t hm)⟩)
    (by kernel_rfl)
end Go.Proofs.YtbcojbmalcghbaaDoor.M2
namespace Go.Proofs.YtbcojbmalcghbaaDoor
theorem shapeWays_said : Rows.ShapeWaysCardSaid := M2.shapeWays_card M2.law13
end Go.Proofs.YtbcojbmalcghbaaDoor
