/- MatchAhead: the lines ahead of the first unlike one are alike: they are as many as its place says. No condition. -/
import Derived.Test.YtbcojbmalcghbaaDoorCm
import Derived.Test.YtbcojbmalcghbaaDoorCk
import Derived.Test.YtbcojbmalcghbaaDoorCh
import Derived.Test.YtbcojbmalcghbaaDoorCl
import Derived.Test.YtbcojbmalcghbaaDoorCg
import Derived.Test.YtbcojbmalcghbaaDoorCf
import Derived.Test.YtbcojbmalcghbaaDoorCards
import Derived.Test.YtbcojbmalcghbaaDoorTie
import Derived.SevenTiedAt
set_option linter.unusedSimpArgs false
set_option linter.unusedVariables false
set_option linter.unusedSectionVars false
namespace Go.Proofs.YtbcojbmalcghbaaDoor.M2
open Go
attribute [local simp] ev1 M2.get put A.ev ld sub part elems bin arith un opt idx fillC cellsO splice over newOb sto fillR laidOwn appTo appRow touch touchN touchM touchE touchA plainU flatU plainAs allM rowAt stoRow accM_nil accM_cons accMM_nil accMM_cons frz_int frz_bool frz_str frz_slt frz_nils frz_nilI frz_nilF frz_own frzRow_row frzRow_frow Ob.blw blw_bool blw_int blw_str blw_nils blw_nilI blw_nilF blw_nilp blw_nilm blw_sl blw_own blw_bp blw_rp blw_mp blw_it params
attribute [local simp] frz_agg frz_tup frz_iface frzS_agg frzS_iface accMS_cons frzS_int frzS_bool frzS_str frzS_slt frzS_nils frzS_nilI beq_dec bne_dec
attribute [local irreducible] Typed TypedA
def ah2S (X : List Ob) (l m : List (List UInt8)) (i : Nat) : S := ⟨[(5, .bp 2 0), (8, wordsU true l), (9, wordsU true m), (10, i64 i)], X⟩
set_option maxHeartbeats 8000000 in
theorem ah2_loop (a b : List U) (wa wb : List UInt8) (l m : List (List UInt8)) (hl : l.length ≤ 300) (R : S → Prop) :
    Wp T (.loop c_joinerylaw16_MatchAhead_L2) (ah2S [.box a, .box b, .box [i64 (cp l m), .str wa, .str wb]] l m 0) (fun _ => False) R
      (fun c s' => c = 0 ∧ s' = ⟨[(5, .bp 2 0), (8, wordsU true l), (9, wordsU true m), (10, i64 (cp l m)), (75, .bool false)], [.box a, .box b, .box [i64 (cp l m), .str wa, .str wb]]⟩) := by
  obtain ⟨hc1, hc2⟩ := cp_le l m
  refine Wp.count (cp l m) (fun i => ah2S [.box a, .box b, .box [i64 (cp l m), .str wa, .str wb]] l m i) (fun _ => True) (fun i hi _ => ?_) (fun _ => ?_) 0 (by omega) trivial
  · have e := cp_eq hi
    have h1 : (i : Int) < l.length := by omega
    have h2 : (i : Int) < m.length := by omega
    have e1 : l[i]? = some l[i] := List.getElem?_eq_getElem (by omega)
    have e2 : m[i]? = some l[i] := by rw [← e, e1]
    generalize l[i] = w at *
    simp only [ah2S]
    generalize cp l m = n at *
    have hi' : (i : Int) < n := by omega
    (have := fa hi'; repeat refine Wp.f ?_)
    refine Wp.i ?_ ?_ <;> intro hh
    · repeat refine Wp.a ?_
      refine Wp.draw (by (simp [c_joinerylaw16_MatchAhead_D1, I.need]) <;> rfl) (by (simp [strC, h1, h2, e1, e2]) <;> rfl) (by (simp [strC, h1, h2, e1, e2]) <;> rfl) (by (unfold c_joinerylaw16_MatchAhead_D1); (repeat (first | ((first | apply Dr.op | apply Dr.opN | (apply Dr.opG; exact rfl)); ((simp [strC, h1, h2, e1, e2]) <;> rfl); (apply Evt.all; intro; (simp [strC, h1, h2, e1, e2]) <;> (try simp (disch := omega) only [wrap_id]) <;> first | exact ⟨rfl, rfl⟩ | exact rfl); ((simp [I.need]) <;> rfl)) | ((first | (apply Dr.opS; exact rfl; decide) | (apply Dr.opS0; exact rfl)); ((simp [I.need]) <;> rfl)))); exact Dr.nil) (by first | decide +kernel | exact rfl) (by (simp [M2.keep]) <;> rfl) ?_
      repeat refine Wp.a ?_
      refine Wp.i ?_ ?_ <;> intro h3
      · cases h3
      · (have := fa @wrap_id; repeat refine Wp.f ?_)
        exact ⟨trimO_len rfl, trivial⟩
    · cases hh
  · simp only [ah2S]
    generalize cp l m = n at *
    repeat refine Wp.a ?_
    refine Wp.i ?_ ?_ <;> intro h1
    · simp at h1
    · exact Wp.exit ⟨rfl, rfl⟩
set_option maxHeartbeats 16000000 in
theorem law7_call (x y : FForm) (hx : Big x) (hy : Big y) (rx : FormR x) (ry : FormR y) : Cl T n_joinerylaw16_MatchAhead [formU x, formU y] [] (.bool true) [] := by
  refine Wp.pure (fn := c_joinerylaw16_MatchAhead) rfl rfl rfl («as» := [formU x, formU y]) rfl ?_
  have kno := knows16_call
  have gx := fun st => great_call x hx st
  have gy := fun st => great_call y hy st
  cases ex : greatF x with
  | true =>
    rw [ex] at gx
    (all_goals have := fa @formC.eq_1; repeat' first | refine Wp.v ?_ | (apply Wp.call; exact gx _) | (apply Wp.call; exact kno _) | (refine Wp.c ?_ ?_ <;> intro))
    refine Wp.ret ?_; simp [Res, resU, res1, c_joinerylaw16_MatchAhead]
  | false =>
    rw [ex] at gx
    cases ey : greatF y with
    | true =>
      rw [ey] at gy
      (all_goals have := fa @formC.eq_1; repeat' first | refine Wp.v ?_ | (apply Wp.call; exact gx _) | (apply Wp.call; exact gy _) | (apply Wp.call; exact kno _) | (refine Wp.c ?_ ?_ <;> intro))
      refine Wp.ret ?_; simp [Res, resU, res1, c_joinerylaw16_MatchAhead]
    | false =>
      rw [ey] at gy
      have sx := small_of ex
      have sy := small_of ey
      have wx := fun st => rright_call x sx st
      have wy := fun st => rright_call y sy st
      cases hRx : rightF x with
      | false =>
        rw [hRx] at wx
        (all_goals have := fa @formC.eq_1; repeat' first | refine Wp.v ?_ | (apply Wp.call; exact gx _) | (apply Wp.call; exact gy _) | (apply Wp.call; exact wx _) | (apply Wp.call; exact kno _) | (refine Wp.c ?_ ?_ <;> intro))
        refine Wp.ret ?_; simp [Res, resU, res1, c_joinerylaw16_MatchAhead]
      | true =>
        rw [hRx] at wx
        cases hRy : rightF y with
        | false =>
          rw [hRy] at wy
          (all_goals have := fa @formC.eq_1; repeat' first | refine Wp.v ?_ | (apply Wp.call; exact gx _) | (apply Wp.call; exact gy _) | (apply Wp.call; exact wx _) | (apply Wp.call; exact wy _) | (apply Wp.call; exact kno _) | (refine Wp.c ?_ ?_ <;> intro))
          refine Wp.ret ?_; simp [Res, resU, res1, c_joinerylaw16_MatchAhead]
        | true =>
          rw [hRy] at wy
          have fxy := fun st => mfirst_call x y sx sy rx ry st
          have hxy := fun st => same_call x y sx sy st
          by_cases h : x = y
          · rw [decide_eq_true h] at hxy
            subst h
            rw [mfirst_same hRx] at fxy
            (all_goals have := fa @formC.eq_1; repeat' first | refine Wp.v ?_ | (apply Wp.call; exact gx _) | (apply Wp.call; exact wx _) | (apply Wp.call; exact fxy _) | (apply Wp.call; exact hxy _) | (apply Wp.call; exact kno _) | (refine Wp.c ?_ ?_ <;> intro))
            refine Wp.ret ?_; simp [Res, resU, res1, c_joinerylaw16_MatchAhead]
          · rw [mfirst_ne hRx hRy h] at fxy
            have tx := right_form sx rx hRx
            have ty := right_form sy ry hRy
            have lx := fun st => rlines_call x tx st
            have ly := fun st => rlines_call y ty st
            have nx := lines_n tx
            obtain ⟨hc1, hc2⟩ := cp_le (linesF x) (linesF y)
            have hlp := fun wa wb R => ah2_loop (formC x) (formC y) wa wb (linesF x) (linesF y) (by omega) R
            have q1 : ¬ (linesF x).length < cp (linesF x) (linesF y) := by omega
            have q2 : ¬ (linesF y).length < cp (linesF x) (linesF y) := by omega
            clear hc1 hc2 nx
            generalize atF (linesF x) (cp (linesF x) (linesF y)) = wa at *
            generalize atF (linesF y) (cp (linesF x) (linesF y)) = wb at *
            generalize cp (linesF x) (linesF y) = n at *
            generalize linesF x = l at *
            generalize linesF y = m at *
            simp only [ah2S, formC] at hlp
            (all_goals have := fa @formC.eq_1; repeat' first | refine Wp.v ?_ | (apply Wp.call; exact gx _) | (apply Wp.call; exact gy _) | (apply Wp.call; exact wx _) | (apply Wp.call; exact wy _) | (apply Wp.call; exact fxy _) | (refine Wp.c ?_ ?_ <;> intro))
            refine Wp.draw (by (simp [c_joinerylaw16_MatchAhead_D0, I.need]) <;> rfl) (by (simp [formC]) <;> rfl) (by (simp [formC]) <;> rfl) (by (unfold c_joinerylaw16_MatchAhead_D0); (repeat (first | ((first | apply Dr.op | apply Dr.opN | (apply Dr.opG; exact rfl)); ((simp [formC]) <;> rfl); (apply Evt.all; intro; (simp [formC]) <;> (try simp (disch := omega) only [wrap_id]) <;> first | exact ⟨rfl, rfl⟩ | exact rfl); ((simp [I.need]) <;> rfl)) | ((first | (apply Dr.opS; exact rfl; decide) | (apply Dr.opS0; exact rfl)); ((simp [I.need]) <;> rfl)) | (apply Dr.call; ((simp [formC]) <;> rfl); exact lx _) | (apply Dr.callG; (exact rfl); ((simp [formC]) <;> rfl); exact lx _) | (apply Dr.call; ((simp [formC]) <;> rfl); exact ly _) | (apply Dr.callG; (exact rfl); ((simp [formC]) <;> rfl); exact ly _))); exact Dr.nil) (by first | decide +kernel | exact rfl) (by (simp [M2.keep]) <;> rfl) ?_
            (all_goals have := fa (a2 q1 q2); repeat' first | refine Wp.v ?_ | (refine Wp.c ?_ ?_ <;> intro))
            refine (hlp _ _ _).imp (fun _ h => h.elim) (fun _ h => h) ?_
            rintro c s ⟨rfl, rfl⟩
            rw [if_pos rfl]
            (repeat' first | refine Wp.u ?_ | (apply Wp.call; exact kno _) | (refine Wp.c ?_ ?_ <;> intro))
            refine Wp.ret ?_; simp [Res, resU, res1, c_joinerylaw16_MatchAhead]
theorem params7 : Tryd.f7.params.toList = [25, 25] := by kernel_rfl
theorem law7 : Law 7 Tryd.f7.params.toList := by
  rw [params7]
  intro us hl hty
  obtain ⟨x, y, rfl, hx, hy, rx, ry⟩ := args2' hl hty
  exact law_of (law7_call x y hx hy rx ry)
end Go.Proofs.YtbcojbmalcghbaaDoor.M2
namespace Go.Proofs.YtbcojbmalcghbaaDoor.M2
open Go Go.ChangeShapes Go.WideShapes Go.ChangeAt Go.RowKit
theorem bool4 : Tryd.prog.underlying 4 = some .bool := by kernel_rfl
theorem types7 : Tryd.f7.resultTypes = #[4] := by kernel_rfl
set_option maxRecDepth 100000 in
theorem matchAhead_row (law : Law 7 Tryd.f7.params.toList) : Rows.MatchAheadSaid :=
  OpenClaim.holds_of_wide 7 Tryd.f7 rfl rfl rfl rfl rfl rfl rfl ⟨rfl, rfl, rfl, rfl, rfl⟩ rfl rfl rfl rfl rfl (by kernel_rfl) Tryd.func7 (by kernel_rfl)
    (of_decide_eq_true (by kernel_rfl)) (by unfold Func.isWrapper; first | (rw [if_pos (by decide +kernel)]; kernel_rfl) | (rw [if_neg (by decide +kernel)]; exact ⟨rfl, rfl⟩))
    (fun os started H enc _ => lifted (s := Rows.matchAheadSpec) law os started enc (by kernel_rfl) Tryd.func7 rfl (by kernel_rfl) types7 bool4
      (fun ds h => by
        have h1 : ds.length = 2 := h
        match ds, h1 with
        | [d0, d1], _ => rfl)
      (ChangeSpec.witness_shaped (enc := enc) (C := Tryd.checked) (os := os) (X := fun w _ => laidMetH Tryd.prog laid1 w) false (World.doorLaid Tryd.prog 400 os) #[.agg #[.int .i64 0, .slice none 0 0, .slice none 0 0], .agg #[.int .i64 0, .slice none 0 0, .slice none 0 0]] 8 rfl (World.shaped_of_RefB (by kernel_rfl) (by kernel_rfl)) (by kernel_rfl) (by kernel_rfl) (by kernel_rfl) (door_met os _)))
theorem matchAhead_card (law : Law 7 Tryd.f7.params.toList) : Rows.MatchAheadCardSaid :=
  Claim7.holds_tied_plain_at .later [] [.data, .data, .data] true (true, "8aa61df4e82475081fe3e74a8ac6e91d118017ead69d553e152a5e9218672d2f") true
    (matchAhead_row law) (fun _ h => by cases h) (by kernel_rfl) (fun _ h => by cases h) matchAhead_row_tie rfl ⟨rfl, rfl⟩ (by kernel_rfl) rfl
    (fun f fn hf hfn => by
      obtain rfl : f = 7 := Option.some.inj ((show Tryd.prog.funcNamed "joinery/joinerylaw16.MatchAhead" = some 7 by kernel_rfl).symm.trans hf) |>.symm
      obtain rfl : fn = Tryd.f7 := (Option.some.inj (Tryd.func7.symm.trans hfn)).symm
      exact ⟨by kernel_rfl, fun j t ht => by
        rw [Tryd.params7] at ht
        have hm : t ∈ [25, 25] := by simpa using Array.mem_of_getElem? ht
        have hall : ([25, 25].all fun u => !Tryd.prog.wantsStandIn u) = true := by kernel_rfl
        exact (show Tryd.prog.wantsStandIn t = false by simpa using List.all_eq_true.1 hall t hm)⟩)
    (by kernel_rfl)
end Go.Proofs.YtbcojbmalcghbaaDoor.M2
namespace Go.Proofs.YtbcojbmalcghbaaDoor
theorem matchAhead_said : Rows.MatchAheadCardSaid := M2.matchAhead_card M2.law7
end Go.Proofs.YtbcojbmalcghbaaDoor
