/- MatchSelf: of a form and itself there is no unlike line; and the first line of two is unlike just if their entries are. No condition. -/
import Derived.Test.YtbcojbmalcghbaaDoorCm
import Derived.Test.YtbcojbmalcghbaaDoorCh
import Derived.Test.YtbcojbmalcghbaaDoorCg
import Derived.Test.YtbcojbmalcghbaaDoorCf
import Derived.Test.YtbcojbmalcghbaaDoorCards
import Derived.Test.YtbcojbmalcghbaaDoorTie
import Derived.SevenTiedAt
set_option linter.unusedSimpArgs false
set_option linter.unusedVariables false
set_option linter.unusedSectionVars false
namespace Go.Proofs.YtbcojbmalcghbaaDoor.M2
open Go
attribute [local simp] ev1 M2.get put A.ev ld sub part elems bin arith un opt idx fillC cellsO splice over newOb sto fillR laidOwn appTo appRow touch touchN touchM touchE touchA plainU flatU plainAs allM rowAt stoRow accM_nil accM_cons accMM_nil accMM_cons frz_int frz_bool frz_str frz_slt frz_nils frz_nilI frz_nilF frz_own frzRow_row frzRow_frow Ob.blw blw_bool blw_int blw_str blw_nils blw_nilI blw_nilF blw_nilp blw_nilm blw_sl blw_own blw_bp blw_rp blw_mp blw_it params
attribute [local simp] frz_agg frz_tup frz_iface frzS_agg frzS_iface accMS_cons frzS_int frzS_bool frzS_str frzS_slt frzS_nils frzS_nilI beq_dec bne_dec
attribute [local irreducible] Typed TypedA
theorem cp_ent {x y : FForm} (h : rightF x = true) (h2 : rightF y = true) : cp (linesF x) (linesF y) = 0 ↔ ¬ x.entry = y.entry := by
  unfold linesF cp
  constructor
  · intro k e
    have : jn (entWords x) = jn (entWords y) := by simp [entWords, e]
    rw [if_pos this] at k
    omega
  · intro k
    rw [if_neg]
    intro e
    have := jn_inj (entW_plain x) (entW_plain y) (entW_ne x) (entW_ne y) e
    simp only [entWords] at this
    injection this with _ this
    injection this with this _
    exact k (to_inj (right_k h).ent (right_k h2).ent this)
set_option maxHeartbeats 16000000 in
theorem law6_call (x y : FForm) (hx : Big x) (hy : Big y) (rx : FormR x) (ry : FormR y) : Cl T n_joinerylaw16_MatchSelf [formU x, formU y] [] (.bool true) [] := by
  refine Wp.pure (fn := c_joinerylaw16_MatchSelf) rfl rfl rfl («as» := [formU x, formU y]) rfl ?_
  have kno := knows16_call
  have gx := fun st => great_call x hx st
  have gy := fun st => great_call y hy st
  cases ex : greatF x with
  | true =>
    rw [ex] at gx
    (all_goals have := fa @formC.eq_1; repeat' first | refine Wp.v ?_ | (apply Wp.call; exact gx _) | (apply Wp.call; exact kno _) | (refine Wp.c ?_ ?_ <;> intro))
    refine Wp.ret ?_; simp [Res, resU, res1, c_joinerylaw16_MatchSelf]
  | false =>
    rw [ex] at gx
    cases ey : greatF y with
    | true =>
      rw [ey] at gy
      (all_goals have := fa @formC.eq_1; repeat' first | refine Wp.v ?_ | (apply Wp.call; exact gx _) | (apply Wp.call; exact gy _) | (apply Wp.call; exact kno _) | (refine Wp.c ?_ ?_ <;> intro))
      refine Wp.ret ?_; simp [Res, resU, res1, c_joinerylaw16_MatchSelf]
    | false =>
      rw [ey] at gy
      have sx := small_of ex
      have sy := small_of ey
      have wx := fun st => rright_call x sx st
      have wy := fun st => rright_call y sy st
      cases hRx : rightF x with
      | false =>
        rw [hRx] at wx
        (all_goals have := fa @formC.eq_1; repeat' first | refine Wp.v ?_ | (apply Wp.call; exact gx _) | (apply Wp.call; exact gy _) | (apply Wp.call; exact wx _) | (apply Wp.call; exact kno _) | (refine Wp.c ?_ ?_ <;> intro))
        refine Wp.ret ?_; simp [Res, resU, res1, c_joinerylaw16_MatchSelf]
      | true =>
        rw [hRx] at wx
        cases hRy : rightF y with
        | false =>
          rw [hRy] at wy
          (all_goals have := fa @formC.eq_1; repeat' first | refine Wp.v ?_ | (apply Wp.call; exact gx _) | (apply Wp.call; exact gy _) | (apply Wp.call; exact wx _) | (apply Wp.call; exact wy _) | (apply Wp.call; exact kno _) | (refine Wp.c ?_ ?_ <;> intro))
          refine Wp.ret ?_; simp [Res, resU, res1, c_joinerylaw16_MatchSelf]
        | true =>
          rw [hRy] at wy
          have fxx := fun st => mfirst_call x x sx sx rx rx st
          have fxy := fun st => mfirst_call x y sx sy rx ry st
          rw [mfirst_same hRx] at fxx
          by_cases h : x = y
          · subst h
            (all_goals have := fa @formC.eq_1; repeat' first | refine Wp.v ?_ | (apply Wp.call; exact gx _) | (apply Wp.call; exact wx _) | (apply Wp.call; exact fxx _) | (apply Wp.call; exact kno _) | (refine Wp.c ?_ ?_ <;> intro))
            refine Wp.ret ?_; simp [Res, resU, res1, c_joinerylaw16_MatchSelf]
          · have he := cp_ent hRx hRy
            rw [mfirst_ne hRx hRy h] at fxy
            generalize atF (linesF x) (cp (linesF x) (linesF y)) = wa at *
            generalize atF (linesF y) (cp (linesF x) (linesF y)) = wb at *
            generalize cp (linesF x) (linesF y) = n at *
            by_cases h0 : x.entry = y.entry
            · have hn : ¬ n = 0 := fun e => he.1 e h0
              simp only [formU, formC, h0] at gx gy wx wy fxx fxy
              (all_goals have := fa (a3 @formC.eq_1 h0 hn); repeat' first | refine Wp.v ?_ | (apply Wp.call; exact gx _) | (apply Wp.call; exact gy _) | (apply Wp.call; exact wx _) | (apply Wp.call; exact wy _) | (apply Wp.call; exact fxx _) | (apply Wp.call; exact fxy _) | (apply Wp.call; exact kno _) | (refine Wp.c ?_ ?_ <;> intro))
              refine Wp.ret ?_; simp [Res, resU, res1, c_joinerylaw16_MatchSelf]
            · have hn : n = 0 := he.2 h0
              subst hn
              (all_goals have := fa (a2 @formC.eq_1 h0); repeat' first | refine Wp.v ?_ | (apply Wp.call; exact gx _) | (apply Wp.call; exact gy _) | (apply Wp.call; exact wx _) | (apply Wp.call; exact wy _) | (apply Wp.call; exact fxx _) | (apply Wp.call; exact fxy _) | (apply Wp.call; exact kno _) | (refine Wp.c ?_ ?_ <;> intro))
              refine Wp.ret ?_; simp [Res, resU, res1, c_joinerylaw16_MatchSelf]
theorem params6 : Tryd.f6.params.toList = [25, 25] := by kernel_rfl
theorem law6 : Law 6 Tryd.f6.params.toList := by
  rw [params6]
  intro us hl hty
  obtain ⟨x, y, rfl, hx, hy, rx, ry⟩ := args2' hl hty
  exact law_of (law6_call x y hx hy rx ry)
end Go.Proofs.YtbcojbmalcghbaaDoor.M2
namespace Go.Proofs.YtbcojbmalcghbaaDoor.M2
open Go Go.ChangeShapes Go.WideShapes Go.ChangeAt Go.RowKit
theorem bool4 : Tryd.prog.underlying 4 = some .bool := by kernel_rfl
theorem types6 : Tryd.f6.resultTypes = #[4] := by kernel_rfl
set_option maxRecDepth 100000 in
theorem matchSelf_row (law : Law 6 Tryd.f6.params.toList) : Rows.MatchSelfSaid :=
  OpenClaim.holds_of_wide 6 Tryd.f6 rfl rfl rfl rfl rfl rfl rfl ⟨rfl, rfl, rfl, rfl, rfl⟩ rfl rfl rfl rfl rfl (by kernel_rfl) Tryd.func6 (by kernel_rfl)
    (of_decide_eq_true (by kernel_rfl)) (by unfold Func.isWrapper; first | (rw [if_pos (by decide +kernel)]; kernel_rfl) | (rw [if_neg (by decide +kernel)]; exact ⟨rfl, rfl⟩))
    (fun os started H enc _ => lifted (s := Rows.matchSelfSpec) law os started enc (by kernel_rfl) Tryd.func6 rfl (by kernel_rfl) types6 bool4
      (fun ds h => by
        have h1 : ds.length = 2 := h
        match ds, h1 with
        | [d0, d1], _ => rfl)
      (ChangeSpec.witness_shaped (enc := enc) (C := Tryd.checked) (os := os) (X := fun w _ => laidMetH Tryd.prog laid1 w) false (World.doorLaid Tryd.prog 400 os) #[.agg #[.int .i64 0, .slice none 0 0, .slice none 0 0], .agg #[.int .i64 0, .slice none 0 0, .slice none 0 0]] 8 rfl (World.shaped_of_RefB (by kernel_rfl) (by kernel_rfl)) (by kernel_rfl) (by kernel_rfl) (by kernel_rfl) (door_met os _)))
theorem matchSelf_card (law : Law 6 Tryd.f6.params.toList) : Rows.MatchSelfCardSaid :=
  Claim7.holds_tied_plain_at .later [] [.data, .data, .data] true (true, "8aa61df4e82475081fe3e74a8ac6e91d118017ead69d553e152a5e9218672d2f") true
    (matchSelf_row law) (fun _ h => by cases h) (by kernel_rfl) (fun _ h => by cases h) matchSelf_row_tie rfl ⟨rfl, rfl⟩ (by kernel_rfl) rfl
    (fun f fn hf hfn => by
      obtain rfl : f = 6 := Option.some.inj ((show Tryd.prog.funcNamed "joinery/joinerylaw16.MatchSelf" = some 6 by kernel_rfl).symm.trans hf) |>.symm
      obtain rfl : fn = Tryd.f6 := (Option.some.inj (Tryd.func6.symm.trans hfn)).symm
      exact ⟨by kernel_rfl, fun j t ht => by
        rw [Tryd.params6] at ht
        have hm : t ∈ [25, 25] := by simpa using Array.mem_of_getElem? ht
        have hall : ([25, 25].all fun u => !Tryd.prog.wantsStandIn u) = true := by kernel_rfl
        exact (show Tryd.prog.wantsStandIn t = false by simpa using List.all_eq_true.1 hall t hm)⟩)
    (by kernel_rfl)
end Go.Proofs.YtbcojbmalcghbaaDoor.M2
namespace Go.Proofs.YtbcojbmalcghbaaDoor
theorem matchSelf_said : Rows.MatchSelfCardSaid := M2.matchSelf_card M2.law6
end Go.Proofs.YtbcojbmalcghbaaDoor
