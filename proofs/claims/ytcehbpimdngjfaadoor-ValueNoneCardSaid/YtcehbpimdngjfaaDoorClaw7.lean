/- ValueNone: of a function that names no slots nothing is cut. No condition. -/
import Derived.Test.YtcehbpimdngjfaaDoorCp
import Derived.Test.YtcehbpimdngjfaaDoorCk
import Derived.Test.YtcehbpimdngjfaaDoorCards
import Derived.Test.YtcehbpimdngjfaaDoorTie
import Derived.SevenTiedAt
set_option linter.unusedSimpArgs false
set_option linter.unusedVariables false
set_option linter.unusedSectionVars false
namespace Go.Proofs.YtcehbpimdngjfaaDoor.M2
open Go
attribute [local simp] ev1 M2.get put A.ev ld sub part elems bin arith un opt idx fillC cellsO splice over newOb sto fillR laidOwn appTo appRow touch touchN touchM touchE touchA plainU flatU plainAs allM rowAt stoRow accM_nil accM_cons accMM_nil accMM_cons frz_int frz_bool frz_str frz_slt frz_nils frz_nilI frz_nilF frz_own frzRow_row frzRow_frow Ob.blw blw_bool blw_int blw_str blw_nils blw_nilI blw_nilF blw_nilp blw_nilm blw_sl blw_own blw_bp blw_rp blw_mp blw_it params
attribute [local simp] frz_agg frz_tup frz_iface frzS_agg frzS_iface accMS_cons frzS_int frzS_bool frzS_str frzS_slt frzS_nils frzS_nilI beq_dec bne_dec
attribute [local irreducible] Typed TypedA
def vn0S (l : List Ins) (i : Nat) : S := ⟨[(0, insL true l), (3, i64 i)], []⟩
set_option maxHeartbeats 4000000 in
theorem vn0_loop (l : List Ins) (hl : l.length ≤ 200) :
    Wp T (.loop c_joinerylaw11_ValueNone_L0) (vn0S l 0) (fun _ => False) (Res c_joinerylaw11_ValueNone (.bool true)) (fun b s' => b = 0 ∧ (∀ x ∈ l, x.d ≤ 7 ∧ x.a ≤ 7) ∧ s' = ⟨[(0, insL true l), (3, i64 (l.length : Nat)), (19, .bool false)], []⟩) := by
  have kno := knows_call
  refine Wp.count l.length (fun i => vn0S l i) (fun i => ∀ x ∈ l.take i, x.d ≤ 7 ∧ x.a ≤ 7) (fun i hi hI => ?_) (fun hI => ?_) 0 (by omega) (by simp)
  · have hi' : (i : Int) < l.length := by omega
    have eg : l[i]? = some l[i] := List.getElem?_eq_getElem hi
    have hI2 : l[i].d ≤ 7 → l[i].a ≤ 7 → ∀ x ∈ l.take (i + 1), x.d ≤ 7 ∧ x.a ≤ 7 := fun h1 h2 x hx => by
      rw [List.take_succ_eq_append_getElem hi] at hx
      rcases List.mem_append.1 hx with hx | hx
      · exact hI x hx
      · simp only [List.mem_singleton] at hx
        subst hx
        exact ⟨h1, h2⟩
    generalize l[i] = x at *
    simp only [vn0S]
    repeat (first | apply Wp.seq | apply Wp.skip | apply Wp.block | (apply Wp.op0; ((simp [M2.keep]) <;> rfl)) | ((first | apply Wp.op | apply Wp.opN | (apply Wp.opG; exact rfl)); (apply Evt.all; intro; (simp [insL, hi']) <;> (try simp (disch := omega) only [wrap_id]) <;> first | exact ⟨rfl, rfl⟩ | exact rfl)) | (apply Wp.opS; exact rfl; decide) | (apply Wp.opS0; exact rfl))
    refine Wp.cond (by first | rfl | (simp; rfl)) (fun h1 => ?_) (fun h1 => ?_)
    · by_cases hd : 7 < x.d
      · repeat (first | apply Wp.seq | apply Wp.skip | apply Wp.block | (apply Wp.op0; ((simp [M2.keep]) <;> rfl)) | ((first | apply Wp.op | apply Wp.opN | (apply Wp.opG; exact rfl)); (apply Evt.all; intro; (simp [insL, insU, hi', eg, hd]) <;> (try simp (disch := omega) only [wrap_id]) <;> first | exact ⟨rfl, rfl⟩ | exact rfl)) | (apply Wp.opS; exact rfl; decide) | (apply Wp.opS0; exact rfl))
        refine Wp.cond (by first | rfl | (simp; rfl)) (fun h2 => ?_) (fun h2 => ?_)
        · repeat (first | apply Wp.seq | apply Wp.skip | apply Wp.block | (apply Wp.op0; ((simp [M2.keep]) <;> rfl)) | ((first | apply Wp.op | apply Wp.opN | (apply Wp.opG; exact rfl)); (apply Evt.all; intro; (simp []) <;> (try simp (disch := omega) only [wrap_id]) <;> first | exact ⟨rfl, rfl⟩ | exact rfl)) | (apply Wp.opS; exact rfl; decide) | (apply Wp.opS0; exact rfl))
          apply Wp.call
          · exact kno _
          repeat (first | apply Wp.seq | apply Wp.skip | apply Wp.block | (apply Wp.op0; ((simp [M2.keep]) <;> rfl)) | ((first | apply Wp.op | apply Wp.opN | (apply Wp.opG; exact rfl)); (apply Evt.all; intro; (simp []) <;> (try simp (disch := omega) only [wrap_id]) <;> first | exact ⟨rfl, rfl⟩ | exact rfl)) | (apply Wp.opS; exact rfl; decide) | (apply Wp.opS0; exact rfl))
          refine Wp.ret ?_
          simp [Res, resU, res1, c_joinerylaw11_ValueNone]
        · first | cases h2 | simp [hd] at h2
      · by_cases ha : 7 < x.a
        · repeat (first | apply Wp.seq | apply Wp.skip | apply Wp.block | (apply Wp.op0; ((simp [M2.keep]) <;> rfl)) | ((first | apply Wp.op | apply Wp.opN | (apply Wp.opG; exact rfl)); (apply Evt.all; intro; (simp [insL, insU, hi', eg, hd, ha]) <;> (try simp (disch := omega) only [wrap_id]) <;> first | exact ⟨rfl, rfl⟩ | exact rfl)) | (apply Wp.opS; exact rfl; decide) | (apply Wp.opS0; exact rfl))
          refine Wp.cond (by first | rfl | (simp; rfl)) (fun h2 => ?_) (fun h2 => ?_)
          · repeat (first | apply Wp.seq | apply Wp.skip | apply Wp.block | (apply Wp.op0; ((simp [M2.keep]) <;> rfl)) | ((first | apply Wp.op | apply Wp.opN | (apply Wp.opG; exact rfl)); (apply Evt.all; intro; (simp []) <;> (try simp (disch := omega) only [wrap_id]) <;> first | exact ⟨rfl, rfl⟩ | exact rfl)) | (apply Wp.opS; exact rfl; decide) | (apply Wp.opS0; exact rfl))
            apply Wp.call
            · exact kno _
            repeat (first | apply Wp.seq | apply Wp.skip | apply Wp.block | (apply Wp.op0; ((simp [M2.keep]) <;> rfl)) | ((first | apply Wp.op | apply Wp.opN | (apply Wp.opG; exact rfl)); (apply Evt.all; intro; (simp []) <;> (try simp (disch := omega) only [wrap_id]) <;> first | exact ⟨rfl, rfl⟩ | exact rfl)) | (apply Wp.opS; exact rfl; decide) | (apply Wp.opS0; exact rfl))
            refine Wp.ret ?_
            simp [Res, resU, res1, c_joinerylaw11_ValueNone]
          · first | cases h2 | simp [ha] at h2
        · repeat (first | apply Wp.seq | apply Wp.skip | apply Wp.block | (apply Wp.op0; ((simp [M2.keep]) <;> rfl)) | ((first | apply Wp.op | apply Wp.opN | (apply Wp.opG; exact rfl)); (apply Evt.all; intro; (simp [insL, insU, hi', eg, hd, ha]) <;> (try simp (disch := omega) only [wrap_id]) <;> first | exact ⟨rfl, rfl⟩ | exact rfl)) | (apply Wp.opS; exact rfl; decide) | (apply Wp.opS0; exact rfl))
          refine Wp.cond (by first | rfl | (simp; rfl)) (fun h2 => ?_) (fun h2 => ?_)
          · first | cases h2 | simp [ha] at h2
          · repeat (first | apply Wp.seq | apply Wp.skip | apply Wp.block | (apply Wp.op0; ((simp [M2.keep]) <;> rfl)) | ((first | apply Wp.op | apply Wp.opN | (apply Wp.opG; exact rfl)); (apply Evt.all; intro; (simp [wrap_id]) <;> (try simp (disch := omega) only [wrap_id]) <;> first | exact ⟨rfl, rfl⟩ | exact rfl)) | (apply Wp.opS; exact rfl; decide) | (apply Wp.opS0; exact rfl))
            exact ⟨trimO_len rfl, hI2 (by omega) (by omega)⟩
    · cases h1
  · rw [List.take_of_length_le (Nat.le_refl _)] at hI
    simp only [vn0S]
    repeat (first | apply Wp.seq | apply Wp.skip | apply Wp.block | (apply Wp.op0; ((simp [M2.keep]) <;> rfl)) | ((first | apply Wp.op | apply Wp.opN | (apply Wp.opG; exact rfl)); (apply Evt.all; intro; (simp [insL]) <;> (try simp (disch := omega) only [wrap_id]) <;> first | exact ⟨rfl, rfl⟩ | exact rfl)) | (apply Wp.opS; exact rfl; decide) | (apply Wp.opS0; exact rfl))
    refine Wp.cond (by first | rfl | (simp; rfl)) (fun h1 => ?_) (fun h1 => ?_)
    · simp at h1
    · exact Wp.exit ⟨rfl, hI, rfl⟩
def vn1S (l : List Ins) (n i : Nat) : S := ⟨[(0, insL true l), (4, .sl true (bitsR (List.replicate n false))), (5, i64 0), (6, i64 i)], []⟩
set_option maxHeartbeats 4000000 in
theorem vn1_loop (l : List Ins) (n : Nat) (hn : n ≤ 200) (R : S → Prop) :
    Wp T (.loop c_joinerylaw11_ValueNone_L1) (vn1S l n 0) (fun _ => False) R (fun b s' => b = 2 ∧ s' = ⟨[(0, insL true l), (4, .sl true (bitsR (List.replicate n false))), (5, i64 0), (6, i64 (n : Nat)), (45, .bool false)], []⟩) := by
  have hbl : (bitsR (List.replicate n false)).length = n := by simp [bitsR]
  have hbg : ∀ i, i < n → (bitsR (List.replicate n false))[i]? = some [.bool false] := fun i hi => by simp [bitsR, hi]
  refine Wp.count n (fun i => vn1S l n i) (fun _ => True) (fun i hi _ => ?_) (fun _ => ?_) 0 (by omega) trivial
  · have hi' : (i : Int) < n := by omega
    have hg := hbg i hi
    obtain ⟨q0, hg'⟩ := List.getElem?_eq_some_iff.1 hg
    simp only [vn1S]
    generalize bitsR (List.replicate n false) = BR at *
    repeat (first | apply Wp.seq | apply Wp.skip | apply Wp.block | (apply Wp.op0; ((simp [M2.keep]) <;> rfl)) | ((first | apply Wp.op | apply Wp.opN | (apply Wp.opG; exact rfl)); (apply Evt.all; intro; (simp [hbl, hi']) <;> (try simp (disch := omega) only [wrap_id]) <;> first | exact ⟨rfl, rfl⟩ | exact rfl)) | (apply Wp.opS; exact rfl; decide) | (apply Wp.opS0; exact rfl))
    refine Wp.cond (by first | rfl | (simp; rfl)) (fun h1 => ?_) (fun h1 => ?_)
    · repeat (first | apply Wp.seq | apply Wp.skip | apply Wp.block | (apply Wp.op0; ((simp [M2.keep]) <;> rfl)) | ((first | apply Wp.op | apply Wp.opN | (apply Wp.opG; exact rfl)); (apply Evt.all; intro; (simp [hbl, hi', hg, hg']) <;> (try simp (disch := omega) only [wrap_id]) <;> first | exact ⟨rfl, rfl⟩ | exact rfl)) | (apply Wp.opS; exact rfl; decide) | (apply Wp.opS0; exact rfl))
      refine Wp.cond (by first | rfl | (simp; rfl)) (fun h2 => ?_) (fun h2 => ?_)
      · cases h2
      · repeat (first | apply Wp.seq | apply Wp.skip | apply Wp.block | (apply Wp.op0; ((simp [M2.keep]) <;> rfl)) | ((first | apply Wp.op | apply Wp.opN | (apply Wp.opG; exact rfl)); (apply Evt.all; intro; (simp [wrap_id]) <;> (try simp (disch := omega) only [wrap_id]) <;> first | exact ⟨rfl, rfl⟩ | exact rfl)) | (apply Wp.opS; exact rfl; decide) | (apply Wp.opS0; exact rfl))
        exact ⟨trimO_len rfl, trivial⟩
    · cases h1
  · simp only [vn1S]
    generalize bitsR (List.replicate n false) = BR at *
    repeat (first | apply Wp.seq | apply Wp.skip | apply Wp.block | (apply Wp.op0; ((simp [M2.keep]) <;> rfl)) | ((first | apply Wp.op | apply Wp.opN | (apply Wp.opG; exact rfl)); (apply Evt.all; intro; (simp [hbl]) <;> (try simp (disch := omega) only [wrap_id]) <;> first | exact ⟨rfl, rfl⟩ | exact rfl)) | (apply Wp.opS; exact rfl; decide) | (apply Wp.opS0; exact rfl))
    refine Wp.cond (by first | rfl | (simp; rfl)) (fun h1 => ?_) (fun h1 => ?_)
    · simp at h1
    · exact Wp.exit ⟨rfl, rfl⟩
set_option maxHeartbeats 8000000 in
theorem law7_call (l : List Ins) : Cl T n_joinerylaw11_ValueNone [insL true l] [] (.bool true) [] := by
  refine Wp.pure (fn := c_joinerylaw11_ValueNone) rfl rfl rfl («as» := [insL true l]) rfl ?_
  have kno := knows_call
  by_cases h1 : 60 < l.length
  · have d1 : decide ((60 : Int) < l.length) = true := decide_eq_true (by omega)
    repeat' (first | apply Wp.seq | apply Wp.skip | apply Wp.block | (apply Wp.op0; ((simp [M2.keep]) <;> rfl)) | ((first | (apply Wp.pickT; (exact rfl); (first | exact rfl | assumption)) | (apply Wp.pickF; (exact rfl); (first | exact rfl | assumption))); ((simp) <;> exact rfl)) | ((first | apply Wp.op | apply Wp.opN); (apply Evt.all; intro; (simp [insL]) <;> (try simp (disch := omega) only [wrap_id]) <;> first | exact ⟨rfl, rfl⟩ | exact rfl)) | (apply Wp.call; exact kno _) | (first | (apply Wp.ung; (exact rfl); (first | exact rfl | assumption)) | (apply Wp.opSt; (exact rfl); (first | exact rfl | assumption)) | (apply Wp.opSf; (exact rfl); (first | exact rfl | assumption))) | (apply Wp.opS0; (exact rfl)) | (first | (apply Wp.condT; (exact rfl); (first | exact rfl | assumption)) | (apply Wp.condF; (exact rfl); (first | exact rfl | assumption))) | ((first | apply Wp.grdT | apply Wp.grdF | apply Wp.cond); (exact rfl); (intro); rotate_left 1; (intro); rotate_right 1))
    refine Wp.ret ?_
    simp [Res, resU, res1, c_joinerylaw11_ValueNone]
  have d1 : decide ((60 : Int) < l.length) = false := decide_eq_false (by omega)
  have hri := fun st => right4_call true l st (insL true l) rfl
  cases hr : rightF l with
  | false =>
    rw [hr] at hri
    repeat' (first | apply Wp.seq | apply Wp.skip | apply Wp.block | (apply Wp.op0; ((simp [M2.keep]) <;> rfl)) | ((first | (apply Wp.pickT; (exact rfl); (first | exact rfl | assumption)) | (apply Wp.pickF; (exact rfl); (first | exact rfl | assumption))); ((simp) <;> exact rfl)) | ((first | apply Wp.op | apply Wp.opN); (apply Evt.all; intro; (simp [insL]) <;> (try simp (disch := omega) only [wrap_id]) <;> first | exact ⟨rfl, rfl⟩ | exact rfl)) | (apply Wp.call; exact hri _) | (apply Wp.call; exact kno _) | (first | (apply Wp.ung; (exact rfl); (first | exact rfl | assumption)) | (apply Wp.opSt; (exact rfl); (first | exact rfl | assumption)) | (apply Wp.opSf; (exact rfl); (first | exact rfl | assumption))) | (apply Wp.opS0; (exact rfl)) | (first | (apply Wp.condT; (exact rfl); (first | exact rfl | assumption)) | (apply Wp.condF; (exact rfl); (first | exact rfl | assumption))) | ((first | apply Wp.grdT | apply Wp.grdF | apply Wp.cond); (exact rfl); (intro); rotate_left 1; (intro); rotate_right 1))
    refine Wp.ret ?_
    simp [Res, resU, res1, c_joinerylaw11_ValueNone]
  | true =>
    rw [hr] at hri
    have hc := cut_call true l
    rw [if_pos hr] at hc
    have hl0 := vn0_loop l (by omega)
    repeat' (first | apply Wp.seq | apply Wp.skip | apply Wp.block | (apply Wp.op0; ((simp [M2.keep]) <;> rfl)) | ((first | (apply Wp.pickT; (exact rfl); (first | exact rfl | assumption)) | (apply Wp.pickF; (exact rfl); (first | exact rfl | assumption))); ((simp) <;> exact rfl)) | ((first | apply Wp.op | apply Wp.opN); (apply Evt.all; intro; (simp [insL]) <;> (try simp (disch := omega) only [wrap_id]) <;> first | exact ⟨rfl, rfl⟩ | exact rfl)) | (apply Wp.call; exact hri _) | (first | (apply Wp.ung; (exact rfl); (first | exact rfl | assumption)) | (apply Wp.opSt; (exact rfl); (first | exact rfl | assumption)) | (apply Wp.opSf; (exact rfl); (first | exact rfl | assumption))) | (apply Wp.opS0; (exact rfl)) | (first | (apply Wp.condT; (exact rfl); (first | exact rfl | assumption)) | (apply Wp.condF; (exact rfl); (first | exact rfl | assumption))) | ((first | apply Wp.grdT | apply Wp.grdF | apply Wp.cond); (exact rfl); (intro); rotate_left 1; (intro); rotate_right 1))
    refine (show Wp T (.loop c_joinerylaw11_ValueNone_L0) (vn0S l 0) _ _ _ from hl0.imp (fun _ h => h.elim) (fun _ h => h) ?_)
    rintro b s ⟨rfl, hlow, rfl⟩
    rw [if_pos rfl]
    rw [cuts_none hr hlow] at hc
    have hbl : (bitsR (List.replicate l.length false)).length = l.length := by simp [bitsR]
    have hl1 := vn1_loop l l.length (by omega) (Res c_joinerylaw11_ValueNone (.bool true))
    unfold vn1S at hl1
    generalize bitsR (List.replicate l.length false) = BR at *
    repeat (first | apply Wp.seq | apply Wp.skip | apply Wp.block | (apply Wp.op0; ((simp [M2.keep]) <;> rfl)) | ((first | apply Wp.op | apply Wp.opN | (apply Wp.opG; exact rfl)); (apply Evt.all; intro; (simp []) <;> (try simp (disch := omega) only [wrap_id]) <;> first | exact ⟨rfl, rfl⟩ | exact rfl)) | (apply Wp.opS; exact rfl; decide) | (apply Wp.opS0; exact rfl))
    apply Wp.call
    · exact hc _
    repeat (first | apply Wp.seq | apply Wp.skip | apply Wp.block | (apply Wp.op0; ((simp [M2.keep]) <;> rfl)) | ((first | apply Wp.op | apply Wp.opN | (apply Wp.opG; exact rfl)); (apply Evt.all; intro; (simp []) <;> (try simp (disch := omega) only [wrap_id]) <;> first | exact ⟨rfl, rfl⟩ | exact rfl)) | (apply Wp.opS; exact rfl; decide) | (apply Wp.opS0; exact rfl))
    refine hl1.imp (fun _ h => h.elim) (fun _ h => h) ?_
    rintro b s ⟨rfl, rfl⟩
    rw [if_pos rfl]
    repeat' (first | apply Wp.seq | apply Wp.skip | apply Wp.block | (apply Wp.op0; ((simp [M2.keep]) <;> rfl)) | ((first | (apply Wp.pickT; (exact rfl); (first | exact rfl | assumption)) | (apply Wp.pickF; (exact rfl); (first | exact rfl | assumption))); ((simp) <;> exact rfl)) | ((first | apply Wp.op | apply Wp.opN); (apply Evt.all; intro; (simp [insL, hbl]) <;> (try simp (disch := omega) only [wrap_id]) <;> first | exact ⟨rfl, rfl⟩ | exact rfl)) | (apply Wp.call; exact kno _) | (first | (apply Wp.ung; (exact rfl); (first | exact rfl | assumption)) | (apply Wp.opSt; (exact rfl); (first | exact rfl | assumption)) | (apply Wp.opSf; (exact rfl); (first | exact rfl | assumption))) | (apply Wp.opS0; (exact rfl)) | (first | (apply Wp.condT; (exact rfl); (first | exact rfl | assumption)) | (apply Wp.condF; (exact rfl); (first | exact rfl | assumption))) | ((first | apply Wp.grdT | apply Wp.grdF | apply Wp.cond); (exact rfl); (intro); rotate_left 1; (intro); rotate_right 1))
    refine Wp.ret ?_
    simp [Res, resU, res1, c_joinerylaw11_ValueNone]
theorem params7 : Tryd.f7.params.toList = [22] := by kernel_rfl
theorem law7 : Law 7 Tryd.f7.params.toList := by
  rw [params7]
  intro us hl hty
  obtain ⟨l, rfl⟩ := args1 hl hty
  exact law_of (law7_call l)
end Go.Proofs.YtcehbpimdngjfaaDoor.M2
namespace Go.Proofs.YtcehbpimdngjfaaDoor.M2
open Go Go.ChangeShapes Go.WideShapes Go.ChangeAt Go.RowKit
theorem bool4 : Tryd.prog.underlying 4 = some .bool := by kernel_rfl
theorem types7 : Tryd.f7.resultTypes = #[4] := by kernel_rfl
set_option maxRecDepth 100000 in
theorem valueNone_row (law : Law 7 Tryd.f7.params.toList) : Rows.ValueNoneSaid :=
  OpenClaim.holds_of_wide 7 Tryd.f7 rfl rfl rfl rfl rfl rfl rfl ⟨rfl, rfl, rfl, rfl, rfl⟩ rfl rfl rfl rfl rfl (by kernel_rfl) Tryd.func7 (by kernel_rfl)
    (of_decide_eq_true (by kernel_rfl)) (by unfold Func.isWrapper; first | (rw [if_pos (by decide +kernel)]; kernel_rfl) | (rw [if_neg (by decide +kernel)]; exact ⟨rfl, rfl⟩))
    (fun os started H enc _ => lifted (s := Rows.valueNoneSpec) law os started enc (by kernel_rfl) Tryd.func7 rfl (by kernel_rfl) types7 bool4
      (fun ds h => by
        have h1 : ds.length = 1 := h
        match ds, h1 with
        | [d0], _ => rfl)
      (ChangeSpec.witness_shaped (enc := enc) (C := Tryd.checked) (os := os) (X := fun w _ => laidMetH Tryd.prog laid1 w) false (World.doorLaid Tryd.prog 400 os) #[.slice none 0 0] 8 rfl (World.shaped_of_RefB (by kernel_rfl) (by kernel_rfl)) (by kernel_rfl) (by kernel_rfl) (by kernel_rfl) (door_met os _)))
theorem valueNone_card (law : Law 7 Tryd.f7.params.toList) : Rows.ValueNoneCardSaid :=
  Claim7.holds_tied_plain_at .later [] [.data, .data] true (true, "44ecaefe8f35b4120cf5d2eb7e508e68f012c59f62bf85e87c4bf443f6a4b97c") true
    (valueNone_row law) (fun _ h => by cases h) (by kernel_rfl) (fun _ h => by cases h) valueNone_row_tie rfl ⟨rfl, rfl⟩ (by kernel_rfl) rfl
    (fun f fn hf hfn => by
      obtain rfl : f = 7 := Option.some.inj ((show Tryd.prog.funcNamed "joinery/joinerylaw11.ValueNone" = some 7 by kernel_rfl).symm.trans hf) |>.symm
      obtain rfl : fn = Tryd.f7 := (Option.some.inj (Tryd.func7.symm.trans hfn)).symm
      exact ⟨by kernel_rfl, fun j t ht => by
        rw [Tryd.params7] at ht
        have hm : t ∈ [22] := by simpa using Array.mem_of_getElem? ht
        have hall : ([22].all fun u => !Tryd.prog.wantsStandIn u) = true := by kernel_rfl
        exact (show Tryd.prog.wantsStandIn t = false by simpa using List.all_eq_true.1 hall t hm)⟩)
    (by kernel_rfl)
end Go.Proofs.YtcehbpimdngjfaaDoor.M2
namespace Go.Proofs.YtcehbpimdngjfaaDoor
theorem valueNone_said : Rows.ValueNoneCardSaid := M2.valueNone_card M2.law7
end Go.Proofs.YtcehbpimdngjfaaDoor
