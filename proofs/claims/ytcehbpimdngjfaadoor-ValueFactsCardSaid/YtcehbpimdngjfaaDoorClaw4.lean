/- ValueFacts: the facts of all places are those that the document says. No condition. -/
import Derived.Test.YtcehbpimdngjfaaDoorCn
import Derived.Test.YtcehbpimdngjfaaDoorCp
import Derived.Test.YtcehbpimdngjfaaDoorCk
import Derived.Test.YtcehbpimdngjfaaDoorCards
import Derived.Test.YtcehbpimdngjfaaDoorTie
import Derived.SevenTiedAt
set_option linter.unusedSimpArgs false
set_option linter.unusedVariables false
set_option linter.unusedSectionVars false
namespace Go.Proofs.YtcehbpimdngjfaaDoor.M2
open Go
attribute [local simp] ev1 M2.get put A.ev ld sub part elems bin arith un opt idx fillC cellsO splice over newOb sto fillR laidOwn appTo appRow touch touchN touchM touchE touchA plainU flatU plainAs allM rowAt stoRow accM_nil accM_cons accMM_nil accMM_cons frz_int frz_bool frz_str frz_slt frz_nils frz_nilI frz_nilF frz_own frzRow_row frzRow_frow Ob.blw blw_bool blw_int blw_str blw_nils blw_nilI blw_nilF blw_nilp blw_nilm blw_sl blw_own blw_bp blw_rp blw_mp blw_it params
attribute [local simp] frz_agg frz_tup frz_iface frzS_agg frzS_iface accMS_cons frzS_int frzS_bool frzS_str frzS_slt frzS_nils frzS_nilI beq_dec bne_dec
theorem fs_self (x : FS) : sameV (.tst [(1, .ti), (1, .ti)]) (.agg [i64 x.1, i64 x.2]) (.agg [i64 x.1, i64 x.2]) = some true := by
  simp [sameV, cellsS, sameD, same, same.fields]
def sf2S (FU : List (List U)) (n q : Nat) : S := ⟨[(0, .sl true FU), (1, .sl true FU), (5, i64 n), (6, i64 q)], []⟩
set_option maxHeartbeats 8000000 in
theorem sf2_loop (FU : List (List U)) (f : Nat → FS) (n : Nat) (hF : FU[n]? = some [.sl true (rowU f)]) (R : S → Prop) :
    Wp T (.loop c_joineryref11_SameFacts_L2) (sf2S FU n 0) (fun _ => False) R (fun b s' => b = 2 ∧ s' = ⟨[(0, .sl true FU), (1, .sl true FU), (5, i64 n), (6, i64 (24 : Nat)), (35, .bool false)], []⟩) := by
  have hn := (List.getElem?_eq_some_iff.1 hF).1
  have hn' : (n : Int) < FU.length := by omega
  have hrl := rowU_len f
  refine Wp.count 24 (fun q => sf2S FU n q) (fun _ => True) (fun q hq _ => ?_) (fun _ => ?_) 0 (by omega) trivial
  · have hq' : (q : Int) < 24 := by omega
    have hrq : (rowU f)[q]? = some (fsU (f q)) := by simp [rowU, hq]
    have hsm := fs_self (f q)
    generalize rowU f = RU at *
    generalize f q = x at *
    simp only [sf2S]
    (have := fa (a4 hn' hF hrl hq'); repeat refine Wp.f ?_)
    refine Wp.i ?_ ?_ <;> intro h1
    · repeat refine Wp.a ?_
      refine Wp.draw (by (simp [c_joineryref11_SameFacts_D1, I.need]) <;> rfl) (by (simp [hn', hF, hrl, hq', hrq, fsU, hsm]) <;> rfl) (by (simp [hn', hF, hrl, hq', hrq, fsU, hsm]) <;> rfl) (by (unfold c_joineryref11_SameFacts_D1); (repeat (first | ((first | apply Dr.op | apply Dr.opN | (apply Dr.opG; exact rfl)); ((simp [hn', hF, hrl, hq', hrq, fsU, hsm]) <;> rfl); (apply Evt.all; intro; (simp [hn', hF, hrl, hq', hrq, fsU, hsm]) <;> (try simp (disch := omega) only [wrap_id]) <;> first | exact ⟨rfl, rfl⟩ | exact rfl); ((simp [I.need]) <;> rfl)) | ((first | (apply Dr.opS; exact rfl; decide) | (apply Dr.opS0; exact rfl)); ((simp [I.need]) <;> rfl)))); exact Dr.nil) (by first | decide +kernel | exact rfl) (by (simp [M2.keep]) <;> rfl) ?_
      refine Wp.i ?_ ?_ <;> intro h2
      · cases h2
      · (have := fa @wrap_id; repeat refine Wp.f ?_)
        exact ⟨trimO_len rfl, trivial⟩
    · cases h1
  · simp only [sf2S]
    (have := fa (a3 hn' hF hrl); repeat refine Wp.f ?_)
    refine Wp.i ?_ ?_ <;> intro h1
    · cases h1
    · exact Wp.exit ⟨rfl, rfl⟩
def sf3S (FU : List (List U)) (n : Nat) : S := ⟨[(0, .sl true FU), (1, .sl true FU), (5, i64 n)], []⟩
set_option maxHeartbeats 8000000 in
theorem samefacts_call (FU : List (List U)) (N : Nat) (hN : N ≤ 200) (g : Nat → Nat → FS) (hFl : FU.length = N) (hF : ∀ n, n < N → FU[n]? = some [.sl true (rowU (g n))]) (st : List Ob) : Cl T n_joineryref11_SameFacts [.sl true FU, .sl true FU] st (.bool true) st := by
  refine Wp.pure (fn := c_joineryref11_SameFacts) rfl rfl rfl («as» := [.sl true FU, .sl true FU]) rfl ?_
  (have := fa hFl; repeat refine Wp.f ?_)
  refine Wp.i ?_ ?_ <;> intro h0
  · cases h0
  repeat refine Wp.a ?_
  refine (show Wp T (.loop c_joineryref11_SameFacts_L3) (sf3S FU 0) _ _ _ from ?_)
  refine Wp.count N (fun n => sf3S FU n) (fun _ => True) (fun n hn _ => ?_) (fun _ => ?_) 0 (by omega) trivial
  · have hn' : (n : Int) < N := by omega
    have hFn := hF n hn
    obtain ⟨q3, hFn'⟩ := List.getElem?_eq_some_iff.1 hFn
    have hlp := sf2_loop FU (g n) n hFn (Res c_joineryref11_SameFacts (.bool true))
    have hrl := rowU_len (g n)
    generalize rowU (g n) = RU at *
    simp only [sf3S]
    (have := fa (a2 hFl hn'); repeat refine Wp.f ?_)
    refine Wp.i ?_ ?_ <;> intro h1
    · repeat refine Wp.a ?_
      refine Wp.draw (by (simp [c_joineryref11_SameFacts_D0, I.need]) <;> rfl) (by (simp [hFl, hn', hFn, hFn', hrl]) <;> rfl) (by (simp [hFl, hn', hFn, hFn', hrl]) <;> rfl) (by (unfold c_joineryref11_SameFacts_D0); (repeat (first | ((first | apply Dr.op | apply Dr.opN | (apply Dr.opG; exact rfl)); ((simp [hFl, hn', hFn, hFn', hrl]) <;> rfl); (apply Evt.all; intro; (simp [hFl, hn', hFn, hFn', hrl]) <;> (try simp (disch := omega) only [wrap_id]) <;> first | exact ⟨rfl, rfl⟩ | exact rfl); ((simp [I.need]) <;> rfl)) | ((first | (apply Dr.opS; exact rfl; decide) | (apply Dr.opS0; exact rfl)); ((simp [I.need]) <;> rfl)))); exact Dr.nil) (by first | decide +kernel | exact rfl) (by (simp [M2.keep]) <;> rfl) ?_
      refine Wp.i ?_ ?_ <;> intro h2
      · cases h2
      repeat refine Wp.a ?_
      refine (show Wp T (.loop c_joineryref11_SameFacts_L2) (sf2S FU n 0) _ _ _ from hlp.imp (fun _ h => h.elim) (fun _ h => h) ?_)
      rintro b s ⟨rfl, rfl⟩
      rw [if_pos rfl]
      (have := fa @wrap_id; repeat refine Wp.f ?_)
      exact ⟨trimO_len rfl, trivial⟩
    · cases h1
  · simp only [sf3S]
    (have := fa hFl; repeat refine Wp.f ?_)
    refine Wp.i ?_ ?_ <;> intro h1
    · simp at h1
    · refine Wp.exit ?_
      rw [if_pos rfl]
      repeat refine Wp.a ?_
      refine Wp.ret ?_
      simp [Res, resU, res1, c_joineryref11_SameFacts]
end Go.Proofs.YtcehbpimdngjfaaDoor.M2
namespace Go.Proofs.YtcehbpimdngjfaaDoor.M2
open Go
attribute [local simp] ev1 M2.get put A.ev ld sub part elems bin arith un opt idx fillC cellsO splice over newOb sto fillR laidOwn appTo appRow touch touchN touchM touchE touchA plainU flatU plainAs allM rowAt stoRow accM_nil accM_cons accMM_nil accMM_cons frz_int frz_bool frz_str frz_slt frz_nils frz_nilI frz_nilF frz_own frzRow_row frzRow_frow Ob.blw blw_bool blw_int blw_str blw_nils blw_nilI blw_nilF blw_nilp blw_nilm blw_sl blw_own blw_bp blw_rp blw_mp blw_it params
attribute [local simp] frz_agg frz_tup frz_iface frzS_agg frzS_iface accMS_cons frzS_int frzS_bool frzS_str frzS_slt frzS_nils frzS_nilI beq_dec bne_dec
attribute [local irreducible] Typed TypedA
set_option maxHeartbeats 8000000 in
theorem law4_call (l : List Ins) (cut : List Bool) : Cl T n_joinerylaw11_ValueFacts [insL true l, boolU true cut] [] (.bool true) [] := by
  refine Wp.pure (fn := c_joinerylaw11_ValueFacts) rfl rfl rfl («as» := [insL true l, boolU true cut]) rfl ?_
  have kno := knows_call
  by_cases h1 : 60 < l.length
  · have d1 : decide ((60 : Int) < l.length) = true := decide_eq_true (by omega)
    (all_goals have := fa @insL.eq_1; repeat' first | refine Wp.v ?_ | (apply Wp.call; exact kno _) | (refine Wp.c ?_ ?_ <;> intro))
    refine Wp.ret ?_
    simp [Res, resU, res1, c_joinerylaw11_ValueFacts]
  have d1 : decide ((60 : Int) < l.length) = false := decide_eq_false (by omega)
  by_cases h2 : 300 < cut.length
  · have d2 : decide ((300 : Int) < cut.length) = true := decide_eq_true (by omega)
    (all_goals have := fa (a2 @insL.eq_1 @boolU.eq_1); repeat' first | refine Wp.v ?_ | (apply Wp.call; exact kno _) | (refine Wp.c ?_ ?_ <;> intro))
    refine Wp.ret ?_
    simp [Res, resU, res1, c_joinerylaw11_ValueFacts]
  have d2 : decide ((300 : Int) < cut.length) = false := decide_eq_false (by omega)
  have hri := fun st => right4_call true l st (insL true l) rfl
  cases hr : rightF l with
  | false =>
    rw [hr] at hri
    (all_goals have := fa (a2 @insL.eq_1 @boolU.eq_1); repeat' first | refine Wp.v ?_ | (apply Wp.call; exact hri _) | (apply Wp.call; exact kno _) | (refine Wp.c ?_ ?_ <;> intro))
    refine Wp.ret ?_
    simp [Res, resU, res1, c_joinerylaw11_ValueFacts]
  | true =>
    rw [hr] at hri
    have hb := build_call true l hr true cut
    obtain ⟨f1, f2, f3⟩ := skel_facts (cut := cut) hr
    have hsame := skel_same (cut := cut) hr
    have hrb := rbuild_call true l hr true cut
    have hent : pEntry l = outP l (rPlaces l cut) 0 := (nodes_spec (cut := cut) hr).2.1
    rw [← hent, ← hsame] at hrb
    have hrb : ∀ st, Cl T n_joineryref10_Build [insL true l, boolU true cut] st (.agg (rskelU (wE l) (rnE l cut))) st := hrb
    have hfc := facts_call true l hr cut
    have hrf := rfacts_call true l hr cut
    have hFl : (factsU l cut).length = (pNodes l cut).length := by simp [factsU]
    have hsf := samefacts_call (factsU l cut) (pNodes l cut).length f1 (factF l cut) hFl (fun n hn => by simp [factsU, hn])
    have sl := skel_len f3 (pNodes l cut)
    have t26 : (skelU (pEntry l) (pNodes l cut)).take 26 = skelU (pEntry l) (pNodes l cut) := by rw [List.take_of_length_le]; omega
    generalize factsU l cut = FU at *
    (all_goals have := fa (a5 @insL.eq_1 @boolU.eq_1 sl t26 @over_full); repeat' first | refine Wp.v ?_ | (apply Wp.call; exact hb _) | (apply Wp.call; exact hri _) | (apply Wp.call; exact hfc _) | (apply Wp.call; exact hrb _) | (apply Wp.call; exact hrf _) | (apply Wp.call; exact hsf _) | (apply Wp.call; exact kno _) | (refine Wp.c ?_ ?_ <;> intro))
    refine Wp.ret ?_
    simp [Res, resU, res1, c_joinerylaw11_ValueFacts]
theorem params4 : Tryd.f4.params.toList = [22, 23] := by kernel_rfl
theorem law4 : Law 4 Tryd.f4.params.toList := by
  rw [params4]
  intro us hl hty
  obtain ⟨l, cut, rfl⟩ := args2b hl hty
  exact law_of (law4_call l cut)
end Go.Proofs.YtcehbpimdngjfaaDoor.M2
namespace Go.Proofs.YtcehbpimdngjfaaDoor.M2
open Go Go.ChangeShapes Go.WideShapes Go.ChangeAt Go.RowKit
theorem bool4 : Tryd.prog.underlying 4 = some .bool := by kernel_rfl
theorem types4 : Tryd.f4.resultTypes = #[4] := by kernel_rfl
set_option maxRecDepth 100000 in
theorem valueFacts_row (law : Law 4 Tryd.f4.params.toList) : Rows.ValueFactsSaid :=
  OpenClaim.holds_of_wide 4 Tryd.f4 rfl rfl rfl rfl rfl rfl rfl ⟨rfl, rfl, rfl, rfl, rfl⟩ rfl rfl rfl rfl rfl (by kernel_rfl) Tryd.func4 (by kernel_rfl)
    (of_decide_eq_true (by kernel_rfl)) (by unfold Func.isWrapper; first | (rw [if_pos (by decide +kernel)]; kernel_rfl) | (rw [if_neg (by decide +kernel)]; exact ⟨rfl, rfl⟩))
    (fun os started H enc _ => lifted (s := Rows.valueFactsSpec) law os started enc (by kernel_rfl) Tryd.func4 rfl (by kernel_rfl) types4 bool4
      (fun ds h => by
        have h1 : ds.length = 2 := h
        match ds, h1 with
        | [d0, d1], _ => rfl)
      (ChangeSpec.witness_shaped (enc := enc) (C := Tryd.checked) (os := os) (X := fun w _ => laidMetH Tryd.prog laid1 w) false (World.doorLaid Tryd.prog 400 os) #[.slice none 0 0, .slice none 0 0] 8 rfl (World.shaped_of_RefB (by kernel_rfl) (by kernel_rfl)) (by kernel_rfl) (by kernel_rfl) (by kernel_rfl) (door_met os _)))
theorem valueFacts_card (law : Law 4 Tryd.f4.params.toList) : Rows.ValueFactsCardSaid :=
  Claim7.holds_tied_plain_at .later [] [.data, .data] true (true, "44ecaefe8f35b4120cf5d2eb7e508e68f012c59f62bf85e87c4bf443f6a4b97c") true
    (valueFacts_row law) (fun _ h => by cases h) (by kernel_rfl) (fun _ h => by cases h) valueFacts_row_tie rfl ⟨rfl, rfl⟩ (by kernel_rfl) rfl
    (fun f fn hf hfn => by
      obtain rfl : f = 4 := Option.some.inj ((show Tryd.prog.funcNamed "joinery/joinerylaw11.ValueFacts" = some 4 by kernel_rfl).symm.trans hf) |>.symm
      obtain rfl : fn = Tryd.f4 := (Option.some.inj (Tryd.func4.symm.trans hfn)).symm
      exact ⟨by kernel_rfl, fun j t ht => by
        rw [Tryd.params4] at ht
        have hm : t ∈ [22, 23] := by simpa using Array.mem_of_getElem? ht
        have hall : ([22, 23].all fun u => !Tryd.prog.wantsStandIn u) = true := by kernel_rfl
        exact (show Tryd.prog.wantsStandIn t = false by simpa using List.all_eq_true.1 hall t hm)⟩)
    (by kernel_rfl)
end Go.Proofs.YtcehbpimdngjfaaDoor.M2
namespace Go.Proofs.YtcehbpimdngjfaaDoor
theorem valueFacts_said : Rows.ValueFactsCardSaid := M2.valueFacts_card M2.law4
end Go.Proofs.YtcehbpimdngjfaaDoor
