/- ValueCuts: which places are cut is what the document says, or the error is told. No condition. -/
import Derived.Test.YtcehbpimdngjfaaDoorCp
import Derived.Test.YtcehbpimdngjfaaDoorCn
import Derived.Test.YtcehbpimdngjfaaDoorCk
import Derived.Test.YtcehbpimdngjfaaDoorCards
import Derived.Test.YtcehbpimdngjfaaDoorTie
import Derived.SevenTiedAt
set_option linter.unusedSimpArgs false
set_option linter.unusedVariables false
set_option linter.unusedSectionVars false
namespace Go.Proofs.YtcehbpimdngjfaaDoor.M2
open Go
attribute [local simp] ev1 M2.get put A.ev ld sub part elems bin arith un opt idx fillC cellsO splice over newOb sto fillR laidOwn appTo appRow touch touchN touchM touchE touchA plainU flatU plainAs allM rowAt stoRow accM_nil accM_cons accMM_nil accMM_cons frz_int frz_bool frz_str frz_slt frz_nils frz_nilI frz_nilF frz_own frzRow_row frzRow_frow Ob.blw blw_bool blw_int blw_str blw_nils blw_nilI blw_nilF blw_nilp blw_nilm blw_sl blw_own blw_bp blw_rp blw_mp blw_it params
attribute [local simp] frz_agg frz_tup frz_iface frzS_agg frzS_iface accMS_cons frzS_int frzS_bool frzS_str frzS_slt frzS_nils frzS_nilI beq_dec bne_dec
def rc1S (p : Bool) (l : List Ins) (J : List Ob) (w : Way) (rn : List RNode) (FU : List (List U)) (n at_ : Nat) (us : List Int) (k : Nat) (x : List Bool × Bool) : S :=
  ⟨[(0, insL p l), (3, .own 0 l.length), (4, .bool x.2), (5, .bp (J.length + 1) 0), (6, .sl true FU), (7, i64 n), (8, i64 at_), (9, intsU us), (10, i64 k)], .row 4 1 false (bitsR x.1) :: (J ++ [.box (rskelU w rn)])⟩
set_option maxHeartbeats 8000000 in
theorem rc1_loop (p : Bool) (l : List Ins) (J : List Ob) (w : Way) (rn : List RNode) (FU : List (List U)) (f : Nat → Nat → FS) (n : Nat) (hFU : FU[n]? = some [.sl true (rowU (f n))]) (at_ : Nat) (hat : at_ < l.length) (us : List Int) (hus : us.length ≤ 2) (hu : ∀ u ∈ us, 0 ≤ u ∧ u < 8) (x : List Bool × Bool) (hx : x.1.length = l.length) :
    Wp T (.loop c_joineryref11_Cut_L1) (rc1S p l J w rn FU n at_ us 0 x) (fun _ => False) (fun _ => False) (fun b s' => b = 4 ∧ s' = ⟨[(0, insL p l), (3, .own 0 l.length), (4, .bool (us.foldl (useF f n at_) x).2), (5, .bp (J.length + 1) 0), (6, .sl true FU), (7, i64 n), (8, i64 at_), (9, intsU us), (10, i64 (us.length : Nat)), (42, .bool false)], .row 4 1 false (bitsR (us.foldl (useF f n at_) x).1) :: (J ++ [.box (rskelU w rn)])⟩) := by
  have hnF := (List.getElem?_eq_some_iff.1 hFU).1
  have hn' : (n : Int) < FU.length := by omega
  have hat' : (at_ : Int) < l.length := by omega
  refine Wp.count us.length (fun k => rc1S p l J w rn FU n at_ us k ((us.take k).foldl (useF f n at_) x)) (fun _ => True) (fun k hk _ => ?_) (fun _ => ?_) 0 (by omega) trivial
  · have hk' : (k : Int) < us.length := by omega
    have eg : us[k]? = some us[k] := List.getElem?_eq_getElem hk
    have hul := hu _ (List.getElem_mem hk)
    have hyl := use_len f n at_ (us.take k) x
    rw [hx] at hyl
    rw [List.take_succ_eq_append_getElem hk, List.foldl_append, List.foldl_cons, List.foldl_nil]
    generalize (us.take k).foldl (useF f n at_) x = y at *
    generalize us[k] = u at *
    obtain ⟨u, rfl⟩ := Int.eq_ofNat_of_zero_le hul.1
    obtain ⟨c, more⟩ := y
    simp only at hyl
    have hcl := bits_len c
    rw [hyl] at hcl
    have hcg := bits_get (c := c) (i := at_) (by omega)
    have hrl := rowU_len (f n)
    have hu24 : u < 24 := by omega
    have hrq : (rowU (f n))[u]? = some (fsU (f n u)) := by simp [rowU, hu24]
    have hu' : (u : Int) < 24 := by omega
    have key : useF f n at_ (c, more) (u : Int) = if c.getD at_ false = false ∧ (f n u).1 = 0 then (c.set at_ true, true) else (c, more) := rfl
    rw [key]
    have hbs := bits_set c at_ true
    generalize c.getD at_ false = v at *
    generalize f n u = z at *
    generalize rowU (f n) = RU at *
    obtain ⟨a, b⟩ := z
    simp only at key ⊢
    simp only [rc1S]
    (have := fa hk'; repeat refine Wp.f ?_)
    refine Wp.i ?_ ?_ <;> intro h1
    · by_cases ha : a = 0
      · subst ha
        cases v with
        | true =>
          rw [if_neg (by simp)]
          repeat refine Wp.a ?_
          refine Wp.draw (by (simp [c_joineryref11_Cut_D0, I.need]) <;> rfl) (by (simp [hk', eg, hcl, hat', hcg, hn', hFU, hrl, hu', hrq, fsU]) <;> rfl) (by (simp [hk', eg, hcl, hat', hcg, hn', hFU, hrl, hu', hrq, fsU]) <;> rfl) (by (unfold c_joineryref11_Cut_D0); (repeat (first | ((first | apply Dr.op | apply Dr.opN | (apply Dr.opG; exact rfl)); ((simp [hk', eg, hcl, hat', hcg, hn', hFU, hrl, hu', hrq, fsU]) <;> rfl); (apply Evt.all; intro; (simp [hk', eg, hcl, hat', hcg, hn', hFU, hrl, hu', hrq, fsU]) <;> (try simp (disch := omega) only [wrap_id]) <;> first | exact ⟨rfl, rfl⟩ | exact rfl); ((simp [I.need]) <;> rfl)) | ((first | (apply Dr.opS; exact rfl; decide) | (apply Dr.opS0; exact rfl)); ((simp [I.need]) <;> rfl)))); exact Dr.nil) (by first | decide +kernel | exact rfl) (by (simp [M2.keep]) <;> rfl) ?_
          refine Wp.i ?_ ?_ <;> intro h2
          · cases h2
          · (have := fa @wrap_id; repeat refine Wp.f ?_)
            exact ⟨trimO_len rfl, trivial⟩
        | false =>
          rw [if_pos ⟨rfl, rfl⟩, hbs]
          repeat refine Wp.a ?_
          refine Wp.draw (by (simp [c_joineryref11_Cut_D0, I.need]) <;> rfl) (by (simp [hk', eg, hcl, hat', hcg, hn', hFU, hrl, hu', hrq, fsU]) <;> rfl) (by (simp [hk', eg, hcl, hat', hcg, hn', hFU, hrl, hu', hrq, fsU]) <;> rfl) (by (unfold c_joineryref11_Cut_D0); (repeat (first | ((first | apply Dr.op | apply Dr.opN | (apply Dr.opG; exact rfl)); ((simp [hk', eg, hcl, hat', hcg, hn', hFU, hrl, hu', hrq, fsU]) <;> rfl); (apply Evt.all; intro; (simp [hk', eg, hcl, hat', hcg, hn', hFU, hrl, hu', hrq, fsU]) <;> (try simp (disch := omega) only [wrap_id]) <;> first | exact ⟨rfl, rfl⟩ | exact rfl); ((simp [I.need]) <;> rfl)) | ((first | (apply Dr.opS; exact rfl; decide) | (apply Dr.opS0; exact rfl)); ((simp [I.need]) <;> rfl)))); exact Dr.nil) (by first | decide +kernel | exact rfl) (by (simp [M2.keep]) <;> rfl) ?_
          refine Wp.i ?_ ?_ <;> intro h2
          · (have := fa (a4 hcl hat' hcg @wrap_id); repeat refine Wp.f ?_)
            exact ⟨trimO_len rfl, trivial⟩
          · cases h2
      · rw [if_neg (fun h => ha h.2)]
        repeat refine Wp.a ?_
        refine Wp.draw (by (simp [c_joineryref11_Cut_D0, I.need]) <;> rfl) (by (simp [hk', eg, hcl, hat', hcg, hn', hFU, hrl, hu', hrq, fsU, ha]) <;> rfl) (by (simp [hk', eg, hcl, hat', hcg, hn', hFU, hrl, hu', hrq, fsU, ha]) <;> rfl) (by (unfold c_joineryref11_Cut_D0); (repeat (first | ((first | apply Dr.op | apply Dr.opN | (apply Dr.opG; exact rfl)); ((simp [hk', eg, hcl, hat', hcg, hn', hFU, hrl, hu', hrq, fsU, ha]) <;> rfl); (apply Evt.all; intro; (simp [hk', eg, hcl, hat', hcg, hn', hFU, hrl, hu', hrq, fsU, ha]) <;> (try simp (disch := omega) only [wrap_id]) <;> first | exact ⟨rfl, rfl⟩ | exact rfl); ((simp [I.need]) <;> rfl)) | ((first | (apply Dr.opS; exact rfl; decide) | (apply Dr.opS0; exact rfl)); ((simp [I.need]) <;> rfl)))); exact Dr.nil) (by first | decide +kernel | exact rfl) (by (simp [M2.keep]) <;> rfl) ?_
        refine Wp.i ?_ ?_ <;> intro h2
        · first | cases h2 | simp [ha] at h2
        · (have := fa @wrap_id; repeat refine Wp.f ?_)
          exact ⟨trimO_len rfl, trivial⟩
    · cases h1
  · rw [List.take_of_length_le (Nat.le_refl _)]
    simp only [rc1S]
    repeat refine Wp.a ?_
    refine Wp.i ?_ ?_ <;> intro h1
    · simp at h1
    · exact Wp.exit ⟨rfl, rfl⟩
def rc2S (p : Bool) (l : List Ins) (J : List Ob) (w : Way) (rn : List RNode) (FU : List (List U)) (n : Nat) (x : List Bool × Bool) : S :=
  ⟨[(0, insL p l), (3, .own 0 l.length), (4, .bool x.2), (5, .bp (J.length + 1) 0), (6, .sl true FU), (7, i64 n)], .row 4 1 false (bitsR x.1) :: (J ++ [.box (rskelU w rn)])⟩
set_option maxHeartbeats 8000000 in
theorem rc2_loop (p : Bool) (l : List Ins) (J : List Ob) (w : Way) (rn : List RNode) (hrn : rn.length ≤ 200) (FU : List (List U)) (f : Nat → Nat → FS) (hFU : ∀ n, n < rn.length → FU[n]? = some [.sl true (rowU (f n))]) (hlt : ∀ x ∈ rn, x.1 < l.length) (hck : ∀ x ∈ l, (∀ u ∈ usesF x, 0 ≤ u ∧ u < 8) ∧ 1 ≤ x.op ∧ x.op ≤ 18) (x : List Bool × Bool) (hx : x.1.length = l.length) :
    Wp T (.loop c_joineryref11_Cut_L2) (rc2S p l J w rn FU 0 x) (fun _ => False) (fun _ => False) (fun b s' => b = 2 ∧ s' = ⟨[(0, insL p l), (3, .own 0 l.length), (4, .bool (roundF f l 0 (rn.map (·.1)) x).2), (5, .bp (J.length + 1) 0), (6, .sl true FU), (7, i64 (rn.length : Nat)), (25, .bool false)], .row 4 1 false (bitsR (roundF f l 0 (rn.map (·.1)) x).1) :: (J ++ [.box (rskelU w rn)])⟩) := by
  have hml : (rn.map (·.1)).length = rn.length := List.length_map ..
  refine Wp.count rn.length (fun n => rc2S p l J w rn FU n (roundF f l 0 ((rn.map (·.1)).take n) x)) (fun _ => True) (fun n hn _ => ?_) (fun _ => ?_) 0 (by omega) trivial
  · have hn' : (n : Int) < rn.length := by omega
    have hg : rn[n]? = some rn[n] := List.getElem?_eq_getElem hn
    have hxa := hlt _ (List.getElem_mem hn)
    have hrt := round_take f l (rn.map (·.1)) 0 n x (by omega)
    rw [List.getElem_map, Nat.zero_add] at hrt
    rw [hrt]
    have hyl := round_len f l ((rn.map (·.1)).take n) 0 x
    rw [hx] at hyl
    generalize roundF f l 0 ((rn.map (·.1)).take n) x = y at *
    generalize rn[n] = z at *
    obtain ⟨at_, os⟩ := z
    simp only at hxa ⊢
    have hxl : l.getD at_ default = l[at_] := by simp [hxa]
    rw [hxl]
    have hc := hck _ (List.getElem_mem hxa)
    have hus := ruses_call l[at_]
    have hul : (usesF l[at_]).length ≤ 2 := by
      unfold usesF
      split
      · simp
      · split <;> simp
    have hlp := rc1_loop p l J w rn FU f n (hFU n hn) at_ hxa (usesF l[at_]) hul hc.1 y hyl
    have hat' : (at_ : Int) < l.length := by omega
    have hlg : l[at_]? = some l[at_] := List.getElem?_eq_getElem hxa
    generalize l[at_] = xi at *
    generalize (usesF xi).foldl (useF f n at_) y = y2 at *
    simp only [rc2S]
    (have := fa (a2 @rskelU.eq_1 hn'); repeat refine Wp.f ?_)
    refine Wp.i ?_ ?_ <;> intro h1
    · (have := fa (a5 @insL.eq_1 @rskelU.eq_1 @rnodeU.eq_1 hn' (a5 hg hat' hlg @insU_len @insU_take)); repeat refine Wp.f ?_)
      apply Wp.call
      · exact hus _
      repeat refine Wp.a ?_
      refine (show Wp T (.loop c_joineryref11_Cut_L1) (rc1S p l J w rn FU n at_ (usesF xi) 0 y) _ _ _ from hlp.imp (fun _ h => h.elim) (fun _ h => h.elim) ?_)
      rintro b s ⟨rfl, rfl⟩
      rw [if_pos rfl]
      (have := fa @wrap_id; repeat refine Wp.f ?_)
      exact ⟨trimO_len rfl, trivial⟩
    · cases h1
  · rw [List.take_of_length_le (by omega)]
    simp only [rc2S]
    (have := fa @rskelU.eq_1; repeat refine Wp.f ?_)
    refine Wp.i ?_ ?_ <;> intro h1
    · simp at h1
    · exact Wp.exit ⟨rfl, rfl⟩
def rc3S (p : Bool) (l : List Ins) (x : List Bool × Bool) (ex : Env) (J : List Ob) : S := ⟨(0, insL p l) :: (3, .own 0 l.length) :: (4, .bool x.2) :: ex, .row 4 1 false (bitsR x.1) :: J⟩
theorem keep_ev2 (e : Env) (st : List Ob) (L : Nat) (h : e.all (fun p => blw blwD L p.2) = false) : trimO L ⟨e, st⟩ = ⟨e, st⟩ := by
  unfold trimO trim
  rw [if_neg]
  · rfl
  · intro hh
    simp only [Bool.and_eq_true] at hh
    rw [h] at hh
    cases hh.1
set_option maxHeartbeats 16000000 in
theorem rcut_call (p : Bool) (l : List Ins) (hr : rightF l = true) (st : List Ob) : Cl T n_joineryref11_Cut [insL p l] st (.sl true (bitsR (cutsF l))) st := by
  refine Wp.pure (fn := c_joineryref11_Cut) rfl rfl rfl («as» := [insL p l]) rfl ?_
  have h200 := (right_facts hr).1
  have lim : (l.length : Int) ≤ limit := by
    show (l.length : Int) ≤ 140737488355328
    omega
  (have := fa (a2 @insL.eq_1 lim); repeat refine Wp.f ?_)
  have e0 : bitsR (List.replicate l.length false) = List.replicate l.length [.bool false] := by simp [bitsR]
  have hst : (⟨[(0, insL p l), (3, .own 0 l.length), (4, .bool true)], [.row 4 1 false (List.replicate l.length [.bool false])]⟩ : S) = rc3S p l (List.replicate l.length false, true) [] [] := by
    unfold rc3S
    rw [e0]
  rw [hst]
  refine Wp.loop (fun y : (List Bool × Bool) × Env × List Ob => 2 * frees y.1.1 + bitF y.1.2) (fun y => rc3S p l y.1 y.2.1 y.2.2) (fun y => CutI l y.1) (fun y hc => ?_) ((List.replicate l.length false, true), [], []) (cut0 l)
  obtain ⟨⟨c, more⟩, ex, J⟩ := y
  simp only at hc ⊢
  cases more with
  | false =>
    have hd := hc.done rfl
    simp only at hd
    have hcl := bits_len c
    rw [hc.len] at hcl
    simp only [rc3S]
    repeat refine Wp.a ?_
    refine Wp.i ?_ ?_ <;> intro h1
    · cases h1
    · refine Wp.exit ?_
      rw [if_pos rfl]
      repeat refine Wp.a ?_
      refine Wp.ret ?_
      rw [← hd]
      have hfz := frzS_row (d := 11) (st := .row 4 1 false (bitsR c) :: J) (id := 0) rfl hcl
      simp [Res, resU, res1, c_joineryref11_Cut, hcl]
  | true =>
    obtain ⟨hc2, hlt⟩ := hc.round hr
    obtain ⟨f1, f2, f3⟩ := skel_facts (cut := c) hr
    have hN : (rnE l c).length = (pNodes l c).length := List.length_map ..
    have hsame := skel_same (cut := c) hr
    have hrb := rbuild_call p l hr false c
    have hent : pEntry l = outP l (rPlaces l c) 0 := (nodes_spec (cut := c) hr).2.1
    rw [← hent, ← hsame] at hrb
    have hrb : ∀ st, Cl T n_joineryref10_Build [insL p l, boolU false c] st (.agg (rskelU (wE l) (rnE l c))) st := hrb
    have hfc := rfacts_call p l hr c
    have hcl := bits_len c
    have hclen : c.length = l.length := hc.len
    rw [hclen] at hcl
    have hlt2 : ∀ x ∈ rnE l c, x.1 < l.length := fun x hx => (rnE_at hr c x.1 (List.mem_map.2 ⟨x, hx, rfl⟩)).1
    have hlp := rc2_loop p l J (wE l) (rnE l c) (by rw [hN]; exact f1) (factsU l c) (factF l c) (fun n hn => by
      have hn2 : n < (pNodes l c).length := by rw [← hN]; exact hn
      simp [factsU, hn2]) hlt2 (check_ops hr) (c, false) hc.len
    have hre : cutRound l c = roundF (factF l c) l 0 ((rnE l c).map (·.1)) (c, false) := rfl
    rw [← hre] at hlp
    have r3 : (rskelU (wE l) (rnE l c)).take 3 = rskelU (wE l) (rnE l c) := rfl
    have r3l : (rskelU (wE l) (rnE l c)).length = 3 := rfl
    generalize cutRound l c = y2 at *
    generalize factsU l c = FU at *
    generalize rnE l c = rn at *
    generalize wE l = w at *
    simp only [rc3S]
    repeat refine Wp.a ?_
    refine Wp.i ?_ ?_ <;> intro h1
    · repeat refine Wp.a ?_
      apply Wp.call
      · have hl := lend_row (st := .row 4 1 false (bitsR c) :: J) (id := 0) (R := bitsR c) 4 1 rfl
        rw [hcl] at hl
        have hl2 : brwA frzD (.row 4 1 false (bitsR c) :: J) (.own 0 l.length) = brwA frzD (.row 4 1 false (bitsR c) :: J) (boolU false c) := hl
        have hl3 : allM (brwA frzD (.row 4 1 false (bitsR c) :: J)) [insL p l, .own 0 l.length] = allM (brwA frzD (.row 4 1 false (bitsR c) :: J)) [insL p l, boolU false c] := by simp only [M2.allM, hl2]
        exact Cl.lend (fn := c_joineryref10_Build) rfl rfl (bs := [insL p l, boolU false c]) rfl hl3 (hrb _)
      (have := fa (a3 r3 r3l @rskelU.eq_1); repeat refine Wp.f ?_)
      apply Wp.call
      · exact hfc _
      repeat refine Wp.a ?_
      refine (show Wp T (.loop c_joineryref11_Cut_L2) (rc2S p l J w rn FU 0 (c, false)) _ _ _ from hlp.imp (fun _ h => h.elim) (fun _ h => h.elim) ?_)
      rintro b s ⟨rfl, rfl⟩
      rw [if_pos rfl]
      repeat refine Wp.a ?_
      refine ⟨(y2, [(5, .bp (J.length + 1) 0), (6, .sl true FU), (7, i64 (rn.length : Nat)), (25, .bool false)], J ++ [.box (rskelU w rn)]), ?_, hlt, hc2⟩
      refine keep_ev2 _ _ _ ?_
      show (true && (decide (0 < J.length + 1) && (true && (decide (J.length + 1 < J.length + 1) && (true && (true && (true && true))))))) = false
      rw [decide_eq_false (Nat.lt_irrefl _)]
      simp
    · cases h1
end Go.Proofs.YtcehbpimdngjfaaDoor.M2
namespace Go.Proofs.YtcehbpimdngjfaaDoor.M2
open Go
attribute [local simp] ev1 M2.get put A.ev ld sub part elems bin arith un opt idx fillC cellsO splice over newOb sto fillR laidOwn appTo appRow touch touchN touchM touchE touchA plainU flatU plainAs allM rowAt stoRow accM_nil accM_cons accMM_nil accMM_cons frz_int frz_bool frz_str frz_slt frz_nils frz_nilI frz_nilF frz_own frzRow_row frzRow_frow Ob.blw blw_bool blw_int blw_str blw_nils blw_nilI blw_nilF blw_nilp blw_nilm blw_sl blw_own blw_bp blw_rp blw_mp blw_it params
attribute [local simp] frz_agg frz_tup frz_iface frzS_agg frzS_iface accMS_cons frzS_int frzS_bool frzS_str frzS_slt frzS_nils frzS_nilI beq_dec bne_dec
attribute [local irreducible] Typed TypedA
def vc1S (C : List (List U)) (i : Nat) : S := ⟨[(3, .sl true C), (5, .sl true C), (6, i64 i)], []⟩
set_option maxHeartbeats 4000000 in
theorem vc1_loop (c : List Bool) (hc : c.length ≤ 200) (R : S → Prop) :
    Wp T (.loop c_joinerylaw11_ValueCuts_L1) (vc1S (bitsR c) 0) (fun _ => False) R (fun b s' => b = 0 ∧ s' = ⟨[(3, .sl true (bitsR c)), (5, .sl true (bitsR c)), (6, i64 (c.length : Nat)), (43, .bool false)], []⟩) := by
  have hbl := bits_len c
  refine Wp.count c.length (fun i => vc1S (bitsR c) i) (fun _ => True) (fun i hi _ => ?_) (fun _ => ?_) 0 (by omega) trivial
  · have hi' : (i : Int) < c.length := by omega
    have hg := bits_get hi
    obtain ⟨q0, hg'⟩ := List.getElem?_eq_some_iff.1 hg
    generalize c.getD i false = v at *
    generalize bitsR c = BR at *
    simp only [vc1S]
    (have := fa (a2 hbl hi'); repeat refine Wp.f ?_)
    refine Wp.i ?_ ?_ <;> intro h1
    · cases v with
      | true =>
        repeat refine Wp.a ?_
        refine Wp.draw (by (simp [c_joinerylaw11_ValueCuts_D0, I.need]) <;> rfl) (by (simp [hbl, hi', hg, hg', sameV, cellsS, sameD, same]) <;> rfl) (by (simp [hbl, hi', hg, hg', sameV, cellsS, sameD, same]) <;> rfl) (by (unfold c_joinerylaw11_ValueCuts_D0); (repeat (first | ((first | apply Dr.op | apply Dr.opN | (apply Dr.opG; exact rfl)); ((simp [hbl, hi', hg, hg', sameV, cellsS, sameD, same]) <;> rfl); (apply Evt.all; intro; (simp [hbl, hi', hg, hg', sameV, cellsS, sameD, same]) <;> (try simp (disch := omega) only [wrap_id]) <;> first | exact ⟨rfl, rfl⟩ | exact rfl); ((simp [I.need]) <;> rfl)) | ((first | (apply Dr.opS; exact rfl; decide) | (apply Dr.opS0; exact rfl)); ((simp [I.need]) <;> rfl)))); exact Dr.nil) (by first | decide +kernel | exact rfl) (by (simp [M2.keep]) <;> rfl) ?_
        refine Wp.i ?_ ?_ <;> intro h2
        · cases h2
        · (have := fa @wrap_id; repeat refine Wp.f ?_)
          exact ⟨trimO_len rfl, trivial⟩
      | false =>
        repeat refine Wp.a ?_
        refine Wp.draw (by (simp [c_joinerylaw11_ValueCuts_D0, I.need]) <;> rfl) (by (simp [hbl, hi', hg, hg', sameV, cellsS, sameD, same]) <;> rfl) (by (simp [hbl, hi', hg, hg', sameV, cellsS, sameD, same]) <;> rfl) (by (unfold c_joinerylaw11_ValueCuts_D0); (repeat (first | ((first | apply Dr.op | apply Dr.opN | (apply Dr.opG; exact rfl)); ((simp [hbl, hi', hg, hg', sameV, cellsS, sameD, same]) <;> rfl); (apply Evt.all; intro; (simp [hbl, hi', hg, hg', sameV, cellsS, sameD, same]) <;> (try simp (disch := omega) only [wrap_id]) <;> first | exact ⟨rfl, rfl⟩ | exact rfl); ((simp [I.need]) <;> rfl)) | ((first | (apply Dr.opS; exact rfl; decide) | (apply Dr.opS0; exact rfl)); ((simp [I.need]) <;> rfl)))); exact Dr.nil) (by first | decide +kernel | exact rfl) (by (simp [M2.keep]) <;> rfl) ?_
        refine Wp.i ?_ ?_ <;> intro h2
        · cases h2
        · (have := fa @wrap_id; repeat refine Wp.f ?_)
          exact ⟨trimO_len rfl, trivial⟩
    · cases h1
  · generalize bitsR c = BR at *
    simp only [vc1S]
    (have := fa hbl; repeat refine Wp.f ?_)
    refine Wp.i ?_ ?_ <;> intro h1
    · simp at h1
    · exact Wp.exit ⟨rfl, rfl⟩
theorem cuts_len {l : List Ins} (hr : rightF l = true) : (cutsF l).length = l.length := by
  have h : ∀ (k : Nat) (c : List Bool), c.length = l.length → (cutRun l k c).length = l.length := by
    intro k
    induction k with
    | zero => intro c hc; exact hc
    | succ k ih =>
      intro c hc
      have hx := (cutRound_inv hr hc).len
      rw [cutRun]
      split
      · exact ih _ (by rw [hx]; exact hc)
      · rw [hx]; exact hc
  exact h _ _ (by simp)
set_option maxHeartbeats 8000000 in
theorem law5_call (l : List Ins) : Cl T n_joinerylaw11_ValueCuts [insL true l] [] (.bool true) [] := by
  refine Wp.pure (fn := c_joinerylaw11_ValueCuts) rfl rfl rfl («as» := [insL true l]) rfl ?_
  have kno := knows_call
  by_cases h1 : 60 < l.length
  · have d1 : decide ((60 : Int) < l.length) = true := decide_eq_true (by omega)
    (all_goals have := fa @insL.eq_1; repeat' first | refine Wp.v ?_ | (apply Wp.call; exact kno _) | (refine Wp.c ?_ ?_ <;> intro))
    refine Wp.ret ?_
    simp [Res, resU, res1, c_joinerylaw11_ValueCuts]
  have d1 : decide ((60 : Int) < l.length) = false := decide_eq_false (by omega)
  have hri := fun st => right4_call true l st (insL true l) rfl
  have hc := cut_call true l
  cases hr : rightF l with
  | false =>
    rw [hr] at hri
    rw [if_neg (by simp [hr])] at hc
    (all_goals have := fa @insL.eq_1; repeat' first | refine Wp.v ?_ | (apply Wp.call; exact hri _) | (apply Wp.call; exact hc _) | (apply Wp.call; exact kno _) | (refine Wp.c ?_ ?_ <;> intro))
    refine Wp.ret ?_
    simp [Res, resU, res1, c_joinerylaw11_ValueCuts]
  | true =>
    rw [hr] at hri
    rw [if_pos hr] at hc
    have hrc := rcut_call true l hr
    have hcl := cuts_len hr
    have hlp := vc1_loop (cutsF l) (by omega) (Res c_joinerylaw11_ValueCuts (.bool true))
    have hbl := bits_len (cutsF l)
    unfold vc1S at hlp
    generalize bitsR (cutsF l) = BR at *
    (all_goals have := fa (a2 @insL.eq_1 hbl); repeat' first | refine Wp.v ?_ | (apply Wp.call; exact hri _) | (apply Wp.call; exact hc _) | (apply Wp.call; exact hrc _) | (refine Wp.c ?_ ?_ <;> intro))
    refine hlp.imp (fun _ h => h.elim) (fun _ h => h) ?_
    rintro b s ⟨rfl, rfl⟩
    rw [if_pos rfl]
    (repeat' first | refine Wp.u ?_ | (apply Wp.call; exact kno _) | (refine Wp.c ?_ ?_ <;> intro))
    refine Wp.ret ?_
    simp [Res, resU, res1, c_joinerylaw11_ValueCuts]
theorem params5 : Tryd.f5.params.toList = [22] := by kernel_rfl
theorem law5 : Law 5 Tryd.f5.params.toList := by
  rw [params5]
  intro us hl hty
  obtain ⟨l, rfl⟩ := args1 hl hty
  exact law_of (law5_call l)
end Go.Proofs.YtcehbpimdngjfaaDoor.M2
namespace Go.Proofs.YtcehbpimdngjfaaDoor.M2
open Go Go.ChangeShapes Go.WideShapes Go.ChangeAt Go.RowKit
theorem bool4 : Tryd.prog.underlying 4 = some .bool := by kernel_rfl
theorem types5 : Tryd.f5.resultTypes = #[4] := by kernel_rfl
set_option maxRecDepth 100000 in
theorem valueCuts_row (law : Law 5 Tryd.f5.params.toList) : Rows.ValueCutsSaid :=
  OpenClaim.holds_of_wide 5 Tryd.f5 rfl rfl rfl rfl rfl rfl rfl ⟨rfl, rfl, rfl, rfl, rfl⟩ rfl rfl rfl rfl rfl (by kernel_rfl) Tryd.func5 (by kernel_rfl)
    (of_decide_eq_true (by kernel_rfl)) (by unfold Func.isWrapper; first | (rw [if_pos (by decide +kernel)]; kernel_rfl) | (rw [if_neg (by decide +kernel)]; exact ⟨rfl, rfl⟩))
    (fun os started H enc _ => lifted (s := Rows.valueCutsSpec) law os started enc (by kernel_rfl) Tryd.func5 rfl (by kernel_rfl) types5 bool4
      (fun ds h => by
        have h1 : ds.length = 1 := h
        match ds, h1 with
        | [d0], _ => rfl)
      (ChangeSpec.witness_shaped (enc := enc) (C := Tryd.checked) (os := os) (X := fun w _ => laidMetH Tryd.prog laid1 w) false (World.doorLaid Tryd.prog 400 os) #[.slice none 0 0] 8 rfl (World.shaped_of_RefB (by kernel_rfl) (by kernel_rfl)) (by kernel_rfl) (by kernel_rfl) (by kernel_rfl) (door_met os _)))
theorem valueCuts_card (law : Law 5 Tryd.f5.params.toList) : Rows.ValueCutsCardSaid :=
  Claim7.holds_tied_plain_at .later [] [.data, .data] true (true, "44ecaefe8f35b4120cf5d2eb7e508e68f012c59f62bf85e87c4bf443f6a4b97c") true
    (valueCuts_row law) (fun _ h => by cases h) (by kernel_rfl) (fun _ h => by cases h) valueCuts_row_tie rfl ⟨rfl, rfl⟩ (by kernel_rfl) rfl
    (fun f fn hf hfn => by
      obtain rfl : f = 5 := Option.some.inj ((show Tryd.prog.funcNamed "joinery/joinerylaw11.ValueCuts" = some 5 by kernel_rfl).symm.trans hf) |>.symm
      obtain rfl : fn = Tryd.f5 := (Option.some.inj (Tryd.func5.symm.trans hfn)).symm
      exact ⟨by kernel_rfl, fun j t ht => by
        rw [Tryd.params5] at ht
        have hm : t ∈ [22] := by simpa using Array.mem_of_getElem? ht
        have hall : ([22].all fun u => !Tryd.prog.wantsStandIn u) = true := by kernel_rfl
        exact (show Tryd.prog.wantsStandIn t = false by simpa using List.all_eq_true.1 hall t hm)⟩)
    (by kernel_rfl)
end Go.Proofs.YtcehbpimdngjfaaDoor.M2
namespace Go.Proofs.YtcehbpimdngjfaaDoor
theorem valueCuts_said : Rows.ValueCutsCardSaid := M2.valueCuts_card M2.law5
end Go.Proofs.YtcehbpimdngjfaaDoor
