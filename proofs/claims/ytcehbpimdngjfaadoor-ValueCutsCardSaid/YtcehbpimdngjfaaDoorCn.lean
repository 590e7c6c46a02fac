/- What the functions answer in M2: the document's facts, all. -/
import Derived.Test.YtcehbpimdngjfaaDoorCl
import Derived.Test.YtcehbpimdngjfaaDoorCj
import Derived.Test.YtcehbpimdngjfaaDoorCm
set_option linter.unusedSimpArgs false
set_option linter.unusedVariables false
set_option linter.unusedSectionVars false
namespace Go.Proofs.YtcehbpimdngjfaaDoor.M2
open Go
attribute [local simp] ev1 M2.get put A.ev ld sub part elems bin arith un opt idx fillC cellsO splice over newOb sto fillR laidOwn appTo appRow touch touchN touchM touchE touchA plainU flatU plainAs allM rowAt stoRow accM_nil accM_cons accMM_nil accMM_cons frz_int frz_bool frz_str frz_slt frz_nils frz_nilI frz_nilF frz_own frzRow_row frzRow_frow Ob.blw blw_bool blw_int blw_str blw_nils blw_nilI blw_nilF blw_nilp blw_nilm blw_sl blw_own blw_bp blw_rp blw_mp blw_it params
attribute [local simp] frz_agg frz_tup frz_iface frzS_agg frzS_iface accMS_cons frzS_int frzS_bool frzS_str frzS_slt frzS_nils frzS_nilI beq_dec bne_dec
def numR (out : List Int) : List (List U) := out.map fun v => [i64 v]
def nu1S (p : Bool) (l : List Ins) (i : Nat) (out : List Int) (known : Bool) (k : Nat) : S :=
  ⟨[(0, insL p l), (3, .own 0 out.length), (4, i64 i), (5, .bool known), (6, i64 k)], [.row 2 1 false (numR out)]⟩
set_option maxHeartbeats 8000000 in
theorem nu1_loop (p : Bool) (l : List Ins) (i : Nat) (hi : i < l.length) (out : List Int) (hout : out.length ≤ 200) :
    Wp T (.loop c_joineryref11_Numbers_L1) (nu1S p l i out (!decide (l[i].op = 1)) 0) (fun _ => False) (fun _ => False) (fun b s' => b = 2 ∧ s' = ⟨[(0, insL p l), (3, .own 0 out.length), (4, i64 i), (5, .bool (!decide (l[i].op = 1) || decide (l[i].n ∈ out))), (6, i64 (out.length : Nat)), (22, .bool false)], [.row 2 1 false (numR out)]⟩) := by
  have hi' : (i : Int) < l.length := by omega
  have eg : l[i]? = some l[i] := List.getElem?_eq_getElem hi
  have hol : (numR out).length = out.length := by simp [numR]
  refine Wp.count out.length (fun k => nu1S p l i out (!decide (l[i].op = 1) || decide (l[i].n ∈ out.take k)) k) (fun _ => True) (fun k hk _ => ?_) (fun _ => ?_) 0 (by omega) trivial |> fun h => by simpa using h
  · have hk' : (k : Int) < out.length := by omega
    have hok : (numR out)[k]? = some [i64 out[k]] := by simp [numR, hk]
    have htk : decide (l[i].n ∈ out.take (k + 1)) = (decide (l[i].n ∈ out.take k) || decide (out[k] = l[i].n)) := by
      have e : decide (l[i].n = out[k]) = decide (out[k] = l[i].n) := decide_eq_decide.2 ⟨Eq.symm, Eq.symm⟩
      rw [List.take_succ_eq_append_getElem hk, ← e, Bool.eq_iff_iff]
      simp only [decide_eq_true_eq, Bool.or_eq_true, List.mem_append, List.mem_singleton]
    rw [htk, ← Bool.or_assoc]
    generalize (!decide (l[i].op = 1) || decide (l[i].n ∈ out.take k)) = known at *
    generalize out[k] = v at *
    generalize l[i] = x at *
    simp only [nu1S]
    (have := fa (a2 hk' hol); repeat refine Wp.f ?_)
    refine Wp.i ?_ ?_ <;> intro h1
    · cases known with
      | true =>
        repeat refine Wp.a ?_
        refine Wp.draw (by (simp [c_joineryref11_Numbers_D0, I.need]) <;> rfl) (by (simp [insL, insU, hi', hk', eg, hol, hok]) <;> rfl) (by (simp [insL, insU, hi', hk', eg, hol, hok]) <;> rfl) (by (unfold c_joineryref11_Numbers_D0); (repeat (first | ((first | apply Dr.op | apply Dr.opN | (apply Dr.opG; exact rfl)); ((simp [insL, insU, hi', hk', eg, hol, hok]) <;> rfl); (apply Evt.all; intro; (simp [insL, insU, hi', hk', eg, hol, hok]) <;> (try simp (disch := omega) only [wrap_id]) <;> first | exact ⟨rfl, rfl⟩ | exact rfl); ((simp [I.need]) <;> rfl)) | ((first | (apply Dr.opS; exact rfl; decide) | (apply Dr.opS0; exact rfl)); ((simp [I.need]) <;> rfl)))); exact Dr.nil) (by first | decide +kernel | exact rfl) (by (simp [M2.keep]) <;> rfl) ?_
        (have := fa @wrap_id; repeat refine Wp.f ?_)
        exact ⟨trimO_len rfl, trivial⟩
      | false =>
        repeat refine Wp.a ?_
        refine Wp.draw (by (simp [c_joineryref11_Numbers_D0, I.need]) <;> rfl) (by (simp [insL, insU, hi', hk', eg, hol, hok]) <;> rfl) (by (simp [insL, insU, hi', hk', eg, hol, hok]) <;> rfl) (by (unfold c_joineryref11_Numbers_D0); (repeat (first | ((first | apply Dr.op | apply Dr.opN | (apply Dr.opG; exact rfl)); ((simp [insL, insU, hi', hk', eg, hol, hok]) <;> rfl); (apply Evt.all; intro; (simp [insL, insU, hi', hk', eg, hol, hok]) <;> (try simp (disch := omega) only [wrap_id]) <;> first | exact ⟨rfl, rfl⟩ | exact rfl); ((simp [I.need]) <;> rfl)) | ((first | (apply Dr.opS; exact rfl; decide) | (apply Dr.opS0; exact rfl)); ((simp [I.need]) <;> rfl)))); exact Dr.nil) (by first | decide +kernel | exact rfl) (by (simp [M2.keep]) <;> rfl) ?_
        (have := fa @wrap_id; repeat refine Wp.f ?_)
        exact ⟨trimO_len rfl, trivial⟩
    · cases h1
  · simp only [nu1S]
    (have := fa hol; repeat refine Wp.f ?_)
    refine Wp.i ?_ ?_ <;> intro h1
    · simp at h1
    · exact Wp.exit ⟨rfl, by simp⟩
def nuStep (out : List Int) (x : Ins) : List Int := if x.op = 1 ∧ x.n ∉ out then out ++ [x.n] else out
theorem nuStep_len (l : List Ins) (out : List Int) : (l.foldl nuStep out).length ≤ out.length + l.length := by
  induction l generalizing out with
  | nil => simp
  | cons x l ih =>
    rw [List.foldl_cons]
    have h1 := ih (nuStep out x)
    have h2 : (nuStep out x).length ≤ out.length + 1 := by unfold nuStep; split <;> simp
    rw [List.length_cons]
    omega
def nu2S (p : Bool) (l : List Ins) (i : Nat) (out : List Int) : S := ⟨[(0, insL p l), (3, .own 0 out.length), (4, i64 i)], [.row 2 1 false (numR out)]⟩
set_option maxHeartbeats 8000000 in
theorem numbers_call (p : Bool) (l : List Ins) (hl : l.length ≤ 200) (st : List Ob) : Cl T n_joineryref11_Numbers [insL p l] st (intsU (numsF l)) st := by
  refine Wp.pure (fn := c_joineryref11_Numbers) rfl rfl rfl («as» := [insL p l]) rfl ?_
  repeat refine Wp.a ?_
  refine (show Wp T (.loop c_joineryref11_Numbers_L2) (nu2S p l 0 ((l.take 0).foldl nuStep [])) _ _ _ from ?_)
  refine Wp.count l.length (fun i => nu2S p l i ((l.take i).foldl nuStep [])) (fun _ => True) (fun i hi _ => ?_) (fun _ => ?_) 0 (by omega) trivial
  · have hi' : (i : Int) < l.length := by omega
    have eg : l[i]? = some l[i] := List.getElem?_eq_getElem hi
    have hol := nuStep_len (l.take i) []
    rw [List.length_take] at hol
    simp only [List.length_nil] at hol
    have hf : (l.take (i + 1)).foldl nuStep [] = nuStep ((l.take i).foldl nuStep []) l[i] := by
      rw [List.take_succ_eq_append_getElem hi, List.foldl_append]
      rfl
    rw [hf]
    generalize (l.take i).foldl nuStep [] = out at *
    have hlp := nu1_loop p l i hi out (by omega)
    have hor : (numR out).length = out.length := by simp [numR]
    have lim : (out.length + 1) * 8 ≤ 140737488355328 := by omega
    unfold nuStep
    by_cases hc : l[i].op = 1 ∧ l[i].n ∉ out
    · have e1 : (!decide (l[i].op = 1) || decide (l[i].n ∈ out)) = false := by simp [hc.1, hc.2]
      rw [e1] at hlp
      rw [if_pos hc]
      have e2 : numR (out ++ [l[i].n]) = numR out ++ [[i64 l[i].n]] := by simp [numR]
      simp only [nu2S, e2, List.length_append, List.length_singleton]
      generalize hx : l[i] = x at *
      (have := fa (a2 hi' @insL.eq_1); repeat refine Wp.f ?_)
      refine Wp.i ?_ ?_ <;> intro h1
      · (have := fa (a4 @insL.eq_1 hi' eg @insU.eq_1); repeat refine Wp.f ?_)
        refine (show Wp T (.loop c_joineryref11_Numbers_L1) (nu1S p l i out (!decide (x.op = 1)) 0) _ _ _ from hlp.imp (fun _ h => h.elim) (fun _ h => h.elim) ?_)
        rintro b s ⟨rfl, rfl⟩
        rw [if_pos rfl]
        repeat refine Wp.a ?_
        refine Wp.i ?_ ?_ <;> intro h2
        · (have := fa (a5 @insL.eq_1 hi' eg @insU.eq_1 (a3 hor lim @wrap_id)); repeat refine Wp.f ?_)
          exact ⟨trim_backs (st := [.row 2 1 false (numR out ++ [[i64 x.n]])]) (l := [_]) rfl rfl, trivial⟩
        · cases h2
      · cases h1
    · have e1 : (!decide (l[i].op = 1) || decide (l[i].n ∈ out)) = true := by
        rw [← Bool.not_eq_false]
        intro h
        simp at h
        exact hc h
      rw [e1] at hlp
      rw [if_neg hc]
      simp only [nu2S]
      generalize hx : l[i] = x at *
      (have := fa (a2 hi' @insL.eq_1); repeat refine Wp.f ?_)
      refine Wp.i ?_ ?_ <;> intro h1
      · (have := fa (a4 @insL.eq_1 hi' eg @insU.eq_1); repeat refine Wp.f ?_)
        refine (show Wp T (.loop c_joineryref11_Numbers_L1) (nu1S p l i out (!decide (x.op = 1)) 0) _ _ _ from hlp.imp (fun _ h => h.elim) (fun _ h => h.elim) ?_)
        rintro b s ⟨rfl, rfl⟩
        rw [if_pos rfl]
        repeat refine Wp.a ?_
        refine Wp.i ?_ ?_ <;> intro h2
        · cases h2
        · (have := fa @wrap_id; repeat refine Wp.f ?_)
          exact ⟨trimO_len rfl, trivial⟩
      · cases h1
  · rw [List.take_of_length_le (Nat.le_refl _)]
    have e : l.foldl nuStep [] = numsF l := rfl
    rw [e]
    simp only [nu2S]
    (have := fa @insL.eq_1; repeat refine Wp.f ?_)
    refine Wp.i ?_ ?_ <;> intro h1
    · simp at h1
    · refine Wp.exit ?_
      rw [if_pos rfl]
      repeat refine Wp.a ?_
      refine Wp.ret ?_
      simp [Res, resU, res1, c_joineryref11_Numbers, numR]
def rowsB (q : Bool) (B : List (List Bool)) : U := .sl q (B.map fun r => [.sl q (bitsR r)])
def hoS (w : Way) (rn : List RNode) (c : FS) (p : Bool) (l : List Ins) (q : Bool) (B : List (List Bool)) (es : List Edge) (pl i : Nat) : S :=
  ⟨[(0, insL p l), (3, rowsB q B), (5, i64 pl), (7, .bp 0 0), (8, .bp 1 0), (13, .sl true (edR es)), (14, i64 i)], [.box (rskelU w rn), .box (fsU c)]⟩
theorem pf15 : pfT T 15 = true := rfl
theorem plain_rskel (w : Way) (rn : List RNode) : plainU (.agg (rskelU w rn)) = true := rfl
set_option maxHeartbeats 8000000 in
theorem holds_call (p : Bool) (l : List Ins) (w : Way) (rn : List RNode) (c : FS) (q : Bool) (B : List (List Bool)) (to : Nat → List Edge) (f : Edge → Nat → FS) (n pl : Nat) (hpl : pl < 24) (hes : (to n).length ≤ 1000) (hB : ∀ m, m < B.length → (B.getD m []).length = 24)
    (hto : ∀ st, Cl T n_joineryref10_To [.agg (rskelU w rn), i64 n] st (.sl true (edR (to n))) st)
    (hby : ∀ e ∈ to n, ∀ st, Cl T n_joineryref11_By [insL p l, .agg (rskelU w rn), .agg (edgeU e), i64 pl] st (.agg (fsU (f e pl))) st)
    (hfrm : ∀ e ∈ to n, (f e pl).1 = 4 → e.1.toNat < B.length ∧ (f e pl).2.toNat < 24 ∧ 0 ≤ e.1 ∧ 0 ≤ (f e pl).2) (st : List Ob) :
    Cl T n_joineryref11_holds [insL p l, .agg (rskelU w rn), .agg (fsU c), rowsB q B, i64 n, i64 pl] st (.bool (holdsF to f c B n pl)) st := by
  refine Wp.pure (fn := c_joineryref11_holds) rfl rfl rfl («as» := [insL p l, .agg (rskelU w rn), .agg (fsU c), rowsB q B, i64 n, i64 pl]) rfl ?_
  have hh : holdsF to f c B n pl = (to n).all fun e => if (f e pl).1 = 4 then getB B e.1.toNat (f e pl).2.toNat else decide (f e pl = c) := rfl
  rw [hh]
  generalize to n = es at *
  (have := fa @rskelU.eq_1; repeat refine Wp.f ?_)
  apply Wp.call
  · exact hto _
  repeat refine Wp.a ?_
  refine (show Wp T (.loop c_joineryref11_holds_L2) (hoS w rn c p l q B es pl 0) _ _ _ from ?_)
  refine Wp.count es.length (fun i => hoS w rn c p l q B es pl i) (fun i => (es.take i).all (fun e => if (f e pl).1 = 4 then getB B e.1.toNat (f e pl).2.toNat else decide (f e pl = c)) = true) (fun i hi hI => ?_) (fun hI => ?_) 0 (by omega) (by simp)
  · have hi' : (i : Int) < es.length := by omega
    have eg : es[i]? = some es[i] := List.getElem?_eq_getElem hi
    have hb := hby _ (List.getElem_mem hi)
    have hfr := hfrm _ (List.getElem_mem hi)
    have hbad : (if (f es[i] pl).1 = 4 then getB B es[i].1.toNat (f es[i] pl).2.toNat else decide (f es[i] pl = c)) = false → es.all (fun e => if (f e pl).1 = 4 then getB B e.1.toNat (f e pl).2.toNat else decide (f e pl = c)) = false := fun h => by
      rw [List.all_eq_false]
      exact ⟨es[i], List.getElem_mem hi, by rw [h]; simp⟩
    have hgood : (if (f es[i] pl).1 = 4 then getB B es[i].1.toNat (f es[i] pl).2.toNat else decide (f es[i] pl = c)) = true → (es.take (i + 1)).all (fun e => if (f e pl).1 = 4 then getB B e.1.toNat (f e pl).2.toNat else decide (f e pl = c)) = true := fun h => by
      rw [List.take_succ_eq_append_getElem hi, List.all_append, hI, List.all_cons, h]
      rfl
    generalize es[i] = e at *
    have hpp := plain_rskel w rn
    have hpi : plainU (.sl p (l.map insU)) = true := rfl
    simp only [hoS]
    (have := fa hi'; repeat refine Wp.f ?_)
    refine Wp.i ?_ ?_ <;> intro h1
    · repeat refine Wp.a ?_
      generalize f e pl = x at *
      obtain ⟨a, b⟩ := x
      refine Wp.draw (by (simp [c_joineryref11_holds_D0, I.need]) <;> rfl) (by (simp [insL, hi', eg, edgeU, rskelU, refT, fsU, pf15]) <;> rfl) (by (simp [insL, hi', eg, edgeU, rskelU, refT, fsU, pf15]) <;> rfl) (by (unfold c_joineryref11_holds_D0); (repeat (first | ((first | apply Dr.op | apply Dr.opN | (apply Dr.opG; exact rfl)); ((simp [insL, hi', eg, edgeU, rskelU, refT, fsU, pf15]) <;> rfl); (apply Evt.all; intro; (simp [insL, hi', eg, edgeU, rskelU, refT, fsU, pf15]) <;> (try simp (disch := omega) only [wrap_id]) <;> first | exact ⟨rfl, rfl⟩ | exact rfl); ((simp [I.need]) <;> rfl)) | ((first | (apply Dr.opS; exact rfl; decide) | (apply Dr.opS0; exact rfl)); ((simp [I.need]) <;> rfl)) | (apply Dr.call; ((simp [insL, hi', eg, edgeU, rskelU, refT, fsU, pf15]) <;> rfl); exact hb _) | (apply Dr.callG; (exact rfl); ((simp [insL, hi', eg, edgeU, rskelU, refT, fsU, pf15]) <;> rfl); exact hb _))); exact Dr.nil) (by first | decide +kernel | exact rfl) (by (simp [M2.keep]) <;> rfl) ?_
      by_cases h4 : a = 4
      · subst h4
        obtain ⟨f1, f2, f3, f4⟩ := hfr rfl
        obtain ⟨ef, ek⟩ := e
        simp only at f1 f2 f3 f4
        obtain ⟨m, rfl⟩ := Int.eq_ofNat_of_zero_le f3
        obtain ⟨t, rfl⟩ := Int.eq_ofNat_of_zero_le f4
        rw [Int.toNat_natCast] at f1 f2
        have hm' : (m : Int) < B.length := by omega
        have ht' : (t : Int) < 24 := by omega
        have hBm : B[m]? = some B[m] := List.getElem?_eq_getElem f1
        have hr24 := hB m f1
        have hg0 : B.getD m [] = B[m] := by simp [f1]
        rw [hg0] at hr24
        have hbl : (bitsR B[m]).length = 24 := by rw [← hr24]; simp [bitsR]
        have hbr : (bitsR B[m])[t]? = some [.bool (getB B m t)] := by
          unfold getB bitsR
          rw [hg0, List.getElem?_map, List.getElem?_eq_getElem (by omega), List.getD_eq_getElem?_getD, List.getElem?_eq_getElem (by omega)]
          rfl
        have hb1 : getB B m t = false → es.all (fun e => if (f e pl).1 = 4 then getB B e.1.toNat (f e pl).2.toNat else decide (f e pl = c)) = false := fun h => hbad (by simpa using h)
        have hb2 : getB B m t = true → _ := fun h => hgood (by simpa using h)
        generalize getB B m t = v at *
        generalize B[m] = r at *
        repeat refine Wp.a ?_
        refine Wp.i ?_ ?_ <;> intro h2
        · repeat refine Wp.a ?_
          refine Wp.draw (by (simp [c_joineryref11_holds_D1, I.need]) <;> rfl) (by (simp [rowsB, hi', eg, edgeU, hm', hBm, ht', hbl, hbr]) <;> rfl) (by (simp [rowsB, hi', eg, edgeU, hm', hBm, ht', hbl, hbr]) <;> rfl) (by (unfold c_joineryref11_holds_D1); (repeat (first | ((first | apply Dr.op | apply Dr.opN | (apply Dr.opG; exact rfl)); ((simp [rowsB, hi', eg, edgeU, hm', hBm, ht', hbl, hbr]) <;> rfl); (apply Evt.all; intro; (simp [rowsB, hi', eg, edgeU, hm', hBm, ht', hbl, hbr]) <;> (try simp (disch := omega) only [wrap_id]) <;> first | exact ⟨rfl, rfl⟩ | exact rfl); ((simp [I.need]) <;> rfl)) | ((first | (apply Dr.opS; exact rfl; decide) | (apply Dr.opS0; exact rfl)); ((simp [I.need]) <;> rfl)))); exact Dr.nil) (by first | decide +kernel | exact rfl) (by (simp [M2.keep]) <;> rfl) ?_
          cases v with
          | false =>
            refine Wp.i ?_ ?_ <;> intro h3
            · repeat refine Wp.a ?_
              refine Wp.ret ?_
              rw [hb1 rfl]
              simp [Res, resU, res1, c_joineryref11_holds]
            · cases h3
          | true =>
            refine Wp.i ?_ ?_ <;> intro h3
            · cases h3
            · (have := fa @wrap_id; repeat refine Wp.f ?_)
              exact ⟨trim_backs (st := [.box (rskelU w rn), .box (fsU c)]) (l := [_]) rfl rfl, hb2 rfl⟩
        · simp at h2
      · have hb1 : ((a, b) : FS) ≠ c → es.all (fun e => if (f e pl).1 = 4 then getB B e.1.toNat (f e pl).2.toNat else decide (f e pl = c)) = false := fun h => hbad (by rw [if_neg (by simpa using h4)]; simpa using h)
        have hb2 : ((a, b) : FS) = c → _ := fun h => hgood (by rw [if_neg (by simpa using h4)]; simpa using h)
        obtain ⟨c1, c2⟩ := c
        (have := fa h4; repeat refine Wp.f ?_)
        refine Wp.i ?_ ?_ <;> intro h2
        · simp [h4] at h2
        by_cases he : ((a, b) : FS) = (c1, c2)
        · have k1 : (!decide (a = c1) || !decide (b = c2)) = false := by simpa using he
          (have := fa k1; repeat refine Wp.f ?_)
          refine Wp.i ?_ ?_ <;> intro h3
          · first | cases h3 | exact absurd (k1.symm.trans h3) (by decide)
          · (have := fa @wrap_id; repeat refine Wp.f ?_)
            exact ⟨trim_backs (st := [.box (rskelU w rn), .box (fsU (c1, c2))]) (l := [_]) rfl rfl, hb2 he⟩
        · have k1 : (!decide (a = c1) || !decide (b = c2)) = true := by
            rw [← Bool.not_and, Bool.not_eq_true']
            simpa using he
          (have := fa k1; repeat refine Wp.f ?_)
          refine Wp.i ?_ ?_ <;> intro h3
          · repeat refine Wp.a ?_
            refine Wp.ret ?_
            rw [hb1 he]
            simp [Res, resU, res1, c_joineryref11_holds]
          · first | cases h3 | exact absurd (k1.symm.trans h3) (by decide)
    · cases h1
  · rw [List.take_of_length_le (Nat.le_refl _)] at hI
    rw [hI]
    simp only [hoS]
    repeat refine Wp.a ?_
    refine Wp.i ?_ ?_ <;> intro h1
    · simp at h1
    · refine Wp.exit ?_
      rw [if_pos rfl]
      repeat refine Wp.a ?_
      refine Wp.ret ?_
      simp [Res, resU, res1, c_joineryref11_holds]
abbrev saP (w : Way) (rn : List RNode) (c : FS) (E : List (List U)) (X : List Ob) : List Ob := .box (rskelU w rn) :: .box (fsU c) :: .row 23 1 true E :: X
def saE (n : Nat) : List (List U) := (List.range n).map fun i => [U.own (2 * i + 3) 24]
def saX : Nat → List Ob
  | 0 => []
  | n + 1 => saX n ++ [.row 4 1 false (List.replicate 24 [.bool true]), .row 23 1 true [[.own (2 * n + 3) 24]]]
theorem saX_len : ∀ n, (saX n).length = 2 * n
  | 0 => rfl
  | n + 1 => by rw [saX, List.length_append, saX_len n]; simp; omega
theorem saE_len (n : Nat) : (saE n).length = n := by simp [saE]
theorem saX_blw {L : Nat} : ∀ n, 2 * n + 3 ≤ L → (saX n).all (Ob.blw L) = true
  | 0, _ => rfl
  | n + 1, h => by
    rw [saX, List.all_append, saX_blw n (by omega)]
    show (true && ((decide (2 * n + 3 < L) && true) && true && true)) = true
    rw [decide_eq_true (by omega)]
    rfl
theorem sa_blw {w : Way} {rn : List RNode} {c : FS} {E : List (List U)} {X : List Ob} {L : Nat} (hE : ∀ x ∈ E, x.all (blw blwD L) = true) (hX : X.all (Ob.blw L) = true) : (saP w rn c E X).all (Ob.blw L) = true := by
  have e1 : Ob.blw L (.row 23 1 true E) = true := by
    show E.all (fun x => x.all (blw blwD L)) = true
    rw [List.all_eq_true]
    exact hE
  have e0 : Ob.blw L (.box (rskelU w rn)) = true := rfl
  have e2 : Ob.blw L (.box (fsU c)) = true := rfl
  simp only [List.all_cons, e0, e1, e2, hX, Bool.and_self]
theorem saE_blw {n L : Nat} (h : 2 * n + 2 ≤ L) : ∀ x ∈ saE n, x.all (blw blwD L) = true := by
  intro x hx
  obtain ⟨i, hi, rfl⟩ := List.mem_map.1 hx
  rw [List.mem_range] at hi
  exact own_blw (by omega)
theorem saE_up {n L : Nat} (h : L ≤ 2 * n + 3) : Ob.blw L (.row 23 1 true (saE (n + 1))) = false := by
  show (saE (n + 1)).all (fun x => x.all (blw blwD L)) = false
  rw [Bool.eq_false_iff]
  intro hh
  have h1 := List.all_eq_true.1 hh [U.own (2 * n + 3) 24] (List.mem_map.2 ⟨n, by simp, rfl⟩)
  have h2 : (decide (2 * n + 3 < L) && true) = true := h1
  simp at h2
  omega
def s0S (p : Bool) (l : List Ins) (w : Way) (rn : List RNode) (c : FS) (n id j : Nat) (E : List (List U)) (X : List Ob) : S :=
  ⟨[(0, insL p l), (4, .bp 0 0), (5, .bp 1 0), (7, .own 2 n), (8, i64 n), (9, .own (id + 3) j), (10, i64 j)], saP w rn c E X⟩
set_option maxHeartbeats 8000000 in
theorem s0_step (p : Bool) (l : List Ins) (w : Way) (rn : List RNode) (c : FS) (n j : Nat) (hj : j < 24) (E : List (List U)) (X : List Ob) (id : Nat) (r : List (List U)) (hr : r.length = j) (hX : X[id]? = some (.row 4 1 false r))
    (hE : ∀ x ∈ E, x.all (blw blwD (X.length + 1 + 1 + 1)) = true) (hb : ∀ v, (X.set id (.row 4 1 false v)).all (Ob.blw (X.length + 1 + 1 + 1)) = true) (R : S → Prop) (B : Nat → S → Prop) :
    Wp T c_joineryref11_Said_L0 (s0S p l w rn c n id j E X) (fun s' => trimO (X.length + 1 + 1 + 1) s' = s0S p l w rn c n id (j + 1) E (X.set id (.row 4 1 false (r ++ [[.bool true]])))) R B := by
  have hj' : (j : Int) < 24 := by omega
  have hid := (List.getElem?_eq_some_iff.1 hX).1
  have hXa : ∀ l, (X ++ l)[id]? = some (.row 4 1 false r) := fun l => by rw [List.getElem?_append_left hid]; exact hX
  have hXs : ∀ l v, (X ++ l).set id v = X.set id v ++ l := fun l v => List.set_append_left _ _ hid
  have lim : (j + 1) * 1 ≤ 140737488355328 := by omega
  have lim2 : j + 1 ≤ 140737488355328 := by omega
  simp only [s0S, saP]
  (have := fa hj'; repeat refine Wp.f ?_)
  refine Wp.i ?_ ?_ <;> intro h1
  · (have := fa (a5 hXa hXs hr lim (a2 lim2 @wrap_id)); repeat refine Wp.f ?_)
    have hl : (saP w rn c E (X.set id (.row 4 1 false (r ++ [[.bool true]])))).length = X.length + 1 + 1 + 1 := by simp [saP]
    have htr := trim_backs (st := saP w rn c E (X.set id (.row 4 1 false (r ++ [[.bool true]])))) (l := [.row 4 1 false [[.bool true]]]) (e := [(0, insL p l), (4, .bp 0 0), (5, .bp 1 0), (7, .own 2 n), (8, i64 n), (9, .own (id + 3) (j + 1)), (10, i64 ((j : Int) + 1))]) (by
      rw [hl]
      show (decide (0 < X.length + 1 + 1 + 1) && (decide (1 < X.length + 1 + 1 + 1) && (decide (2 < X.length + 1 + 1 + 1) && (true && (decide (id + 3 < X.length + 1 + 1 + 1) && true))))) = true
      rw [decide_eq_true (by omega), decide_eq_true (by omega), decide_eq_true (by omega), decide_eq_true (by omega)]
      rfl) (by
      rw [hl]
      exact sa_blw hE (hb _))
    rw [hl] at htr
    exact htr
  · cases h1
set_option maxHeartbeats 8000000 in
theorem s0_loop (p : Bool) (l : List Ins) (w : Way) (rn : List RNode) (c : FS) (n : Nat) :
    Wp T (.loop c_joineryref11_Said_L0) (s0S p l w rn c n (2 * n) 0 (saE n) (saX n ++ [.row 4 1 false []])) (fun _ => False) (fun _ => False) (fun b s' => b = 2 ∧ s' = ⟨[(0, insL p l), (4, .bp 0 0), (5, .bp 1 0), (7, .own 2 n), (8, i64 n), (9, .own (2 * n + 3) 24), (10, i64 (24 : Nat)), (22, .bool false)], saP w rn c (saE n) (saX n ++ [.row 4 1 false (List.replicate 24 [.bool true])])⟩) := by
  have hxl := saX_len n
  refine Wp.count 24 (fun j => s0S p l w rn c n (2 * n) j (saE n) (saX n ++ [.row 4 1 false (List.replicate j [.bool true])])) (fun _ => True) (fun j hj _ => ?_) (fun _ => ?_) 0 (by omega) trivial
  · have hlen : (saX n ++ [Ob.row 4 1 false (List.replicate j [.bool true])]).length = 2 * n + 1 := by simp [hxl]
    have hset : ∀ v, (saX n ++ [Ob.row 4 1 false (List.replicate j [.bool true])]).set (2 * n) v = saX n ++ [v] := fun v => by
      rw [List.set_append_right _ _ (by omega), hxl, Nat.sub_self]
      rfl
    have hst := s0_step p l w rn c n j hj (saE n) (saX n ++ [.row 4 1 false (List.replicate j [.bool true])]) (2 * n) (List.replicate j [.bool true]) (by simp) (by rw [List.getElem?_append_right (by omega), hxl, Nat.sub_self]; rfl) (by rw [hlen]; exact saE_blw (by omega)) (fun v => by
      rw [hset, hlen, List.all_append, saX_blw n (by omega)]
      rfl)
    rw [hset, show List.replicate j [U.bool true] ++ [[U.bool true]] = List.replicate (j + 1) [U.bool true] from List.replicate_succ'.symm] at hst
    exact (hst _ _).imp (fun s' h => ⟨h, trivial⟩) (fun _ h => h) (fun _ _ h => h)
  · simp only [s0S, saP]
    repeat refine Wp.a ?_
    refine Wp.i ?_ ?_ <;> intro h1
    · cases h1
    · exact Wp.exit ⟨rfl, rfl⟩
def s1S (p : Bool) (l : List Ins) (w : Way) (rn : List RNode) (c : FS) (n : Nat) : S :=
  ⟨[(0, insL p l), (4, .bp 0 0), (5, .bp 1 0), (7, .own 2 n), (8, i64 n)], saP w rn c (saE n) (saX n)⟩
set_option maxHeartbeats 8000000 in
theorem s1_loop (p : Bool) (l : List Ins) (w : Way) (rn : List RNode) (hrn : rn.length ≤ 200) (c : FS) :
    Wp T (.loop c_joineryref11_Said_L1) (s1S p l w rn c 0) (fun _ => False) (fun _ => False) (fun b s' => b = 0 ∧ s' = ⟨[(0, insL p l), (4, .bp 0 0), (5, .bp 1 0), (7, .own 2 rn.length), (8, i64 (rn.length : Nat)), (18, .bool false)], saP w rn c (saE rn.length) (saX rn.length)⟩) := by
  refine Wp.count rn.length (fun n => s1S p l w rn c n) (fun _ => True) (fun n hn _ => ?_) (fun _ => ?_) 0 (by omega) trivial
  · have hn' : (n : Int) < rn.length := by omega
    have hxl := saX_len n
    have hel := saE_len n
    have hlp := s0_loop p l w rn c n
    have lim : (n + 1) * 24 ≤ 140737488355328 := by omega
    have hup := saE_up (n := n) (L := (saX n).length + 1 + 1 + 1) (by omega)
    have hE1 : saE (n + 1) = saE n ++ [[.own (2 * n + 3) 24]] := by simp [saE, List.range_succ]
    simp only [s1S, saP]
    (have := fa (a2 @rskelU.eq_1 hn'); repeat refine Wp.f ?_)
    refine Wp.i ?_ ?_ <;> intro h1
    · repeat refine Wp.a ?_
      rw [← hxl] at hlp hE1
      refine (show Wp T (.loop c_joineryref11_Said_L0) (s0S p l w rn c n (saX n).length 0 (saE n) (saX n ++ [.row 4 1 false []])) _ _ _ from hlp.imp (fun _ h => h.elim) (fun _ h => h.elim) ?_)
      rintro b s ⟨rfl, rfl⟩
      rw [if_pos rfl]
      have hX2 : saX (n + 1) = saX n ++ [.row 4 1 false (List.replicate 24 [.bool true])] ++ [.row 23 1 true [[.own ((saX n).length + 3) 24]]] := by
        rw [saX, hxl]
        simp
      rw [hX2]
      rw [hE1] at hup ⊢
      have hle : (saX n).length + 1 + 1 + 1 ≤ (saX n).length + 3 := Nat.le_refl _
      generalize hX1 : saX n ++ [Ob.row 4 1 false (List.replicate 24 [.bool true])] = X1 at *
      simp only [saP]
      (have := fa (a3 hel lim @wrap_id); repeat refine Wp.f ?_)
      exact ⟨keep_all _ _ _ 2 _ rfl (by simp) hup, trivial⟩
    · cases h1
  · simp only [s1S, saP]
    (have := fa @rskelU.eq_1; repeat refine Wp.f ?_)
    refine Wp.i ?_ ?_ <;> intro h1
    · simp at h1
    · exact Wp.exit ⟨rfl, rfl⟩
theorem sa_minv (N : Nat) : MInv 4 1 3 ((List.replicate N (List.replicate 24 true)).map bitsR) (saE N) (saX N) := by
  have hg : ∀ k, k < N → (saE N)[k]? = some [.own (2 * k + 3) 24] := fun k hk => by
    unfold saE
    simp [hk]
  have hx : ∀ n k, k < n → (saX n)[2 * k]? = some (.row 4 1 false (List.replicate 24 [.bool true])) := by
    intro n
    induction n with
    | zero => intro k hk; omega
    | succ n ih =>
      intro k hk
      rw [saX]
      by_cases hkn : k < n
      · rw [List.getElem?_append_left (by rw [saX_len]; omega)]
        exact ih k hkn
      · have : k = n := by omega
        subst this
        rw [List.getElem?_append_right (by rw [saX_len]; omega), saX_len, Nat.sub_self]
        rfl
  refine ⟨by rw [saE_len, List.length_map, List.length_replicate], fun k r hk => ?_, fun k k' id n n' h1 h2 => ?_, fun L hL => saX_blw N (by rw [saX_len] at hL; omega)⟩
  · rw [List.getElem?_map, List.getElem?_replicate] at hk
    split at hk
    · rename_i hkN
      cases hk
      refine ⟨2 * k, ?_, ?_⟩
      · rw [hg k hkN]
        simp [bitsR]
      · rw [hx N k hkN]
        simp [bitsR]
    · cases hk
  · have hk : k < N := by
      have := (List.getElem?_eq_some_iff.1 h1).1
      rwa [saE_len] at this
    have hk' : k' < N := by
      have := (List.getElem?_eq_some_iff.1 h2).1
      rwa [saE_len] at this
    rw [hg k hk] at h1
    rw [hg k' hk'] at h2
    simp at h1 h2
    omega
theorem map_setB (B : List (List Bool)) (n q : Nat) (hn : n < B.length) : (setB B n q).map bitsR = (B.map bitsR).set n ((bitsR B[n]).set q [.bool false]) := by
  have e : B.getD n [] = B[n] := by simp [hn]
  unfold setB
  rw [e, List.map_set]
  unfold bitsR
  rw [List.map_set]
section
variable (p : Bool) (l : List Ins) (w : Way) (rn : List RNode) (c : FS) (to : Nat → List Edge) (f : Edge → Nat → FS)
structure SaidOK : Prop where
  cst : cstF c
  ok : ByOK rn.length to f
  es : ∀ n, (to n).length ≤ 1000
  toC : ∀ (n : Nat) st, Cl T n_joineryref10_To [.agg (rskelU w rn), i64 n] st (.sl true (edR (to n))) st
  by_ : ∀ n, ∀ e ∈ to n, ∀ q : Nat, q < 24 → ∀ st, Cl T n_joineryref11_By [insL p l, .agg (rskelU w rn), .agg (edgeU e), i64 q] st (.agg (fsU (f e q))) st
variable {p l w rn c to f}
def s2S (p : Bool) (l : List Ins) (w : Way) (rn : List RNode) (c : FS) (E : List (List U)) (more : Bool) (n q : Nat) (X : List Ob) : S :=
  ⟨[(0, insL p l), (4, .bp 0 0), (5, .bp 1 0), (7, .own 2 rn.length), (11, .bool more), (12, i64 n), (13, i64 q)], saP w rn c E X⟩
set_option maxHeartbeats 16000000 in
theorem s2_step (hk : SaidOK p l w rn c to f) (E : List (List U)) (B : List (List Bool)) (X : List Ob) (hM : MInv 4 1 3 (B.map bitsR) E X) (hB : B.length = rn.length) (hrow : ∀ n, n < B.length → (B.getD n []).length = 24) (more : Bool) (n q : Nat) (hn : n < rn.length) (hq : q < 24) (R : S → Prop) (Bk : Nat → S → Prop) :
    Wp T c_joineryref11_Said_L2 (s2S p l w rn c E more n q X) (fun s' => ∃ X', trimO (X.length + 1 + 1 + 1) s' = s2S p l w rn c E (sdStep to f c (B, more) n q).2 n (q + 1) X' ∧ MInv 4 1 3 ((sdStep to f c (B, more) n q).1.map bitsR) E X' ∧ X'.length = X.length) R Bk := by
  have hnB : n < B.length := by omega
  have hn' : (n : Int) < rn.length := by omega
  have hq' : (q : Int) < 24 := by omega
  have hr24 := hrow n hnB
  have hFm : B.getD n [] = B[n] := by simp [hnB]
  rw [hFm] at hr24
  have hlen := mat_lent (tg := 23) (rid := 2) (M := B.map bitsR) (E := E) (st := saP w rn c E X) rfl hM.len (fun k r hk => by
    obtain ⟨id, c1, c2⟩ := hM.cell k r hk
    exact ⟨id + 3, 4, 1, c1, c2⟩)
  rw [List.length_map, hB, List.map_map] at hlen
  have hlen : brw frzD (saP w rn c E X) (.own 2 rn.length) = some (rowsB false B) := hlen
  have hho := holds_call p l w rn c false B to f n q hq (hk.es n) hrow (hk.toC n) (fun e he st => hk.by_ n e he q hq st) (fun e he h4 => by
    obtain ⟨k1, k2, k3⟩ := hk.ok.frm n hn e he q hq h4
    exact ⟨by omega, k2, k3, hk.ok.pos n hn e he q hq h4⟩)
  obtain ⟨id, c1, c2⟩ := hM.cell n (bitsR B[n]) (by rw [List.getElem?_map, List.getElem?_eq_getElem hnB]; rfl)
  have hset := hM.set (k := n) (id := id) (r := bitsR B[n]) (by rw [List.getElem?_map, List.getElem?_eq_getElem hnB]; rfl) c1 c2 ((bitsR B[n]).set q [.bool false]) (by simp)
  rw [← map_setB B n q hnB] at hset
  have hbl : (bitsR B[n]).length = 24 := by rw [← hr24]; simp [bitsR]
  rw [hbl] at c1
  have hbr : (bitsR B[n])[q]? = some [.bool (getB B n q)] := by
    unfold getB bitsR
    rw [hFm, List.getElem?_map, List.getElem?_eq_getElem (by omega), List.getD_eq_getElem?_getD, List.getElem?_eq_getElem (by omega)]
    rfl
  have hEl : E.length = rn.length := by rw [hM.len, List.length_map]; exact hB
  have hid := (List.getElem?_eq_some_iff.1 c2).1
  have key : sdStep to f c (B, more) n q = if getB B n q = true ∧ holdsF to f c B n q = false then (setB B n q, true) else (B, more) := rfl
  rw [key]
  generalize holdsF to f c B n q = ho at *
  generalize getB B n q = v at *
  generalize bitsR B[n] = RW at *
  simp only [s2S, saP]
  (have := fa hq'; repeat refine Wp.f ?_)
  refine Wp.i ?_ ?_ <;> intro h1
  · cases v with
    | false =>
      rw [if_neg (by simp)]
      (have := fa (a5 hEl hn' c1 c2 (a3 hq' hbl hbr)); repeat refine Wp.f ?_)
      refine Wp.i ?_ ?_ <;> intro h2
      · cases h2
      · (have := fa @wrap_id; repeat refine Wp.f ?_)
        exact ⟨X, trimO_len rfl, hM, rfl⟩
    | true =>
      have hb1 : brwA frzD (saP w rn c E X) (.own 2 rn.length) = brwA frzD (saP w rn c E X) (rowsB false B) := hlen
      have hb2 : allM (brwA frzD (saP w rn c E X)) [insL p l, .agg (rskelU w rn), .agg (fsU c), .own 2 rn.length, i64 n, i64 q] = allM (brwA frzD (saP w rn c E X)) [insL p l, .agg (rskelU w rn), .agg (fsU c), rowsB false B, i64 n, i64 q] := by simp only [M2.allM, hb1]
      have r3 : (rskelU w rn).take 3 = rskelU w rn := rfl
      have c2' : (fsU c).take 2 = fsU c := rfl
      have r3l : (rskelU w rn).length = 3 := rfl
      have c2l : (fsU c).length = 2 := rfl
      (have := fa (a5 hEl hn' c1 c2 (a5 hq' hbl hbr r3 (a3 c2' r3l c2l))); repeat refine Wp.f ?_)
      apply Wp.callG
      · exact rfl
      · exact Cl.lend (fn := c_joineryref11_holds) rfl rfl (bs := [insL p l, .agg (rskelU w rn), .agg (fsU c), rowsB false B, i64 n, i64 q]) rfl hb2 (hho _)
      cases ho with
      | true =>
        rw [if_neg (by simp)]
        repeat refine Wp.a ?_
        refine Wp.i ?_ ?_ <;> intro h2
        · cases h2
        · (have := fa @wrap_id; repeat refine Wp.f ?_)
          exact ⟨X, trimO_len rfl, hM, rfl⟩
      | false =>
        rw [if_pos ⟨rfl, rfl⟩]
        repeat refine Wp.a ?_
        refine Wp.i ?_ ?_ <;> intro h2
        · (have := fa (a5 hEl hn' c1 c2 (a4 hq' hbl hbr @wrap_id)); repeat refine Wp.f ?_)
          refine ⟨X.set id (.row 4 1 false (RW.set q [.bool false])), ?_, hset, List.length_set ..⟩
          exact trimO_len (by simp)
        · cases h2
  · cases h1
end
section
variable {p : Bool} {l : List Ins} {w : Way} {rn : List RNode} {c : FS} {to : Nat → List Edge} {f : Edge → Nat → FS}
set_option maxHeartbeats 8000000 in
theorem s2_loop (hk : SaidOK p l w rn c to f) (E : List (List U)) (B0 : List (List Bool)) (n : Nat) (hn : n < rn.length) (x : List (List Bool) × Bool) (X : List Ob) (hS : TInv rn.length to f c B0 x n 0) (hM : MInv 4 1 3 (x.1.map bitsR) E X) :
    Wp T (.loop c_joineryref11_Said_L2) (s2S p l w rn c E x.2 n 0 X) (fun _ => False) (fun _ => False) (fun b s' => b = 8 ∧ ∃ (x' : List (List Bool) × Bool) (X' : List Ob), TInv rn.length to f c B0 x' n 24 ∧ MInv 4 1 3 (x'.1.map bitsR) E X' ∧ X'.length = X.length ∧
      s' = ⟨[(0, insL p l), (4, .bp 0 0), (5, .bp 1 0), (7, .own 2 rn.length), (11, .bool x'.2), (12, i64 n), (13, i64 (24 : Nat)), (40, .bool false)], saP w rn c E X'⟩) := by
  refine Wp.loop (fun y : Nat × (List (List Bool) × Bool) × List Ob => 24 - y.1) (fun y => s2S p l w rn c E y.2.1.2 n y.1 y.2.2) (fun y => y.1 ≤ 24 ∧ TInv rn.length to f c B0 y.2.1 n y.1 ∧ MInv 4 1 3 (y.2.1.1.map bitsR) E y.2.2 ∧ y.2.2.length = X.length) (fun y ⟨hq, hs, hg, hl⟩ => ?_) (0, x, X) ⟨by simp, hS, hM, rfl⟩
  obtain ⟨q, ⟨B, more⟩, Y⟩ := y
  simp only at hq hs hg hl ⊢
  by_cases hq24 : q < 24
  · have hst := s2_step hk E B Y hg hs.inv.len (fun m hm => hs.inv.row m (by have := hs.inv.len; simp only at this; omega)) more n q hn hq24
    have hnx := hs.step hk.cst hn hq24
    refine (hst _ _).imp (fun s' h => ?_) (fun _ h => h) (fun _ _ h => h)
    obtain ⟨X', h1, h2, h3⟩ := h
    exact ⟨(q + 1, sdStep to f c (B, more) n q, X'), h1, by simp only; omega, by simp only; omega, hnx, h2, by simp only; omega⟩
  · have hq2 : q = 24 := by omega
    subst hq2
    simp only [s2S, saP]
    repeat refine Wp.a ?_
    refine Wp.i ?_ ?_ <;> intro h1
    · cases h1
    · exact Wp.exit ⟨rfl, (B, more), Y, hs, hg, hl, rfl⟩
def s3'S (p : Bool) (l : List Ins) (w : Way) (rn : List RNode) (c : FS) (E : List (List U)) (more : Bool) (n : Nat) (X : List Ob) : S :=
  ⟨[(0, insL p l), (4, .bp 0 0), (5, .bp 1 0), (7, .own 2 rn.length), (11, .bool more), (12, i64 n)], saP w rn c E X⟩
set_option maxHeartbeats 8000000 in
theorem s3_loop (hrn : rn.length ≤ 200) (hk : SaidOK p l w rn c to f) (E : List (List U)) (B0 : List (List Bool)) (X : List Ob) (hS : TInv rn.length to f c B0 (B0, false) 0 0) (hM : MInv 4 1 3 (B0.map bitsR) E X) :
    Wp T (.loop c_joineryref11_Said_L3) (s3'S p l w rn c E false 0 X) (fun _ => False) (fun _ => False) (fun b s' => b = 6 ∧ ∃ (x' : List (List Bool) × Bool) (X' : List Ob), TInv rn.length to f c B0 x' rn.length 0 ∧ MInv 4 1 3 (x'.1.map bitsR) E X' ∧ X'.length = X.length ∧
      s' = ⟨[(0, insL p l), (4, .bp 0 0), (5, .bp 1 0), (7, .own 2 rn.length), (11, .bool x'.2), (12, i64 (rn.length : Nat)), (36, .bool false)], saP w rn c E X'⟩) := by
  refine Wp.loop (fun y : Nat × (List (List Bool) × Bool) × List Ob => rn.length - y.1) (fun y => s3'S p l w rn c E y.2.1.2 y.1 y.2.2) (fun y => y.1 ≤ rn.length ∧ TInv rn.length to f c B0 y.2.1 y.1 0 ∧ MInv 4 1 3 (y.2.1.1.map bitsR) E y.2.2 ∧ y.2.2.length = X.length) (fun y ⟨hn, hs, hg, hl⟩ => ?_) (0, (B0, false), X) ⟨by simp, hS, hM, rfl⟩
  obtain ⟨n, ⟨B, more⟩, Y⟩ := y
  simp only at hn hs hg hl ⊢
  have hEl : E.length = rn.length := by rw [hg.len, List.length_map]; exact hs.inv.len
  by_cases hn2 : n < rn.length
  · have hn' : (n : Int) < rn.length := by omega
    have hlp := s2_loop hk E B0 n hn2 (B, more) Y hs hg
    simp only [s3'S, saP]
    (have := fa (a2 hEl hn'); repeat refine Wp.f ?_)
    refine Wp.i ?_ ?_ <;> intro h1
    · repeat refine Wp.a ?_
      refine (show Wp T (.loop c_joineryref11_Said_L2) (s2S p l w rn c E more n 0 Y) _ _ _ from hlp.imp (fun _ h => h.elim) (fun _ h => h.elim) ?_)
      rintro b s ⟨rfl, x', X', h3, h4, h5, rfl⟩
      rw [if_pos rfl]
      simp only [saP]
      (have := fa @wrap_id; repeat refine Wp.f ?_)
      refine ⟨(n + 1, x', X'), ?_, by simp only; omega, by simp only; omega, h3.next, h4, by simp only; omega⟩
      exact trimO_len (by simp [h5])
    · cases h1
  · have hn3 : n = rn.length := by omega
    subst hn3
    simp only [s3'S, saP]
    (have := fa hEl; repeat refine Wp.f ?_)
    refine Wp.i ?_ ?_ <;> intro h1
    · simp at h1
    · exact Wp.exit ⟨rfl, (B, more), Y, hs, hg, hl, rfl⟩
def s4S (p : Bool) (l : List Ins) (w : Way) (rn : List RNode) (c : FS) (E : List (List U)) (more : Bool) (ex : Env) (X : List Ob) : S :=
  ⟨(0, insL p l) :: (4, .bp 0 0) :: (5, .bp 1 0) :: (7, .own 2 rn.length) :: (11, .bool more) :: ex, saP w rn c E X⟩
set_option maxHeartbeats 8000000 in
theorem s4_loop (hrn : rn.length ≤ 200) (hk : SaidOK p l w rn c to f) (E : List (List U)) (B : List (List Bool)) (X : List Ob) (hB : BInv rn.length to f c B) (hM : MInv 4 1 3 (B.map bitsR) E X) :
    Wp T (.loop c_joineryref11_Said_L4) (s4S p l w rn c E true [] X) (fun _ => False) (fun _ => False) (fun b s' => b = 4 ∧ ∃ (B' : List (List Bool)) (X' : List Ob), BInv rn.length to f c B' ∧ MInv 4 1 3 (B'.map bitsR) E X' ∧ (∀ n q, n < rn.length → q < 24 → getB B' n q = true → holdsF to f c B' n q = true) ∧
      s' = ⟨[(0, insL p l), (4, .bp 0 0), (5, .bp 1 0), (7, .own 2 rn.length), (32, .bool false)], saP w rn c E X'⟩) := by
  refine Wp.loop (fun y : (List (List Bool) × Bool) × List Ob × Env => 2 * cntB y.1.1 + bitF y.1.2) (fun y => s4S p l w rn c E y.1.2 y.2.2 y.2.1) (fun y => BInv rn.length to f c y.1.1 ∧ MInv 4 1 3 (y.1.1.map bitsR) E y.2.1 ∧ (y.1.2 = false → ∀ n q, n < rn.length → q < 24 → getB y.1.1 n q = true → holdsF to f c y.1.1 n q = true)) (fun y ⟨hf, hg, hd⟩ => ?_) ((B, true), X, []) ⟨hB, hM, by simp⟩
  obtain ⟨⟨B1, more⟩, Y, ex⟩ := y
  simp only at hf hg hd ⊢
  cases more with
  | false =>
    simp only [s4S, saP]
    repeat refine Wp.a ?_
    refine Wp.i ?_ ?_ <;> intro h1
    · cases h1
    · exact Wp.exit ⟨rfl, B1, Y, hf, hg, hd rfl, rfl⟩
  | true =>
    have hlp := s3_loop hrn hk E B1 Y ⟨hf, (by intro h; cases h), fun _ => ⟨rfl, fun m q h => by omega⟩⟩ hg
    simp only [s4S, saP]
    repeat refine Wp.a ?_
    refine Wp.i ?_ ?_ <;> intro h1
    · repeat refine Wp.a ?_
      refine (show Wp T (.loop c_joineryref11_Said_L3) (s3'S p l w rn c E false 0 Y) _ _ _ from hlp.imp (fun _ h => h.elim) (fun _ h => h.elim) ?_)
      rintro b s ⟨rfl, ⟨B2, more2⟩, X', h3, h4, h5, rfl⟩
      rw [if_pos rfl]
      simp only [saP]
      repeat refine Wp.a ?_
      refine ⟨((B2, more2), X', [(12, i64 (rn.length : Nat)), (36, .bool false)]), ?_, ?_, h3.inv, h4, fun hm => ?_⟩
      · refine trimO_len ?_
        show (Ob.box (rskelU w rn) :: Ob.box (fsU c) :: Ob.row 23 1 true E :: X').length = (Ob.box (rskelU w rn) :: Ob.box (fsU c) :: Ob.row 23 1 true E :: Y).length
        simp only [List.length_cons, h5]
      · simp only
        cases more2 with
        | true =>
          have := h3.more rfl
          simp only at this
          simp only [bitF, if_true]
          omega
        | false =>
          have := (h3.still rfl).1
          simp only at this
          subst this
          simp [bitF]
      · simp only at hm
        subst hm
        obtain ⟨k1, k2⟩ := h3.still rfl
        simp only at k1
        subst k1
        exact fun n q hn hq => k2 n q (by omega)
    · cases h1
open Classical in
noncomputable def saidB (N : Nat) (to : Nat → List Edge) (f : Edge → Nat → FS) (c : FS) : List (List Bool) := (List.range N).map fun n => (List.range 24).map fun q => decide (gfp N to f c n q)
theorem saidB_row {N : Nat} {n : Nat} (hn : n < N) : ((saidB N to f c).getD n []).length = 24 := by
  unfold saidB
  rw [List.getD_eq_getElem?_getD, List.getElem?_map, List.getElem?_range hn]
  simp
theorem saidB_spec {N : Nat} (n q : Nat) : getB (saidB N to f c) n q = true ↔ gfp N to f c n q := by
  unfold getB saidB
  simp only [List.getD_eq_getElem?_getD, List.getElem?_map]
  by_cases hn : n < N
  · rw [List.getElem?_range hn]
    simp only [Option.map_some, Option.getD_some, List.getElem?_map]
    by_cases hq : q < 24
    · rw [List.getElem?_range hq]
      simp
    · rw [List.getElem?_eq_none (l := List.range 24) (i := q) (by rw [List.length_range]; omega)]
      simp only [Option.map_none, Option.getD_none, Bool.false_eq_true, false_iff]
      exact fun h => hq (gfp_step h).2.1
  · rw [List.getElem?_eq_none (l := List.range N) (i := n) (by rw [List.length_range]; omega)]
    simp only [Option.map_none, Option.getD_none, List.getElem?_nil, Bool.false_eq_true, false_iff]
    exact fun h => hn (gfp_step h).1
theorem saidB_eq {N : Nat} {B : List (List Bool)} (h1 : B.length = N) (h2 : ∀ n, n < N → (B.getD n []).length = 24) (h3 : ∀ n q, getB B n q = true ↔ gfp N to f c n q) : B = saidB N to f c := by
  refine List.ext_getElem (by rw [h1]; simp [saidB]) fun n k1 k2 => ?_
  have hn : n < N := by omega
  have e1 : B.getD n [] = B[n] := by simp [k1]
  have e2 : (saidB N to f c).getD n [] = (saidB N to f c)[n] := by simp [k2]
  have r1 := h2 n hn
  have r2 := saidB_row (to := to) (f := f) (c := c) hn
  rw [e1] at r1
  rw [e2] at r2
  refine List.ext_getElem (by rw [r1, r2]) fun q j1 j2 => ?_
  have g1 : getB B n q = B[n][q] := by unfold getB; rw [e1]; simp [j1]
  have g2 : getB (saidB N to f c) n q = (saidB N to f c)[n][q] := by unfold getB; rw [e2]; simp [j2]
  rw [← g1, ← g2, Bool.eq_iff_iff, h3, saidB_spec]
set_option maxHeartbeats 8000000 in
theorem said_call (hrn : rn.length ≤ 200) (hk : SaidOK p l w rn c to f) (st : List Ob) : Cl T n_joineryref11_Said [insL p l, .agg (rskelU w rn), .agg (fsU c)] st (rowsB true (saidB rn.length to f c)) st := by
  refine Wp.pure (fn := c_joineryref11_Said) rfl rfl rfl («as» := [insL p l, .agg (rskelU w rn), .agg (fsU c)]) rfl ?_
  have hlp1 := s1_loop p l w rn hrn c
  have hlp2 := s4_loop hrn hk (saE rn.length) _ (saX rn.length) (binv0 (c := c)) (sa_minv rn.length)
  repeat refine Wp.a ?_
  refine (show Wp T (.loop c_joineryref11_Said_L1) (s1S p l w rn c 0) _ _ _ from hlp1.imp (fun _ h => h.elim) (fun _ h => h.elim) ?_)
  rintro b s ⟨rfl, rfl⟩
  rw [if_pos rfl]
  simp only [saP]
  repeat refine Wp.a ?_
  refine (show Wp T (.loop c_joineryref11_Said_L4) (s4S p l w rn c (saE rn.length) true [] (saX rn.length)) _ _ _ from hlp2.imp (fun _ h => h.elim) (fun _ h => h.elim) ?_)
  rintro b s ⟨rfl, B', X', h1, h2, h3, rfl⟩
  rw [if_pos rfl]
  have hB := saidB_eq h1.len h1.row (h1.done hk.ok h3)
  rw [← hB]
  simp only [saP]
  repeat refine Wp.a ?_
  refine Wp.ret ?_
  have hz := mat_frozen (tag := 4) (es := 1) (base := 3) (tg := 23) (rid := 2) (M := B'.map bitsR) (E := saE rn.length) (st := saP w rn c (saE rn.length) X') rfl (by omega) h2.len (fun k r hk => by
    obtain ⟨id, c1, c2⟩ := h2.cell k r hk
    exact ⟨id + 3, by omega, c1, c2⟩)
  rw [List.length_map, h1.len] at hz
  simp only [Res, resU, res1, c_joineryref11_Said, M2.allM, Option.bind_some]
  refine hz.trans ?_
  simp [rowsB, Function.comp_def]
end
abbrev rfP (w : Way) (rn : List RNode) (E : List (List U)) (X : List Ob) : List Ob := .box (rskelU w rn) :: .row 50 1 true E :: X
def ownR : List (List U) := (List.range 24).map fun j : Nat => [i64 4, i64 j]
theorem ownR_len : ownR.length = 24 := by simp [ownR]
def rfE (n : Nat) : List (List U) := (List.range n).map fun i => [U.own (2 * i + 2) 24]
def rfX : Nat → List Ob
  | 0 => []
  | n + 1 => rfX n ++ [.row 52 2 false ownR, .row 50 1 true [[.own (2 * n + 2) 24]]]
theorem rfX_len : ∀ n, (rfX n).length = 2 * n
  | 0 => rfl
  | n + 1 => by rw [rfX, List.length_append, rfX_len n]; simp; omega
theorem rfE_len (n : Nat) : (rfE n).length = n := by simp [rfE]
theorem rfX_blw {L : Nat} : ∀ n, 2 * n + 2 ≤ L → (rfX n).all (Ob.blw L) = true
  | 0, _ => rfl
  | n + 1, h => by
    rw [rfX, List.all_append, rfX_blw n (by omega)]
    show (true && ((decide (2 * n + 2 < L) && true) && true && true)) = true
    rw [decide_eq_true (by omega)]
    rfl
theorem rf_blw {w : Way} {rn : List RNode} {E : List (List U)} {X : List Ob} {L : Nat} (hE : ∀ x ∈ E, x.all (blw blwD L) = true) (hX : X.all (Ob.blw L) = true) : (rfP w rn E X).all (Ob.blw L) = true := by
  have e1 : Ob.blw L (.row 50 1 true E) = true := by
    show E.all (fun x => x.all (blw blwD L)) = true
    rw [List.all_eq_true]
    exact hE
  have e0 : Ob.blw L (.box (rskelU w rn)) = true := rfl
  simp only [List.all_cons, e0, e1, hX, Bool.and_self]
theorem rfE_blw {n L : Nat} (h : 2 * n + 1 ≤ L) : ∀ x ∈ rfE n, x.all (blw blwD L) = true := by
  intro x hx
  obtain ⟨i, hi, rfl⟩ := List.mem_map.1 hx
  rw [List.mem_range] at hi
  exact own_blw (by omega)
theorem rfE_up {n L : Nat} (h : L ≤ 2 * n + 2) : Ob.blw L (.row 50 1 true (rfE (n + 1))) = false := by
  show (rfE (n + 1)).all (fun x => x.all (blw blwD L)) = false
  rw [Bool.eq_false_iff]
  intro hh
  have h1 := List.all_eq_true.1 hh [U.own (2 * n + 2) 24] (List.mem_map.2 ⟨n, by simp, rfl⟩)
  have h2 : (decide (2 * n + 2 < L) && true) = true := h1
  simp at h2
  omega
def r0S (p : Bool) (l : List Ins) (w : Way) (rn : List RNode) (n id j : Nat) (E : List (List U)) (X : List Ob) : S :=
  ⟨[(0, insL p l), (3, .bp 0 0), (5, .own 1 n), (6, i64 n), (7, .own (id + 2) j), (8, i64 j)], rfP w rn E X⟩
set_option maxHeartbeats 8000000 in
theorem r0_step (p : Bool) (l : List Ins) (w : Way) (rn : List RNode) (n j : Nat) (hj : j < 24) (E : List (List U)) (X : List Ob) (id : Nat) (r : List (List U)) (hr : r.length = j) (hX : X[id]? = some (.row 52 2 false r))
    (hE : ∀ x ∈ E, x.all (blw blwD (X.length + 1 + 1)) = true) (hb : ∀ v, (X.set id (.row 52 2 false v)).all (Ob.blw (X.length + 1 + 1)) = true) (R : S → Prop) (B : Nat → S → Prop) :
    Wp T c_joineryref11_Facts_L0 (r0S p l w rn n id j E X) (fun s' => trimO (X.length + 1 + 1) s' = r0S p l w rn n id (j + 1) E (X.set id (.row 52 2 false (r ++ [[i64 4, i64 j]])))) R B := by
  have hj' : (j : Int) < 24 := by omega
  have hid := (List.getElem?_eq_some_iff.1 hX).1
  have hXa : ∀ l, (X ++ l)[id]? = some (.row 52 2 false r) := fun l => by rw [List.getElem?_append_left hid]; exact hX
  have hXs : ∀ l v, (X ++ l).set id v = X.set id v ++ l := fun l v => List.set_append_left _ _ hid
  have lim : (j + 1) * 16 ≤ 140737488355328 := by omega
  simp only [r0S, rfP]
  (have := fa hj'; repeat refine Wp.f ?_)
  refine Wp.i ?_ ?_ <;> intro h1
  · (have := fa (a5 hXa hXs hr lim @wrap_id); repeat refine Wp.f ?_)
    have hl : (rfP w rn E (X.set id (.row 52 2 false (r ++ [[i64 4, i64 j]])))).length = X.length + 1 + 1 := by simp [rfP]
    have htr := trim_backs (st := rfP w rn E (X.set id (.row 52 2 false (r ++ [[i64 4, i64 j]])))) (l := [.row 52 2 false [[i64 4, i64 j]]]) (e := [(0, insL p l), (3, .bp 0 0), (5, .own 1 n), (6, i64 n), (7, .own (id + 2) (j + 1)), (8, i64 ((j : Int) + 1))]) (by
      rw [hl]
      show (decide (0 < X.length + 1 + 1) && (decide (1 < X.length + 1 + 1) && (true && (decide (id + 2 < X.length + 1 + 1) && true)))) = true
      rw [decide_eq_true (by omega), decide_eq_true (by omega), decide_eq_true (by omega)]
      rfl) (by
      rw [hl]
      exact rf_blw hE (hb _))
    rw [hl] at htr
    exact htr
  · cases h1
set_option maxHeartbeats 8000000 in
theorem r0_loop (p : Bool) (l : List Ins) (w : Way) (rn : List RNode) (n : Nat) :
    Wp T (.loop c_joineryref11_Facts_L0) (r0S p l w rn n (2 * n) 0 (rfE n) (rfX n ++ [.row 52 2 false []])) (fun _ => False) (fun _ => False) (fun b s' => b = 2 ∧ s' = ⟨[(0, insL p l), (3, .bp 0 0), (5, .own 1 n), (6, i64 n), (7, .own (2 * n + 2) 24), (8, i64 (24 : Nat)), (24, .bool false)], rfP w rn (rfE n) (rfX n ++ [.row 52 2 false ownR])⟩) := by
  have hxl := rfX_len n
  refine Wp.count 24 (fun j => r0S p l w rn n (2 * n) j (rfE n) (rfX n ++ [.row 52 2 false (ownR.take j)])) (fun _ => True) (fun j hj _ => ?_) (fun _ => ?_) 0 (by omega) trivial
  · have hlen : (rfX n ++ [Ob.row 52 2 false (ownR.take j)]).length = 2 * n + 1 := by simp [hxl]
    have hset : ∀ v, (rfX n ++ [Ob.row 52 2 false (ownR.take j)]).set (2 * n) v = rfX n ++ [v] := fun v => by
      rw [List.set_append_right _ _ (by omega), hxl, Nat.sub_self]
      rfl
    have htk : ownR.take j ++ [[i64 4, i64 j]] = ownR.take (j + 1) := by
      rw [List.take_succ_eq_append_getElem (by rw [ownR_len]; exact hj)]
      simp [ownR]
    have hst := r0_step p l w rn n j hj (rfE n) (rfX n ++ [.row 52 2 false (ownR.take j)]) (2 * n) (ownR.take j) (by rw [List.length_take, ownR_len]; omega) (by rw [List.getElem?_append_right (by omega), hxl, Nat.sub_self]; rfl) (by rw [hlen]; exact rfE_blw (by omega)) (fun v => by
      rw [hset, hlen, List.all_append, rfX_blw n (by omega)]
      rfl)
    rw [hset, htk] at hst
    exact (hst _ _).imp (fun s' h => ⟨h, trivial⟩) (fun _ h => h) (fun _ _ h => h)
  · rw [List.take_of_length_le (by rw [ownR_len]; omega)]
    simp only [r0S, rfP]
    repeat refine Wp.a ?_
    refine Wp.i ?_ ?_ <;> intro h1
    · cases h1
    · exact Wp.exit ⟨rfl, rfl⟩
def r1S (p : Bool) (l : List Ins) (w : Way) (rn : List RNode) (n : Nat) : S :=
  ⟨[(0, insL p l), (3, .bp 0 0), (5, .own 1 n), (6, i64 n)], rfP w rn (rfE n) (rfX n)⟩
set_option maxHeartbeats 8000000 in
theorem r1_loop (p : Bool) (l : List Ins) (w : Way) (rn : List RNode) (hrn : rn.length ≤ 200) :
    Wp T (.loop c_joineryref11_Facts_L1) (r1S p l w rn 0) (fun _ => False) (fun _ => False) (fun b s' => b = 0 ∧ s' = ⟨[(0, insL p l), (3, .bp 0 0), (5, .own 1 rn.length), (6, i64 (rn.length : Nat)), (20, .bool false)], rfP w rn (rfE rn.length) (rfX rn.length)⟩) := by
  refine Wp.count rn.length (fun n => r1S p l w rn n) (fun _ => True) (fun n hn _ => ?_) (fun _ => ?_) 0 (by omega) trivial
  · have hn' : (n : Int) < rn.length := by omega
    have hxl := rfX_len n
    have hel := rfE_len n
    have hlp := r0_loop p l w rn n
    have lim : (n + 1) * 24 ≤ 140737488355328 := by omega
    have hup := rfE_up (n := n) (L := (rfX n).length + 1 + 1) (by omega)
    have hE1 : rfE (n + 1) = rfE n ++ [[.own (2 * n + 2) 24]] := by simp [rfE, List.range_succ]
    simp only [r1S, rfP]
    (have := fa (a2 @rskelU.eq_1 hn'); repeat refine Wp.f ?_)
    refine Wp.i ?_ ?_ <;> intro h1
    · repeat refine Wp.a ?_
      rw [← hxl] at hlp hE1
      refine (show Wp T (.loop c_joineryref11_Facts_L0) (r0S p l w rn n (rfX n).length 0 (rfE n) (rfX n ++ [.row 52 2 false []])) _ _ _ from hlp.imp (fun _ h => h.elim) (fun _ h => h.elim) ?_)
      rintro b s ⟨rfl, rfl⟩
      rw [if_pos rfl]
      have hX2 : rfX (n + 1) = rfX n ++ [.row 52 2 false ownR] ++ [.row 50 1 true [[.own ((rfX n).length + 2) 24]]] := by
        rw [rfX, hxl]
        simp
      rw [hX2]
      rw [hE1] at hup ⊢
      generalize hX1 : rfX n ++ [Ob.row 52 2 false ownR] = X1 at *
      simp only [rfP]
      (have := fa (a3 hel lim @wrap_id); repeat refine Wp.f ?_)
      exact ⟨keep_all _ _ _ 1 _ rfl (by simp) hup, trivial⟩
    · cases h1
  · simp only [r1S, rfP]
    (have := fa @rskelU.eq_1; repeat refine Wp.f ?_)
    refine Wp.i ?_ ?_ <;> intro h1
    · simp at h1
    · exact Wp.exit ⟨rfl, rfl⟩
/-! What is tried, in a row of its own. -/
def r2S (p : Bool) (l : List Ins) (w : Way) (rn : List RNode) (E : List (List U)) (N id : Nat) (nums : List Int) (i : Nat) (X : List Ob) : S :=
  ⟨[(0, insL p l), (3, .bp 0 0), (5, .own 1 N), (9, .own (id + 2) (i + 1)), (10, intsU nums), (11, i64 i)], rfP w rn E X⟩
def triesR (nums : List Int) (i : Nat) : List (List U) := [i64 0, i64 0] :: (nums.take i).map fun v => [i64 2, i64 v]
set_option maxHeartbeats 8000000 in
theorem r2_loop (p : Bool) (l : List Ins) (w : Way) (rn : List RNode) (E : List (List U)) (N : Nat) (X : List Ob) (hE : ∀ x ∈ E, x.all (blw blwD (X.length + 1 + 1 + 1)) = true) (hX : X.all (Ob.blw (X.length + 1 + 1 + 1)) = true) (nums : List Int) (hn : nums.length ≤ 1000) :
    Wp T (.loop c_joineryref11_Facts_L2) (r2S p l w rn E N X.length nums 0 (X ++ [.row 52 2 false (triesR nums 0)])) (fun _ => False) (fun _ => False) (fun b s' => b = 4 ∧ s' = ⟨[(0, insL p l), (3, .bp 0 0), (5, .own 1 N), (9, .own (X.length + 2) (nums.length + 1)), (10, intsU nums), (11, i64 (nums.length : Nat)), (43, .bool false)], rfP w rn E (X ++ [.row 52 2 false (triesR nums nums.length)])⟩) := by
  refine Wp.count nums.length (fun i => r2S p l w rn E N X.length nums i (X ++ [.row 52 2 false (triesR nums i)])) (fun _ => True) (fun i hi _ => ?_) (fun _ => ?_) 0 (by omega) trivial
  · have hi' : (i : Int) < nums.length := by omega
    have eg : nums[i]? = some nums[i] := List.getElem?_eq_getElem hi
    have htl : (triesR nums i).length = i + 1 := by simp [triesR]; omega
    have lim : (i + 1 + 1) * 16 ≤ 140737488355328 := by omega
    have htk : triesR nums (i + 1) = triesR nums i ++ [[i64 2, i64 nums[i]]] := by
      unfold triesR
      rw [List.take_succ_eq_append_getElem hi, List.map_append, List.cons_append]
      rfl
    rw [htk]
    generalize triesR nums i = TR at *
    generalize nums[i] = v at *
    have hlen : (X ++ [Ob.row 52 2 false TR]).length = X.length + 1 := by simp
    have hXa : ∀ l, (X ++ Ob.row 52 2 false TR :: l)[X.length]? = some (.row 52 2 false TR) := fun l => by
      rw [List.getElem?_append_right (Nat.le_refl _), Nat.sub_self]
      rfl
    have hXs : ∀ l v, (X ++ Ob.row 52 2 false TR :: l).set X.length v = X ++ v :: l := fun l v => by
      rw [List.set_append_right _ _ (Nat.le_refl _), Nat.sub_self]
      rfl
    have hg2 : ∀ o : Ob, (X ++ [Ob.row 52 2 false TR, o])[X.length + 1]? = some o := fun o => by
      rw [List.getElem?_append_right (by omega), show X.length + 1 - X.length = 1 by omega]
      rfl
    simp only [r2S, rfP]
    (have := fa hi'; repeat refine Wp.f ?_)
    refine Wp.i ?_ ?_ <;> intro h1
    · (have := fa (a5 hi' eg hXa hXs (a4 hg2 htl lim @wrap_id)); repeat refine Wp.f ?_)
      have hl : (rfP w rn E (X ++ [.row 52 2 false (TR ++ [[i64 2, i64 v]])])).length = X.length + 1 + 1 + 1 := by simp [rfP]
      have hl2 : (Ob.box (rskelU w rn) :: Ob.row 50 1 true E :: (X ++ [Ob.row 52 2 false TR])).length = X.length + 1 + 1 + 1 := by simp
      have htr := trim_backs (st := rfP w rn E (X ++ [.row 52 2 false (TR ++ [[i64 2, i64 v]])])) (l := [.row 52 2 false [[i64 2, i64 v]]]) (e := [(0, insL p l), (3, .bp 0 0), (5, .own 1 N), (9, .own (X.length + 2) (i + 1 + 1)), (10, intsU nums), (11, i64 ((i : Int) + 1))]) (by
        rw [hl]
        show (decide (0 < X.length + 1 + 1 + 1) && (decide (1 < X.length + 1 + 1 + 1) && (decide (X.length + 2 < X.length + 1 + 1 + 1) && (true && true)))) = true
        rw [decide_eq_true (by omega), decide_eq_true (by omega), decide_eq_true (by omega)]
        rfl) (by
        rw [hl]
        refine rf_blw hE ?_
        rw [List.all_append, hX]
        rfl)
      rw [hl] at htr
      rw [hl2]
      have ha : rfP w rn E (X ++ [.row 52 2 false (TR ++ [[i64 2, i64 v]])]) ++ [.row 52 2 false [[i64 2, i64 v]]] = rfP w rn E (X ++ [.row 52 2 false (TR ++ [[i64 2, i64 v]]), .row 52 2 false [[i64 2, i64 v]]]) := by simp [rfP]
      rw [ha] at htr
      exact ⟨htr, trivial⟩
    · cases h1
  · simp only [r2S, rfP]
    repeat refine Wp.a ?_
    refine Wp.i ?_ ?_ <;> intro h1
    · simp at h1
    · exact Wp.exit ⟨rfl, rfl⟩
theorem rf_minv (N : Nat) : MInv 52 2 2 (List.replicate N ownR) (rfE N) (rfX N) := by
  have hg : ∀ k, k < N → (rfE N)[k]? = some [.own (2 * k + 2) 24] := fun k hk => by
    unfold rfE
    simp [hk]
  have hx : ∀ n k, k < n → (rfX n)[2 * k]? = some (.row 52 2 false ownR) := by
    intro n
    induction n with
    | zero => intro k hk; omega
    | succ n ih =>
      intro k hk
      rw [rfX]
      by_cases hkn : k < n
      · rw [List.getElem?_append_left (by rw [rfX_len]; omega)]
        exact ih k hkn
      · have : k = n := by omega
        subst this
        rw [List.getElem?_append_right (by rw [rfX_len]; omega), rfX_len, Nat.sub_self]
        rfl
  refine ⟨by rw [rfE_len, List.length_replicate], fun k r hk => ?_, fun k k' id n n' h1 h2 => ?_, fun L hL => rfX_blw N (by rw [rfX_len] at hL; omega)⟩
  · rw [List.getElem?_replicate] at hk
    split at hk
    · rename_i hkN
      cases hk
      refine ⟨2 * k, ?_, hx N k hkN⟩
      rw [hg k hkN, ownR_len]
    · cases hk
  · have hk : k < N := by
      have := (List.getElem?_eq_some_iff.1 h1).1
      rwa [rfE_len] at this
    have hk' : k' < N := by
      have := (List.getElem?_eq_some_iff.1 h2).1
      rwa [rfE_len] at this
    rw [hg k hk] at h1
    rw [hg k' hk'] at h2
    simp at h1 h2
    omega
structure KInv (E : List (List U)) (ti : Nat) (tr : List (List U)) (F : List (List FS)) (X : List Ob) : Prop where
  m : MInv 52 2 2 (F.map (·.map fsU)) E X
  t : X[ti]? = some (Ob.row 52 2 false tr)
  apart : ∀ (k n : Nat), ¬ E[k]? = some [U.own (ti + 2) n]
theorem KInv.set {E : List (List U)} {ti : Nat} {tr : List (List U)} {F : List (List FS)} {X : List Ob} (h : KInv E ti tr F X) {n q id : Nat} (hn : n < F.length) (hE : E[n]? = some [U.own (id + 2) F[n].length]) (hX : X[id]? = some (Ob.row 52 2 false (F[n].map fsU))) (x : FS) : KInv E ti tr (set2 F n q x) (X.set id (.row 52 2 false ((F[n].map fsU).set q (fsU x)))) := by
  have hne : ¬ id = ti := fun e => by
    subst e
    exact h.apart _ _ hE
  refine ⟨?_, ?_, h.apart⟩
  · rw [map_set2 F n q hn]
    exact h.m.set (by rw [List.getElem?_map, List.getElem?_eq_getElem hn]; rfl) (by rw [List.length_map]; exact hE) hX _ (by simp)
  · rw [List.getElem?_set_ne hne]
    exact h.t
def r5S (p : Bool) (l : List Ins) (w : Way) (rn : List RNode) (E : List (List U)) (ti m i : Nat) (B : List (List Bool)) (n q : Nat) (X : List Ob) : S :=
  ⟨[(0, insL p l), (3, .bp 0 0), (5, .own 1 rn.length), (9, .own (ti + 2) m), (12, i64 i), (13, rowsB true B), (14, i64 n), (15, i64 q)], rfP w rn E X⟩
set_option maxHeartbeats 16000000 in
theorem r5_step (p : Bool) (l : List Ins) (w : Way) (rn : List RNode) (E : List (List U)) (ti i : Nat) (tr : List (List U)) (c : FS) (htr : tr[i]? = some (fsU c)) (B : List (List Bool)) (hB : B.length = rn.length) (hBr : ∀ n, n < rn.length → (B.getD n []).length = 24) (F : List (List FS)) (X : List Ob) (hK : KInv E ti tr F X) (hF : F.length = rn.length) (hrow : ∀ n, n < rn.length → (F.getD n []).length = 24) (n q : Nat) (hn : n < rn.length) (hq : q < 24) (R : S → Prop) (Bk : Nat → S → Prop) :
    Wp T c_joineryref11_Facts_L5 (r5S p l w rn E ti tr.length i B n q X) (fun s' => ∃ X', trimO (X.length + 1 + 1) s' = r5S p l w rn E ti tr.length i B n (q + 1) X' ∧ KInv E ti tr (ofStep B c F n q) X' ∧ X'.length = X.length) R Bk := by
  have hnF : n < F.length := by omega
  have hnB : n < B.length := by omega
  have hn' : (n : Int) < rn.length := by omega
  have hnB' : (n : Int) < B.length := by omega
  have hq' : (q : Int) < 24 := by omega
  have hil := (List.getElem?_eq_some_iff.1 htr).1
  have hi' : (i : Int) < tr.length := by omega
  have hr24 := hrow n hn
  have hFm : F.getD n [] = F[n] := by simp [hnF]
  rw [hFm] at hr24
  have hb24 := hBr n hn
  have hBm : B.getD n [] = B[n] := by simp [hnB]
  rw [hBm] at hb24
  have hbl : (bitsR B[n]).length = 24 := by rw [← hb24]; simp [bitsR]
  have hBn : B[n]? = some B[n] := List.getElem?_eq_getElem hnB
  have hbr : (bitsR B[n])[q]? = some [.bool (getB B n q)] := by
    unfold getB bitsR
    rw [hBm, List.getElem?_map, List.getElem?_eq_getElem (by omega), List.getD_eq_getElem?_getD, List.getElem?_eq_getElem (by omega)]
    rfl
  obtain ⟨id, c1, c2⟩ := hK.m.cell n (F[n].map fsU) (by rw [List.getElem?_map, List.getElem?_eq_getElem hnF]; rfl)
  rw [List.length_map] at c1
  have hset := hK.set (q := q) hnF c1 c2 c
  rw [hr24] at c1
  have hRl : (F[n].map fsU).length = 24 := by rw [List.length_map]; exact hr24
  have hRq : ∃ o, (F[n].map fsU)[q]? = some (fsU o) := ⟨F[n][q], by rw [List.getElem?_map, List.getElem?_eq_getElem (by omega)]; rfl⟩
  obtain ⟨o, hRq⟩ := hRq
  have hEl : E.length = rn.length := by rw [hK.m.len, List.length_map]; exact hF
  have ht := hK.t
  have hid := (List.getElem?_eq_some_iff.1 c2).1
  have hti := (List.getElem?_eq_some_iff.1 ht).1
  unfold ofStep
  generalize getB B n q = v at *
  generalize B[n] = r at *
  generalize F[n].map fsU = RW at *
  obtain ⟨a, b⟩ := c
  obtain ⟨oa, ob⟩ := o
  simp only [r5S, rfP]
  (have := fa hq'; repeat refine Wp.f ?_)
  refine Wp.i ?_ ?_ <;> intro h1
  · (have := fa (a5 @rowsB.eq_1 hnB' hBn hbl (a2 hbr hq')); repeat refine Wp.f ?_)
    cases v with
    | false =>
      rw [if_neg (by simp)]
      refine Wp.i ?_ ?_ <;> intro h2
      · cases h2
      · (have := fa @wrap_id; repeat refine Wp.f ?_)
        exact ⟨X, trimO_len rfl, hK, rfl⟩
    | true =>
      rw [if_pos rfl]
      refine Wp.i ?_ ?_ <;> intro h2
      · apply Wp.draw; ((simp [c_joineryref11_Facts_D4, I.need]) <;> rfl); ((simp [hEl, hn', c1, c2, ht, htr, hi', hq', hRl, hRq, fsU]) <;> rfl); ((simp [hEl, hn', c1, c2, ht, htr, hi', hq', hRl, hRq, fsU]) <;> rfl); unfold c_joineryref11_Facts_D4
        repeat (first | ((first | apply Dr.op | apply Dr.opN | (apply Dr.opG; exact rfl)); ((simp [hEl, hn', c1, c2, ht, htr, hi', hq', hRl, hRq, fsU]) <;> rfl); (apply Evt.all; intro; (simp [hEl, hn', c1, c2, ht, htr, hi', hq', hRl, hRq, fsU]) <;> (try simp (disch := omega) only [wrap_id]) <;> first | exact ⟨rfl, rfl⟩ | exact rfl); ((simp [I.need]) <;> rfl)) | ((first | (apply Dr.opS; exact rfl; decide) | (apply Dr.opS0; exact rfl)); ((simp [I.need]) <;> rfl)))
        exact Dr.nil
        · simp [chkD, aside, tmpInd, ind, c_joineryref11_Facts_D4, touchX, touchE, elems, rowAt, O.uses, I.uses, M2.A.uses]
          exact ⟨by decide, by decide, ⟨by decide, by decide⟩, by decide, ⟨by decide, by decide⟩, .inl (by decide), by decide, by decide⟩
        · (simp [M2.keep]) <;> rfl
        (have := fa @wrap_id; repeat refine Wp.f ?_)
        refine ⟨X.set id (.row 52 2 false (RW.set q (fsU (a, b)))), ?_, hset, List.length_set ..⟩
        exact trimO_len (by simp)
      · cases h2
  · cases h1
section
variable {p : Bool} {l : List Ins} {w : Way} {rn : List RNode} {to : Nat → List Edge} {f : Edge → Nat → FS}
set_option maxHeartbeats 8000000 in
theorem r5_loop (E : List (List U)) (ti i : Nat) (tr : List (List U)) (c : FS) (htr : tr[i]? = some (fsU c)) (cs : List FS) (F : List (List FS)) (X : List Ob) (n : Nat) (hn : n < rn.length) (hO : OInv rn.length to f cs c F n 0) (hK : KInv E ti tr F X) :
    Wp T (.loop c_joineryref11_Facts_L5) (r5S p l w rn E ti tr.length i (saidB rn.length to f c) n 0 X) (fun _ => False) (fun _ => False) (fun b s' => b = 10 ∧ ∃ (F' : List (List FS)) (X' : List Ob), OInv rn.length to f cs c F' n 24 ∧ KInv E ti tr F' X' ∧ X'.length = X.length ∧
      s' = ⟨[(0, insL p l), (3, .bp 0 0), (5, .own 1 rn.length), (9, .own (ti + 2) tr.length), (12, i64 i), (13, rowsB true (saidB rn.length to f c)), (14, i64 n), (15, i64 (24 : Nat)), (74, .bool false)], rfP w rn E X'⟩) := by
  have hBl : (saidB rn.length to f c).length = rn.length := by simp [saidB]
  refine Wp.loop (fun y : Nat × List (List FS) × List Ob => 24 - y.1) (fun y => r5S p l w rn E ti tr.length i (saidB rn.length to f c) n y.1 y.2.2) (fun y => y.1 ≤ 24 ∧ OInv rn.length to f cs c y.2.1 n y.1 ∧ KInv E ti tr y.2.1 y.2.2 ∧ y.2.2.length = X.length) (fun y ⟨hq, hs, hg, hl⟩ => ?_) (0, F, X) ⟨by simp, hO, hK, rfl⟩
  obtain ⟨q, F, Y⟩ := y
  simp only at hq hs hg hl ⊢
  by_cases hq24 : q < 24
  · have hst := r5_step p l w rn E ti i tr c htr (saidB rn.length to f c) hBl (fun n hn => saidB_row hn) F Y hg hs.len hs.row n q hn hq24
    have hnx := hs.step (B := saidB rn.length to f c) saidB_spec hn hq24
    refine (hst _ _).imp (fun s' h => ?_) (fun _ h => h) (fun _ _ h => h)
    obtain ⟨X', h1, h2, h3⟩ := h
    exact ⟨(q + 1, ofStep (saidB rn.length to f c) c F n q, X'), h1, by simp only; omega, by simp only; omega, hnx, h2, by simp only; omega⟩
  · have hq2 : q = 24 := by omega
    subst hq2
    simp only [r5S, rfP]
    repeat refine Wp.a ?_
    refine Wp.i ?_ ?_ <;> intro h1
    · cases h1
    · exact Wp.exit ⟨rfl, F, Y, hs, hg, hl, rfl⟩
def r6S (p : Bool) (l : List Ins) (w : Way) (rn : List RNode) (E : List (List U)) (ti m i : Nat) (B : List (List Bool)) (n : Nat) (X : List Ob) : S :=
  ⟨[(0, insL p l), (3, .bp 0 0), (5, .own 1 rn.length), (9, .own (ti + 2) m), (12, i64 i), (13, rowsB true B), (14, i64 n)], rfP w rn E X⟩
set_option maxHeartbeats 8000000 in
theorem r6_loop (hrn : rn.length ≤ 200) (E : List (List U)) (ti i : Nat) (tr : List (List U)) (c : FS) (htr : tr[i]? = some (fsU c)) (cs : List FS) (F : List (List FS)) (X : List Ob) (hO : OInv rn.length to f cs c F 0 0) (hK : KInv E ti tr F X) :
    Wp T (.loop c_joineryref11_Facts_L6) (r6S p l w rn E ti tr.length i (saidB rn.length to f c) 0 X) (fun _ => False) (fun _ => False) (fun b s' => b = 8 ∧ ∃ (F' : List (List FS)) (X' : List Ob), OInv rn.length to f cs c F' rn.length 0 ∧ KInv E ti tr F' X' ∧ X'.length = X.length ∧
      s' = ⟨[(0, insL p l), (3, .bp 0 0), (5, .own 1 rn.length), (9, .own (ti + 2) tr.length), (12, i64 i), (13, rowsB true (saidB rn.length to f c)), (14, i64 (rn.length : Nat)), (70, .bool false)], rfP w rn E X'⟩) := by
  have hBl : (saidB rn.length to f c).length = rn.length := by simp [saidB]
  refine Wp.loop (fun y : Nat × List (List FS) × List Ob => rn.length - y.1) (fun y => r6S p l w rn E ti tr.length i (saidB rn.length to f c) y.1 y.2.2) (fun y => y.1 ≤ rn.length ∧ OInv rn.length to f cs c y.2.1 y.1 0 ∧ KInv E ti tr y.2.1 y.2.2 ∧ y.2.2.length = X.length) (fun y ⟨hn, hs, hg, hl⟩ => ?_) (0, F, X) ⟨by simp, hO, hK, rfl⟩
  obtain ⟨n, F, Y⟩ := y
  simp only at hn hs hg hl ⊢
  by_cases hn2 : n < rn.length
  · have hn' : (n : Int) < rn.length := by omega
    have hlp := r5_loop (p := p) (l := l) (w := w) E ti i tr c htr cs F Y n hn2 hs hg
    simp only [r6S, rfP]
    (have := fa (a3 @rowsB.eq_1 hBl hn'); repeat refine Wp.f ?_)
    refine Wp.i ?_ ?_ <;> intro h1
    · repeat refine Wp.a ?_
      refine (show Wp T (.loop c_joineryref11_Facts_L5) (r5S p l w rn E ti tr.length i (saidB rn.length to f c) n 0 Y) _ _ _ from hlp.imp (fun _ h => h.elim) (fun _ h => h.elim) ?_)
      rintro b s ⟨rfl, F', X', h3, h4, h5, rfl⟩
      rw [if_pos rfl]
      simp only [rfP]
      (have := fa @wrap_id; repeat refine Wp.f ?_)
      refine ⟨(n + 1, F', X'), ?_, by simp only; omega, by simp only; omega, h3.next, h4, by simp only; omega⟩
      exact trimO_len (by simp [h5])
    · cases h1
  · have hn3 : n = rn.length := by omega
    subst hn3
    simp only [r6S, rfP]
    (have := fa (a2 @rowsB.eq_1 hBl); repeat refine Wp.f ?_)
    refine Wp.i ?_ ?_ <;> intro h1
    · simp at h1
    · exact Wp.exit ⟨rfl, F, Y, hs, hg, hl, rfl⟩
def r7S (p : Bool) (l : List Ins) (w : Way) (rn : List RNode) (E : List (List U)) (ti m i : Nat) (X : List Ob) : S :=
  ⟨[(0, insL p l), (3, .bp 0 0), (5, .own 1 rn.length), (9, .own (ti + 2) m), (12, i64 i)], rfP w rn E X⟩
theorem pf41 : pfT T 41 = true := rfl
set_option maxHeartbeats 8000000 in
theorem r7_loop (hrn : rn.length ≤ 200) (E : List (List U)) (ti : Nat) (cs : List FS) (hcs : cs.length ≤ 1000) (hsd : ∀ c ∈ cs, SaidOK p l w rn c to f) (F : List (List FS)) (X : List Ob) (hFl : F.length = rn.length) (hFr : ∀ n, n < rn.length → (F.getD n []).length = 24) (hO : ∀ n q, n < rn.length → q < 24 → OI rn.length to f [] F n q) (hK : KInv E ti (cs.map fsU) F X) :
    Wp T (.loop c_joineryref11_Facts_L7) (r7S p l w rn E ti cs.length 0 X) (fun _ => False) (fun _ => False) (fun b s' => b = 6 ∧ ∃ (F' : List (List FS)) (X' : List Ob), F'.length = rn.length ∧ (∀ n, n < rn.length → (F'.getD n []).length = 24) ∧ (∀ n q, n < rn.length → q < 24 → OI rn.length to f cs F' n q) ∧ KInv E ti (cs.map fsU) F' X' ∧
      s' = ⟨[(0, insL p l), (3, .bp 0 0), (5, .own 1 rn.length), (9, .own (ti + 2) cs.length), (12, i64 (cs.length : Nat)), (57, .bool false)], rfP w rn E X'⟩) := by
  refine Wp.loop (fun y : Nat × List (List FS) × List Ob => cs.length - y.1) (fun y => r7S p l w rn E ti cs.length y.1 y.2.2) (fun y => y.1 ≤ cs.length ∧ y.2.1.length = rn.length ∧ (∀ n, n < rn.length → (y.2.1.getD n []).length = 24) ∧ (∀ n q, n < rn.length → q < 24 → OI rn.length to f (cs.take y.1) y.2.1 n q) ∧ KInv E ti (cs.map fsU) y.2.1 y.2.2) (fun y ⟨hi, h1, h2, h3, h4⟩ => ?_) (0, F, X) ⟨by simp, hFl, hFr, by simpa using hO, hK⟩
  obtain ⟨i, F, Y⟩ := y
  simp only at hi h1 h2 h3 h4 ⊢
  have ht := h4.t
  have htl : (cs.map fsU).length = cs.length := List.length_map ..
  by_cases hi2 : i < cs.length
  · have hi' : (i : Int) < cs.length := by omega
    have hci : (cs.map fsU)[i]? = some (fsU cs[i]) := by rw [List.getElem?_map, List.getElem?_eq_getElem hi2]; rfl
    have hsaid := said_call hrn (hsd _ (List.getElem_mem hi2))
    have hlp := r6_loop (p := p) (l := l) (w := w) hrn E ti i (cs.map fsU) cs[i] hci (cs.take i) F Y ⟨h1, h2, fun m q _ _ h => by omega, fun m q hm hq _ => h3 m q hm hq⟩ h4
    rw [htl] at hlp
    have htk : cs.take (i + 1) = cs.take i ++ [cs[i]] := List.take_succ_eq_append_getElem hi2
    generalize cs[i] = c at *
    generalize cs.map fsU = tr at *
    have r3 : (rskelU w rn).take 3 = rskelU w rn := rfl
    have r3l : (rskelU w rn).length = 3 := rfl
    have hpp := plain_rskel w rn
    have hpi : plainU (.sl p (l.map insU)) = true := rfl
    have hpf : plainU (.agg (fsU c)) = true := rfl
    have c2l : (fsU c).length = 2 := rfl
    have c2t : (fsU c).take 2 = fsU c := rfl
    simp only [r7S, rfP]
    (have := fa (a3 ht htl hi'); repeat refine Wp.f ?_)
    refine Wp.i ?_ ?_ <;> intro hc
    · repeat refine Wp.a ?_
      refine Wp.draw (by (simp [c_joineryref11_Facts_D3, I.need]) <;> rfl) (by (simp [insL, ht, htl, hi', hci, r3, r3l, c2l, c2t, pf41, -plainU, hpp, hpi, hpf]) <;> rfl) (by (simp [insL, ht, htl, hi', hci, r3, r3l, c2l, c2t, pf41, -plainU, hpp, hpi, hpf]) <;> rfl) (by (unfold c_joineryref11_Facts_D3); (repeat (first | ((first | apply Dr.op | apply Dr.opN | (apply Dr.opG; exact rfl)); ((simp [insL, ht, htl, hi', hci, r3, r3l, c2l, c2t, pf41, -plainU, hpp, hpi, hpf]) <;> rfl); (apply Evt.all; intro; (simp [insL, ht, htl, hi', hci, r3, r3l, c2l, c2t, pf41, -plainU, hpp, hpi, hpf]) <;> (try simp (disch := omega) only [wrap_id]) <;> first | exact ⟨rfl, rfl⟩ | exact rfl); ((simp [I.need]) <;> rfl)) | ((first | (apply Dr.opS; exact rfl; decide) | (apply Dr.opS0; exact rfl)); ((simp [I.need]) <;> rfl)) | (apply Dr.call; ((simp [insL, ht, htl, hi', hci, r3, r3l, c2l, c2t, pf41, -plainU, hpp, hpi, hpf]) <;> rfl); exact hsaid _) | (apply Dr.callG; (exact rfl); ((simp [insL, ht, htl, hi', hci, r3, r3l, c2l, c2t, pf41, -plainU, hpp, hpi, hpf]) <;> rfl); exact hsaid _))); exact Dr.nil) (by (simp [chkD, aside, tmpInd, ind, c_joineryref11_Facts_D3, touchX, touchE, elems, rowAt, O.uses, I.uses, M2.A.uses]) <;> (try decide)) (by (simp [M2.keep]) <;> rfl) ?_
      repeat refine Wp.a ?_
      refine (show Wp T (.loop c_joineryref11_Facts_L6) (r6S p l w rn E ti cs.length i (saidB rn.length to f c) 0 Y) _ _ _ from hlp.imp (fun _ h => h.elim) (fun _ h => h.elim) ?_)
      rintro b s ⟨rfl, F', X', h5, h6, h7, rfl⟩
      rw [if_pos rfl]
      simp only [rfP]
      (have := fa @wrap_id; repeat refine Wp.f ?_)
      refine ⟨(i + 1, F', X'), ?_, by simp only; omega, by simp only; omega, h5.len, h5.row, fun n q hn hq => ?_, h6⟩
      · exact trimO_len (by simp [h7])
      · simp only
        rw [htk]
        exact h5.new n q hn hq (by omega)
    · cases hc
  · have hi3 : i = cs.length := by omega
    subst hi3
    rw [List.take_of_length_le (Nat.le_refl _)] at h3
    simp only [r7S, rfP]
    (have := fa (a2 ht htl); repeat refine Wp.f ?_)
    refine Wp.i ?_ ?_ <;> intro hc
    · simp at hc
    · exact Wp.exit ⟨rfl, F, Y, h1, h2, h3, h4, rfl⟩
end
theorem tries_eq (l : List Ins) : (tryF l).map fsU = triesR (numsF l) (numsF l).length := by
  unfold tryF triesR
  rw [List.take_of_length_le (Nat.le_refl _), List.map_cons, List.map_map]
  rfl
theorem nums_len (l : List Ins) : (numsF l).length ≤ l.length := by
  have h : (numsF l).length ≤ ([] : List Int).length + l.length := nuStep_len l []
  simpa using h
set_option maxHeartbeats 16000000 in
theorem rfacts_call (p : Bool) (l : List Ins) (hr : rightF l = true) (cut : List Bool) (st : List Ob) : Cl T n_joineryref11_Facts [insL p l, .agg (rskelU (wE l) (rnE l cut))] st (.sl true (factsU l cut)) st := by
  refine Wp.pure (fn := c_joineryref11_Facts) rfl rfl rfl («as» := [insL p l, .agg (rskelU (wE l) (rnE l cut))]) rfl ?_
  obtain ⟨f1, f2, f3⟩ := skel_facts (cut := cut) hr
  have h200 := (right_facts hr).1
  have hN : (rnE l cut).length = (pNodes l cut).length := List.length_map ..
  have hrn : (rnE l cut).length ≤ 200 := by rw [hN]; exact f1
  have hto := fun (n : Nat) st => to_call (wE l) (rnE l cut) hrn (fun x hx => by
    obtain ⟨y, hy, rfl⟩ := List.mem_map.1 hx
    exact (f2 y hy).1) n st
  have hsd : ∀ c ∈ tryF l, SaidOK p l (wE l) (rnE l cut) c (toF (wE l) (rnE l cut)) (byF l (wE l) (rnE l cut)) := fun c hc => ⟨try_cst c hc, by_ok hr cut, toF_len hr cut, hto, fun n e he q hq st => rby_call p hr cut he q hq st⟩
  have hdone := fun (F : List (List FS)) h1 h2 h3 => outs_done hr (cut := cut) (out := F) h1 h2 h3
  have hfE : (factsU l cut) = ((List.range (rnE l cut).length).map fun n => (List.range 24).map (factF l cut n)).map fun r => [.sl true (r.map fsU)] := by rw [hN]; simp [factsU, rowU, Function.comp_def]
  rw [hfE]
  generalize hfm : ((List.range (rnE l cut).length).map fun n => (List.range 24).map (factF l cut n)) = FM at *
  have hnl := nums_len l
  have htr := tries_eq l
  have hcl : (tryF l).length = (numsF l).length + 1 := by simp [tryF]
  have hnum := numbers_call p l h200
  generalize toF (wE l) (rnE l cut) = to at *
  generalize byF l (wE l) (rnE l cut) = f at *
  generalize rnE l cut = rn at *
  generalize wE l = w at *
  generalize tryF l = cs at *
  generalize numsF l = nums at *
  have hlp1 := r1_loop p l w rn hrn
  have hmi := rf_minv rn.length
  have hEl := rfE_len rn.length
  repeat refine Wp.a ?_
  refine (show Wp T (.loop c_joineryref11_Facts_L1) (r1S p l w rn 0) _ _ _ from hlp1.imp (fun _ h => h.elim) (fun _ h => h.elim) ?_)
  rintro b s ⟨rfl, rfl⟩
  rw [if_pos rfl]
  generalize rfE rn.length = E at *
  generalize rfX rn.length = X at *
  have hE : ∀ x ∈ E, x.all (blw blwD (X.length + 1 + 1 + 1)) = true := hmi.ups (by omega)
  have hX : X.all (Ob.blw (X.length + 1 + 1 + 1)) = true := hmi.xs _ (by omega)
  have hap : ∀ (k n : Nat), ¬ E[k]? = some [U.own (X.length + 2) n] := fun k n h => by
    have hk := (List.getElem?_eq_some_iff.1 h).1
    obtain ⟨id, c1, c2⟩ := hmi.cell k ownR (by rw [List.getElem?_replicate, if_pos (by omega)])
    rw [h] at c1
    have := (List.getElem?_eq_some_iff.1 c2).1
    simp at c1
    omega
  have hlp2 := r2_loop p l w rn E rn.length X hE hX nums (by omega)
  have hF0 : (List.replicate rn.length ownR) = (((List.range rn.length).map fun _ => (List.range 24).map fun p : Nat => ((4, (p : Int)) : FS)).map (·.map fsU)) := by
    rw [List.map_map]
    refine List.ext_getElem (by simp) fun i h1 h2 => ?_
    simp [ownR, fsU, Function.comp_def]
  have hK : KInv E X.length (cs.map fsU) ((List.range rn.length).map fun _ => (List.range 24).map fun p : Nat => ((4, (p : Int)) : FS)) (X ++ [.row 52 2 false (triesR nums nums.length)]) := by
    refine ⟨?_, ?_, hap⟩
    · rw [← hF0]
      exact hmi.push _ (fun L _ => rfl)
    · rw [List.getElem?_append_right (Nat.le_refl _), Nat.sub_self, htr]
      rfl
  have ho0 := oinv0 (N := rn.length) (to := to) (b := f) (c := (0, 0))
  have hlp7 := r7_loop (p := p) (l := l) (w := w) hrn E X.length cs (by omega) hsd _ _ ho0.len ho0.row (fun n q hn hq => ho0.old n q hn hq (by omega)) hK
  rw [hcl] at hlp7
  simp only [rfP]
  repeat refine Wp.a ?_
  apply Wp.call
  · exact hnum _
  repeat refine Wp.a ?_
  refine (show Wp T (.loop c_joineryref11_Facts_L2) (r2S p l w rn E rn.length X.length nums 0 (X ++ [.row 52 2 false (triesR nums 0)])) _ _ _ from hlp2.imp (fun _ h => h.elim) (fun _ h => h.elim) ?_)
  rintro b s ⟨rfl, rfl⟩
  rw [if_pos rfl]
  simp only [rfP]
  repeat refine Wp.a ?_
  refine (show Wp T (.loop c_joineryref11_Facts_L7) (r7S p l w rn E X.length (nums.length + 1) 0 (X ++ [.row 52 2 false (triesR nums nums.length)])) _ _ _ from hlp7.imp (fun _ h => h.elim) (fun _ h => h.elim) ?_)
  rintro b s ⟨rfl, F', X', h1, h2, h3, h4, rfl⟩
  rw [if_pos rfl]
  have hF := hdone F' h1 h2 h3
  subst hF
  simp only [rfP]
  repeat refine Wp.a ?_
  refine Wp.ret ?_
  have hz := mat_frozen (tag := 52) (es := 2) (base := 2) (tg := 50) (rid := 1) (M := F'.map (·.map fsU)) (E := E) (st := rfP w rn E X') rfl (by omega) h4.m.len (fun k r hk => by
    obtain ⟨id, c1, c2⟩ := h4.m.cell k r hk
    exact ⟨id + 2, by omega, c1, c2⟩)
  rw [List.length_map, h1] at hz
  simp only [Res, resU, res1, c_joineryref11_Facts, M2.allM, Option.bind_some]
  refine hz.trans ?_
  simp
end Go.Proofs.YtcehbpimdngjfaaDoor.M2
