/- RefineApart: which two things can be told apart is what the document says. No condition. -/
import Derived.Test.YtaefnggoempdlaaClaw3
import Derived.Test.YtaefnggoempdlaaCd
set_option linter.unusedSimpArgs false
set_option linter.unusedVariables false
set_option linter.unusedSectionVars false
/- The law RefineApart in M2. -/
namespace Go.Proofs.Ytaefnggoempdlaa.M2
open Go
attribute [local simp] ev1 M2.get put A.ev ld sub part elems bin arith un opt idx fillC cellsO splice over newOb sto fillR laidOwn appTo appRow touch touchN touchM touchE touchA plainU flatU plainAs allM rowAt stoRow accM_nil accM_cons accMM_nil accMM_cons frz_int frz_bool frz_str frz_slt frz_nils frz_nilI frz_nilF frz_own frzRow_row frzRow_frow Ob.blw blw_bool blw_int blw_str blw_nils blw_nilI blw_nilF blw_nilp blw_nilm blw_sl blw_own blw_bp blw_rp blw_mp blw_it params
attribute [local simp] beq_dec bne_dec

theorem apartF_out {C : List Nat} {i k : Int} (h : i < 0 ∨ k < 0 ∨ (C.length : Int) ≤ i ∨ (C.length : Int) ≤ k) : apartF C i k = !decide (i = k) := by
  unfold apartF
  rcases h with h | h | h | h <;> rw [decide_eq_true h] <;> simp
theorem apartF_in {C : List Nat} {a b : Nat} (ha : a < C.length) (hb : b < C.length) : apartF C a b = !decide (C.getD a 0 = C.getD b 0) := by
  have h1 : ¬ (a : Int) < 0 := by omega
  have h2 : ¬ (b : Int) < 0 := by omega
  have h3 : ¬ (C.length : Int) ≤ a := by omega
  have h4 : ¬ (C.length : Int) ≤ b := by omega
  unfold apartF
  rw [decide_eq_false h1, decide_eq_false h2, decide_eq_false h3, decide_eq_false h4, Int.toNat_natCast, Int.toNat_natCast]
  by_cases h : (a : Int) = b
  · have : a = b := by omega
    subst this
    simp
  · have : decide ((a : Int) ≠ b) = true := decide_eq_true h
    rw [this]
    by_cases h' : C.getD a 0 = C.getD b 0
    · rw [h']; simp
    · rw [decide_eq_false h']; simpa using h'
theorem law4_call (l : List Row) (i k : Int) (hlen : l.length < 9223372036854775808) : Cl T 4 [rowsU false l, i64 i, i64 k] [] (.bool true) [] := by
  refine Wp.pure (fn := c_joinerylaw12_RefineApart) rfl rfl rfl («as» := [rowsU false l, i64 i, i64 k]) rfl ?_
  repeat (first | apply Wp.seq | apply Wp.skip | apply Wp.block | (apply Wp.op0; ((simp [M2.keep]) <;> rfl)) | (apply Wp.op; (apply Evt.all; intro; (simp []) <;> (try simp (disch := omega) only [wrap_id]) <;> first | exact ⟨rfl, rfl⟩ | exact rfl)) | (apply Wp.opN; (apply Evt.all; intro; (simp []) <;> (try simp (disch := omega) only [wrap_id]) <;> first | exact ⟨rfl, rfl⟩ | exact rfl)) | (apply Wp.opG; (exact rfl); (apply Evt.all; intro; (simp []) <;> (try simp (disch := omega) only [wrap_id]) <;> first | exact ⟨rfl, rfl⟩ | exact rfl)) | (apply Wp.opS; (exact rfl); decide) | (apply Wp.opS0; (exact rfl)))
  apply Wp.call
  · exact great_call l false [] hlen
  repeat (first | apply Wp.seq | apply Wp.skip | apply Wp.block | (apply Wp.op0; ((simp [M2.keep]) <;> rfl)) | (apply Wp.op; (apply Evt.all; intro; (simp []) <;> (try simp (disch := omega) only [wrap_id]) <;> first | exact ⟨rfl, rfl⟩ | exact rfl)) | (apply Wp.opN; (apply Evt.all; intro; (simp []) <;> (try simp (disch := omega) only [wrap_id]) <;> first | exact ⟨rfl, rfl⟩ | exact rfl)) | (apply Wp.opG; (exact rfl); (apply Evt.all; intro; (simp []) <;> (try simp (disch := omega) only [wrap_id]) <;> first | exact ⟨rfl, rfl⟩ | exact rfl)) | (apply Wp.opS; (exact rfl); decide) | (apply Wp.opS0; (exact rfl)))
  cases hg : great l with
  | true =>
    refine Wp.cond (by first | rfl | (simp; rfl)) (fun ht => ?_) (fun ht => ?_)
    · repeat (first | apply Wp.seq | apply Wp.skip | apply Wp.block | (apply Wp.op0; ((simp [M2.keep]) <;> rfl)) | (apply Wp.op; (apply Evt.all; intro; (simp []) <;> (try simp (disch := omega) only [wrap_id]) <;> first | exact ⟨rfl, rfl⟩ | exact rfl)) | (apply Wp.opN; (apply Evt.all; intro; (simp []) <;> (try simp (disch := omega) only [wrap_id]) <;> first | exact ⟨rfl, rfl⟩ | exact rfl)) | (apply Wp.opG; (exact rfl); (apply Evt.all; intro; (simp []) <;> (try simp (disch := omega) only [wrap_id]) <;> first | exact ⟨rfl, rfl⟩ | exact rfl)) | (apply Wp.opS; (exact rfl); decide) | (apply Wp.opS0; (exact rfl)))
      apply Wp.call
      · exact knows_call _
      repeat (first | apply Wp.seq | apply Wp.skip | apply Wp.block | (apply Wp.op0; ((simp [M2.keep]) <;> rfl)) | (apply Wp.op; (apply Evt.all; intro; (simp []) <;> (try simp (disch := omega) only [wrap_id]) <;> first | exact ⟨rfl, rfl⟩ | exact rfl)) | (apply Wp.opN; (apply Evt.all; intro; (simp []) <;> (try simp (disch := omega) only [wrap_id]) <;> first | exact ⟨rfl, rfl⟩ | exact rfl)) | (apply Wp.opG; (exact rfl); (apply Evt.all; intro; (simp []) <;> (try simp (disch := omega) only [wrap_id]) <;> first | exact ⟨rfl, rfl⟩ | exact rfl)) | (apply Wp.opS; (exact rfl); decide) | (apply Wp.opS0; (exact rfl)))
      refine Wp.ret ?_; simp [Res, resU, res1, c_joinerylaw12_RefineApart]
    · cases ht
  | false =>
    obtain ⟨hl, hs, h60⟩ := great_false hg
    obtain ⟨C, hC, h1⟩ := final_calls false l hl hs
    obtain ⟨M, ⟨hM, hMC⟩, h2, _⟩ := ref_calls hC hl hs
    have hCl := hC.len
    refine Wp.cond (by first | rfl | (simp; rfl)) (fun ht => ?_) (fun ht => ?_)
    · cases ht
    repeat (first | apply Wp.seq | apply Wp.skip | apply Wp.block | (apply Wp.op0; ((simp [M2.keep]) <;> rfl)) | (apply Wp.op; (apply Evt.all; intro; (simp []) <;> (try simp (disch := omega) only [wrap_id]) <;> first | exact ⟨rfl, rfl⟩ | exact rfl)) | (apply Wp.opN; (apply Evt.all; intro; (simp []) <;> (try simp (disch := omega) only [wrap_id]) <;> first | exact ⟨rfl, rfl⟩ | exact rfl)) | (apply Wp.opG; (exact rfl); (apply Evt.all; intro; (simp []) <;> (try simp (disch := omega) only [wrap_id]) <;> first | exact ⟨rfl, rfl⟩ | exact rfl)) | (apply Wp.opS; (exact rfl); decide) | (apply Wp.opS0; (exact rfl)))
    apply Wp.call
    · exact apart_call false l C _ i k h1 hCl
    by_cases hout : i < 0 ∨ k < 0 ∨ (C.length : Int) ≤ i ∨ (C.length : Int) ≤ k
    · rw [apartF_out hout]
      rw [hCl] at hout
      have fin : ∀ e : Env, M2.get e 7 = .bool (!decide (i = k)) → M2.get e 1 = i64 i → M2.get e 2 = i64 k → M2.get e 32 = .bool true → Wp T (.cond (.t 32) (.seq (.ops [
  ⟨(some 33), .mov (.t 7), none⟩,
  ⟨(some 34), .mov (.t 1), none⟩,
  ⟨(some 35), .mov (.t 2), none⟩,
  ⟨(some 36), .bin .neq (.t 34) (.t 35), none⟩,
  ⟨(some 37), .eq false .tb (.t 33) (.t 36), none⟩,
  ⟨(some 38), .mov (.t 37), none⟩,
  ⟨(some 39), .call 10 [], (some (38, true))⟩,
  ⟨(some 40), .pick (.t 38) (.t 39) (.k (.bool false)), none⟩,
  ⟨(some 6), .mov (.t 40), none⟩] [6])
 .ret)
 .skip) ⟨e, []⟩ (fun _ => False) (Res c_joinerylaw12_RefineApart (.bool true)) (fun _ _ => False) := by
        intro e e7 e1 e2 e32
        refine Wp.cond (t := true) (by exact e32) (fun _ => ?_) (fun h => by cases h)
        repeat (first | apply Wp.seq | apply Wp.skip | apply Wp.block | (apply Wp.op0; ((simp [M2.keep]) <;> rfl)) | (apply Wp.op; (apply Evt.all; intro; (simp [e7, e1, e2, tb_same]) <;> (try simp (disch := omega) only [wrap_id]) <;> first | exact ⟨rfl, rfl⟩ | exact rfl)) | (apply Wp.opN; (apply Evt.all; intro; (simp [e7, e1, e2, tb_same]) <;> (try simp (disch := omega) only [wrap_id]) <;> first | exact ⟨rfl, rfl⟩ | exact rfl)) | (apply Wp.opG; (exact rfl); (apply Evt.all; intro; (simp [e7, e1, e2, tb_same]) <;> (try simp (disch := omega) only [wrap_id]) <;> first | exact ⟨rfl, rfl⟩ | exact rfl)) | (apply Wp.opS; (exact rfl); decide) | (apply Wp.opS0; (exact rfl)))
        apply Wp.callG
        · exact rfl
        · exact knows_call _
        repeat (first | apply Wp.seq | apply Wp.skip | apply Wp.block | (apply Wp.op0; ((simp [M2.keep]) <;> rfl)) | (apply Wp.op; (apply Evt.all; intro; (simp []) <;> (try simp (disch := omega) only [wrap_id]) <;> first | exact ⟨rfl, rfl⟩ | exact rfl)) | (apply Wp.opN; (apply Evt.all; intro; (simp []) <;> (try simp (disch := omega) only [wrap_id]) <;> first | exact ⟨rfl, rfl⟩ | exact rfl)) | (apply Wp.opG; (exact rfl); (apply Evt.all; intro; (simp []) <;> (try simp (disch := omega) only [wrap_id]) <;> first | exact ⟨rfl, rfl⟩ | exact rfl)) | (apply Wp.opS; (exact rfl); decide) | (apply Wp.opS0; (exact rfl)))
        refine Wp.ret ?_; simp [Res, resU, res1, c_joinerylaw12_RefineApart]
      by_cases c1 : i < 0
      · repeat (first | apply Wp.seq | apply Wp.skip | apply Wp.block | (apply Wp.op0; ((simp [M2.keep]) <;> rfl)) | (apply Wp.op; (apply Evt.all; intro; (simp [c1]) <;> (try simp (disch := omega) only [wrap_id]) <;> first | exact ⟨rfl, rfl⟩ | exact rfl)) | (apply Wp.opN; (apply Evt.all; intro; (simp [c1]) <;> (try simp (disch := omega) only [wrap_id]) <;> first | exact ⟨rfl, rfl⟩ | exact rfl)) | (apply Wp.opG; (exact rfl); (apply Evt.all; intro; (simp [c1]) <;> (try simp (disch := omega) only [wrap_id]) <;> first | exact ⟨rfl, rfl⟩ | exact rfl)) | (apply Wp.opS; (exact rfl); decide) | (apply Wp.opS0; (exact rfl)))
        exact (fin _ rfl rfl rfl rfl).imp (fun _ h => h.elim) (fun _ h => h) (fun _ _ h => h.elim)
      by_cases c2 : k < 0
      · repeat (first | apply Wp.seq | apply Wp.skip | apply Wp.block | (apply Wp.op0; ((simp [M2.keep]) <;> rfl)) | (apply Wp.op; (apply Evt.all; intro; (simp [c1, c2]) <;> (try simp (disch := omega) only [wrap_id]) <;> first | exact ⟨rfl, rfl⟩ | exact rfl)) | (apply Wp.opN; (apply Evt.all; intro; (simp [c1, c2]) <;> (try simp (disch := omega) only [wrap_id]) <;> first | exact ⟨rfl, rfl⟩ | exact rfl)) | (apply Wp.opG; (exact rfl); (apply Evt.all; intro; (simp [c1, c2]) <;> (try simp (disch := omega) only [wrap_id]) <;> first | exact ⟨rfl, rfl⟩ | exact rfl)) | (apply Wp.opS; (exact rfl); decide) | (apply Wp.opS0; (exact rfl)))
        exact (fin _ rfl rfl rfl rfl).imp (fun _ h => h.elim) (fun _ h => h) (fun _ _ h => h.elim)
      by_cases c3 : (l.length : Int) ≤ i
      · repeat (first | apply Wp.seq | apply Wp.skip | apply Wp.block | (apply Wp.op0; ((simp [M2.keep]) <;> rfl)) | (apply Wp.op; (apply Evt.all; intro; (simp [c1, c2, rowsU, c3]) <;> (try simp (disch := omega) only [wrap_id]) <;> first | exact ⟨rfl, rfl⟩ | exact rfl)) | (apply Wp.opN; (apply Evt.all; intro; (simp [c1, c2, rowsU, c3]) <;> (try simp (disch := omega) only [wrap_id]) <;> first | exact ⟨rfl, rfl⟩ | exact rfl)) | (apply Wp.opG; (exact rfl); (apply Evt.all; intro; (simp [c1, c2, rowsU, c3]) <;> (try simp (disch := omega) only [wrap_id]) <;> first | exact ⟨rfl, rfl⟩ | exact rfl)) | (apply Wp.opS; (exact rfl); decide) | (apply Wp.opS0; (exact rfl)))
        exact (fin _ rfl rfl rfl rfl).imp (fun _ h => h.elim) (fun _ h => h) (fun _ _ h => h.elim)
      have c4 : (l.length : Int) ≤ k := by omega
      repeat (first | apply Wp.seq | apply Wp.skip | apply Wp.block | (apply Wp.op0; ((simp [M2.keep]) <;> rfl)) | (apply Wp.op; (apply Evt.all; intro; (simp [c1, c2, rowsU, c3, c4]) <;> (try simp (disch := omega) only [wrap_id]) <;> first | exact ⟨rfl, rfl⟩ | exact rfl)) | (apply Wp.opN; (apply Evt.all; intro; (simp [c1, c2, rowsU, c3, c4]) <;> (try simp (disch := omega) only [wrap_id]) <;> first | exact ⟨rfl, rfl⟩ | exact rfl)) | (apply Wp.opG; (exact rfl); (apply Evt.all; intro; (simp [c1, c2, rowsU, c3, c4]) <;> (try simp (disch := omega) only [wrap_id]) <;> first | exact ⟨rfl, rfl⟩ | exact rfl)) | (apply Wp.opS; (exact rfl); decide) | (apply Wp.opS0; (exact rfl)))
      exact (fin _ rfl rfl rfl rfl).imp (fun _ h => h.elim) (fun _ h => h) (fun _ _ h => h.elim)
    · have c1 : ¬ i < 0 := by omega
      have c2 : ¬ k < 0 := by omega
      have c3 : ¬ (l.length : Int) ≤ i := by omega
      have c4 : ¬ (l.length : Int) ≤ k := by omega
      obtain ⟨a, rfl⟩ := Int.eq_ofNat_of_zero_le (Int.not_lt.1 c1)
      obtain ⟨b, rfl⟩ := Int.eq_ofNat_of_zero_le (Int.not_lt.1 c2)
      have ha : a < l.length := by omega
      have hb : b < l.length := by omega
      have c3' : ¬ l.length ≤ a := by omega
      have c4' : ¬ l.length ≤ b := by omega
      rw [apartF_in (by omega) (by omega)]
      obtain ⟨haM, hbM, hlook⟩ := look2_get hM ha hb
      have hx : (!decide (C.getD a 0 = C.getD b 0)) = (M[a])[b] := by
        rw [← hlook]
        have := hMC a b ha hb
        cases hv : look2 M a b with
        | true => 
          have hn : ¬ C.getD a 0 = C.getD b 0 := fun e => by rw [this.2 e] at hv; cases hv
          rw [decide_eq_false hn]; rfl
        | false => rw [decide_eq_true (this.1 hv)]; rfl
      rw [hx]
      generalize hv : (M[a])[b] = v
      repeat (first | apply Wp.seq | apply Wp.skip | apply Wp.block | (apply Wp.op0; ((simp [M2.keep]) <;> rfl)) | (apply Wp.op; (apply Evt.all; intro; (simp [rowsU, c3', c4']) <;> (try simp (disch := omega) only [wrap_id]) <;> first | exact ⟨rfl, rfl⟩ | exact rfl)) | (apply Wp.opN; (apply Evt.all; intro; (simp [rowsU, c3', c4']) <;> (try simp (disch := omega) only [wrap_id]) <;> first | exact ⟨rfl, rfl⟩ | exact rfl)) | (apply Wp.opG; (exact rfl); (apply Evt.all; intro; (simp [rowsU, c3', c4']) <;> (try simp (disch := omega) only [wrap_id]) <;> first | exact ⟨rfl, rfl⟩ | exact rfl)) | (apply Wp.opS; (exact rfl); decide) | (apply Wp.opS0; (exact rfl)))
      refine Wp.cond (by first | rfl | (simp; rfl)) (fun ht2 => ?_) (fun ht2 => ?_)
      · cases ht2
      repeat (first | apply Wp.seq | apply Wp.skip | apply Wp.block | (apply Wp.op0; ((simp [M2.keep]) <;> rfl)) | (apply Wp.op; (apply Evt.all; intro; (simp []) <;> (try simp (disch := omega) only [wrap_id]) <;> first | exact ⟨rfl, rfl⟩ | exact rfl)) | (apply Wp.opN; (apply Evt.all; intro; (simp []) <;> (try simp (disch := omega) only [wrap_id]) <;> first | exact ⟨rfl, rfl⟩ | exact rfl)) | (apply Wp.opG; (exact rfl); (apply Evt.all; intro; (simp []) <;> (try simp (disch := omega) only [wrap_id]) <;> first | exact ⟨rfl, rfl⟩ | exact rfl)) | (apply Wp.opS; (exact rfl); decide) | (apply Wp.opS0; (exact rfl)))
      apply Wp.call
      · exact as_call false l _ hl hs
      apply Wp.call
      · exact h2 _
      repeat (first | apply Wp.seq | apply Wp.skip | apply Wp.block | (apply Wp.op0; ((simp [M2.keep]) <;> rfl)) | (apply Wp.op; (apply Evt.all; intro; (simp [tabT, haM, bitsU_len, bitsU_getE, hbM, hv, tb_same]) <;> (try simp (disch := omega) only [wrap_id]) <;> first | exact ⟨rfl, rfl⟩ | exact rfl)) | (apply Wp.opN; (apply Evt.all; intro; (simp [tabT, haM, bitsU_len, bitsU_getE, hbM, hv, tb_same]) <;> (try simp (disch := omega) only [wrap_id]) <;> first | exact ⟨rfl, rfl⟩ | exact rfl)) | (apply Wp.opG; (exact rfl); (apply Evt.all; intro; (simp [tabT, haM, bitsU_len, bitsU_getE, hbM, hv, tb_same]) <;> (try simp (disch := omega) only [wrap_id]) <;> first | exact ⟨rfl, rfl⟩ | exact rfl)) | (apply Wp.opS; (exact rfl); decide) | (apply Wp.opS0; (exact rfl)))
      apply Wp.callG
      · exact rfl
      · exact knows_call _
      repeat (first | apply Wp.seq | apply Wp.skip | apply Wp.block | (apply Wp.op0; ((simp [M2.keep]) <;> rfl)) | (apply Wp.op; (apply Evt.all; intro; (simp []) <;> (try simp (disch := omega) only [wrap_id]) <;> first | exact ⟨rfl, rfl⟩ | exact rfl)) | (apply Wp.opN; (apply Evt.all; intro; (simp []) <;> (try simp (disch := omega) only [wrap_id]) <;> first | exact ⟨rfl, rfl⟩ | exact rfl)) | (apply Wp.opG; (exact rfl); (apply Evt.all; intro; (simp []) <;> (try simp (disch := omega) only [wrap_id]) <;> first | exact ⟨rfl, rfl⟩ | exact rfl)) | (apply Wp.opS; (exact rfl); decide) | (apply Wp.opS0; (exact rfl)))
      refine Wp.ret ?_; simp [Res, resU, res1, c_joinerylaw12_RefineApart]
theorem params4 : Try.f4.params.toList = [22, 3, 3] := by kernel_rfl
theorem law4 : Law 4 Try.f4.params.toList := by
  rw [params4]
  intro us hl hty
  match us, hl with
  | [u, v, w], _ =>
    obtain ⟨l, rfl, hlen⟩ := typed_rows (hty 0 22 u rfl rfl)
    obtain ⟨i, rfl, _⟩ := typed_intA (hty 1 3 v rfl rfl)
    obtain ⟨k, rfl, _⟩ := typed_intA (hty 2 3 w rfl rfl)
    exact law_of (law4_call l i k hlen)
end Go.Proofs.Ytaefnggoempdlaa.M2

/- RefineApart: which two things can be told apart is what the document says. No condition. -/
namespace Go.Proofs.Ytaefnggoempdlaa
theorem refineApart_said : Rows.RefineApartSaid := M2.apart_holds M2.law4
end Go.Proofs.Ytaefnggoempdlaa
