/- RefineOrders: which things can be told apart is the same in both orders; and what cannot be told from a second one that cannot be told from a third cannot be told from that. No condition. -/
import Derived.Test.YtaefnggoempdlaaClaw5
import Derived.Test.YtaefnggoempdlaaCd
set_option linter.unusedSimpArgs false
set_option linter.unusedVariables false
set_option linter.unusedSectionVars false
/- The law RefineOrders in M2. -/
namespace Go.Proofs.Ytaefnggoempdlaa.M2
open Go
attribute [local simp] ev1 M2.get put A.ev ld sub part elems bin arith un opt idx fillC cellsO splice over newOb sto fillR laidOwn appTo appRow touch touchN touchM touchE touchA plainU flatU plainAs allM rowAt stoRow accM_nil accM_cons accMM_nil accMM_cons frz_int frz_bool frz_str frz_slt frz_nils frz_nilI frz_nilF frz_own frzRow_row frzRow_frow Ob.blw blw_bool blw_int blw_str blw_nils blw_nilI blw_nilF blw_nilp blw_nilm blw_sl blw_own blw_bp blw_rp blw_mp blw_it params
attribute [local simp] beq_dec bne_dec

theorem apartF_iff (C : List Nat) (i k : Int) : apartF C i k = true ↔ i ≠ k ∧ (i < 0 ∨ k < 0 ∨ (C.length : Int) ≤ i ∨ (C.length : Int) ≤ k ∨ C.getD i.toNat 0 ≠ C.getD k.toNat 0) := by
  simp only [apartF, Bool.and_eq_true, Bool.or_eq_true, decide_eq_true_eq, bne_iff_ne, or_assoc]
theorem apartF_self (C : List Nat) (i : Int) : apartF C i i = false := by simp [apartF]
theorem apartF_symm (C : List Nat) (i k : Int) : apartF C i k = apartF C k i := by
  rw [Bool.eq_iff_iff, apartF_iff, apartF_iff]
  generalize C.getD i.toNat 0 = a
  generalize C.getD k.toNat 0 = b
  omega
theorem apartF_trans (C : List Nat) (i j k : Int) (h : apartF C i k = true) : apartF C i j = true ∨ apartF C j k = true := by
  rw [apartF_iff] at h ⊢
  rw [apartF_iff]
  by_cases h1 : i = j
  · subst h1
    exact .inr h
  · by_cases h2 : j = k
    · subst h2
      exact .inl h
    · generalize C.getD i.toNat 0 = a at *
      generalize C.getD k.toNat 0 = b at *
      generalize C.getD j.toNat 0 = c at *
      omega
theorem law6_call (l : List Row) (i j k : Int) (hlen : l.length < 9223372036854775808) : Cl T 6 [rowsU false l, i64 i, i64 j, i64 k] [] (.bool true) [] := by
  refine Wp.pure (fn := c_joinerylaw12_RefineOrders) rfl rfl rfl («as» := [rowsU false l, i64 i, i64 j, i64 k]) rfl ?_
  repeat (first | apply Wp.seq | apply Wp.skip | apply Wp.block | (apply Wp.op0; ((simp [M2.keep]) <;> rfl)) | (apply Wp.op; (apply Evt.all; intro; (simp []) <;> (try simp (disch := omega) only [wrap_id]) <;> first | exact ⟨rfl, rfl⟩ | exact rfl)) | (apply Wp.opN; (apply Evt.all; intro; (simp []) <;> (try simp (disch := omega) only [wrap_id]) <;> first | exact ⟨rfl, rfl⟩ | exact rfl)) | (apply Wp.opG; (exact rfl); (apply Evt.all; intro; (simp []) <;> (try simp (disch := omega) only [wrap_id]) <;> first | exact ⟨rfl, rfl⟩ | exact rfl)) | (apply Wp.opS; (exact rfl); decide) | (apply Wp.opS0; (exact rfl)))
  apply Wp.call
  · exact great_call l false [] hlen
  repeat (first | apply Wp.seq | apply Wp.skip | apply Wp.block | (apply Wp.op0; ((simp [M2.keep]) <;> rfl)) | (apply Wp.op; (apply Evt.all; intro; (simp []) <;> (try simp (disch := omega) only [wrap_id]) <;> first | exact ⟨rfl, rfl⟩ | exact rfl)) | (apply Wp.opN; (apply Evt.all; intro; (simp []) <;> (try simp (disch := omega) only [wrap_id]) <;> first | exact ⟨rfl, rfl⟩ | exact rfl)) | (apply Wp.opG; (exact rfl); (apply Evt.all; intro; (simp []) <;> (try simp (disch := omega) only [wrap_id]) <;> first | exact ⟨rfl, rfl⟩ | exact rfl)) | (apply Wp.opS; (exact rfl); decide) | (apply Wp.opS0; (exact rfl)))
  cases hg : great l with
  | true =>
    refine Wp.cond (by first | rfl | (simp; rfl)) (fun ht => ?_) (fun ht => ?_)
    · repeat (first | apply Wp.seq | apply Wp.skip | apply Wp.block | (apply Wp.op0; ((simp [M2.keep]) <;> rfl)) | (apply Wp.op; (apply Evt.all; intro; (simp []) <;> (try simp (disch := omega) only [wrap_id]) <;> first | exact ⟨rfl, rfl⟩ | exact rfl)) | (apply Wp.opN; (apply Evt.all; intro; (simp []) <;> (try simp (disch := omega) only [wrap_id]) <;> first | exact ⟨rfl, rfl⟩ | exact rfl)) | (apply Wp.opG; (exact rfl); (apply Evt.all; intro; (simp []) <;> (try simp (disch := omega) only [wrap_id]) <;> first | exact ⟨rfl, rfl⟩ | exact rfl)) | (apply Wp.opS; (exact rfl); decide) | (apply Wp.opS0; (exact rfl)))
      apply Wp.call
      · exact knows_call _
      repeat (first | apply Wp.seq | apply Wp.skip | apply Wp.block | (apply Wp.op0; ((simp [M2.keep]) <;> rfl)) | (apply Wp.op; (apply Evt.all; intro; (simp []) <;> (try simp (disch := omega) only [wrap_id]) <;> first | exact ⟨rfl, rfl⟩ | exact rfl)) | (apply Wp.opN; (apply Evt.all; intro; (simp []) <;> (try simp (disch := omega) only [wrap_id]) <;> first | exact ⟨rfl, rfl⟩ | exact rfl)) | (apply Wp.opG; (exact rfl); (apply Evt.all; intro; (simp []) <;> (try simp (disch := omega) only [wrap_id]) <;> first | exact ⟨rfl, rfl⟩ | exact rfl)) | (apply Wp.opS; (exact rfl); decide) | (apply Wp.opS0; (exact rfl)))
      refine Wp.ret ?_; simp [Res, resU, res1, c_joinerylaw12_RefineOrders]
    · cases ht
  | false =>
    obtain ⟨hl, hs, h60⟩ := great_false hg
    obtain ⟨C, hC, h1⟩ := final_calls false l hl hs
    have hCl := hC.len
    have ap := fun i k => apart_call false l C [] i k h1 hCl
    refine Wp.cond (by first | rfl | (simp; rfl)) (fun ht => ?_) (fun ht => ?_)
    · cases ht
    repeat (first | apply Wp.seq | apply Wp.skip | apply Wp.block | (apply Wp.op0; ((simp [M2.keep]) <;> rfl)) | (apply Wp.op; (apply Evt.all; intro; (simp []) <;> (try simp (disch := omega) only [wrap_id]) <;> first | exact ⟨rfl, rfl⟩ | exact rfl)) | (apply Wp.opN; (apply Evt.all; intro; (simp []) <;> (try simp (disch := omega) only [wrap_id]) <;> first | exact ⟨rfl, rfl⟩ | exact rfl)) | (apply Wp.opG; (exact rfl); (apply Evt.all; intro; (simp []) <;> (try simp (disch := omega) only [wrap_id]) <;> first | exact ⟨rfl, rfl⟩ | exact rfl)) | (apply Wp.opS; (exact rfl); decide) | (apply Wp.opS0; (exact rfl)))
    apply Wp.call
    · exact ap i j
    repeat (first | apply Wp.seq | apply Wp.skip | apply Wp.block | (apply Wp.op0; ((simp [M2.keep]) <;> rfl)) | (apply Wp.op; (apply Evt.all; intro; (simp []) <;> (try simp (disch := omega) only [wrap_id]) <;> first | exact ⟨rfl, rfl⟩ | exact rfl)) | (apply Wp.opN; (apply Evt.all; intro; (simp []) <;> (try simp (disch := omega) only [wrap_id]) <;> first | exact ⟨rfl, rfl⟩ | exact rfl)) | (apply Wp.opG; (exact rfl); (apply Evt.all; intro; (simp []) <;> (try simp (disch := omega) only [wrap_id]) <;> first | exact ⟨rfl, rfl⟩ | exact rfl)) | (apply Wp.opS; (exact rfl); decide) | (apply Wp.opS0; (exact rfl)))
    apply Wp.call
    · exact ap j k
    repeat (first | apply Wp.seq | apply Wp.skip | apply Wp.block | (apply Wp.op0; ((simp [M2.keep]) <;> rfl)) | (apply Wp.op; (apply Evt.all; intro; (simp []) <;> (try simp (disch := omega) only [wrap_id]) <;> first | exact ⟨rfl, rfl⟩ | exact rfl)) | (apply Wp.opN; (apply Evt.all; intro; (simp []) <;> (try simp (disch := omega) only [wrap_id]) <;> first | exact ⟨rfl, rfl⟩ | exact rfl)) | (apply Wp.opG; (exact rfl); (apply Evt.all; intro; (simp []) <;> (try simp (disch := omega) only [wrap_id]) <;> first | exact ⟨rfl, rfl⟩ | exact rfl)) | (apply Wp.opS; (exact rfl); decide) | (apply Wp.opS0; (exact rfl)))
    apply Wp.call
    · exact ap i k
    repeat (first | apply Wp.seq | apply Wp.skip | apply Wp.block | (apply Wp.op0; ((simp [M2.keep]) <;> rfl)) | (apply Wp.op; (apply Evt.all; intro; (simp []) <;> (try simp (disch := omega) only [wrap_id]) <;> first | exact ⟨rfl, rfl⟩ | exact rfl)) | (apply Wp.opN; (apply Evt.all; intro; (simp []) <;> (try simp (disch := omega) only [wrap_id]) <;> first | exact ⟨rfl, rfl⟩ | exact rfl)) | (apply Wp.opG; (exact rfl); (apply Evt.all; intro; (simp []) <;> (try simp (disch := omega) only [wrap_id]) <;> first | exact ⟨rfl, rfl⟩ | exact rfl)) | (apply Wp.opS; (exact rfl); decide) | (apply Wp.opS0; (exact rfl)))
    apply Wp.call
    · exact ap i i
    rw [apartF_self]
    repeat (first | apply Wp.seq | apply Wp.skip | apply Wp.block | (apply Wp.op0; ((simp [M2.keep]) <;> rfl)) | (apply Wp.op; (apply Evt.all; intro; (simp []) <;> (try simp (disch := omega) only [wrap_id]) <;> first | exact ⟨rfl, rfl⟩ | exact rfl)) | (apply Wp.opN; (apply Evt.all; intro; (simp []) <;> (try simp (disch := omega) only [wrap_id]) <;> first | exact ⟨rfl, rfl⟩ | exact rfl)) | (apply Wp.opG; (exact rfl); (apply Evt.all; intro; (simp []) <;> (try simp (disch := omega) only [wrap_id]) <;> first | exact ⟨rfl, rfl⟩ | exact rfl)) | (apply Wp.opS; (exact rfl); decide) | (apply Wp.opS0; (exact rfl)))
    apply Wp.callG
    · exact rfl
    · exact ap j i
    rw [apartF_symm C j i]
    have htr := apartF_trans C i j k
    generalize apartF C i j = a at *
    generalize apartF C j k = b at *
    generalize apartF C i k = c at *
    repeat (first | apply Wp.seq | apply Wp.skip | apply Wp.block | (apply Wp.op0; ((simp [M2.keep]) <;> rfl)) | (apply Wp.op; (apply Evt.all; intro; (simp [tb_same]) <;> (try simp (disch := omega) only [wrap_id]) <;> first | exact ⟨rfl, rfl⟩ | exact rfl)) | (apply Wp.opN; (apply Evt.all; intro; (simp [tb_same]) <;> (try simp (disch := omega) only [wrap_id]) <;> first | exact ⟨rfl, rfl⟩ | exact rfl)) | (apply Wp.opG; (exact rfl); (apply Evt.all; intro; (simp [tb_same]) <;> (try simp (disch := omega) only [wrap_id]) <;> first | exact ⟨rfl, rfl⟩ | exact rfl)) | (apply Wp.opS; (exact rfl); decide) | (apply Wp.opS0; (exact rfl)))
    refine Wp.cond (by first | rfl | (simp; rfl)) (fun ht2 => ?_) (fun ht2 => ?_)
    · cases ht2
    cases a with
    | true =>
      repeat (first | apply Wp.seq | apply Wp.skip | apply Wp.block | (apply Wp.op0; ((simp [M2.keep]) <;> rfl)) | (apply Wp.op; (apply Evt.all; intro; (simp []) <;> (try simp (disch := omega) only [wrap_id]) <;> first | exact ⟨rfl, rfl⟩ | exact rfl)) | (apply Wp.opN; (apply Evt.all; intro; (simp []) <;> (try simp (disch := omega) only [wrap_id]) <;> first | exact ⟨rfl, rfl⟩ | exact rfl)) | (apply Wp.opG; (exact rfl); (apply Evt.all; intro; (simp []) <;> (try simp (disch := omega) only [wrap_id]) <;> first | exact ⟨rfl, rfl⟩ | exact rfl)) | (apply Wp.opS; (exact rfl); decide) | (apply Wp.opS0; (exact rfl)))
      apply Wp.callG
      · exact rfl
      · exact knows_call _
      repeat (first | apply Wp.seq | apply Wp.skip | apply Wp.block | (apply Wp.op0; ((simp [M2.keep]) <;> rfl)) | (apply Wp.op; (apply Evt.all; intro; (simp []) <;> (try simp (disch := omega) only [wrap_id]) <;> first | exact ⟨rfl, rfl⟩ | exact rfl)) | (apply Wp.opN; (apply Evt.all; intro; (simp []) <;> (try simp (disch := omega) only [wrap_id]) <;> first | exact ⟨rfl, rfl⟩ | exact rfl)) | (apply Wp.opG; (exact rfl); (apply Evt.all; intro; (simp []) <;> (try simp (disch := omega) only [wrap_id]) <;> first | exact ⟨rfl, rfl⟩ | exact rfl)) | (apply Wp.opS; (exact rfl); decide) | (apply Wp.opS0; (exact rfl)))
      refine Wp.ret ?_; simp [Res, resU, res1, c_joinerylaw12_RefineOrders]
    | false =>
      cases b with
      | true =>
        repeat (first | apply Wp.seq | apply Wp.skip | apply Wp.block | (apply Wp.op0; ((simp [M2.keep]) <;> rfl)) | (apply Wp.op; (apply Evt.all; intro; (simp []) <;> (try simp (disch := omega) only [wrap_id]) <;> first | exact ⟨rfl, rfl⟩ | exact rfl)) | (apply Wp.opN; (apply Evt.all; intro; (simp []) <;> (try simp (disch := omega) only [wrap_id]) <;> first | exact ⟨rfl, rfl⟩ | exact rfl)) | (apply Wp.opG; (exact rfl); (apply Evt.all; intro; (simp []) <;> (try simp (disch := omega) only [wrap_id]) <;> first | exact ⟨rfl, rfl⟩ | exact rfl)) | (apply Wp.opS; (exact rfl); decide) | (apply Wp.opS0; (exact rfl)))
        apply Wp.callG
        · exact rfl
        · exact knows_call _
        repeat (first | apply Wp.seq | apply Wp.skip | apply Wp.block | (apply Wp.op0; ((simp [M2.keep]) <;> rfl)) | (apply Wp.op; (apply Evt.all; intro; (simp []) <;> (try simp (disch := omega) only [wrap_id]) <;> first | exact ⟨rfl, rfl⟩ | exact rfl)) | (apply Wp.opN; (apply Evt.all; intro; (simp []) <;> (try simp (disch := omega) only [wrap_id]) <;> first | exact ⟨rfl, rfl⟩ | exact rfl)) | (apply Wp.opG; (exact rfl); (apply Evt.all; intro; (simp []) <;> (try simp (disch := omega) only [wrap_id]) <;> first | exact ⟨rfl, rfl⟩ | exact rfl)) | (apply Wp.opS; (exact rfl); decide) | (apply Wp.opS0; (exact rfl)))
        refine Wp.ret ?_; simp [Res, resU, res1, c_joinerylaw12_RefineOrders]
      | false =>
        cases c with
        | true => simp at htr
        | false =>
          repeat (first | apply Wp.seq | apply Wp.skip | apply Wp.block | (apply Wp.op0; ((simp [M2.keep]) <;> rfl)) | (apply Wp.op; (apply Evt.all; intro; (simp []) <;> (try simp (disch := omega) only [wrap_id]) <;> first | exact ⟨rfl, rfl⟩ | exact rfl)) | (apply Wp.opN; (apply Evt.all; intro; (simp []) <;> (try simp (disch := omega) only [wrap_id]) <;> first | exact ⟨rfl, rfl⟩ | exact rfl)) | (apply Wp.opG; (exact rfl); (apply Evt.all; intro; (simp []) <;> (try simp (disch := omega) only [wrap_id]) <;> first | exact ⟨rfl, rfl⟩ | exact rfl)) | (apply Wp.opS; (exact rfl); decide) | (apply Wp.opS0; (exact rfl)))
          apply Wp.callG
          · exact rfl
          · exact knows_call _
          repeat (first | apply Wp.seq | apply Wp.skip | apply Wp.block | (apply Wp.op0; ((simp [M2.keep]) <;> rfl)) | (apply Wp.op; (apply Evt.all; intro; (simp []) <;> (try simp (disch := omega) only [wrap_id]) <;> first | exact ⟨rfl, rfl⟩ | exact rfl)) | (apply Wp.opN; (apply Evt.all; intro; (simp []) <;> (try simp (disch := omega) only [wrap_id]) <;> first | exact ⟨rfl, rfl⟩ | exact rfl)) | (apply Wp.opG; (exact rfl); (apply Evt.all; intro; (simp []) <;> (try simp (disch := omega) only [wrap_id]) <;> first | exact ⟨rfl, rfl⟩ | exact rfl)) | (apply Wp.opS; (exact rfl); decide) | (apply Wp.opS0; (exact rfl)))
          refine Wp.ret ?_; simp [Res, resU, res1, c_joinerylaw12_RefineOrders]
theorem params6 : Try.f6.params.toList = [22, 3, 3, 3] := by kernel_rfl
theorem law6 : Law 6 Try.f6.params.toList := by
  rw [params6]
  intro us hl hty
  match us, hl with
  | [u, v, w, x], _ =>
    obtain ⟨l, rfl, hlen⟩ := typed_rows (hty 0 22 u rfl rfl)
    obtain ⟨i, rfl, _⟩ := typed_intA (hty 1 3 v rfl rfl)
    obtain ⟨j, rfl, _⟩ := typed_intA (hty 2 3 w rfl rfl)
    obtain ⟨k, rfl, _⟩ := typed_intA (hty 3 3 x rfl rfl)
    exact law_of (law6_call l i j k hlen)
end Go.Proofs.Ytaefnggoempdlaa.M2

/- RefineOrders: which things can be told apart is the same in both orders; and what cannot be told from a second one that cannot be told from a third cannot be told from that. No condition. -/
namespace Go.Proofs.Ytaefnggoempdlaa
theorem refineOrders_said : Rows.RefineOrdersSaid := M2.orders_holds M2.law6
end Go.Proofs.Ytaefnggoempdlaa
