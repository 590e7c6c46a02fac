/- RefineFewest: what has one class leads to the same classes and marks; and if any other classes do so, things of one of those have one class here. No condition. -/
import Derived.Test.YtaefnggoempdlaaClaw4
import Derived.Test.YtaefnggoempdlaaCd
set_option linter.unusedSimpArgs false
set_option linter.unusedVariables false
set_option linter.unusedSectionVars false
/- The law RefineFewest in M2. -/
namespace Go.Proofs.Ytaefnggoempdlaa.M2
open Go
attribute [local simp] ev1 M2.get put A.ev ld sub part elems bin arith un opt idx fillC cellsO splice over newOb sto fillR laidOwn appTo appRow touch touchN touchM touchE touchA plainU flatU plainAs allM rowAt stoRow accM_nil accM_cons accMM_nil accMM_cons frz_int frz_bool frz_str frz_slt frz_nils frz_nilI frz_nilF frz_own frzRow_row frzRow_frow Ob.blw blw_bool blw_int blw_str blw_nils blw_nilI blw_nilF blw_nilp blw_nilm blw_sl blw_own blw_bp blw_rp blw_mp blw_it params
attribute [local simp] beq_dec bne_dec

theorem getNat {l : List Nat} {i : Nat} (h : i < l.length) : l.getD i 0 = l[i] := by simp [h]
def ints (C : List Nat) : List Int := C.map fun n : Nat => (n : Int)
theorem natsU_ints (C : List Nat) : natsU C = intsU (ints C) := by simp [natsU, intsU, ints]
theorem ints_getD (C : List Nat) (i : Nat) : (ints C).getD i 0 = ((C.getD i 0 : Nat) : Int) := by
  simp only [ints, List.getD_eq_getElem?_getD, List.getElem?_map]
  cases C[i]? <;> rfl
theorem refOK_refN (len : Nat) (C : List Nat) (x y : Int × Int) : refOK len (ints C) x y ↔ refN len C x y := by
  unfold refOK refN
  rw [ints_getD, ints_getD]
  split
  · omega
  · rfl
theorem refOK_self (len : Nat) (c : List Int) (x : Int × Int) : refOK len c x x := by
  unfold refOK
  split <;> rfl
theorem refOK_symm {len : Nat} {c : List Int} {x y : Int × Int} (h : refOK len c x y) : refOK len c y x := by
  unfold refOK at h ⊢
  rw [Bool.and_comm]
  split at h
  · rename_i h1; rw [if_pos h1]; exact h.symm
  · rename_i h1; rw [if_neg h1]; exact h.symm
theorem stands_final {l : List Row} {C : List Nat} (hC : Final l C) : Stands l (ints C) := by
  intro i k hi hk e
  rw [ints_getD, ints_getD] at e
  obtain ⟨h1, h2, h3⟩ := hC.leads i k hi (by omega) (by omega)
  exact ⟨h1, h2, fun m hm => (refOK_refN _ _ _ _).2 (h3 m hm)⟩
theorem fewest_final {l : List Row} {C : List Nat} (hC : Final l C) {o : List Int} (h : Stands l o) (i k : Nat) (hi : i < l.length) (hk : k < l.length) (e : o.getD i 0 = o.getD k 0) : C.getD i 0 = C.getD k 0 := by
  refine hC.fewest (fun i k => o.getD i 0 = o.getD k 0) (fun i k hi hk e => ?_) i k hi hk e
  have key : (l.getD i default).c = (l.getD k default).c ∧ (l.getD i default).to.length = (l.getD k default).to.length ∧ ∀ m, m < (l.getD i default).to.length → refOK l.length o ((l.getD i default).to.getD m (0, 0)) ((l.getD k default).to.getD m (0, 0)) := by
    rcases Nat.lt_trichotomy i k with hlt | rfl | hlt
    · obtain ⟨h1, h2, h3⟩ := h k i hk hlt e.symm
      exact ⟨h1.symm, h2.symm, fun m hm => refOK_symm (h3 m (by omega))⟩
    · exact ⟨rfl, rfl, fun m _ => refOK_self _ _ _⟩
    · exact h i k hi hlt e
  exact key
def l5E (l : List Row) (o : List Int) (C : List Nat) (i : Nat) : Env := [(0, rowsU false l), (1, .sl false (intsU o)), (5, .sl true (natsU C)), (6, i64 i)]
theorem l5_step (l : List Row) (o : List Int) (C : List Nat) (i k : Nat) (hi : i < l.length) (hk : k < i) (ho : o.length = l.length) (hCl : C.length = l.length) (hs : l.length < 1000000000000)
    (h : o.getD i 0 = o.getD k 0 → C.getD i 0 = C.getD k 0) :
    Wp T c_joinerylaw12_RefineFewest_L1 ⟨[(0, rowsU false l), (1, .sl false (intsU o)), (5, .sl true (natsU C)), (6, i64 i), (7, i64 k)], []⟩ (fun s' => trimO 0 s' = ⟨[(0, rowsU false l), (1, .sl false (intsU o)), (5, .sl true (natsU C)), (6, i64 i), (7, i64 ((k + 1 : Nat) : Int))], []⟩) (fun _ => False) (fun _ _ => False) := by
  have hio : i < o.length := by omega
  have hko : k < o.length := by omega
  have hiC : i < C.length := by omega
  have hkC : k < C.length := by omega
  rw [getInt hio, getInt hko, getNat hiC, getNat hkC] at h
  repeat (first | apply Wp.seq | apply Wp.skip | apply Wp.block | (apply Wp.op0; ((simp [M2.keep]) <;> rfl)) | (apply Wp.op; (apply Evt.all; intro; (simp [hk]) <;> (try simp (disch := omega) only [wrap_id]) <;> first | exact ⟨rfl, rfl⟩ | exact rfl)) | (apply Wp.opN; (apply Evt.all; intro; (simp [hk]) <;> (try simp (disch := omega) only [wrap_id]) <;> first | exact ⟨rfl, rfl⟩ | exact rfl)) | (apply Wp.opG; (exact rfl); (apply Evt.all; intro; (simp [hk]) <;> (try simp (disch := omega) only [wrap_id]) <;> first | exact ⟨rfl, rfl⟩ | exact rfl)) | (apply Wp.opS; (exact rfl); decide) | (apply Wp.opS0; (exact rfl)))
  refine Wp.cond (by first | rfl | (simp; rfl)) (fun ht => ?_) (fun ht => ?_)
  · refine Wp.skip ?_
    apply Wp.seq
    apply Wp.block
    apply Wp.seq
    by_cases e : o[i] = o[k]
    · have e2 := h e
      refine Wp.draw (by (simp [c_joinerylaw12_RefineFewest_D0, I.need]) <;> rfl) (by (simp [natsU_len, natsU_getE, intsU_len, intsU_getE, hio, hko, hiC, hkC, e, e2]) <;> rfl) (by (simp [natsU_len, natsU_getE, intsU_len, intsU_getE, hio, hko, hiC, hkC, e, e2]) <;> rfl) (by (unfold c_joinerylaw12_RefineFewest_D0); (repeat (first | (apply Dr.op; ((simp [natsU_len, natsU_getE, intsU_len, intsU_getE, hio, hko, hiC, hkC, e, e2]) <;> rfl); (apply Evt.all; intro; (simp [natsU_len, natsU_getE, intsU_len, intsU_getE, hio, hko, hiC, hkC, e, e2]) <;> (try simp (disch := omega) only [wrap_id]) <;> first | exact ⟨rfl, rfl⟩ | exact rfl); ((simp [I.need]) <;> rfl)) | (apply Dr.opN; ((simp [natsU_len, natsU_getE, intsU_len, intsU_getE, hio, hko, hiC, hkC, e, e2]) <;> rfl); (apply Evt.all; intro; (simp [natsU_len, natsU_getE, intsU_len, intsU_getE, hio, hko, hiC, hkC, e, e2]) <;> (try simp (disch := omega) only [wrap_id]) <;> first | exact ⟨rfl, rfl⟩ | exact rfl); ((simp [I.need]) <;> rfl)) | (apply Dr.opG; (exact rfl); ((simp [natsU_len, natsU_getE, intsU_len, intsU_getE, hio, hko, hiC, hkC, e, e2]) <;> rfl); (apply Evt.all; intro; (simp [natsU_len, natsU_getE, intsU_len, intsU_getE, hio, hko, hiC, hkC, e, e2]) <;> (try simp (disch := omega) only [wrap_id]) <;> first | exact ⟨rfl, rfl⟩ | exact rfl); ((simp [I.need]) <;> rfl)) | (apply Dr.opS; (exact rfl); decide; ((simp [I.need]) <;> rfl)) | (apply Dr.opS0; (exact rfl); ((simp [I.need]) <;> rfl)))); exact Dr.nil) (by first | decide +kernel | exact rfl) (by (simp [M2.keep]) <;> rfl) ?_
      refine Wp.cond (by first | rfl | (simp; rfl)) (fun ht2 => ?_) (fun ht2 => ?_)
      · cases ht2
      repeat (first | apply Wp.seq | apply Wp.skip | apply Wp.block | (apply Wp.op0; ((simp [M2.keep]) <;> rfl)) | (apply Wp.op; (apply Evt.all; intro; (simp []) <;> (try simp (disch := omega) only [wrap_id]) <;> first | exact ⟨rfl, rfl⟩ | exact rfl)) | (apply Wp.opN; (apply Evt.all; intro; (simp []) <;> (try simp (disch := omega) only [wrap_id]) <;> first | exact ⟨rfl, rfl⟩ | exact rfl)) | (apply Wp.opG; (exact rfl); (apply Evt.all; intro; (simp []) <;> (try simp (disch := omega) only [wrap_id]) <;> first | exact ⟨rfl, rfl⟩ | exact rfl)) | (apply Wp.opS; (exact rfl); decide) | (apply Wp.opS0; (exact rfl)))
      simp [trimO, trim, rowsU]
    · refine Wp.draw (by (simp [c_joinerylaw12_RefineFewest_D0, I.need]) <;> rfl) (by (simp [natsU_len, natsU_getE, intsU_len, intsU_getE, hio, hko, hiC, hkC, e]) <;> rfl) (by (simp [natsU_len, natsU_getE, intsU_len, intsU_getE, hio, hko, hiC, hkC, e]) <;> rfl) (by (unfold c_joinerylaw12_RefineFewest_D0); (repeat (first | (apply Dr.op; ((simp [natsU_len, natsU_getE, intsU_len, intsU_getE, hio, hko, hiC, hkC, e]) <;> rfl); (apply Evt.all; intro; (simp [natsU_len, natsU_getE, intsU_len, intsU_getE, hio, hko, hiC, hkC, e]) <;> (try simp (disch := omega) only [wrap_id]) <;> first | exact ⟨rfl, rfl⟩ | exact rfl); ((simp [I.need]) <;> rfl)) | (apply Dr.opN; ((simp [natsU_len, natsU_getE, intsU_len, intsU_getE, hio, hko, hiC, hkC, e]) <;> rfl); (apply Evt.all; intro; (simp [natsU_len, natsU_getE, intsU_len, intsU_getE, hio, hko, hiC, hkC, e]) <;> (try simp (disch := omega) only [wrap_id]) <;> first | exact ⟨rfl, rfl⟩ | exact rfl); ((simp [I.need]) <;> rfl)) | (apply Dr.opG; (exact rfl); ((simp [natsU_len, natsU_getE, intsU_len, intsU_getE, hio, hko, hiC, hkC, e]) <;> rfl); (apply Evt.all; intro; (simp [natsU_len, natsU_getE, intsU_len, intsU_getE, hio, hko, hiC, hkC, e]) <;> (try simp (disch := omega) only [wrap_id]) <;> first | exact ⟨rfl, rfl⟩ | exact rfl); ((simp [I.need]) <;> rfl)) | (apply Dr.opS; (exact rfl); decide; ((simp [I.need]) <;> rfl)) | (apply Dr.opS0; (exact rfl); ((simp [I.need]) <;> rfl)))); exact Dr.nil) (by first | decide +kernel | exact rfl) (by (simp [M2.keep]) <;> rfl) ?_
      refine Wp.cond (by first | rfl | (simp; rfl)) (fun ht2 => ?_) (fun ht2 => ?_)
      · cases ht2
      repeat (first | apply Wp.seq | apply Wp.skip | apply Wp.block | (apply Wp.op0; ((simp [M2.keep]) <;> rfl)) | (apply Wp.op; (apply Evt.all; intro; (simp []) <;> (try simp (disch := omega) only [wrap_id]) <;> first | exact ⟨rfl, rfl⟩ | exact rfl)) | (apply Wp.opN; (apply Evt.all; intro; (simp []) <;> (try simp (disch := omega) only [wrap_id]) <;> first | exact ⟨rfl, rfl⟩ | exact rfl)) | (apply Wp.opG; (exact rfl); (apply Evt.all; intro; (simp []) <;> (try simp (disch := omega) only [wrap_id]) <;> first | exact ⟨rfl, rfl⟩ | exact rfl)) | (apply Wp.opS; (exact rfl); decide) | (apply Wp.opS0; (exact rfl)))
      simp [trimO, trim, rowsU]
  · cases ht
theorem l5_loops (l : List Row) (o : List Int) (C : List Nat) (ho : o.length = l.length) (hCl : C.length = l.length) (hs : l.length < 1000000000000)
    (h : ∀ i k, i < l.length → k < l.length → o.getD i 0 = o.getD k 0 → C.getD i 0 = C.getD k 0) :
    Wp T (.loop c_joinerylaw12_RefineFewest_L2) ⟨l5E l o C (0 : Nat), []⟩ (fun _ => False) (fun _ => False) (fun b _ => b = 0) := by
  refine Wp.count l.length (fun i => ⟨l5E l o C i, []⟩) (fun _ => True) (fun i hi _ => ?_) (fun _ => ?_) 0 (by omega) trivial
  · simp only [l5E]
    repeat (first | apply Wp.seq | apply Wp.skip | apply Wp.block | (apply Wp.op0; ((simp [M2.keep]) <;> rfl)) | (apply Wp.op; (apply Evt.all; intro; (simp [rowsU, hi]) <;> (try simp (disch := omega) only [wrap_id]) <;> first | exact ⟨rfl, rfl⟩ | exact rfl)) | (apply Wp.opN; (apply Evt.all; intro; (simp [rowsU, hi]) <;> (try simp (disch := omega) only [wrap_id]) <;> first | exact ⟨rfl, rfl⟩ | exact rfl)) | (apply Wp.opG; (exact rfl); (apply Evt.all; intro; (simp [rowsU, hi]) <;> (try simp (disch := omega) only [wrap_id]) <;> first | exact ⟨rfl, rfl⟩ | exact rfl)) | (apply Wp.opS; (exact rfl); decide) | (apply Wp.opS0; (exact rfl)))
    refine Wp.cond (by first | rfl | (simp; rfl)) (fun ht => ?_) (fun ht => ?_)
    · repeat (first | apply Wp.seq | apply Wp.skip | apply Wp.block | (apply Wp.op0; ((simp [M2.keep]) <;> rfl)) | (apply Wp.op; (apply Evt.all; intro; (simp []) <;> (try simp (disch := omega) only [wrap_id]) <;> first | exact ⟨rfl, rfl⟩ | exact rfl)) | (apply Wp.opN; (apply Evt.all; intro; (simp []) <;> (try simp (disch := omega) only [wrap_id]) <;> first | exact ⟨rfl, rfl⟩ | exact rfl)) | (apply Wp.opG; (exact rfl); (apply Evt.all; intro; (simp []) <;> (try simp (disch := omega) only [wrap_id]) <;> first | exact ⟨rfl, rfl⟩ | exact rfl)) | (apply Wp.opS; (exact rfl); decide) | (apply Wp.opS0; (exact rfl)))
      have hl : Wp T (.loop c_joinerylaw12_RefineFewest_L1) ⟨[(0, rowsU false l), (1, .sl false (intsU o)), (5, .sl true (natsU C)), (6, i64 i), (7, i64 (0 : Nat))], []⟩ (fun _ => False) (fun _ => False) (fun b s' => b = 2 ∧ s' = ⟨[(0, rowsU false l), (1, .sl false (intsU o)), (5, .sl true (natsU C)), (6, i64 i), (7, i64 i), (44, .bool false)], []⟩) := by
        refine Wp.count i (fun k => ⟨[(0, rowsU false l), (1, .sl false (intsU o)), (5, .sl true (natsU C)), (6, i64 i), (7, i64 k)], []⟩) (fun _ => True) (fun k hk _ => ?_) (fun _ => ?_) 0 (by omega) trivial
        · exact (l5_step l o C i k hi hk ho hCl hs (h i k hi (by omega))).imp0 fun s h => ⟨h, trivial⟩
        · repeat (first | apply Wp.seq | apply Wp.skip | apply Wp.block | (apply Wp.op0; ((simp [M2.keep]) <;> rfl)) | (apply Wp.op; (apply Evt.all; intro; (simp []) <;> (try simp (disch := omega) only [wrap_id]) <;> first | exact ⟨rfl, rfl⟩ | exact rfl)) | (apply Wp.opN; (apply Evt.all; intro; (simp []) <;> (try simp (disch := omega) only [wrap_id]) <;> first | exact ⟨rfl, rfl⟩ | exact rfl)) | (apply Wp.opG; (exact rfl); (apply Evt.all; intro; (simp []) <;> (try simp (disch := omega) only [wrap_id]) <;> first | exact ⟨rfl, rfl⟩ | exact rfl)) | (apply Wp.opS; (exact rfl); decide) | (apply Wp.opS0; (exact rfl)))
          refine Wp.cond (by first | rfl | (simp; rfl)) (fun ht2 => ?_) (fun ht2 => ?_)
          · simp at ht2
          · exact Wp.exit ⟨rfl, by simp⟩
      refine hl.impB ?_
      rintro b s ⟨rfl, rfl⟩
      rw [if_pos rfl]
      repeat (first | apply Wp.seq | apply Wp.skip | apply Wp.block | (apply Wp.op0; ((simp [M2.keep]) <;> rfl)) | (apply Wp.op; (apply Evt.all; intro; (simp []) <;> (try simp (disch := omega) only [wrap_id]) <;> first | exact ⟨rfl, rfl⟩ | exact rfl)) | (apply Wp.opN; (apply Evt.all; intro; (simp []) <;> (try simp (disch := omega) only [wrap_id]) <;> first | exact ⟨rfl, rfl⟩ | exact rfl)) | (apply Wp.opG; (exact rfl); (apply Evt.all; intro; (simp []) <;> (try simp (disch := omega) only [wrap_id]) <;> first | exact ⟨rfl, rfl⟩ | exact rfl)) | (apply Wp.opS; (exact rfl); decide) | (apply Wp.opS0; (exact rfl)))
      exact ⟨by simp [trimO, trim, rowsU], trivial⟩
    · cases ht
  · simp only [l5E]
    repeat (first | apply Wp.seq | apply Wp.skip | apply Wp.block | (apply Wp.op0; ((simp [M2.keep]) <;> rfl)) | (apply Wp.op; (apply Evt.all; intro; (simp [rowsU]) <;> (try simp (disch := omega) only [wrap_id]) <;> first | exact ⟨rfl, rfl⟩ | exact rfl)) | (apply Wp.opN; (apply Evt.all; intro; (simp [rowsU]) <;> (try simp (disch := omega) only [wrap_id]) <;> first | exact ⟨rfl, rfl⟩ | exact rfl)) | (apply Wp.opG; (exact rfl); (apply Evt.all; intro; (simp [rowsU]) <;> (try simp (disch := omega) only [wrap_id]) <;> first | exact ⟨rfl, rfl⟩ | exact rfl)) | (apply Wp.opS; (exact rfl); decide) | (apply Wp.opS0; (exact rfl)))
    refine Wp.cond (by first | rfl | (simp; rfl)) (fun ht => ?_) (fun ht => ?_)
    · simp at ht
    · exact Wp.exit rfl
theorem law5_call (l : List Row) (o : List Int) (hlen : l.length < 9223372036854775808) : Cl T 5 [rowsU false l, .sl false (intsU o)] [] (.bool true) [] := by
  refine Wp.pure (fn := c_joinerylaw12_RefineFewest) rfl rfl rfl («as» := [rowsU false l, .sl false (intsU o)]) rfl ?_
  repeat (first | apply Wp.seq | apply Wp.skip | apply Wp.block | (apply Wp.op0; ((simp [M2.keep]) <;> rfl)) | (apply Wp.op; (apply Evt.all; intro; (simp []) <;> (try simp (disch := omega) only [wrap_id]) <;> first | exact ⟨rfl, rfl⟩ | exact rfl)) | (apply Wp.opN; (apply Evt.all; intro; (simp []) <;> (try simp (disch := omega) only [wrap_id]) <;> first | exact ⟨rfl, rfl⟩ | exact rfl)) | (apply Wp.opG; (exact rfl); (apply Evt.all; intro; (simp []) <;> (try simp (disch := omega) only [wrap_id]) <;> first | exact ⟨rfl, rfl⟩ | exact rfl)) | (apply Wp.opS; (exact rfl); decide) | (apply Wp.opS0; (exact rfl)))
  apply Wp.call
  · exact great_call l false [] hlen
  repeat (first | apply Wp.seq | apply Wp.skip | apply Wp.block | (apply Wp.op0; ((simp [M2.keep]) <;> rfl)) | (apply Wp.op; (apply Evt.all; intro; (simp []) <;> (try simp (disch := omega) only [wrap_id]) <;> first | exact ⟨rfl, rfl⟩ | exact rfl)) | (apply Wp.opN; (apply Evt.all; intro; (simp []) <;> (try simp (disch := omega) only [wrap_id]) <;> first | exact ⟨rfl, rfl⟩ | exact rfl)) | (apply Wp.opG; (exact rfl); (apply Evt.all; intro; (simp []) <;> (try simp (disch := omega) only [wrap_id]) <;> first | exact ⟨rfl, rfl⟩ | exact rfl)) | (apply Wp.opS; (exact rfl); decide) | (apply Wp.opS0; (exact rfl)))
  cases hg : great l with
  | true =>
    refine Wp.cond (by first | rfl | (simp; rfl)) (fun ht => ?_) (fun ht => ?_)
    · repeat (first | apply Wp.seq | apply Wp.skip | apply Wp.block | (apply Wp.op0; ((simp [M2.keep]) <;> rfl)) | (apply Wp.op; (apply Evt.all; intro; (simp []) <;> (try simp (disch := omega) only [wrap_id]) <;> first | exact ⟨rfl, rfl⟩ | exact rfl)) | (apply Wp.opN; (apply Evt.all; intro; (simp []) <;> (try simp (disch := omega) only [wrap_id]) <;> first | exact ⟨rfl, rfl⟩ | exact rfl)) | (apply Wp.opG; (exact rfl); (apply Evt.all; intro; (simp []) <;> (try simp (disch := omega) only [wrap_id]) <;> first | exact ⟨rfl, rfl⟩ | exact rfl)) | (apply Wp.opS; (exact rfl); decide) | (apply Wp.opS0; (exact rfl)))
      apply Wp.call
      · exact knows_call _
      repeat (first | apply Wp.seq | apply Wp.skip | apply Wp.block | (apply Wp.op0; ((simp [M2.keep]) <;> rfl)) | (apply Wp.op; (apply Evt.all; intro; (simp []) <;> (try simp (disch := omega) only [wrap_id]) <;> first | exact ⟨rfl, rfl⟩ | exact rfl)) | (apply Wp.opN; (apply Evt.all; intro; (simp []) <;> (try simp (disch := omega) only [wrap_id]) <;> first | exact ⟨rfl, rfl⟩ | exact rfl)) | (apply Wp.opG; (exact rfl); (apply Evt.all; intro; (simp []) <;> (try simp (disch := omega) only [wrap_id]) <;> first | exact ⟨rfl, rfl⟩ | exact rfl)) | (apply Wp.opS; (exact rfl); decide) | (apply Wp.opS0; (exact rfl)))
      refine Wp.ret ?_; simp [Res, resU, res1, c_joinerylaw12_RefineFewest]
    · cases ht
  | false =>
    obtain ⟨hl, hs, h60⟩ := great_false hg
    obtain ⟨C, hC, h1⟩ := final_calls false l hl hs
    have hCl := hC.len
    have hst : standsF l (ints C) = true := by simp [standsF, stands_final hC]
    refine Wp.cond (by first | rfl | (simp; rfl)) (fun ht => ?_) (fun ht => ?_)
    · cases ht
    repeat (first | apply Wp.seq | apply Wp.skip | apply Wp.block | (apply Wp.op0; ((simp [M2.keep]) <;> rfl)) | (apply Wp.op; (apply Evt.all; intro; (simp []) <;> (try simp (disch := omega) only [wrap_id]) <;> first | exact ⟨rfl, rfl⟩ | exact rfl)) | (apply Wp.opN; (apply Evt.all; intro; (simp []) <;> (try simp (disch := omega) only [wrap_id]) <;> first | exact ⟨rfl, rfl⟩ | exact rfl)) | (apply Wp.opG; (exact rfl); (apply Evt.all; intro; (simp []) <;> (try simp (disch := omega) only [wrap_id]) <;> first | exact ⟨rfl, rfl⟩ | exact rfl)) | (apply Wp.opS; (exact rfl); decide) | (apply Wp.opS0; (exact rfl)))
    apply Wp.call
    · exact h1 _
    repeat (first | apply Wp.seq | apply Wp.skip | apply Wp.block | (apply Wp.op0; ((simp [M2.keep]) <;> rfl)) | (apply Wp.op; (apply Evt.all; intro; (simp [rowsU, natsU_len, hCl]) <;> (try simp (disch := omega) only [wrap_id]) <;> first | exact ⟨rfl, rfl⟩ | exact rfl)) | (apply Wp.opN; (apply Evt.all; intro; (simp [rowsU, natsU_len, hCl]) <;> (try simp (disch := omega) only [wrap_id]) <;> first | exact ⟨rfl, rfl⟩ | exact rfl)) | (apply Wp.opG; (exact rfl); (apply Evt.all; intro; (simp [rowsU, natsU_len, hCl]) <;> (try simp (disch := omega) only [wrap_id]) <;> first | exact ⟨rfl, rfl⟩ | exact rfl)) | (apply Wp.opS; (exact rfl); decide) | (apply Wp.opS0; (exact rfl)))
    apply Wp.callG
    · exact rfl
    · exact stands_call false true l (ints C) _ (.sl true (natsU C)) (by simp [ints, hCl]) hl hs (by rw [natsU_ints]; rfl)
    rw [hst]
    repeat (first | apply Wp.seq | apply Wp.skip | apply Wp.block | (apply Wp.op0; ((simp [M2.keep]) <;> rfl)) | (apply Wp.op; (apply Evt.all; intro; (simp []) <;> (try simp (disch := omega) only [wrap_id]) <;> first | exact ⟨rfl, rfl⟩ | exact rfl)) | (apply Wp.opN; (apply Evt.all; intro; (simp []) <;> (try simp (disch := omega) only [wrap_id]) <;> first | exact ⟨rfl, rfl⟩ | exact rfl)) | (apply Wp.opG; (exact rfl); (apply Evt.all; intro; (simp []) <;> (try simp (disch := omega) only [wrap_id]) <;> first | exact ⟨rfl, rfl⟩ | exact rfl)) | (apply Wp.opS; (exact rfl); decide) | (apply Wp.opS0; (exact rfl)))
    refine Wp.cond (by first | rfl | (simp; rfl)) (fun ht2 => ?_) (fun ht2 => ?_)
    · cases ht2
    refine Wp.skip ?_
    by_cases ho : o.length = l.length
    · repeat (first | apply Wp.seq | apply Wp.skip | apply Wp.block | (apply Wp.op0; ((simp [M2.keep]) <;> rfl)) | (apply Wp.op; (apply Evt.all; intro; (simp [rowsU, intsU_len, ho]) <;> (try simp (disch := omega) only [wrap_id]) <;> first | exact ⟨rfl, rfl⟩ | exact rfl)) | (apply Wp.opN; (apply Evt.all; intro; (simp [rowsU, intsU_len, ho]) <;> (try simp (disch := omega) only [wrap_id]) <;> first | exact ⟨rfl, rfl⟩ | exact rfl)) | (apply Wp.opG; (exact rfl); (apply Evt.all; intro; (simp [rowsU, intsU_len, ho]) <;> (try simp (disch := omega) only [wrap_id]) <;> first | exact ⟨rfl, rfl⟩ | exact rfl)) | (apply Wp.opS; (exact rfl); decide) | (apply Wp.opS0; (exact rfl)))
      apply Wp.callG
      · exact rfl
      · exact stands_call false false l o _ (.sl false (intsU o)) ho hl hs rfl
      cases hso : standsF l o with
      | false =>
        repeat (first | apply Wp.seq | apply Wp.skip | apply Wp.block | (apply Wp.op0; ((simp [M2.keep]) <;> rfl)) | (apply Wp.op; (apply Evt.all; intro; (simp []) <;> (try simp (disch := omega) only [wrap_id]) <;> first | exact ⟨rfl, rfl⟩ | exact rfl)) | (apply Wp.opN; (apply Evt.all; intro; (simp []) <;> (try simp (disch := omega) only [wrap_id]) <;> first | exact ⟨rfl, rfl⟩ | exact rfl)) | (apply Wp.opG; (exact rfl); (apply Evt.all; intro; (simp []) <;> (try simp (disch := omega) only [wrap_id]) <;> first | exact ⟨rfl, rfl⟩ | exact rfl)) | (apply Wp.opS; (exact rfl); decide) | (apply Wp.opS0; (exact rfl)))
        refine Wp.cond (by first | rfl | (simp; rfl)) (fun ht3 => ?_) (fun ht3 => ?_)
        · repeat (first | apply Wp.seq | apply Wp.skip | apply Wp.block | (apply Wp.op0; ((simp [M2.keep]) <;> rfl)) | (apply Wp.op; (apply Evt.all; intro; (simp []) <;> (try simp (disch := omega) only [wrap_id]) <;> first | exact ⟨rfl, rfl⟩ | exact rfl)) | (apply Wp.opN; (apply Evt.all; intro; (simp []) <;> (try simp (disch := omega) only [wrap_id]) <;> first | exact ⟨rfl, rfl⟩ | exact rfl)) | (apply Wp.opG; (exact rfl); (apply Evt.all; intro; (simp []) <;> (try simp (disch := omega) only [wrap_id]) <;> first | exact ⟨rfl, rfl⟩ | exact rfl)) | (apply Wp.opS; (exact rfl); decide) | (apply Wp.opS0; (exact rfl)))
          apply Wp.call
          · exact knows_call _
          repeat (first | apply Wp.seq | apply Wp.skip | apply Wp.block | (apply Wp.op0; ((simp [M2.keep]) <;> rfl)) | (apply Wp.op; (apply Evt.all; intro; (simp []) <;> (try simp (disch := omega) only [wrap_id]) <;> first | exact ⟨rfl, rfl⟩ | exact rfl)) | (apply Wp.opN; (apply Evt.all; intro; (simp []) <;> (try simp (disch := omega) only [wrap_id]) <;> first | exact ⟨rfl, rfl⟩ | exact rfl)) | (apply Wp.opG; (exact rfl); (apply Evt.all; intro; (simp []) <;> (try simp (disch := omega) only [wrap_id]) <;> first | exact ⟨rfl, rfl⟩ | exact rfl)) | (apply Wp.opS; (exact rfl); decide) | (apply Wp.opS0; (exact rfl)))
          refine Wp.ret ?_; simp [Res, resU, res1, c_joinerylaw12_RefineFewest]
        · cases ht3
      | true =>
        repeat (first | apply Wp.seq | apply Wp.skip | apply Wp.block | (apply Wp.op0; ((simp [M2.keep]) <;> rfl)) | (apply Wp.op; (apply Evt.all; intro; (simp []) <;> (try simp (disch := omega) only [wrap_id]) <;> first | exact ⟨rfl, rfl⟩ | exact rfl)) | (apply Wp.opN; (apply Evt.all; intro; (simp []) <;> (try simp (disch := omega) only [wrap_id]) <;> first | exact ⟨rfl, rfl⟩ | exact rfl)) | (apply Wp.opG; (exact rfl); (apply Evt.all; intro; (simp []) <;> (try simp (disch := omega) only [wrap_id]) <;> first | exact ⟨rfl, rfl⟩ | exact rfl)) | (apply Wp.opS; (exact rfl); decide) | (apply Wp.opS0; (exact rfl)))
        refine Wp.cond (by first | rfl | (simp; rfl)) (fun ht3 => ?_) (fun ht3 => ?_)
        · cases ht3
        repeat (first | apply Wp.seq | apply Wp.skip | apply Wp.block | (apply Wp.op0; ((simp [M2.keep]) <;> rfl)) | (apply Wp.op; (apply Evt.all; intro; (simp []) <;> (try simp (disch := omega) only [wrap_id]) <;> first | exact ⟨rfl, rfl⟩ | exact rfl)) | (apply Wp.opN; (apply Evt.all; intro; (simp []) <;> (try simp (disch := omega) only [wrap_id]) <;> first | exact ⟨rfl, rfl⟩ | exact rfl)) | (apply Wp.opG; (exact rfl); (apply Evt.all; intro; (simp []) <;> (try simp (disch := omega) only [wrap_id]) <;> first | exact ⟨rfl, rfl⟩ | exact rfl)) | (apply Wp.opS; (exact rfl); decide) | (apply Wp.opS0; (exact rfl)))
        have hS : Stands l o := by simpa [standsF] using hso
        refine (show Wp T (.loop c_joinerylaw12_RefineFewest_L2) ⟨l5E l o C (0 : Nat), []⟩ _ _ _ from (l5_loops l o C ho hCl hs (fun i k hi hk e => fewest_final hC hS i k hi hk e)).impB ?_)
        rintro b s rfl
        rw [if_pos rfl]
        repeat (first | apply Wp.seq | apply Wp.skip | apply Wp.block | (apply Wp.op0; ((simp [M2.keep]) <;> rfl)) | (apply Wp.op; (apply Evt.all; intro; (simp []) <;> (try simp (disch := omega) only [wrap_id]) <;> first | exact ⟨rfl, rfl⟩ | exact rfl)) | (apply Wp.opN; (apply Evt.all; intro; (simp []) <;> (try simp (disch := omega) only [wrap_id]) <;> first | exact ⟨rfl, rfl⟩ | exact rfl)) | (apply Wp.opG; (exact rfl); (apply Evt.all; intro; (simp []) <;> (try simp (disch := omega) only [wrap_id]) <;> first | exact ⟨rfl, rfl⟩ | exact rfl)) | (apply Wp.opS; (exact rfl); decide) | (apply Wp.opS0; (exact rfl)))
        apply Wp.call
        · exact knows_call _
        repeat (first | apply Wp.seq | apply Wp.skip | apply Wp.block | (apply Wp.op0; ((simp [M2.keep]) <;> rfl)) | (apply Wp.op; (apply Evt.all; intro; (simp []) <;> (try simp (disch := omega) only [wrap_id]) <;> first | exact ⟨rfl, rfl⟩ | exact rfl)) | (apply Wp.opN; (apply Evt.all; intro; (simp []) <;> (try simp (disch := omega) only [wrap_id]) <;> first | exact ⟨rfl, rfl⟩ | exact rfl)) | (apply Wp.opG; (exact rfl); (apply Evt.all; intro; (simp []) <;> (try simp (disch := omega) only [wrap_id]) <;> first | exact ⟨rfl, rfl⟩ | exact rfl)) | (apply Wp.opS; (exact rfl); decide) | (apply Wp.opS0; (exact rfl)))
        refine Wp.ret ?_; simp [Res, resU, res1, c_joinerylaw12_RefineFewest]
    · have ho' : ¬ (o.length : Int) = l.length := by omega
      repeat (first | apply Wp.seq | apply Wp.skip | apply Wp.block | (apply Wp.op0; ((simp [M2.keep]) <;> rfl)) | (apply Wp.op; (apply Evt.all; intro; (simp [rowsU, intsU_len, ho']) <;> (try simp (disch := omega) only [wrap_id]) <;> first | exact ⟨rfl, rfl⟩ | exact rfl)) | (apply Wp.opN; (apply Evt.all; intro; (simp [rowsU, intsU_len, ho']) <;> (try simp (disch := omega) only [wrap_id]) <;> first | exact ⟨rfl, rfl⟩ | exact rfl)) | (apply Wp.opG; (exact rfl); (apply Evt.all; intro; (simp [rowsU, intsU_len, ho']) <;> (try simp (disch := omega) only [wrap_id]) <;> first | exact ⟨rfl, rfl⟩ | exact rfl)) | (apply Wp.opS; (exact rfl); decide) | (apply Wp.opS0; (exact rfl)))
      refine Wp.cond (by first | rfl | (simp; rfl)) (fun ht3 => ?_) (fun ht3 => ?_)
      · repeat (first | apply Wp.seq | apply Wp.skip | apply Wp.block | (apply Wp.op0; ((simp [M2.keep]) <;> rfl)) | (apply Wp.op; (apply Evt.all; intro; (simp []) <;> (try simp (disch := omega) only [wrap_id]) <;> first | exact ⟨rfl, rfl⟩ | exact rfl)) | (apply Wp.opN; (apply Evt.all; intro; (simp []) <;> (try simp (disch := omega) only [wrap_id]) <;> first | exact ⟨rfl, rfl⟩ | exact rfl)) | (apply Wp.opG; (exact rfl); (apply Evt.all; intro; (simp []) <;> (try simp (disch := omega) only [wrap_id]) <;> first | exact ⟨rfl, rfl⟩ | exact rfl)) | (apply Wp.opS; (exact rfl); decide) | (apply Wp.opS0; (exact rfl)))
        apply Wp.call
        · exact knows_call _
        repeat (first | apply Wp.seq | apply Wp.skip | apply Wp.block | (apply Wp.op0; ((simp [M2.keep]) <;> rfl)) | (apply Wp.op; (apply Evt.all; intro; (simp []) <;> (try simp (disch := omega) only [wrap_id]) <;> first | exact ⟨rfl, rfl⟩ | exact rfl)) | (apply Wp.opN; (apply Evt.all; intro; (simp []) <;> (try simp (disch := omega) only [wrap_id]) <;> first | exact ⟨rfl, rfl⟩ | exact rfl)) | (apply Wp.opG; (exact rfl); (apply Evt.all; intro; (simp []) <;> (try simp (disch := omega) only [wrap_id]) <;> first | exact ⟨rfl, rfl⟩ | exact rfl)) | (apply Wp.opS; (exact rfl); decide) | (apply Wp.opS0; (exact rfl)))
        refine Wp.ret ?_; simp [Res, resU, res1, c_joinerylaw12_RefineFewest]
      · cases ht3
theorem params5 : Try.f5.params.toList = [22, 25] := by kernel_rfl
theorem law5 : Law 5 Try.f5.params.toList := by
  rw [params5]
  intro us hl hty
  match us, hl with
  | [u, v], _ =>
    obtain ⟨l, rfl, hlen⟩ := typed_rows (hty 0 22 u rfl rfl)
    obtain ⟨o, rfl, _⟩ := typed_ints (hty 1 25 v rfl rfl)
    exact law_of (law5_call l o hlen)
end Go.Proofs.Ytaefnggoempdlaa.M2

/- RefineFewest: what has one class leads to the same classes and marks; and if any other classes do so, things of one of those have one class here. No condition. -/
namespace Go.Proofs.Ytaefnggoempdlaa
theorem refineFewest_said : Rows.RefineFewestSaid := M2.fewest_holds M2.law5
end Go.Proofs.Ytaefnggoempdlaa
