/- RefineLike: things of one colour that lead to the same cannot be told apart. No condition. -/
import Derived.Test.YtaefnggoempdlaaClaw6
import Derived.Test.YtaefnggoempdlaaCd
set_option linter.unusedSimpArgs false
set_option linter.unusedVariables false
set_option linter.unusedSectionVars false
/- The law RefineLike in M2. -/
namespace Go.Proofs.Ytaefnggoempdlaa.M2
open Go
attribute [local simp] ev1 M2.get put A.ev ld sub part elems bin arith un opt idx fillC cellsO splice over newOb sto fillR laidOwn appTo appRow touch touchN touchM touchE touchA plainU flatU plainAs allM rowAt stoRow accM_nil accM_cons accMM_nil accMM_cons frz_int frz_bool frz_str frz_slt frz_nils frz_nilI frz_nilF frz_own frzRow_row frzRow_frow Ob.blw blw_bool blw_int blw_str blw_nils blw_nilI blw_nilF blw_nilp blw_nilm blw_sl blw_own blw_bp blw_rp blw_mp blw_it params
attribute [local simp] beq_dec bne_dec

theorem Dr.callG {T : Nat → Option F} {nid d f g : Nat} {b : Bool} {xs : List A} {e : Env} {st st1 : List Ob} {u : U} {s' : S} {l : List O} {t : Touch} {ts : List Touch} (hg : M2.get e g = .bool b) (ht : touch (pfT T) e st nid (.call f xs) = t) (h : Cl T f (xs.map (·.ev e)) st u st1) (k : Dr T nid ⟨(d, u) :: e, st1⟩ l s' ts) : Dr T nid ⟨e, st⟩ (⟨some d, .call f xs, some (g, b)⟩ :: l) s' (t :: ts) :=
  Dr.opG hg ht (h.mono fun n h => h) rfl k
theorem pf9 : pfT T 9 = true := rfl
theorem pf10 : pfT T 10 = true := rfl
theorem like_final {l : List Row} {C : List Nat} (hC : Final l C) {a b : Nat} (ha : a < l.length) (hb : b < l.length) (hc : l[a].c = l[b].c) (ht : l[a].to = l[b].to) : C.getD a 0 = C.getD b 0 := by
  refine hC.fewest (fun i k => i = k ∨ (i = a ∧ k = b)) (fun i k hi hk h => ?_) a b ha hb (.inr ⟨rfl, rfl⟩)
  have key : (l.getD i default).c = (l.getD k default).c ∧ (l.getD i default).to = (l.getD k default).to := by
    rcases h with rfl | ⟨rfl, rfl⟩
    · exact ⟨rfl, rfl⟩
    · rw [getRow ha, getRow hb]
      exact ⟨hc, ht⟩
  rw [key.2]
  refine ⟨key.1, rfl, fun m _ => ?_⟩
  split
  · exact .inl rfl
  · rfl
def l7E (l : List Row) (a b n : Nat) : Env := [(0, rowsU false l), (1, i64 a), (2, i64 b), (7, i64 n)]
theorem l7_step (l : List Row) (a b n : Nat) (ha : a < l.length) (hb : b < l.length) (hn : n < l[a].to.length) (hn2 : n < l[b].to.length) (hs : l[a].to.length < 1000000000000) :
    Wp T c_joinerylaw12_RefineLike_L2 ⟨l7E l a b n, []⟩ (fun s' => trimO 0 s' = ⟨l7E l a b (n + 1 : Nat), []⟩ ∧ l[a].to[n] = l[b].to[n]) (Res c_joinerylaw12_RefineLike (.bool true)) (fun _ _ => False) := by
  simp only [l7E]
  repeat (first | apply Wp.seq | apply Wp.skip | apply Wp.block | (apply Wp.op0; ((simp [M2.keep]) <;> rfl)) | (apply Wp.op; (apply Evt.all; intro; (simp [rowsU, ha, rowU_eq, refsU_len, hn]) <;> (try simp (disch := omega) only [wrap_id]) <;> first | exact ⟨rfl, rfl⟩ | exact rfl)) | (apply Wp.opN; (apply Evt.all; intro; (simp [rowsU, ha, rowU_eq, refsU_len, hn]) <;> (try simp (disch := omega) only [wrap_id]) <;> first | exact ⟨rfl, rfl⟩ | exact rfl)) | (apply Wp.opG; (exact rfl); (apply Evt.all; intro; (simp [rowsU, ha, rowU_eq, refsU_len, hn]) <;> (try simp (disch := omega) only [wrap_id]) <;> first | exact ⟨rfl, rfl⟩ | exact rfl)) | (apply Wp.opS; (exact rfl); decide) | (apply Wp.opS0; (exact rfl)))
  refine Wp.cond (by first | rfl | (simp; rfl)) (fun ht => ?_) (fun ht => ?_)
  · refine Wp.skip ?_
    apply Wp.seq
    apply Wp.block
    apply Wp.seq
    generalize hx : l[a].to[n] = x
    generalize hy : l[b].to[n] = y
    obtain ⟨x1, x2⟩ := x
    obtain ⟨y1, y2⟩ := y
    by_cases e : x1 = y1 ∧ x2 = y2
    · obtain ⟨rfl, rfl⟩ := e
      refine Wp.draw (by (simp [c_joinerylaw12_RefineLike_D1, I.need]) <;> rfl) (by (simp [rowsU, ha, hb, rowU_eq, refsU, hn, hn2, refU, hx, hy, ref_same2]) <;> rfl) (by (simp [rowsU, ha, hb, rowU_eq, refsU, hn, hn2, refU, hx, hy, ref_same2]) <;> rfl) (by (unfold c_joinerylaw12_RefineLike_D1); (repeat (first | (apply Dr.op; ((simp [rowsU, ha, hb, rowU_eq, refsU, hn, hn2, refU, hx, hy, ref_same2]) <;> rfl); (apply Evt.all; intro; (simp [rowsU, ha, hb, rowU_eq, refsU, hn, hn2, refU, hx, hy, ref_same2]) <;> (try simp (disch := omega) only [wrap_id]) <;> first | exact ⟨rfl, rfl⟩ | exact rfl); ((simp [I.need]) <;> rfl)) | (apply Dr.opN; ((simp [rowsU, ha, hb, rowU_eq, refsU, hn, hn2, refU, hx, hy, ref_same2]) <;> rfl); (apply Evt.all; intro; (simp [rowsU, ha, hb, rowU_eq, refsU, hn, hn2, refU, hx, hy, ref_same2]) <;> (try simp (disch := omega) only [wrap_id]) <;> first | exact ⟨rfl, rfl⟩ | exact rfl); ((simp [I.need]) <;> rfl)) | (apply Dr.opG; (exact rfl); ((simp [rowsU, ha, hb, rowU_eq, refsU, hn, hn2, refU, hx, hy, ref_same2]) <;> rfl); (apply Evt.all; intro; (simp [rowsU, ha, hb, rowU_eq, refsU, hn, hn2, refU, hx, hy, ref_same2]) <;> (try simp (disch := omega) only [wrap_id]) <;> first | exact ⟨rfl, rfl⟩ | exact rfl); ((simp [I.need]) <;> rfl)) | (apply Dr.opS; (exact rfl); decide; ((simp [I.need]) <;> rfl)) | (apply Dr.opS0; (exact rfl); ((simp [I.need]) <;> rfl)))); exact Dr.nil) (by first | decide +kernel | exact rfl) (by (simp [M2.keep]) <;> rfl) ?_
      refine Wp.cond (by first | rfl | (simp; rfl)) (fun ht2 => ?_) (fun ht2 => ?_)
      · cases ht2
      repeat (first | apply Wp.seq | apply Wp.skip | apply Wp.block | (apply Wp.op0; ((simp [M2.keep]) <;> rfl)) | (apply Wp.op; (apply Evt.all; intro; (simp []) <;> (try simp (disch := omega) only [wrap_id]) <;> first | exact ⟨rfl, rfl⟩ | exact rfl)) | (apply Wp.opN; (apply Evt.all; intro; (simp []) <;> (try simp (disch := omega) only [wrap_id]) <;> first | exact ⟨rfl, rfl⟩ | exact rfl)) | (apply Wp.opG; (exact rfl); (apply Evt.all; intro; (simp []) <;> (try simp (disch := omega) only [wrap_id]) <;> first | exact ⟨rfl, rfl⟩ | exact rfl)) | (apply Wp.opS; (exact rfl); decide) | (apply Wp.opS0; (exact rfl)))
      exact ⟨by simp [trimO, trim, rowsU], rfl⟩
    · have e' : ((x1, x2) = (y1, y2)) = False := by simpa using e
      refine Wp.draw (by (simp [c_joinerylaw12_RefineLike_D1, I.need]) <;> rfl) (by (simp [rowsU, ha, hb, rowU_eq, refsU, hn, hn2, refU, hx, hy, ref_same2, e', e]) <;> rfl) (by (simp [rowsU, ha, hb, rowU_eq, refsU, hn, hn2, refU, hx, hy, ref_same2, e', e]) <;> rfl) (by (unfold c_joinerylaw12_RefineLike_D1); (repeat (first | (apply Dr.op; ((simp [rowsU, ha, hb, rowU_eq, refsU, hn, hn2, refU, hx, hy, ref_same2, e', e]) <;> rfl); (apply Evt.all; intro; (simp [rowsU, ha, hb, rowU_eq, refsU, hn, hn2, refU, hx, hy, ref_same2, e', e]) <;> (try simp (disch := omega) only [wrap_id]) <;> first | exact ⟨rfl, rfl⟩ | exact rfl); ((simp [I.need]) <;> rfl)) | (apply Dr.opN; ((simp [rowsU, ha, hb, rowU_eq, refsU, hn, hn2, refU, hx, hy, ref_same2, e', e]) <;> rfl); (apply Evt.all; intro; (simp [rowsU, ha, hb, rowU_eq, refsU, hn, hn2, refU, hx, hy, ref_same2, e', e]) <;> (try simp (disch := omega) only [wrap_id]) <;> first | exact ⟨rfl, rfl⟩ | exact rfl); ((simp [I.need]) <;> rfl)) | (apply Dr.opG; (exact rfl); ((simp [rowsU, ha, hb, rowU_eq, refsU, hn, hn2, refU, hx, hy, ref_same2, e', e]) <;> rfl); (apply Evt.all; intro; (simp [rowsU, ha, hb, rowU_eq, refsU, hn, hn2, refU, hx, hy, ref_same2, e', e]) <;> (try simp (disch := omega) only [wrap_id]) <;> first | exact ⟨rfl, rfl⟩ | exact rfl); ((simp [I.need]) <;> rfl)) | (apply Dr.opS; (exact rfl); decide; ((simp [I.need]) <;> rfl)) | (apply Dr.opS0; (exact rfl); ((simp [I.need]) <;> rfl)))); exact Dr.nil) (by first | decide +kernel | exact rfl) (by (simp [M2.keep]) <;> rfl) ?_
      refine Wp.cond (by first | rfl | (simp; rfl)) (fun ht2 => ?_) (fun ht2 => ?_)
      · repeat (first | apply Wp.seq | apply Wp.skip | apply Wp.block | (apply Wp.op0; ((simp [M2.keep]) <;> rfl)) | (apply Wp.op; (apply Evt.all; intro; (simp []) <;> (try simp (disch := omega) only [wrap_id]) <;> first | exact ⟨rfl, rfl⟩ | exact rfl)) | (apply Wp.opN; (apply Evt.all; intro; (simp []) <;> (try simp (disch := omega) only [wrap_id]) <;> first | exact ⟨rfl, rfl⟩ | exact rfl)) | (apply Wp.opG; (exact rfl); (apply Evt.all; intro; (simp []) <;> (try simp (disch := omega) only [wrap_id]) <;> first | exact ⟨rfl, rfl⟩ | exact rfl)) | (apply Wp.opS; (exact rfl); decide) | (apply Wp.opS0; (exact rfl)))
        apply Wp.call
        · exact knows_call _
        repeat (first | apply Wp.seq | apply Wp.skip | apply Wp.block | (apply Wp.op0; ((simp [M2.keep]) <;> rfl)) | (apply Wp.op; (apply Evt.all; intro; (simp []) <;> (try simp (disch := omega) only [wrap_id]) <;> first | exact ⟨rfl, rfl⟩ | exact rfl)) | (apply Wp.opN; (apply Evt.all; intro; (simp []) <;> (try simp (disch := omega) only [wrap_id]) <;> first | exact ⟨rfl, rfl⟩ | exact rfl)) | (apply Wp.opG; (exact rfl); (apply Evt.all; intro; (simp []) <;> (try simp (disch := omega) only [wrap_id]) <;> first | exact ⟨rfl, rfl⟩ | exact rfl)) | (apply Wp.opS; (exact rfl); decide) | (apply Wp.opS0; (exact rfl)))
        refine Wp.ret ?_; simp [Res, resU, res1, c_joinerylaw12_RefineLike]
      · simp [e] at ht2
  · cases ht
theorem law7_call (l : List Row) (i k : Int) (hlen : l.length < 9223372036854775808) : Cl T 7 [rowsU false l, i64 i, i64 k] [] (.bool true) [] := by
  refine Wp.pure (fn := c_joinerylaw12_RefineLike) rfl rfl rfl («as» := [rowsU false l, i64 i, i64 k]) rfl ?_
  repeat (first | apply Wp.seq | apply Wp.skip | apply Wp.block | (apply Wp.op0; ((simp [M2.keep]) <;> rfl)) | (apply Wp.op; (apply Evt.all; intro; (simp []) <;> (try simp (disch := omega) only [wrap_id]) <;> first | exact ⟨rfl, rfl⟩ | exact rfl)) | (apply Wp.opN; (apply Evt.all; intro; (simp []) <;> (try simp (disch := omega) only [wrap_id]) <;> first | exact ⟨rfl, rfl⟩ | exact rfl)) | (apply Wp.opG; (exact rfl); (apply Evt.all; intro; (simp []) <;> (try simp (disch := omega) only [wrap_id]) <;> first | exact ⟨rfl, rfl⟩ | exact rfl)) | (apply Wp.opS; (exact rfl); decide) | (apply Wp.opS0; (exact rfl)))
  have gr := fun st => great_call l false st hlen
  cases hg : great l with
  | true =>
    apply Wp.draw; ((simp [c_joinerylaw12_RefineLike_D0, I.need]) <;> rfl); ((simp []) <;> rfl); ((simp []) <;> rfl); unfold c_joinerylaw12_RefineLike_D0
    repeat (first | (apply Dr.op; ((simp []) <;> rfl); (apply Evt.all; intro; (simp []) <;> (try simp (disch := omega) only [wrap_id]) <;> first | exact ⟨rfl, rfl⟩ | exact rfl); ((simp [I.need]) <;> rfl)) | (apply Dr.opN; ((simp []) <;> rfl); (apply Evt.all; intro; (simp []) <;> (try simp (disch := omega) only [wrap_id]) <;> first | exact ⟨rfl, rfl⟩ | exact rfl); ((simp [I.need]) <;> rfl)) | (apply Dr.opG; (exact rfl); ((simp []) <;> rfl); (apply Evt.all; intro; (simp []) <;> (try simp (disch := omega) only [wrap_id]) <;> first | exact ⟨rfl, rfl⟩ | exact rfl); ((simp [I.need]) <;> rfl)) | (apply Dr.opS; (exact rfl); decide; ((simp [I.need]) <;> rfl)) | (apply Dr.opS0; (exact rfl); ((simp [I.need]) <;> rfl)))
    apply Dr.call
    · (simp [pf9, pf10, rowsU]) <;> rfl
    · exact gr _
    rw [hg]
    repeat (first | (apply Dr.op; ((simp []) <;> rfl); (apply Evt.all; intro; (simp []) <;> (try simp (disch := omega) only [wrap_id]) <;> first | exact ⟨rfl, rfl⟩ | exact rfl); ((simp [I.need]) <;> rfl)) | (apply Dr.opN; ((simp []) <;> rfl); (apply Evt.all; intro; (simp []) <;> (try simp (disch := omega) only [wrap_id]) <;> first | exact ⟨rfl, rfl⟩ | exact rfl); ((simp [I.need]) <;> rfl)) | (apply Dr.opG; (exact rfl); ((simp []) <;> rfl); (apply Evt.all; intro; (simp []) <;> (try simp (disch := omega) only [wrap_id]) <;> first | exact ⟨rfl, rfl⟩ | exact rfl); ((simp [I.need]) <;> rfl)) | (apply Dr.opS; (exact rfl); decide; ((simp [I.need]) <;> rfl)) | (apply Dr.opS0; (exact rfl); ((simp [I.need]) <;> rfl)))
    exact Dr.nil; (first | decide +kernel | exact rfl); ((simp [M2.keep]) <;> rfl)
    refine Wp.cond (by first | rfl | (simp; rfl)) (fun ht2 => ?_) (fun ht2 => ?_)
    · repeat (first | apply Wp.seq | apply Wp.skip | apply Wp.block | (apply Wp.op0; ((simp [M2.keep]) <;> rfl)) | (apply Wp.op; (apply Evt.all; intro; (simp []) <;> (try simp (disch := omega) only [wrap_id]) <;> first | exact ⟨rfl, rfl⟩ | exact rfl)) | (apply Wp.opN; (apply Evt.all; intro; (simp []) <;> (try simp (disch := omega) only [wrap_id]) <;> first | exact ⟨rfl, rfl⟩ | exact rfl)) | (apply Wp.opG; (exact rfl); (apply Evt.all; intro; (simp []) <;> (try simp (disch := omega) only [wrap_id]) <;> first | exact ⟨rfl, rfl⟩ | exact rfl)) | (apply Wp.opS; (exact rfl); decide) | (apply Wp.opS0; (exact rfl)))
      apply Wp.call
      · exact knows_call _
      repeat (first | apply Wp.seq | apply Wp.skip | apply Wp.block | (apply Wp.op0; ((simp [M2.keep]) <;> rfl)) | (apply Wp.op; (apply Evt.all; intro; (simp []) <;> (try simp (disch := omega) only [wrap_id]) <;> first | exact ⟨rfl, rfl⟩ | exact rfl)) | (apply Wp.opN; (apply Evt.all; intro; (simp []) <;> (try simp (disch := omega) only [wrap_id]) <;> first | exact ⟨rfl, rfl⟩ | exact rfl)) | (apply Wp.opG; (exact rfl); (apply Evt.all; intro; (simp []) <;> (try simp (disch := omega) only [wrap_id]) <;> first | exact ⟨rfl, rfl⟩ | exact rfl)) | (apply Wp.opS; (exact rfl); decide) | (apply Wp.opS0; (exact rfl)))
      refine Wp.ret ?_; simp [Res, resU, res1, c_joinerylaw12_RefineLike]
    · cases ht2
  | false =>
    obtain ⟨hl, hs, h60⟩ := great_false hg
    obtain ⟨C, hC, h1⟩ := final_calls false l hl hs
    have hCl := hC.len
    by_cases c1 : i < 0
    · skip
      apply Wp.draw; ((simp [c_joinerylaw12_RefineLike_D0, I.need]) <;> rfl); ((simp []) <;> rfl); ((simp []) <;> rfl); unfold c_joinerylaw12_RefineLike_D0
      repeat (first | (apply Dr.op; ((simp []) <;> rfl); (apply Evt.all; intro; (simp []) <;> (try simp (disch := omega) only [wrap_id]) <;> first | exact ⟨rfl, rfl⟩ | exact rfl); ((simp [I.need]) <;> rfl)) | (apply Dr.opN; ((simp []) <;> rfl); (apply Evt.all; intro; (simp []) <;> (try simp (disch := omega) only [wrap_id]) <;> first | exact ⟨rfl, rfl⟩ | exact rfl); ((simp [I.need]) <;> rfl)) | (apply Dr.opG; (exact rfl); ((simp []) <;> rfl); (apply Evt.all; intro; (simp []) <;> (try simp (disch := omega) only [wrap_id]) <;> first | exact ⟨rfl, rfl⟩ | exact rfl); ((simp [I.need]) <;> rfl)) | (apply Dr.opS; (exact rfl); decide; ((simp [I.need]) <;> rfl)) | (apply Dr.opS0; (exact rfl); ((simp [I.need]) <;> rfl)))
      apply Dr.call
      · (simp [pf9, pf10, rowsU]) <;> rfl
      · exact gr _
      rw [hg]
      repeat (first | (apply Dr.op; ((simp [c1]) <;> rfl); (apply Evt.all; intro; (simp [c1]) <;> (try simp (disch := omega) only [wrap_id]) <;> first | exact ⟨rfl, rfl⟩ | exact rfl); ((simp [I.need]) <;> rfl)) | (apply Dr.opN; ((simp [c1]) <;> rfl); (apply Evt.all; intro; (simp [c1]) <;> (try simp (disch := omega) only [wrap_id]) <;> first | exact ⟨rfl, rfl⟩ | exact rfl); ((simp [I.need]) <;> rfl)) | (apply Dr.opG; (exact rfl); ((simp [c1]) <;> rfl); (apply Evt.all; intro; (simp [c1]) <;> (try simp (disch := omega) only [wrap_id]) <;> first | exact ⟨rfl, rfl⟩ | exact rfl); ((simp [I.need]) <;> rfl)) | (apply Dr.opS; (exact rfl); decide; ((simp [I.need]) <;> rfl)) | (apply Dr.opS0; (exact rfl); ((simp [I.need]) <;> rfl)))
      exact Dr.nil; (first | decide +kernel | exact rfl); ((simp [M2.keep]) <;> rfl)
      refine Wp.cond (by first | rfl | (simp; rfl)) (fun ht2 => ?_) (fun ht2 => ?_)
      · repeat (first | apply Wp.seq | apply Wp.skip | apply Wp.block | (apply Wp.op0; ((simp [M2.keep]) <;> rfl)) | (apply Wp.op; (apply Evt.all; intro; (simp []) <;> (try simp (disch := omega) only [wrap_id]) <;> first | exact ⟨rfl, rfl⟩ | exact rfl)) | (apply Wp.opN; (apply Evt.all; intro; (simp []) <;> (try simp (disch := omega) only [wrap_id]) <;> first | exact ⟨rfl, rfl⟩ | exact rfl)) | (apply Wp.opG; (exact rfl); (apply Evt.all; intro; (simp []) <;> (try simp (disch := omega) only [wrap_id]) <;> first | exact ⟨rfl, rfl⟩ | exact rfl)) | (apply Wp.opS; (exact rfl); decide) | (apply Wp.opS0; (exact rfl)))
        apply Wp.call
        · exact knows_call _
        repeat (first | apply Wp.seq | apply Wp.skip | apply Wp.block | (apply Wp.op0; ((simp [M2.keep]) <;> rfl)) | (apply Wp.op; (apply Evt.all; intro; (simp []) <;> (try simp (disch := omega) only [wrap_id]) <;> first | exact ⟨rfl, rfl⟩ | exact rfl)) | (apply Wp.opN; (apply Evt.all; intro; (simp []) <;> (try simp (disch := omega) only [wrap_id]) <;> first | exact ⟨rfl, rfl⟩ | exact rfl)) | (apply Wp.opG; (exact rfl); (apply Evt.all; intro; (simp []) <;> (try simp (disch := omega) only [wrap_id]) <;> first | exact ⟨rfl, rfl⟩ | exact rfl)) | (apply Wp.opS; (exact rfl); decide) | (apply Wp.opS0; (exact rfl)))
        refine Wp.ret ?_; simp [Res, resU, res1, c_joinerylaw12_RefineLike]
      · cases ht2
    by_cases c2 : k < 0
    · skip
      apply Wp.draw; ((simp [c_joinerylaw12_RefineLike_D0, I.need]) <;> rfl); ((simp []) <;> rfl); ((simp []) <;> rfl); unfold c_joinerylaw12_RefineLike_D0
      repeat (first | (apply Dr.op; ((simp []) <;> rfl); (apply Evt.all; intro; (simp []) <;> (try simp (disch := omega) only [wrap_id]) <;> first | exact ⟨rfl, rfl⟩ | exact rfl); ((simp [I.need]) <;> rfl)) | (apply Dr.opN; ((simp []) <;> rfl); (apply Evt.all; intro; (simp []) <;> (try simp (disch := omega) only [wrap_id]) <;> first | exact ⟨rfl, rfl⟩ | exact rfl); ((simp [I.need]) <;> rfl)) | (apply Dr.opG; (exact rfl); ((simp []) <;> rfl); (apply Evt.all; intro; (simp []) <;> (try simp (disch := omega) only [wrap_id]) <;> first | exact ⟨rfl, rfl⟩ | exact rfl); ((simp [I.need]) <;> rfl)) | (apply Dr.opS; (exact rfl); decide; ((simp [I.need]) <;> rfl)) | (apply Dr.opS0; (exact rfl); ((simp [I.need]) <;> rfl)))
      apply Dr.call
      · (simp [pf9, pf10, rowsU]) <;> rfl
      · exact gr _
      rw [hg]
      repeat (first | (apply Dr.op; ((simp [c1, c2]) <;> rfl); (apply Evt.all; intro; (simp [c1, c2]) <;> (try simp (disch := omega) only [wrap_id]) <;> first | exact ⟨rfl, rfl⟩ | exact rfl); ((simp [I.need]) <;> rfl)) | (apply Dr.opN; ((simp [c1, c2]) <;> rfl); (apply Evt.all; intro; (simp [c1, c2]) <;> (try simp (disch := omega) only [wrap_id]) <;> first | exact ⟨rfl, rfl⟩ | exact rfl); ((simp [I.need]) <;> rfl)) | (apply Dr.opG; (exact rfl); ((simp [c1, c2]) <;> rfl); (apply Evt.all; intro; (simp [c1, c2]) <;> (try simp (disch := omega) only [wrap_id]) <;> first | exact ⟨rfl, rfl⟩ | exact rfl); ((simp [I.need]) <;> rfl)) | (apply Dr.opS; (exact rfl); decide; ((simp [I.need]) <;> rfl)) | (apply Dr.opS0; (exact rfl); ((simp [I.need]) <;> rfl)))
      exact Dr.nil; (first | decide +kernel | exact rfl); ((simp [M2.keep]) <;> rfl)
      refine Wp.cond (by first | rfl | (simp; rfl)) (fun ht2 => ?_) (fun ht2 => ?_)
      · repeat (first | apply Wp.seq | apply Wp.skip | apply Wp.block | (apply Wp.op0; ((simp [M2.keep]) <;> rfl)) | (apply Wp.op; (apply Evt.all; intro; (simp []) <;> (try simp (disch := omega) only [wrap_id]) <;> first | exact ⟨rfl, rfl⟩ | exact rfl)) | (apply Wp.opN; (apply Evt.all; intro; (simp []) <;> (try simp (disch := omega) only [wrap_id]) <;> first | exact ⟨rfl, rfl⟩ | exact rfl)) | (apply Wp.opG; (exact rfl); (apply Evt.all; intro; (simp []) <;> (try simp (disch := omega) only [wrap_id]) <;> first | exact ⟨rfl, rfl⟩ | exact rfl)) | (apply Wp.opS; (exact rfl); decide) | (apply Wp.opS0; (exact rfl)))
        apply Wp.call
        · exact knows_call _
        repeat (first | apply Wp.seq | apply Wp.skip | apply Wp.block | (apply Wp.op0; ((simp [M2.keep]) <;> rfl)) | (apply Wp.op; (apply Evt.all; intro; (simp []) <;> (try simp (disch := omega) only [wrap_id]) <;> first | exact ⟨rfl, rfl⟩ | exact rfl)) | (apply Wp.opN; (apply Evt.all; intro; (simp []) <;> (try simp (disch := omega) only [wrap_id]) <;> first | exact ⟨rfl, rfl⟩ | exact rfl)) | (apply Wp.opG; (exact rfl); (apply Evt.all; intro; (simp []) <;> (try simp (disch := omega) only [wrap_id]) <;> first | exact ⟨rfl, rfl⟩ | exact rfl)) | (apply Wp.opS; (exact rfl); decide) | (apply Wp.opS0; (exact rfl)))
        refine Wp.ret ?_; simp [Res, resU, res1, c_joinerylaw12_RefineLike]
      · cases ht2
    by_cases c3 : (l.length : Int) ≤ i
    · skip
      apply Wp.draw; ((simp [c_joinerylaw12_RefineLike_D0, I.need]) <;> rfl); ((simp []) <;> rfl); ((simp []) <;> rfl); unfold c_joinerylaw12_RefineLike_D0
      repeat (first | (apply Dr.op; ((simp []) <;> rfl); (apply Evt.all; intro; (simp []) <;> (try simp (disch := omega) only [wrap_id]) <;> first | exact ⟨rfl, rfl⟩ | exact rfl); ((simp [I.need]) <;> rfl)) | (apply Dr.opN; ((simp []) <;> rfl); (apply Evt.all; intro; (simp []) <;> (try simp (disch := omega) only [wrap_id]) <;> first | exact ⟨rfl, rfl⟩ | exact rfl); ((simp [I.need]) <;> rfl)) | (apply Dr.opG; (exact rfl); ((simp []) <;> rfl); (apply Evt.all; intro; (simp []) <;> (try simp (disch := omega) only [wrap_id]) <;> first | exact ⟨rfl, rfl⟩ | exact rfl); ((simp [I.need]) <;> rfl)) | (apply Dr.opS; (exact rfl); decide; ((simp [I.need]) <;> rfl)) | (apply Dr.opS0; (exact rfl); ((simp [I.need]) <;> rfl)))
      apply Dr.call
      · (simp [pf9, pf10, rowsU]) <;> rfl
      · exact gr _
      rw [hg]
      repeat (first | (apply Dr.op; ((simp [c1, c2, c3, rowsU]) <;> rfl); (apply Evt.all; intro; (simp [c1, c2, c3, rowsU]) <;> (try simp (disch := omega) only [wrap_id]) <;> first | exact ⟨rfl, rfl⟩ | exact rfl); ((simp [I.need]) <;> rfl)) | (apply Dr.opN; ((simp [c1, c2, c3, rowsU]) <;> rfl); (apply Evt.all; intro; (simp [c1, c2, c3, rowsU]) <;> (try simp (disch := omega) only [wrap_id]) <;> first | exact ⟨rfl, rfl⟩ | exact rfl); ((simp [I.need]) <;> rfl)) | (apply Dr.opG; (exact rfl); ((simp [c1, c2, c3, rowsU]) <;> rfl); (apply Evt.all; intro; (simp [c1, c2, c3, rowsU]) <;> (try simp (disch := omega) only [wrap_id]) <;> first | exact ⟨rfl, rfl⟩ | exact rfl); ((simp [I.need]) <;> rfl)) | (apply Dr.opS; (exact rfl); decide; ((simp [I.need]) <;> rfl)) | (apply Dr.opS0; (exact rfl); ((simp [I.need]) <;> rfl)))
      exact Dr.nil; (first | decide +kernel | exact rfl); ((simp [M2.keep]) <;> rfl)
      refine Wp.cond (by first | rfl | (simp; rfl)) (fun ht2 => ?_) (fun ht2 => ?_)
      · repeat (first | apply Wp.seq | apply Wp.skip | apply Wp.block | (apply Wp.op0; ((simp [M2.keep]) <;> rfl)) | (apply Wp.op; (apply Evt.all; intro; (simp []) <;> (try simp (disch := omega) only [wrap_id]) <;> first | exact ⟨rfl, rfl⟩ | exact rfl)) | (apply Wp.opN; (apply Evt.all; intro; (simp []) <;> (try simp (disch := omega) only [wrap_id]) <;> first | exact ⟨rfl, rfl⟩ | exact rfl)) | (apply Wp.opG; (exact rfl); (apply Evt.all; intro; (simp []) <;> (try simp (disch := omega) only [wrap_id]) <;> first | exact ⟨rfl, rfl⟩ | exact rfl)) | (apply Wp.opS; (exact rfl); decide) | (apply Wp.opS0; (exact rfl)))
        apply Wp.call
        · exact knows_call _
        repeat (first | apply Wp.seq | apply Wp.skip | apply Wp.block | (apply Wp.op0; ((simp [M2.keep]) <;> rfl)) | (apply Wp.op; (apply Evt.all; intro; (simp []) <;> (try simp (disch := omega) only [wrap_id]) <;> first | exact ⟨rfl, rfl⟩ | exact rfl)) | (apply Wp.opN; (apply Evt.all; intro; (simp []) <;> (try simp (disch := omega) only [wrap_id]) <;> first | exact ⟨rfl, rfl⟩ | exact rfl)) | (apply Wp.opG; (exact rfl); (apply Evt.all; intro; (simp []) <;> (try simp (disch := omega) only [wrap_id]) <;> first | exact ⟨rfl, rfl⟩ | exact rfl)) | (apply Wp.opS; (exact rfl); decide) | (apply Wp.opS0; (exact rfl)))
        refine Wp.ret ?_; simp [Res, resU, res1, c_joinerylaw12_RefineLike]
      · cases ht2
    by_cases c4 : (l.length : Int) ≤ k
    · skip
      apply Wp.draw; ((simp [c_joinerylaw12_RefineLike_D0, I.need]) <;> rfl); ((simp []) <;> rfl); ((simp []) <;> rfl); unfold c_joinerylaw12_RefineLike_D0
      repeat (first | (apply Dr.op; ((simp []) <;> rfl); (apply Evt.all; intro; (simp []) <;> (try simp (disch := omega) only [wrap_id]) <;> first | exact ⟨rfl, rfl⟩ | exact rfl); ((simp [I.need]) <;> rfl)) | (apply Dr.opN; ((simp []) <;> rfl); (apply Evt.all; intro; (simp []) <;> (try simp (disch := omega) only [wrap_id]) <;> first | exact ⟨rfl, rfl⟩ | exact rfl); ((simp [I.need]) <;> rfl)) | (apply Dr.opG; (exact rfl); ((simp []) <;> rfl); (apply Evt.all; intro; (simp []) <;> (try simp (disch := omega) only [wrap_id]) <;> first | exact ⟨rfl, rfl⟩ | exact rfl); ((simp [I.need]) <;> rfl)) | (apply Dr.opS; (exact rfl); decide; ((simp [I.need]) <;> rfl)) | (apply Dr.opS0; (exact rfl); ((simp [I.need]) <;> rfl)))
      apply Dr.call
      · (simp [pf9, pf10, rowsU]) <;> rfl
      · exact gr _
      rw [hg]
      repeat (first | (apply Dr.op; ((simp [c1, c2, c3, c4, rowsU]) <;> rfl); (apply Evt.all; intro; (simp [c1, c2, c3, c4, rowsU]) <;> (try simp (disch := omega) only [wrap_id]) <;> first | exact ⟨rfl, rfl⟩ | exact rfl); ((simp [I.need]) <;> rfl)) | (apply Dr.opN; ((simp [c1, c2, c3, c4, rowsU]) <;> rfl); (apply Evt.all; intro; (simp [c1, c2, c3, c4, rowsU]) <;> (try simp (disch := omega) only [wrap_id]) <;> first | exact ⟨rfl, rfl⟩ | exact rfl); ((simp [I.need]) <;> rfl)) | (apply Dr.opG; (exact rfl); ((simp [c1, c2, c3, c4, rowsU]) <;> rfl); (apply Evt.all; intro; (simp [c1, c2, c3, c4, rowsU]) <;> (try simp (disch := omega) only [wrap_id]) <;> first | exact ⟨rfl, rfl⟩ | exact rfl); ((simp [I.need]) <;> rfl)) | (apply Dr.opS; (exact rfl); decide; ((simp [I.need]) <;> rfl)) | (apply Dr.opS0; (exact rfl); ((simp [I.need]) <;> rfl)))
      exact Dr.nil; (first | decide +kernel | exact rfl); ((simp [M2.keep]) <;> rfl)
      refine Wp.cond (by first | rfl | (simp; rfl)) (fun ht2 => ?_) (fun ht2 => ?_)
      · repeat (first | apply Wp.seq | apply Wp.skip | apply Wp.block | (apply Wp.op0; ((simp [M2.keep]) <;> rfl)) | (apply Wp.op; (apply Evt.all; intro; (simp []) <;> (try simp (disch := omega) only [wrap_id]) <;> first | exact ⟨rfl, rfl⟩ | exact rfl)) | (apply Wp.opN; (apply Evt.all; intro; (simp []) <;> (try simp (disch := omega) only [wrap_id]) <;> first | exact ⟨rfl, rfl⟩ | exact rfl)) | (apply Wp.opG; (exact rfl); (apply Evt.all; intro; (simp []) <;> (try simp (disch := omega) only [wrap_id]) <;> first | exact ⟨rfl, rfl⟩ | exact rfl)) | (apply Wp.opS; (exact rfl); decide) | (apply Wp.opS0; (exact rfl)))
        apply Wp.call
        · exact knows_call _
        repeat (first | apply Wp.seq | apply Wp.skip | apply Wp.block | (apply Wp.op0; ((simp [M2.keep]) <;> rfl)) | (apply Wp.op; (apply Evt.all; intro; (simp []) <;> (try simp (disch := omega) only [wrap_id]) <;> first | exact ⟨rfl, rfl⟩ | exact rfl)) | (apply Wp.opN; (apply Evt.all; intro; (simp []) <;> (try simp (disch := omega) only [wrap_id]) <;> first | exact ⟨rfl, rfl⟩ | exact rfl)) | (apply Wp.opG; (exact rfl); (apply Evt.all; intro; (simp []) <;> (try simp (disch := omega) only [wrap_id]) <;> first | exact ⟨rfl, rfl⟩ | exact rfl)) | (apply Wp.opS; (exact rfl); decide) | (apply Wp.opS0; (exact rfl)))
        refine Wp.ret ?_; simp [Res, resU, res1, c_joinerylaw12_RefineLike]
      · cases ht2
    obtain ⟨a, rfl⟩ := Int.eq_ofNat_of_zero_le (Int.not_lt.1 c1)
    obtain ⟨b, rfl⟩ := Int.eq_ofNat_of_zero_le (Int.not_lt.1 c2)
    have ha : a < l.length := by omega
    have hb : b < l.length := by omega
    have c3' : ¬ l.length ≤ a := by omega
    have c4' : ¬ l.length ≤ b := by omega
    by_cases hc : l[a].c = l[b].c
    rotate_left 1
    · skip
      apply Wp.draw; ((simp [c_joinerylaw12_RefineLike_D0, I.need]) <;> rfl); ((simp []) <;> rfl); ((simp []) <;> rfl); unfold c_joinerylaw12_RefineLike_D0
      repeat (first | (apply Dr.op; ((simp []) <;> rfl); (apply Evt.all; intro; (simp []) <;> (try simp (disch := omega) only [wrap_id]) <;> first | exact ⟨rfl, rfl⟩ | exact rfl); ((simp [I.need]) <;> rfl)) | (apply Dr.opN; ((simp []) <;> rfl); (apply Evt.all; intro; (simp []) <;> (try simp (disch := omega) only [wrap_id]) <;> first | exact ⟨rfl, rfl⟩ | exact rfl); ((simp [I.need]) <;> rfl)) | (apply Dr.opG; (exact rfl); ((simp []) <;> rfl); (apply Evt.all; intro; (simp []) <;> (try simp (disch := omega) only [wrap_id]) <;> first | exact ⟨rfl, rfl⟩ | exact rfl); ((simp [I.need]) <;> rfl)) | (apply Dr.opS; (exact rfl); decide; ((simp [I.need]) <;> rfl)) | (apply Dr.opS0; (exact rfl); ((simp [I.need]) <;> rfl)))
      apply Dr.call
      · (simp [pf9, pf10, rowsU]) <;> rfl
      · exact gr _
      rw [hg]
      repeat (first | (apply Dr.op; ((simp [c3', c4', rowsU, ha, hb, rowU_eq, hc]) <;> rfl); (apply Evt.all; intro; (simp [c3', c4', rowsU, ha, hb, rowU_eq, hc]) <;> (try simp (disch := omega) only [wrap_id]) <;> first | exact ⟨rfl, rfl⟩ | exact rfl); ((simp [I.need]) <;> rfl)) | (apply Dr.opN; ((simp [c3', c4', rowsU, ha, hb, rowU_eq, hc]) <;> rfl); (apply Evt.all; intro; (simp [c3', c4', rowsU, ha, hb, rowU_eq, hc]) <;> (try simp (disch := omega) only [wrap_id]) <;> first | exact ⟨rfl, rfl⟩ | exact rfl); ((simp [I.need]) <;> rfl)) | (apply Dr.opG; (exact rfl); ((simp [c3', c4', rowsU, ha, hb, rowU_eq, hc]) <;> rfl); (apply Evt.all; intro; (simp [c3', c4', rowsU, ha, hb, rowU_eq, hc]) <;> (try simp (disch := omega) only [wrap_id]) <;> first | exact ⟨rfl, rfl⟩ | exact rfl); ((simp [I.need]) <;> rfl)) | (apply Dr.opS; (exact rfl); decide; ((simp [I.need]) <;> rfl)) | (apply Dr.opS0; (exact rfl); ((simp [I.need]) <;> rfl)))
      exact Dr.nil; (first | decide +kernel | exact rfl); ((simp [M2.keep]) <;> rfl)
      refine Wp.cond (by first | rfl | (simp; rfl)) (fun ht2 => ?_) (fun ht2 => ?_)
      · repeat (first | apply Wp.seq | apply Wp.skip | apply Wp.block | (apply Wp.op0; ((simp [M2.keep]) <;> rfl)) | (apply Wp.op; (apply Evt.all; intro; (simp []) <;> (try simp (disch := omega) only [wrap_id]) <;> first | exact ⟨rfl, rfl⟩ | exact rfl)) | (apply Wp.opN; (apply Evt.all; intro; (simp []) <;> (try simp (disch := omega) only [wrap_id]) <;> first | exact ⟨rfl, rfl⟩ | exact rfl)) | (apply Wp.opG; (exact rfl); (apply Evt.all; intro; (simp []) <;> (try simp (disch := omega) only [wrap_id]) <;> first | exact ⟨rfl, rfl⟩ | exact rfl)) | (apply Wp.opS; (exact rfl); decide) | (apply Wp.opS0; (exact rfl)))
        apply Wp.call
        · exact knows_call _
        repeat (first | apply Wp.seq | apply Wp.skip | apply Wp.block | (apply Wp.op0; ((simp [M2.keep]) <;> rfl)) | (apply Wp.op; (apply Evt.all; intro; (simp []) <;> (try simp (disch := omega) only [wrap_id]) <;> first | exact ⟨rfl, rfl⟩ | exact rfl)) | (apply Wp.opN; (apply Evt.all; intro; (simp []) <;> (try simp (disch := omega) only [wrap_id]) <;> first | exact ⟨rfl, rfl⟩ | exact rfl)) | (apply Wp.opG; (exact rfl); (apply Evt.all; intro; (simp []) <;> (try simp (disch := omega) only [wrap_id]) <;> first | exact ⟨rfl, rfl⟩ | exact rfl)) | (apply Wp.opS; (exact rfl); decide) | (apply Wp.opS0; (exact rfl)))
        refine Wp.ret ?_; simp [Res, resU, res1, c_joinerylaw12_RefineLike]
      · cases ht2
    by_cases hlen2 : l[a].to.length = l[b].to.length
    rotate_left 1
    · have hlen3 : ¬ (l[a].to.length : Int) = (l[b].to.length : Int) := by omega
      apply Wp.draw; ((simp [c_joinerylaw12_RefineLike_D0, I.need]) <;> rfl); ((simp []) <;> rfl); ((simp []) <;> rfl); unfold c_joinerylaw12_RefineLike_D0
      repeat (first | (apply Dr.op; ((simp []) <;> rfl); (apply Evt.all; intro; (simp []) <;> (try simp (disch := omega) only [wrap_id]) <;> first | exact ⟨rfl, rfl⟩ | exact rfl); ((simp [I.need]) <;> rfl)) | (apply Dr.opN; ((simp []) <;> rfl); (apply Evt.all; intro; (simp []) <;> (try simp (disch := omega) only [wrap_id]) <;> first | exact ⟨rfl, rfl⟩ | exact rfl); ((simp [I.need]) <;> rfl)) | (apply Dr.opG; (exact rfl); ((simp []) <;> rfl); (apply Evt.all; intro; (simp []) <;> (try simp (disch := omega) only [wrap_id]) <;> first | exact ⟨rfl, rfl⟩ | exact rfl); ((simp [I.need]) <;> rfl)) | (apply Dr.opS; (exact rfl); decide; ((simp [I.need]) <;> rfl)) | (apply Dr.opS0; (exact rfl); ((simp [I.need]) <;> rfl)))
      apply Dr.call
      · (simp [pf9, pf10, rowsU]) <;> rfl
      · exact gr _
      rw [hg]
      repeat (first | (apply Dr.op; ((simp [c3', c4', rowsU, ha, hb, rowU_eq, hc, refsU_len, hlen3]) <;> rfl); (apply Evt.all; intro; (simp [c3', c4', rowsU, ha, hb, rowU_eq, hc, refsU_len, hlen3]) <;> (try simp (disch := omega) only [wrap_id]) <;> first | exact ⟨rfl, rfl⟩ | exact rfl); ((simp [I.need]) <;> rfl)) | (apply Dr.opN; ((simp [c3', c4', rowsU, ha, hb, rowU_eq, hc, refsU_len, hlen3]) <;> rfl); (apply Evt.all; intro; (simp [c3', c4', rowsU, ha, hb, rowU_eq, hc, refsU_len, hlen3]) <;> (try simp (disch := omega) only [wrap_id]) <;> first | exact ⟨rfl, rfl⟩ | exact rfl); ((simp [I.need]) <;> rfl)) | (apply Dr.opG; (exact rfl); ((simp [c3', c4', rowsU, ha, hb, rowU_eq, hc, refsU_len, hlen3]) <;> rfl); (apply Evt.all; intro; (simp [c3', c4', rowsU, ha, hb, rowU_eq, hc, refsU_len, hlen3]) <;> (try simp (disch := omega) only [wrap_id]) <;> first | exact ⟨rfl, rfl⟩ | exact rfl); ((simp [I.need]) <;> rfl)) | (apply Dr.opS; (exact rfl); decide; ((simp [I.need]) <;> rfl)) | (apply Dr.opS0; (exact rfl); ((simp [I.need]) <;> rfl)))
      exact Dr.nil; (first | decide +kernel | exact rfl); ((simp [M2.keep]) <;> rfl)
      refine Wp.cond (by first | rfl | (simp; rfl)) (fun ht2 => ?_) (fun ht2 => ?_)
      · repeat (first | apply Wp.seq | apply Wp.skip | apply Wp.block | (apply Wp.op0; ((simp [M2.keep]) <;> rfl)) | (apply Wp.op; (apply Evt.all; intro; (simp []) <;> (try simp (disch := omega) only [wrap_id]) <;> first | exact ⟨rfl, rfl⟩ | exact rfl)) | (apply Wp.opN; (apply Evt.all; intro; (simp []) <;> (try simp (disch := omega) only [wrap_id]) <;> first | exact ⟨rfl, rfl⟩ | exact rfl)) | (apply Wp.opG; (exact rfl); (apply Evt.all; intro; (simp []) <;> (try simp (disch := omega) only [wrap_id]) <;> first | exact ⟨rfl, rfl⟩ | exact rfl)) | (apply Wp.opS; (exact rfl); decide) | (apply Wp.opS0; (exact rfl)))
        apply Wp.call
        · exact knows_call _
        repeat (first | apply Wp.seq | apply Wp.skip | apply Wp.block | (apply Wp.op0; ((simp [M2.keep]) <;> rfl)) | (apply Wp.op; (apply Evt.all; intro; (simp []) <;> (try simp (disch := omega) only [wrap_id]) <;> first | exact ⟨rfl, rfl⟩ | exact rfl)) | (apply Wp.opN; (apply Evt.all; intro; (simp []) <;> (try simp (disch := omega) only [wrap_id]) <;> first | exact ⟨rfl, rfl⟩ | exact rfl)) | (apply Wp.opG; (exact rfl); (apply Evt.all; intro; (simp []) <;> (try simp (disch := omega) only [wrap_id]) <;> first | exact ⟨rfl, rfl⟩ | exact rfl)) | (apply Wp.opS; (exact rfl); decide) | (apply Wp.opS0; (exact rfl)))
        refine Wp.ret ?_; simp [Res, resU, res1, c_joinerylaw12_RefineLike]
      · cases ht2
    apply Wp.draw; ((simp [c_joinerylaw12_RefineLike_D0, I.need]) <;> rfl); ((simp []) <;> rfl); ((simp []) <;> rfl); unfold c_joinerylaw12_RefineLike_D0
    repeat (first | (apply Dr.op; ((simp []) <;> rfl); (apply Evt.all; intro; (simp []) <;> (try simp (disch := omega) only [wrap_id]) <;> first | exact ⟨rfl, rfl⟩ | exact rfl); ((simp [I.need]) <;> rfl)) | (apply Dr.opN; ((simp []) <;> rfl); (apply Evt.all; intro; (simp []) <;> (try simp (disch := omega) only [wrap_id]) <;> first | exact ⟨rfl, rfl⟩ | exact rfl); ((simp [I.need]) <;> rfl)) | (apply Dr.opG; (exact rfl); ((simp []) <;> rfl); (apply Evt.all; intro; (simp []) <;> (try simp (disch := omega) only [wrap_id]) <;> first | exact ⟨rfl, rfl⟩ | exact rfl); ((simp [I.need]) <;> rfl)) | (apply Dr.opS; (exact rfl); decide; ((simp [I.need]) <;> rfl)) | (apply Dr.opS0; (exact rfl); ((simp [I.need]) <;> rfl)))
    apply Dr.call
    · (simp [pf9, pf10, rowsU]) <;> rfl
    · exact gr _
    rw [hg]
    repeat (first | (apply Dr.op; ((simp [c3', c4', rowsU, ha, hb, rowU_eq, hc, refsU_len, hlen2]) <;> rfl); (apply Evt.all; intro; (simp [c3', c4', rowsU, ha, hb, rowU_eq, hc, refsU_len, hlen2]) <;> (try simp (disch := omega) only [wrap_id]) <;> first | exact ⟨rfl, rfl⟩ | exact rfl); ((simp [I.need]) <;> rfl)) | (apply Dr.opN; ((simp [c3', c4', rowsU, ha, hb, rowU_eq, hc, refsU_len, hlen2]) <;> rfl); (apply Evt.all; intro; (simp [c3', c4', rowsU, ha, hb, rowU_eq, hc, refsU_len, hlen2]) <;> (try simp (disch := omega) only [wrap_id]) <;> first | exact ⟨rfl, rfl⟩ | exact rfl); ((simp [I.need]) <;> rfl)) | (apply Dr.opG; (exact rfl); ((simp [c3', c4', rowsU, ha, hb, rowU_eq, hc, refsU_len, hlen2]) <;> rfl); (apply Evt.all; intro; (simp [c3', c4', rowsU, ha, hb, rowU_eq, hc, refsU_len, hlen2]) <;> (try simp (disch := omega) only [wrap_id]) <;> first | exact ⟨rfl, rfl⟩ | exact rfl); ((simp [I.need]) <;> rfl)) | (apply Dr.opS; (exact rfl); decide; ((simp [I.need]) <;> rfl)) | (apply Dr.opS0; (exact rfl); ((simp [I.need]) <;> rfl)))
    exact Dr.nil; (first | decide +kernel | exact rfl); ((simp [M2.keep]) <;> rfl)
    refine Wp.cond (by first | rfl | (simp; rfl)) (fun ht2 => ?_) (fun ht2 => ?_)
    · cases ht2
    repeat (first | apply Wp.seq | apply Wp.skip | apply Wp.block | (apply Wp.op0; ((simp [M2.keep]) <;> rfl)) | (apply Wp.op; (apply Evt.all; intro; (simp []) <;> (try simp (disch := omega) only [wrap_id]) <;> first | exact ⟨rfl, rfl⟩ | exact rfl)) | (apply Wp.opN; (apply Evt.all; intro; (simp []) <;> (try simp (disch := omega) only [wrap_id]) <;> first | exact ⟨rfl, rfl⟩ | exact rfl)) | (apply Wp.opG; (exact rfl); (apply Evt.all; intro; (simp []) <;> (try simp (disch := omega) only [wrap_id]) <;> first | exact ⟨rfl, rfl⟩ | exact rfl)) | (apply Wp.opS; (exact rfl); decide) | (apply Wp.opS0; (exact rfl)))
    have hloop : Wp T (.loop c_joinerylaw12_RefineLike_L2) ⟨l7E l a b (0 : Nat), []⟩ (fun _ => False) (Res c_joinerylaw12_RefineLike (.bool true)) (fun x s' => x = 0 ∧ s' = ⟨[(0, rowsU false l), (1, i64 a), (2, i64 b), (7, i64 l[a].to.length), (67, .bool false)], []⟩ ∧ l[a].to = l[b].to) := by
      refine Wp.count l[a].to.length (fun n => ⟨l7E l a b n, []⟩) (fun n => ∀ m (h1 : m < l[a].to.length) (h2 : m < l[b].to.length), m < n → l[a].to[m] = l[b].to[m]) (fun n hn hP => ?_) (fun hP => ?_) 0 (by omega) (fun m _ _ h => absurd h (by omega))
      · refine (l7_step l a b n ha hb hn (by omega) (hl _ (List.getElem_mem ha))).imp (fun s h => ⟨h.1, fun m h1 h2 h3 => ?_⟩) (fun _ h => h) (fun _ _ h => h.elim)
        rcases Nat.lt_or_ge m n with h' | h'
        · exact hP m h1 h2 h'
        · have : m = n := by omega
          subst this
          exact h.2
      · simp only [l7E]
        repeat (first | apply Wp.seq | apply Wp.skip | apply Wp.block | (apply Wp.op0; ((simp [M2.keep]) <;> rfl)) | (apply Wp.op; (apply Evt.all; intro; (simp [rowsU, ha, rowU_eq, refsU_len]) <;> (try simp (disch := omega) only [wrap_id]) <;> first | exact ⟨rfl, rfl⟩ | exact rfl)) | (apply Wp.opN; (apply Evt.all; intro; (simp [rowsU, ha, rowU_eq, refsU_len]) <;> (try simp (disch := omega) only [wrap_id]) <;> first | exact ⟨rfl, rfl⟩ | exact rfl)) | (apply Wp.opG; (exact rfl); (apply Evt.all; intro; (simp [rowsU, ha, rowU_eq, refsU_len]) <;> (try simp (disch := omega) only [wrap_id]) <;> first | exact ⟨rfl, rfl⟩ | exact rfl)) | (apply Wp.opS; (exact rfl); decide) | (apply Wp.opS0; (exact rfl)))
        refine Wp.cond (by first | rfl | (simp; rfl)) (fun ht3 => ?_) (fun ht3 => ?_)
        · simp at ht3
        · refine Wp.exit ⟨rfl, by simp [rowsU], List.ext_getElem hlen2 fun m h1 h2 => hP m h1 h2 h1⟩
    refine (show Wp T (.loop c_joinerylaw12_RefineLike_L2) ⟨l7E l a b (0 : Nat), []⟩ _ _ _ from hloop.imp (fun _ h => h.elim) (fun _ h => h) ?_)
    rintro x s ⟨rfl, rfl, hto⟩
    rw [if_pos rfl]
    have heq := like_final hC ha hb hc hto
    have haC : a < C.length := by omega
    have hbC : b < C.length := by omega
    rw [getNat haC, getNat hbC] at heq
    repeat (first | apply Wp.seq | apply Wp.skip | apply Wp.block | (apply Wp.op0; ((simp [M2.keep]) <;> rfl)) | (apply Wp.op; (apply Evt.all; intro; (simp []) <;> (try simp (disch := omega) only [wrap_id]) <;> first | exact ⟨rfl, rfl⟩ | exact rfl)) | (apply Wp.opN; (apply Evt.all; intro; (simp []) <;> (try simp (disch := omega) only [wrap_id]) <;> first | exact ⟨rfl, rfl⟩ | exact rfl)) | (apply Wp.opG; (exact rfl); (apply Evt.all; intro; (simp []) <;> (try simp (disch := omega) only [wrap_id]) <;> first | exact ⟨rfl, rfl⟩ | exact rfl)) | (apply Wp.opS; (exact rfl); decide) | (apply Wp.opS0; (exact rfl)))
    apply Wp.call
    · exact h1 _
    repeat (first | apply Wp.seq | apply Wp.skip | apply Wp.block | (apply Wp.op0; ((simp [M2.keep]) <;> rfl)) | (apply Wp.op; (apply Evt.all; intro; (simp []) <;> (try simp (disch := omega) only [wrap_id]) <;> first | exact ⟨rfl, rfl⟩ | exact rfl)) | (apply Wp.opN; (apply Evt.all; intro; (simp []) <;> (try simp (disch := omega) only [wrap_id]) <;> first | exact ⟨rfl, rfl⟩ | exact rfl)) | (apply Wp.opG; (exact rfl); (apply Evt.all; intro; (simp []) <;> (try simp (disch := omega) only [wrap_id]) <;> first | exact ⟨rfl, rfl⟩ | exact rfl)) | (apply Wp.opS; (exact rfl); decide) | (apply Wp.opS0; (exact rfl)))
    apply Wp.draw; ((simp [c_joinerylaw12_RefineLike_D3, I.need]) <;> rfl); ((simp []) <;> rfl); ((simp []) <;> rfl); unfold c_joinerylaw12_RefineLike_D3
    repeat (first | (apply Dr.op; ((simp [natsU_len, natsU_getE, hCl, rowsU, ha, hb, haC, hbC, heq]) <;> rfl); (apply Evt.all; intro; (simp [natsU_len, natsU_getE, hCl, rowsU, ha, hb, haC, hbC, heq]) <;> (try simp (disch := omega) only [wrap_id]) <;> first | exact ⟨rfl, rfl⟩ | exact rfl); ((simp [I.need]) <;> rfl)) | (apply Dr.opN; ((simp [natsU_len, natsU_getE, hCl, rowsU, ha, hb, haC, hbC, heq]) <;> rfl); (apply Evt.all; intro; (simp [natsU_len, natsU_getE, hCl, rowsU, ha, hb, haC, hbC, heq]) <;> (try simp (disch := omega) only [wrap_id]) <;> first | exact ⟨rfl, rfl⟩ | exact rfl); ((simp [I.need]) <;> rfl)) | (apply Dr.opG; (exact rfl); ((simp [natsU_len, natsU_getE, hCl, rowsU, ha, hb, haC, hbC, heq]) <;> rfl); (apply Evt.all; intro; (simp [natsU_len, natsU_getE, hCl, rowsU, ha, hb, haC, hbC, heq]) <;> (try simp (disch := omega) only [wrap_id]) <;> first | exact ⟨rfl, rfl⟩ | exact rfl); ((simp [I.need]) <;> rfl)) | (apply Dr.opS; (exact rfl); decide; ((simp [I.need]) <;> rfl)) | (apply Dr.opS0; (exact rfl); ((simp [I.need]) <;> rfl)))
    apply Dr.callG
    · exact rfl
    · (simp [pf9, pf10, rowsU]) <;> rfl
    · exact knows_call _
    repeat (first | (apply Dr.op; ((simp []) <;> rfl); (apply Evt.all; intro; (simp []) <;> (try simp (disch := omega) only [wrap_id]) <;> first | exact ⟨rfl, rfl⟩ | exact rfl); ((simp [I.need]) <;> rfl)) | (apply Dr.opN; ((simp []) <;> rfl); (apply Evt.all; intro; (simp []) <;> (try simp (disch := omega) only [wrap_id]) <;> first | exact ⟨rfl, rfl⟩ | exact rfl); ((simp [I.need]) <;> rfl)) | (apply Dr.opG; (exact rfl); ((simp []) <;> rfl); (apply Evt.all; intro; (simp []) <;> (try simp (disch := omega) only [wrap_id]) <;> first | exact ⟨rfl, rfl⟩ | exact rfl); ((simp [I.need]) <;> rfl)) | (apply Dr.opS; (exact rfl); decide; ((simp [I.need]) <;> rfl)) | (apply Dr.opS0; (exact rfl); ((simp [I.need]) <;> rfl)))
    exact Dr.nil; (first | decide +kernel | exact rfl); ((simp [M2.keep]) <;> rfl)
    refine Wp.ret ?_; simp [Res, resU, res1, c_joinerylaw12_RefineLike]
theorem params7 : Try.f7.params.toList = [22, 3, 3] := by kernel_rfl
theorem law7 : Law 7 Try.f7.params.toList := by
  rw [params7]
  intro us hl hty
  match us, hl with
  | [u, v, w], _ =>
    obtain ⟨l, rfl, hlen⟩ := typed_rows (hty 0 22 u rfl rfl)
    obtain ⟨i, rfl, _⟩ := typed_intA (hty 1 3 v rfl rfl)
    obtain ⟨k, rfl, _⟩ := typed_intA (hty 2 3 w rfl rfl)
    exact law_of (law7_call l i k hlen)
end Go.Proofs.Ytaefnggoempdlaa.M2

/- RefineLike: things of one colour that lead to the same cannot be told apart. No condition. -/
namespace Go.Proofs.Ytaefnggoempdlaa
theorem refineLike_said : Rows.RefineLikeSaid := M2.like_holds M2.law7
end Go.Proofs.Ytaefnggoempdlaa
