/- What the functions answer in M2. Part 17: the document's Classes. -/
import Derived.Test.YtaefnggoempdlaaCe
set_option linter.unusedSimpArgs false
set_option linter.unusedVariables false
set_option linter.unusedSectionVars false
/- What the functions answer in M2. Part 10: stands. -/
namespace Go.Proofs.Ytaefnggoempdlaa.M2
open Go
attribute [local simp] ev1 M2.get put A.ev ld sub part elems bin arith un opt idx fillC cellsO splice over newOb sto fillR laidOwn appTo appRow touch touchN touchM touchE touchA plainU flatU plainAs allM rowAt stoRow accM_nil accM_cons accMM_nil accMM_cons frz_int frz_bool frz_str frz_slt frz_nils frz_nilI frz_nilF frz_own frzRow_row frzRow_frow Ob.blw blw_bool blw_int blw_str blw_nils blw_nilI blw_nilF blw_nilp blw_nilm blw_sl blw_own blw_bp blw_rp blw_mp blw_it params
attribute [local simp] beq_dec bne_dec

def intsU (l : List Int) : List (List U) := l.map fun n => [i64 n]
theorem intsU_len (l : List Int) : (intsU l).length = l.length := by simp [intsU]
theorem intsU_getE {l : List Int} {i : Nat} (h : i < (intsU l).length) : (intsU l)[i] = [i64 (l[i]'(by rwa [intsU_len] at h))] := by simp [intsU]
theorem ref_same2 (a b c d : Int) : sameV (.tst [(1, .ti), (1, .ti)]) (.agg [i64 a, i64 b]) (.agg [i64 c, i64 d]) = some (decide ((a, b) = (c, d))) := by
  have := ref_same (a, b) (c, d)
  simp only [refU] at this
  rw [this]
  congr 1
  by_cases h : (a, b) = (c, d)
  · rw [decide_eq_true h]; simpa using h
  · rw [decide_eq_false h]; simpa using h
theorem tb_same (a b : Bool) : sameV .tb (.bool a) (.bool b) = some (a == b) := by cases a <;> cases b <;> rfl
/-- Do two references agree, by the classes of the things that they lead to? -/
def refOK (len : Nat) (c : List Int) (x y : Int × Int) : Prop := if isThing len x && isThing len y then c.getD x.2.toNat 0 = c.getD y.2.toNat 0 else x = y
def pairOK (l : List Row) (c : List Int) (i k : Nat) : Prop := c.getD i 0 = c.getD k 0 → (l.getD i default).c = (l.getD k default).c ∧ (l.getD i default).to.length = (l.getD k default).to.length ∧
  ∀ m, m < (l.getD i default).to.length → refOK l.length c ((l.getD i default).to.getD m (0, 0)) ((l.getD k default).to.getD m (0, 0))
def Stands (l : List Row) (c : List Int) : Prop := ∀ i k, i < l.length → k < i → pairOK l c i k
open Classical in
noncomputable def standsF (l : List Row) (c : List Int) : Bool := decide (Stands l c)
def s4S (p pc : Bool) (l : List Row) (c : List Int) (i k n : Nat) : S := ⟨[(0, rowsU p l), (1, .sl pc (intsU c)), (5, i64 i), (6, i64 k), (7, i64 n)], []⟩
theorem s4_step (p pc : Bool) (l : List Row) (c : List Int) (i k n : Nat) (hc : c.length = l.length) (hi : i < l.length) (hk : k < l.length) (hn : n < l[i].to.length) (hn2 : n < l[k].to.length) (hl : l[i].to.length < 1000000000000) :
    Wp T c_joinerylaw12_stands_L4 (s4S p pc l c i k n) (fun s' => trimO 0 s' = s4S p pc l c i k (n + 1) ∧ refOK l.length c l[i].to[n] l[k].to[n]) (fun s' => s'.env = [(4, .bool false)] ∧ ¬ refOK l.length c l[i].to[n] l[k].to[n]) (fun _ _ => False) := by
  rw [s4S]
  repeat (first | apply Wp.seq | apply Wp.skip | apply Wp.block | (apply Wp.op0; ((simp [M2.keep]) <;> rfl)) | (apply Wp.op; (apply Evt.all; intro; (simp [rowsU, hi, hk, rowU_eq, refsU_len]) <;> (try simp (disch := omega) only [wrap_id]) <;> first | exact ⟨rfl, rfl⟩ | exact rfl)) | (apply Wp.opN; (apply Evt.all; intro; (simp [rowsU, hi, hk, rowU_eq, refsU_len]) <;> (try simp (disch := omega) only [wrap_id]) <;> first | exact ⟨rfl, rfl⟩ | exact rfl)) | (apply Wp.opG; (exact rfl); (apply Evt.all; intro; (simp [rowsU, hi, hk, rowU_eq, refsU_len]) <;> (try simp (disch := omega) only [wrap_id]) <;> first | exact ⟨rfl, rfl⟩ | exact rfl)) | (apply Wp.opS; (exact rfl); decide) | (apply Wp.opS0; (exact rfl)))
  refine Wp.cond (by first | rfl | (simp; rfl)) (fun ht => ?_) (fun ht => ?_)
  · repeat (first | apply Wp.seq | apply Wp.skip | apply Wp.block | (apply Wp.op0; ((simp [M2.keep]) <;> rfl)) | (apply Wp.op; (apply Evt.all; intro; (simp []) <;> (try simp (disch := omega) only [wrap_id]) <;> first | exact ⟨rfl, rfl⟩ | exact rfl)) | (apply Wp.opN; (apply Evt.all; intro; (simp []) <;> (try simp (disch := omega) only [wrap_id]) <;> first | exact ⟨rfl, rfl⟩ | exact rfl)) | (apply Wp.opG; (exact rfl); (apply Evt.all; intro; (simp []) <;> (try simp (disch := omega) only [wrap_id]) <;> first | exact ⟨rfl, rfl⟩ | exact rfl)) | (apply Wp.opS; (exact rfl); decide) | (apply Wp.opS0; (exact rfl)))
    refine Wp.draw (by (simp [c_joinerylaw12_stands_D2, I.need]) <;> rfl) (by (simp [rowsU, hi, hk, rowU_eq, refsU, hn, hn2, refU]) <;> rfl) (by (simp [rowsU, hi, hk, rowU_eq, refsU, hn, hn2, refU]) <;> rfl) (by (unfold c_joinerylaw12_stands_D2); (repeat (first | (apply Dr.op; ((simp [rowsU, hi, hk, rowU_eq, refsU, hn, hn2, refU]) <;> rfl); (apply Evt.all; intro; (simp [rowsU, hi, hk, rowU_eq, refsU, hn, hn2, refU]) <;> (try simp (disch := omega) only [wrap_id]) <;> first | exact ⟨rfl, rfl⟩ | exact rfl); ((simp [I.need]) <;> rfl)) | (apply Dr.opN; ((simp [rowsU, hi, hk, rowU_eq, refsU, hn, hn2, refU]) <;> rfl); (apply Evt.all; intro; (simp [rowsU, hi, hk, rowU_eq, refsU, hn, hn2, refU]) <;> (try simp (disch := omega) only [wrap_id]) <;> first | exact ⟨rfl, rfl⟩ | exact rfl); ((simp [I.need]) <;> rfl)) | (apply Dr.opG; (exact rfl); ((simp [rowsU, hi, hk, rowU_eq, refsU, hn, hn2, refU]) <;> rfl); (apply Evt.all; intro; (simp [rowsU, hi, hk, rowU_eq, refsU, hn, hn2, refU]) <;> (try simp (disch := omega) only [wrap_id]) <;> first | exact ⟨rfl, rfl⟩ | exact rfl); ((simp [I.need]) <;> rfl)) | (apply Dr.opS; (exact rfl); decide; ((simp [I.need]) <;> rfl)) | (apply Dr.opS0; (exact rfl); ((simp [I.need]) <;> rfl)))); exact Dr.nil) (by first | decide +kernel | exact rfl) (by (simp [M2.keep]) <;> rfl) ?_
    have hL : 0 ≤ (l.length : Int) := by omega
    generalize hx : l[i].to[n] = x
    generalize hy : l[k].to[n] = y
    obtain ⟨x1, x2⟩ := x
    obtain ⟨y1, y2⟩ := y
    apply Wp.seq
    refine Wp.ops (s' := ⟨[(0, rowsU p l), (1, .sl pc (intsU c)), (5, i64 i), (6, i64 k), (7, i64 n), (8, .bp 0 0), (9, .bp 1 0), (10, .bool (isThing l.length (x1, x2)))], [.box [i64 x1, i64 x2], .box [i64 y1, i64 y2]]⟩) (.all fun m => ?_) ?_
    · by_cases h0 : x1 = 0 <;> by_cases h1 : 0 ≤ x2 <;> simp [evC, evOs, evO, ev1, M2.get, put, keep, A.ev, ld, sub, part, elems, bin, arith, un, opt, idx, fillC, cellsO, splice, over, newOb, h0, h1, isThing, rowsU]
    apply Wp.seq
    refine Wp.ops (s' := ⟨[(0, rowsU p l), (1, .sl pc (intsU c)), (5, i64 i), (6, i64 k), (7, i64 n), (8, .bp 0 0), (9, .bp 1 0), (10, .bool (isThing l.length (x1, x2))), (11, .bool (isThing l.length (y1, y2)))], [.box [i64 x1, i64 x2], .box [i64 y1, i64 y2]]⟩) (.all fun m => ?_) ?_
    · by_cases h0 : y1 = 0 <;> by_cases h1 : 0 ≤ y2 <;> simp [evC, evOs, evO, ev1, M2.get, put, keep, A.ev, ld, sub, part, elems, bin, arith, un, opt, idx, fillC, cellsO, splice, over, newOb, h0, h1, isThing, rowsU]
    have fin : ∀ (b : Bool) (st : List Ob), (b = true ↔ ¬ refOK l.length c (x1, x2) (y1, y2)) → Wp T (.cond (.t 141) (.seq (.ops [⟨(some 4), .mov (.k (.bool false)), none⟩] [4]) .ret) .skip) ⟨[(0, rowsU p l), (1, .sl pc (intsU c)), (5, i64 i), (6, i64 k), (7, i64 n), (141, .bool b)], st⟩
        (fun s' => s' = ⟨[(0, rowsU p l), (1, .sl pc (intsU c)), (5, i64 i), (6, i64 k), (7, i64 n), (141, .bool false)], st⟩ ∧ refOK l.length c (x1, x2) (y1, y2)) (fun s' => s'.env = [(4, .bool false)] ∧ ¬ refOK l.length c (x1, x2) (y1, y2)) (fun _ _ => False) := by
      intro b st hb
      refine Wp.cond (by first | rfl | (simp; rfl)) (fun hbt => ?_) (fun hbt => ?_)
      · repeat (first | apply Wp.seq | apply Wp.skip | apply Wp.block | (apply Wp.op0; ((simp [M2.keep]) <;> rfl)) | (apply Wp.op; (apply Evt.all; intro; (simp []) <;> (try simp (disch := omega) only [wrap_id]) <;> first | exact ⟨rfl, rfl⟩ | exact rfl)) | (apply Wp.opN; (apply Evt.all; intro; (simp []) <;> (try simp (disch := omega) only [wrap_id]) <;> first | exact ⟨rfl, rfl⟩ | exact rfl)) | (apply Wp.opG; (exact rfl); (apply Evt.all; intro; (simp []) <;> (try simp (disch := omega) only [wrap_id]) <;> first | exact ⟨rfl, rfl⟩ | exact rfl)) | (apply Wp.opS; (exact rfl); decide) | (apply Wp.opS0; (exact rfl)))
        exact Wp.ret ⟨rfl, hb.1 hbt⟩
      · subst hbt
        exact Wp.skip ⟨rfl, by simpa using hb⟩
    have inc : ∀ (st : List Ob), refOK l.length c (x1, x2) (y1, y2) → Wp T (.ops [
  ⟨(some 66), .mov (.t 7), none⟩,
  ⟨(some 67), .bin .add (.t 66) (.k (.int .i64 1)), none⟩,
  ⟨(some 7), .mov (.t 67), none⟩] [0, 1, 5, 6, 7]) ⟨[(0, rowsU p l), (1, .sl pc (intsU c)), (5, i64 i), (6, i64 k), (7, i64 n), (141, .bool false)], st⟩ (fun s' => trimO 0 s' = s4S p pc l c i k (n + 1) ∧ refOK l.length c (x1, x2) (y1, y2)) (fun s' => s'.env = [(4, .bool false)] ∧ ¬ refOK l.length c (x1, x2) (y1, y2)) (fun _ _ => False) := by
      intro st hr
      repeat (first | apply Wp.seq | apply Wp.skip | apply Wp.block | (apply Wp.op0; ((simp [M2.keep]) <;> rfl)) | (apply Wp.op; (apply Evt.all; intro; (simp []) <;> (try simp (disch := omega) only [wrap_id]) <;> first | exact ⟨rfl, rfl⟩ | exact rfl)) | (apply Wp.opN; (apply Evt.all; intro; (simp []) <;> (try simp (disch := omega) only [wrap_id]) <;> first | exact ⟨rfl, rfl⟩ | exact rfl)) | (apply Wp.opG; (exact rfl); (apply Evt.all; intro; (simp []) <;> (try simp (disch := omega) only [wrap_id]) <;> first | exact ⟨rfl, rfl⟩ | exact rfl)) | (apply Wp.opS; (exact rfl); decide) | (apply Wp.opS0; (exact rfl)))
      exact ⟨by simp [s4S, trimO, trim, rowsU], hr⟩
    apply Wp.seq
    cases ha : isThing l.length (x1, x2) <;> cases hb : isThing l.length (y1, y2)
    · refine Wp.draw (by (simp [c_joinerylaw12_stands_D3, I.need]) <;> rfl) (by (simp [tb_same, ref_same2]) <;> rfl) (by (simp [tb_same, ref_same2]) <;> rfl) (by (unfold c_joinerylaw12_stands_D3); (repeat (first | (apply Dr.op; ((simp [tb_same, ref_same2]) <;> rfl); (apply Evt.all; intro; (simp [tb_same, ref_same2]) <;> (try simp (disch := omega) only [wrap_id]) <;> first | exact ⟨rfl, rfl⟩ | exact rfl); ((simp [I.need]) <;> rfl)) | (apply Dr.opN; ((simp [tb_same, ref_same2]) <;> rfl); (apply Evt.all; intro; (simp [tb_same, ref_same2]) <;> (try simp (disch := omega) only [wrap_id]) <;> first | exact ⟨rfl, rfl⟩ | exact rfl); ((simp [I.need]) <;> rfl)) | (apply Dr.opG; (exact rfl); ((simp [tb_same, ref_same2]) <;> rfl); (apply Evt.all; intro; (simp [tb_same, ref_same2]) <;> (try simp (disch := omega) only [wrap_id]) <;> first | exact ⟨rfl, rfl⟩ | exact rfl); ((simp [I.need]) <;> rfl)) | (apply Dr.opS; (exact rfl); decide; ((simp [I.need]) <;> rfl)) | (apply Dr.opS0; (exact rfl); ((simp [I.need]) <;> rfl)))); exact Dr.nil) (by first | decide +kernel | exact rfl) (by (simp [M2.keep]) <;> rfl) ?_
      refine (fin _ _ ?_).imp (fun s ⟨h, hr⟩ => h ▸ inc _ hr) (fun s h => h) (fun _ _ h => h.elim)
      simp [refOK, ha]
      by_cases h : x1 = y1 <;> simp [h]
    · refine Wp.draw (by (simp [c_joinerylaw12_stands_D3, I.need]) <;> rfl) (by (simp [tb_same, ref_same2]) <;> rfl) (by (simp [tb_same, ref_same2]) <;> rfl) (by (unfold c_joinerylaw12_stands_D3); (repeat (first | (apply Dr.op; ((simp [tb_same, ref_same2]) <;> rfl); (apply Evt.all; intro; (simp [tb_same, ref_same2]) <;> (try simp (disch := omega) only [wrap_id]) <;> first | exact ⟨rfl, rfl⟩ | exact rfl); ((simp [I.need]) <;> rfl)) | (apply Dr.opN; ((simp [tb_same, ref_same2]) <;> rfl); (apply Evt.all; intro; (simp [tb_same, ref_same2]) <;> (try simp (disch := omega) only [wrap_id]) <;> first | exact ⟨rfl, rfl⟩ | exact rfl); ((simp [I.need]) <;> rfl)) | (apply Dr.opG; (exact rfl); ((simp [tb_same, ref_same2]) <;> rfl); (apply Evt.all; intro; (simp [tb_same, ref_same2]) <;> (try simp (disch := omega) only [wrap_id]) <;> first | exact ⟨rfl, rfl⟩ | exact rfl); ((simp [I.need]) <;> rfl)) | (apply Dr.opS; (exact rfl); decide; ((simp [I.need]) <;> rfl)) | (apply Dr.opS0; (exact rfl); ((simp [I.need]) <;> rfl)))); exact Dr.nil) (by first | decide +kernel | exact rfl) (by (simp [M2.keep]) <;> rfl) ?_
      refine (fin _ _ ?_).imp (fun s ⟨h, hr⟩ => h ▸ inc _ hr) (fun s h => h) (fun _ _ h => h.elim)
      simp only [refOK, ha, hb, Bool.and_true, Bool.false_eq_true, if_false, true_iff]
      intro e
      rw [e, hb] at ha
      cases ha
    · refine Wp.draw (by (simp [c_joinerylaw12_stands_D3, I.need]) <;> rfl) (by (simp [tb_same, ref_same2]) <;> rfl) (by (simp [tb_same, ref_same2]) <;> rfl) (by (unfold c_joinerylaw12_stands_D3); (repeat (first | (apply Dr.op; ((simp [tb_same, ref_same2]) <;> rfl); (apply Evt.all; intro; (simp [tb_same, ref_same2]) <;> (try simp (disch := omega) only [wrap_id]) <;> first | exact ⟨rfl, rfl⟩ | exact rfl); ((simp [I.need]) <;> rfl)) | (apply Dr.opN; ((simp [tb_same, ref_same2]) <;> rfl); (apply Evt.all; intro; (simp [tb_same, ref_same2]) <;> (try simp (disch := omega) only [wrap_id]) <;> first | exact ⟨rfl, rfl⟩ | exact rfl); ((simp [I.need]) <;> rfl)) | (apply Dr.opG; (exact rfl); ((simp [tb_same, ref_same2]) <;> rfl); (apply Evt.all; intro; (simp [tb_same, ref_same2]) <;> (try simp (disch := omega) only [wrap_id]) <;> first | exact ⟨rfl, rfl⟩ | exact rfl); ((simp [I.need]) <;> rfl)) | (apply Dr.opS; (exact rfl); decide; ((simp [I.need]) <;> rfl)) | (apply Dr.opS0; (exact rfl); ((simp [I.need]) <;> rfl)))); exact Dr.nil) (by first | decide +kernel | exact rfl) (by (simp [M2.keep]) <;> rfl) ?_
      refine (fin _ _ ?_).imp (fun s ⟨h, hr⟩ => h ▸ inc _ hr) (fun s h => h) (fun _ _ h => h.elim)
      simp only [refOK, ha, hb, Bool.and_false, Bool.false_eq_true, if_false, true_iff]
      intro e
      rw [e, hb] at ha
      cases ha
    · have ha' := ha
      have hb' := hb
      simp only [isThing, Bool.and_eq_true, decide_eq_true_eq] at ha' hb'
      obtain ⟨a, rfl⟩ := Int.eq_ofNat_of_zero_le ha'.1.2
      obtain ⟨b, rfl⟩ := Int.eq_ofNat_of_zero_le hb'.1.2
      have ha2 : a < c.length := by omega
      have hb2 : b < c.length := by omega
      by_cases hab : c[a] = c[b]
      · refine Wp.draw (by (simp [c_joinerylaw12_stands_D3, I.need]) <;> rfl) (by (simp [tb_same, ref_same2, intsU_len, intsU_getE, ha2, hb2, hab]) <;> rfl) (by (simp [tb_same, ref_same2, intsU_len, intsU_getE, ha2, hb2, hab]) <;> rfl) (by (unfold c_joinerylaw12_stands_D3); (repeat (first | (apply Dr.op; ((simp [tb_same, ref_same2, intsU_len, intsU_getE, ha2, hb2, hab]) <;> rfl); (apply Evt.all; intro; (simp [tb_same, ref_same2, intsU_len, intsU_getE, ha2, hb2, hab]) <;> (try simp (disch := omega) only [wrap_id]) <;> first | exact ⟨rfl, rfl⟩ | exact rfl); ((simp [I.need]) <;> rfl)) | (apply Dr.opN; ((simp [tb_same, ref_same2, intsU_len, intsU_getE, ha2, hb2, hab]) <;> rfl); (apply Evt.all; intro; (simp [tb_same, ref_same2, intsU_len, intsU_getE, ha2, hb2, hab]) <;> (try simp (disch := omega) only [wrap_id]) <;> first | exact ⟨rfl, rfl⟩ | exact rfl); ((simp [I.need]) <;> rfl)) | (apply Dr.opG; (exact rfl); ((simp [tb_same, ref_same2, intsU_len, intsU_getE, ha2, hb2, hab]) <;> rfl); (apply Evt.all; intro; (simp [tb_same, ref_same2, intsU_len, intsU_getE, ha2, hb2, hab]) <;> (try simp (disch := omega) only [wrap_id]) <;> first | exact ⟨rfl, rfl⟩ | exact rfl); ((simp [I.need]) <;> rfl)) | (apply Dr.opS; (exact rfl); decide; ((simp [I.need]) <;> rfl)) | (apply Dr.opS0; (exact rfl); ((simp [I.need]) <;> rfl)))); exact Dr.nil) (by first | decide +kernel | exact rfl) (by (simp [M2.keep]) <;> rfl) ?_
        refine (fin _ _ ?_).imp (fun s ⟨h, hr⟩ => h ▸ inc _ hr) (fun s h => h) (fun _ _ h => h.elim)
        simp [refOK, ha, hb, ha2, hb2, hab]
      · refine Wp.draw (by (simp [c_joinerylaw12_stands_D3, I.need]) <;> rfl) (by (simp [tb_same, ref_same2, intsU_len, intsU_getE, ha2, hb2, hab]) <;> rfl) (by (simp [tb_same, ref_same2, intsU_len, intsU_getE, ha2, hb2, hab]) <;> rfl) (by (unfold c_joinerylaw12_stands_D3); (repeat (first | (apply Dr.op; ((simp [tb_same, ref_same2, intsU_len, intsU_getE, ha2, hb2, hab]) <;> rfl); (apply Evt.all; intro; (simp [tb_same, ref_same2, intsU_len, intsU_getE, ha2, hb2, hab]) <;> (try simp (disch := omega) only [wrap_id]) <;> first | exact ⟨rfl, rfl⟩ | exact rfl); ((simp [I.need]) <;> rfl)) | (apply Dr.opN; ((simp [tb_same, ref_same2, intsU_len, intsU_getE, ha2, hb2, hab]) <;> rfl); (apply Evt.all; intro; (simp [tb_same, ref_same2, intsU_len, intsU_getE, ha2, hb2, hab]) <;> (try simp (disch := omega) only [wrap_id]) <;> first | exact ⟨rfl, rfl⟩ | exact rfl); ((simp [I.need]) <;> rfl)) | (apply Dr.opG; (exact rfl); ((simp [tb_same, ref_same2, intsU_len, intsU_getE, ha2, hb2, hab]) <;> rfl); (apply Evt.all; intro; (simp [tb_same, ref_same2, intsU_len, intsU_getE, ha2, hb2, hab]) <;> (try simp (disch := omega) only [wrap_id]) <;> first | exact ⟨rfl, rfl⟩ | exact rfl); ((simp [I.need]) <;> rfl)) | (apply Dr.opS; (exact rfl); decide; ((simp [I.need]) <;> rfl)) | (apply Dr.opS0; (exact rfl); ((simp [I.need]) <;> rfl)))); exact Dr.nil) (by first | decide +kernel | exact rfl) (by (simp [M2.keep]) <;> rfl) ?_
        refine (fin _ _ ?_).imp (fun s ⟨h, hr⟩ => h ▸ inc _ hr) (fun s h => h) (fun _ _ h => h.elim)
        simp [refOK, ha, hb, ha2, hb2, hab]
  · simp [hn] at ht
end Go.Proofs.Ytaefnggoempdlaa.M2

/- What the functions answer in M2. Part 11: stands' call. -/
namespace Go.Proofs.Ytaefnggoempdlaa.M2
open Go
attribute [local simp] ev1 M2.get put A.ev ld sub part elems bin arith un opt idx fillC cellsO splice over newOb sto fillR laidOwn appTo appRow touch touchN touchM touchE touchA plainU flatU plainAs allM rowAt stoRow accM_nil accM_cons accMM_nil accMM_cons frz_int frz_bool frz_str frz_slt frz_nils frz_nilI frz_nilF frz_own frzRow_row frzRow_frow Ob.blw blw_bool blw_int blw_str blw_nils blw_nilI blw_nilF blw_nilp blw_nilm blw_sl blw_own blw_bp blw_rp blw_mp blw_it params
attribute [local simp] beq_dec bne_dec

theorem getRow {l : List Row} {i : Nat} (h : i < l.length) : l.getD i default = l[i] := by simp [h]
theorem getRef {l : List (Int × Int)} {i : Nat} (h : i < l.length) : l.getD i (0, 0) = l[i] := by simp [h]
theorem getInt {l : List Int} {i : Nat} (h : i < l.length) : l.getD i 0 = l[i] := by simp [h]
theorem s4_loop (p pc : Bool) (l : List Row) (c : List Int) (i k : Nat) (hc : c.length = l.length) (hi : i < l.length) (hk : k < l.length) (hlen : l[i].to.length = l[k].to.length) (hl : l[i].to.length < 1000000000000) :
    Wp T (.loop c_joinerylaw12_stands_L4) (s4S p pc l c i k (0 : Nat)) (fun _ => False) (fun s' => s'.env = [(4, .bool false)] ∧ ∃ m, m < l[i].to.length ∧ ¬ refOK l.length c (l[i].to.getD m (0, 0)) (l[k].to.getD m (0, 0)))
      (fun b s' => b = 4 ∧ s' = ⟨[(0, rowsU p l), (1, .sl pc (intsU c)), (5, i64 i), (6, i64 k), (7, i64 l[i].to.length), (65, .bool false)], []⟩ ∧ ∀ m, m < l[i].to.length → refOK l.length c (l[i].to.getD m (0, 0)) (l[k].to.getD m (0, 0))) := by
  refine Wp.count l[i].to.length (fun n => s4S p pc l c i k n) (fun n => ∀ m, m < n → refOK l.length c (l[i].to.getD m (0, 0)) (l[k].to.getD m (0, 0))) (fun n hn hP => ?_) (fun hP => ?_) 0 (by omega) (fun m h => absurd h (by omega))
  · refine (s4_step p pc l c i k n hc hi hk hn (by omega) hl).imp (fun s h => ⟨h.1, fun m hm => ?_⟩) (fun s h => ⟨h.1, n, hn, ?_⟩) (fun _ _ h => h.elim)
    · rcases Nat.lt_or_ge m n with h' | h'
      · exact hP m h'
      · have : m = n := by omega
        subst this
        rw [getRef hn, getRef (show m < l[k].to.length by omega)]
        exact h.2
    · rw [getRef hn, getRef (show n < l[k].to.length by omega)]
      exact h.2
  · rw [s4S]
    repeat (first | apply Wp.seq | apply Wp.skip | apply Wp.block | (apply Wp.op0; ((simp [M2.keep]) <;> rfl)) | (apply Wp.op; (apply Evt.all; intro; (simp [rowsU, hi, rowU_eq, refsU_len]) <;> (try simp (disch := omega) only [wrap_id]) <;> first | exact ⟨rfl, rfl⟩ | exact rfl)) | (apply Wp.opN; (apply Evt.all; intro; (simp [rowsU, hi, rowU_eq, refsU_len]) <;> (try simp (disch := omega) only [wrap_id]) <;> first | exact ⟨rfl, rfl⟩ | exact rfl)) | (apply Wp.opG; (exact rfl); (apply Evt.all; intro; (simp [rowsU, hi, rowU_eq, refsU_len]) <;> (try simp (disch := omega) only [wrap_id]) <;> first | exact ⟨rfl, rfl⟩ | exact rfl)) | (apply Wp.opS; (exact rfl); decide) | (apply Wp.opS0; (exact rfl)))
    refine Wp.cond (by first | rfl | (simp; rfl)) (fun ht => ?_) (fun ht => ?_)
    · simp at ht
    · exact Wp.exit ⟨rfl, by simp [rowsU], hP⟩
def s5S (p pc : Bool) (l : List Row) (c : List Int) (i k : Nat) : S := ⟨[(0, rowsU p l), (1, .sl pc (intsU c)), (5, i64 i), (6, i64 k)], []⟩
theorem s5_step (p pc : Bool) (l : List Row) (c : List Int) (i k : Nat) (hc : c.length = l.length) (hi : i < l.length) (hk : k < i) (hl : l[i].to.length < 1000000000000) (hs : l.length < 1000000000000) :
    Wp T c_joinerylaw12_stands_L5 (s5S p pc l c i k) (fun s' => trimO 0 s' = s5S p pc l c i (k + 1 : Nat) ∧ pairOK l c i k) (fun s' => s'.env = [(4, .bool false)] ∧ ¬ pairOK l c i k) (fun _ _ => False) := by
  have hk' : k < l.length := by omega
  have hic : i < c.length := by omega
  have hkc : k < c.length := by omega
  rw [pairOK, getRow hi, getRow hk', getInt hic, getInt hkc, s5S]
  repeat (first | apply Wp.seq | apply Wp.skip | apply Wp.block | (apply Wp.op0; ((simp [M2.keep]) <;> rfl)) | (apply Wp.op; (apply Evt.all; intro; (simp [hk]) <;> (try simp (disch := omega) only [wrap_id]) <;> first | exact ⟨rfl, rfl⟩ | exact rfl)) | (apply Wp.opN; (apply Evt.all; intro; (simp [hk]) <;> (try simp (disch := omega) only [wrap_id]) <;> first | exact ⟨rfl, rfl⟩ | exact rfl)) | (apply Wp.opG; (exact rfl); (apply Evt.all; intro; (simp [hk]) <;> (try simp (disch := omega) only [wrap_id]) <;> first | exact ⟨rfl, rfl⟩ | exact rfl)) | (apply Wp.opS; (exact rfl); decide) | (apply Wp.opS0; (exact rfl)))
  refine Wp.cond (by first | rfl | (simp; rfl)) (fun ht => ?_) (fun ht => ?_)
  · have inc : ∀ (v : Env) (st : List Ob), Wp T (.ops [
  ⟨(some 21), .mov (.t 6), none⟩,
  ⟨(some 22), .bin .add (.t 21) (.k (.int .i64 1)), none⟩,
  ⟨(some 6), .mov (.t 22), none⟩] [0, 1, 5, 6]) ⟨[(0, rowsU p l), (1, .sl pc (intsU c)), (5, i64 i), (6, i64 k)] ++ v, st⟩ (fun s' => trimO 0 s' = s5S p pc l c i (k + 1 : Nat)) (fun _ => False) (fun _ _ => False) := by
      intro v st
      simp only [List.cons_append, List.nil_append]
      repeat (first | apply Wp.seq | apply Wp.skip | apply Wp.block | (apply Wp.op0; ((simp [M2.keep]) <;> rfl)) | (apply Wp.op; (apply Evt.all; intro; (simp []) <;> (try simp (disch := omega) only [wrap_id]) <;> first | exact ⟨rfl, rfl⟩ | exact rfl)) | (apply Wp.opN; (apply Evt.all; intro; (simp []) <;> (try simp (disch := omega) only [wrap_id]) <;> first | exact ⟨rfl, rfl⟩ | exact rfl)) | (apply Wp.opG; (exact rfl); (apply Evt.all; intro; (simp []) <;> (try simp (disch := omega) only [wrap_id]) <;> first | exact ⟨rfl, rfl⟩ | exact rfl)) | (apply Wp.opS; (exact rfl); decide) | (apply Wp.opS0; (exact rfl)))
      simp [s5S, trimO, trim, rowsU]
    repeat (first | apply Wp.seq | apply Wp.skip | apply Wp.block | (apply Wp.op0; ((simp [M2.keep]) <;> rfl)) | (apply Wp.op; (apply Evt.all; intro; (simp []) <;> (try simp (disch := omega) only [wrap_id]) <;> first | exact ⟨rfl, rfl⟩ | exact rfl)) | (apply Wp.opN; (apply Evt.all; intro; (simp []) <;> (try simp (disch := omega) only [wrap_id]) <;> first | exact ⟨rfl, rfl⟩ | exact rfl)) | (apply Wp.opG; (exact rfl); (apply Evt.all; intro; (simp []) <;> (try simp (disch := omega) only [wrap_id]) <;> first | exact ⟨rfl, rfl⟩ | exact rfl)) | (apply Wp.opS; (exact rfl); decide) | (apply Wp.opS0; (exact rfl)))
    by_cases hcc : c[i] = c[k]
    · refine Wp.draw (by (simp [c_joinerylaw12_stands_D0, I.need]) <;> rfl) (by (simp [intsU_len, intsU_getE, hic, hkc, hcc]) <;> rfl) (by (simp [intsU_len, intsU_getE, hic, hkc, hcc]) <;> rfl) (by (unfold c_joinerylaw12_stands_D0); (repeat (first | (apply Dr.op; ((simp [intsU_len, intsU_getE, hic, hkc, hcc]) <;> rfl); (apply Evt.all; intro; (simp [intsU_len, intsU_getE, hic, hkc, hcc]) <;> (try simp (disch := omega) only [wrap_id]) <;> first | exact ⟨rfl, rfl⟩ | exact rfl); ((simp [I.need]) <;> rfl)) | (apply Dr.opN; ((simp [intsU_len, intsU_getE, hic, hkc, hcc]) <;> rfl); (apply Evt.all; intro; (simp [intsU_len, intsU_getE, hic, hkc, hcc]) <;> (try simp (disch := omega) only [wrap_id]) <;> first | exact ⟨rfl, rfl⟩ | exact rfl); ((simp [I.need]) <;> rfl)) | (apply Dr.opG; (exact rfl); ((simp [intsU_len, intsU_getE, hic, hkc, hcc]) <;> rfl); (apply Evt.all; intro; (simp [intsU_len, intsU_getE, hic, hkc, hcc]) <;> (try simp (disch := omega) only [wrap_id]) <;> first | exact ⟨rfl, rfl⟩ | exact rfl); ((simp [I.need]) <;> rfl)) | (apply Dr.opS; (exact rfl); decide; ((simp [I.need]) <;> rfl)) | (apply Dr.opS0; (exact rfl); ((simp [I.need]) <;> rfl)))); exact Dr.nil) (by first | decide +kernel | exact rfl) (by (simp [M2.keep]) <;> rfl) ?_
      refine Wp.cond (by first | rfl | (simp; rfl)) (fun ht2 => ?_) (fun ht2 => ?_)
      · cases ht2
      repeat (first | apply Wp.seq | apply Wp.skip | apply Wp.block | (apply Wp.op0; ((simp [M2.keep]) <;> rfl)) | (apply Wp.op; (apply Evt.all; intro; (simp []) <;> (try simp (disch := omega) only [wrap_id]) <;> first | exact ⟨rfl, rfl⟩ | exact rfl)) | (apply Wp.opN; (apply Evt.all; intro; (simp []) <;> (try simp (disch := omega) only [wrap_id]) <;> first | exact ⟨rfl, rfl⟩ | exact rfl)) | (apply Wp.opG; (exact rfl); (apply Evt.all; intro; (simp []) <;> (try simp (disch := omega) only [wrap_id]) <;> first | exact ⟨rfl, rfl⟩ | exact rfl)) | (apply Wp.opS; (exact rfl); decide) | (apply Wp.opS0; (exact rfl)))
      by_cases hcol : l[i].c = l[k].c
      · by_cases hlen : l[i].to.length = l[k].to.length
        · refine Wp.draw (by (simp [c_joinerylaw12_stands_D1, I.need]) <;> rfl) (by (simp [rowsU, hi, hk', rowU_eq, refsU_len, hcol, hlen]) <;> rfl) (by (simp [rowsU, hi, hk', rowU_eq, refsU_len, hcol, hlen]) <;> rfl) (by (unfold c_joinerylaw12_stands_D1); (repeat (first | (apply Dr.op; ((simp [rowsU, hi, hk', rowU_eq, refsU_len, hcol, hlen]) <;> rfl); (apply Evt.all; intro; (simp [rowsU, hi, hk', rowU_eq, refsU_len, hcol, hlen]) <;> (try simp (disch := omega) only [wrap_id]) <;> first | exact ⟨rfl, rfl⟩ | exact rfl); ((simp [I.need]) <;> rfl)) | (apply Dr.opN; ((simp [rowsU, hi, hk', rowU_eq, refsU_len, hcol, hlen]) <;> rfl); (apply Evt.all; intro; (simp [rowsU, hi, hk', rowU_eq, refsU_len, hcol, hlen]) <;> (try simp (disch := omega) only [wrap_id]) <;> first | exact ⟨rfl, rfl⟩ | exact rfl); ((simp [I.need]) <;> rfl)) | (apply Dr.opG; (exact rfl); ((simp [rowsU, hi, hk', rowU_eq, refsU_len, hcol, hlen]) <;> rfl); (apply Evt.all; intro; (simp [rowsU, hi, hk', rowU_eq, refsU_len, hcol, hlen]) <;> (try simp (disch := omega) only [wrap_id]) <;> first | exact ⟨rfl, rfl⟩ | exact rfl); ((simp [I.need]) <;> rfl)) | (apply Dr.opS; (exact rfl); decide; ((simp [I.need]) <;> rfl)) | (apply Dr.opS0; (exact rfl); ((simp [I.need]) <;> rfl)))); exact Dr.nil) (by first | decide +kernel | exact rfl) (by (simp [M2.keep]) <;> rfl) ?_
          refine Wp.cond (by first | rfl | (simp; rfl)) (fun ht3 => ?_) (fun ht3 => ?_)
          · cases ht3
          repeat (first | apply Wp.seq | apply Wp.skip | apply Wp.block | (apply Wp.op0; ((simp [M2.keep]) <;> rfl)) | (apply Wp.op; (apply Evt.all; intro; (simp []) <;> (try simp (disch := omega) only [wrap_id]) <;> first | exact ⟨rfl, rfl⟩ | exact rfl)) | (apply Wp.opN; (apply Evt.all; intro; (simp []) <;> (try simp (disch := omega) only [wrap_id]) <;> first | exact ⟨rfl, rfl⟩ | exact rfl)) | (apply Wp.opG; (exact rfl); (apply Evt.all; intro; (simp []) <;> (try simp (disch := omega) only [wrap_id]) <;> first | exact ⟨rfl, rfl⟩ | exact rfl)) | (apply Wp.opS; (exact rfl); decide) | (apply Wp.opS0; (exact rfl)))
          refine (s4_loop p pc l c i k hc hi hk' hlen hl).imp (fun _ h => h.elim) (fun s ⟨h1, m, h2, h3⟩ => ⟨h1, fun h => h3 ((h hcc).2.2 m h2)⟩) ?_
          rintro b s ⟨rfl, rfl, h3⟩
          rw [if_pos rfl]
          refine (inc [(7, i64 l[i].to.length), (65, .bool false)] []).imp (fun s h => ⟨h, fun _ => ⟨hcol, hlen, h3⟩⟩) (fun _ h => h.elim) (fun _ _ h => h.elim)
        · have hleni : ¬ (l[i].to.length : Int) = (l[k].to.length : Int) := by omega
          refine Wp.draw (by (simp [c_joinerylaw12_stands_D1, I.need]) <;> rfl) (by (simp [rowsU, hi, hk', rowU_eq, refsU_len, hcol, hleni]) <;> rfl) (by (simp [rowsU, hi, hk', rowU_eq, refsU_len, hcol, hleni]) <;> rfl) (by (unfold c_joinerylaw12_stands_D1); (repeat (first | (apply Dr.op; ((simp [rowsU, hi, hk', rowU_eq, refsU_len, hcol, hleni]) <;> rfl); (apply Evt.all; intro; (simp [rowsU, hi, hk', rowU_eq, refsU_len, hcol, hleni]) <;> (try simp (disch := omega) only [wrap_id]) <;> first | exact ⟨rfl, rfl⟩ | exact rfl); ((simp [I.need]) <;> rfl)) | (apply Dr.opN; ((simp [rowsU, hi, hk', rowU_eq, refsU_len, hcol, hleni]) <;> rfl); (apply Evt.all; intro; (simp [rowsU, hi, hk', rowU_eq, refsU_len, hcol, hleni]) <;> (try simp (disch := omega) only [wrap_id]) <;> first | exact ⟨rfl, rfl⟩ | exact rfl); ((simp [I.need]) <;> rfl)) | (apply Dr.opG; (exact rfl); ((simp [rowsU, hi, hk', rowU_eq, refsU_len, hcol, hleni]) <;> rfl); (apply Evt.all; intro; (simp [rowsU, hi, hk', rowU_eq, refsU_len, hcol, hleni]) <;> (try simp (disch := omega) only [wrap_id]) <;> first | exact ⟨rfl, rfl⟩ | exact rfl); ((simp [I.need]) <;> rfl)) | (apply Dr.opS; (exact rfl); decide; ((simp [I.need]) <;> rfl)) | (apply Dr.opS0; (exact rfl); ((simp [I.need]) <;> rfl)))); exact Dr.nil) (by first | decide +kernel | exact rfl) (by (simp [M2.keep]) <;> rfl) ?_
          refine Wp.cond (by first | rfl | (simp; rfl)) (fun ht3 => ?_) (fun ht3 => ?_)
          · repeat (first | apply Wp.seq | apply Wp.skip | apply Wp.block | (apply Wp.op0; ((simp [M2.keep]) <;> rfl)) | (apply Wp.op; (apply Evt.all; intro; (simp []) <;> (try simp (disch := omega) only [wrap_id]) <;> first | exact ⟨rfl, rfl⟩ | exact rfl)) | (apply Wp.opN; (apply Evt.all; intro; (simp []) <;> (try simp (disch := omega) only [wrap_id]) <;> first | exact ⟨rfl, rfl⟩ | exact rfl)) | (apply Wp.opG; (exact rfl); (apply Evt.all; intro; (simp []) <;> (try simp (disch := omega) only [wrap_id]) <;> first | exact ⟨rfl, rfl⟩ | exact rfl)) | (apply Wp.opS; (exact rfl); decide) | (apply Wp.opS0; (exact rfl)))
            exact Wp.ret ⟨rfl, fun h => hlen (h hcc).2.1⟩
          · cases ht3
      · refine Wp.draw (by (simp [c_joinerylaw12_stands_D1, I.need]) <;> rfl) (by (simp [rowsU, hi, hk', rowU_eq, refsU_len, hcol]) <;> rfl) (by (simp [rowsU, hi, hk', rowU_eq, refsU_len, hcol]) <;> rfl) (by (unfold c_joinerylaw12_stands_D1); (repeat (first | (apply Dr.op; ((simp [rowsU, hi, hk', rowU_eq, refsU_len, hcol]) <;> rfl); (apply Evt.all; intro; (simp [rowsU, hi, hk', rowU_eq, refsU_len, hcol]) <;> (try simp (disch := omega) only [wrap_id]) <;> first | exact ⟨rfl, rfl⟩ | exact rfl); ((simp [I.need]) <;> rfl)) | (apply Dr.opN; ((simp [rowsU, hi, hk', rowU_eq, refsU_len, hcol]) <;> rfl); (apply Evt.all; intro; (simp [rowsU, hi, hk', rowU_eq, refsU_len, hcol]) <;> (try simp (disch := omega) only [wrap_id]) <;> first | exact ⟨rfl, rfl⟩ | exact rfl); ((simp [I.need]) <;> rfl)) | (apply Dr.opG; (exact rfl); ((simp [rowsU, hi, hk', rowU_eq, refsU_len, hcol]) <;> rfl); (apply Evt.all; intro; (simp [rowsU, hi, hk', rowU_eq, refsU_len, hcol]) <;> (try simp (disch := omega) only [wrap_id]) <;> first | exact ⟨rfl, rfl⟩ | exact rfl); ((simp [I.need]) <;> rfl)) | (apply Dr.opS; (exact rfl); decide; ((simp [I.need]) <;> rfl)) | (apply Dr.opS0; (exact rfl); ((simp [I.need]) <;> rfl)))); exact Dr.nil) (by first | decide +kernel | exact rfl) (by (simp [M2.keep]) <;> rfl) ?_
        refine Wp.cond (by first | rfl | (simp; rfl)) (fun ht3 => ?_) (fun ht3 => ?_)
        · repeat (first | apply Wp.seq | apply Wp.skip | apply Wp.block | (apply Wp.op0; ((simp [M2.keep]) <;> rfl)) | (apply Wp.op; (apply Evt.all; intro; (simp []) <;> (try simp (disch := omega) only [wrap_id]) <;> first | exact ⟨rfl, rfl⟩ | exact rfl)) | (apply Wp.opN; (apply Evt.all; intro; (simp []) <;> (try simp (disch := omega) only [wrap_id]) <;> first | exact ⟨rfl, rfl⟩ | exact rfl)) | (apply Wp.opG; (exact rfl); (apply Evt.all; intro; (simp []) <;> (try simp (disch := omega) only [wrap_id]) <;> first | exact ⟨rfl, rfl⟩ | exact rfl)) | (apply Wp.opS; (exact rfl); decide) | (apply Wp.opS0; (exact rfl)))
          exact Wp.ret ⟨rfl, fun h => hcol (h hcc).1⟩
        · cases ht3
    · refine Wp.draw (by (simp [c_joinerylaw12_stands_D0, I.need]) <;> rfl) (by (simp [intsU_len, intsU_getE, hic, hkc, hcc]) <;> rfl) (by (simp [intsU_len, intsU_getE, hic, hkc, hcc]) <;> rfl) (by (unfold c_joinerylaw12_stands_D0); (repeat (first | (apply Dr.op; ((simp [intsU_len, intsU_getE, hic, hkc, hcc]) <;> rfl); (apply Evt.all; intro; (simp [intsU_len, intsU_getE, hic, hkc, hcc]) <;> (try simp (disch := omega) only [wrap_id]) <;> first | exact ⟨rfl, rfl⟩ | exact rfl); ((simp [I.need]) <;> rfl)) | (apply Dr.opN; ((simp [intsU_len, intsU_getE, hic, hkc, hcc]) <;> rfl); (apply Evt.all; intro; (simp [intsU_len, intsU_getE, hic, hkc, hcc]) <;> (try simp (disch := omega) only [wrap_id]) <;> first | exact ⟨rfl, rfl⟩ | exact rfl); ((simp [I.need]) <;> rfl)) | (apply Dr.opG; (exact rfl); ((simp [intsU_len, intsU_getE, hic, hkc, hcc]) <;> rfl); (apply Evt.all; intro; (simp [intsU_len, intsU_getE, hic, hkc, hcc]) <;> (try simp (disch := omega) only [wrap_id]) <;> first | exact ⟨rfl, rfl⟩ | exact rfl); ((simp [I.need]) <;> rfl)) | (apply Dr.opS; (exact rfl); decide; ((simp [I.need]) <;> rfl)) | (apply Dr.opS0; (exact rfl); ((simp [I.need]) <;> rfl)))); exact Dr.nil) (by first | decide +kernel | exact rfl) (by (simp [M2.keep]) <;> rfl) ?_
      refine Wp.cond (by first | rfl | (simp; rfl)) (fun ht2 => ?_) (fun ht2 => ?_)
      · refine Wp.exit ?_
        rw [if_pos rfl]
        exact (inc [(31, .bool true)] []).imp (fun s h => ⟨h, fun h => absurd h hcc⟩) (fun _ h => h.elim) (fun _ _ h => h.elim)
      · cases ht2
  · cases ht
theorem s5_loop (p pc : Bool) (l : List Row) (c : List Int) (i : Nat) (hc : c.length = l.length) (hi : i < l.length) (hl : l[i].to.length < 1000000000000) (hs : l.length < 1000000000000) :
    Wp T (.loop c_joinerylaw12_stands_L5) (s5S p pc l c i (0 : Nat)) (fun _ => False) (fun s' => s'.env = [(4, .bool false)] ∧ ¬ Stands l c)
      (fun b s' => b = 2 ∧ s' = ⟨[(0, rowsU p l), (1, .sl pc (intsU c)), (5, i64 i), (6, i64 i), (20, .bool false)], []⟩ ∧ ∀ k, k < i → pairOK l c i k) := by
  refine Wp.count i (fun k => s5S p pc l c i k) (fun k => ∀ m, m < k → pairOK l c i m) (fun k hk hP => ?_) (fun hP => ?_) 0 (by omega) (fun m h => absurd h (by omega))
  · refine (s5_step p pc l c i k hc hi hk hl hs).imp (fun s h => ⟨h.1, fun m hm => ?_⟩) (fun s h => ⟨h.1, fun hS => h.2 (hS i k hi hk)⟩) (fun _ _ h => h.elim)
    rcases Nat.lt_or_ge m k with h' | h'
    · exact hP m h'
    · have : m = k := by omega
      subst this
      exact h.2
  · rw [s5S]
    repeat (first | apply Wp.seq | apply Wp.skip | apply Wp.block | (apply Wp.op0; ((simp [M2.keep]) <;> rfl)) | (apply Wp.op; (apply Evt.all; intro; (simp []) <;> (try simp (disch := omega) only [wrap_id]) <;> first | exact ⟨rfl, rfl⟩ | exact rfl)) | (apply Wp.opN; (apply Evt.all; intro; (simp []) <;> (try simp (disch := omega) only [wrap_id]) <;> first | exact ⟨rfl, rfl⟩ | exact rfl)) | (apply Wp.opG; (exact rfl); (apply Evt.all; intro; (simp []) <;> (try simp (disch := omega) only [wrap_id]) <;> first | exact ⟨rfl, rfl⟩ | exact rfl)) | (apply Wp.opS; (exact rfl); decide) | (apply Wp.opS0; (exact rfl)))
    refine Wp.cond (by first | rfl | (simp; rfl)) (fun ht => ?_) (fun ht => ?_)
    · simp at ht
    · exact Wp.exit ⟨rfl, by simp, hP⟩
def s6S (p pc : Bool) (l : List Row) (c : List Int) (i : Nat) : S := ⟨[(0, rowsU p l), (1, .sl pc (intsU c)), (5, i64 i)], []⟩
theorem s6_step (p pc : Bool) (l : List Row) (c : List Int) (i : Nat) (hc : c.length = l.length) (hi : i < l.length) (hl : l[i].to.length < 1000000000000) (hs : l.length < 1000000000000) :
    Wp T c_joinerylaw12_stands_L6 (s6S p pc l c i) (fun s' => trimO 0 s' = s6S p pc l c (i + 1 : Nat) ∧ ∀ k, k < i → pairOK l c i k) (fun s' => s'.env = [(4, .bool false)] ∧ ¬ Stands l c) (fun _ _ => False) := by
  rw [s6S]
  repeat (first | apply Wp.seq | apply Wp.skip | apply Wp.block | (apply Wp.op0; ((simp [M2.keep]) <;> rfl)) | (apply Wp.op; (apply Evt.all; intro; (simp [rowsU, hi]) <;> (try simp (disch := omega) only [wrap_id]) <;> first | exact ⟨rfl, rfl⟩ | exact rfl)) | (apply Wp.opN; (apply Evt.all; intro; (simp [rowsU, hi]) <;> (try simp (disch := omega) only [wrap_id]) <;> first | exact ⟨rfl, rfl⟩ | exact rfl)) | (apply Wp.opG; (exact rfl); (apply Evt.all; intro; (simp [rowsU, hi]) <;> (try simp (disch := omega) only [wrap_id]) <;> first | exact ⟨rfl, rfl⟩ | exact rfl)) | (apply Wp.opS; (exact rfl); decide) | (apply Wp.opS0; (exact rfl)))
  refine Wp.cond (by first | rfl | (simp; rfl)) (fun ht => ?_) (fun ht => ?_)
  · repeat (first | apply Wp.seq | apply Wp.skip | apply Wp.block | (apply Wp.op0; ((simp [M2.keep]) <;> rfl)) | (apply Wp.op; (apply Evt.all; intro; (simp []) <;> (try simp (disch := omega) only [wrap_id]) <;> first | exact ⟨rfl, rfl⟩ | exact rfl)) | (apply Wp.opN; (apply Evt.all; intro; (simp []) <;> (try simp (disch := omega) only [wrap_id]) <;> first | exact ⟨rfl, rfl⟩ | exact rfl)) | (apply Wp.opG; (exact rfl); (apply Evt.all; intro; (simp []) <;> (try simp (disch := omega) only [wrap_id]) <;> first | exact ⟨rfl, rfl⟩ | exact rfl)) | (apply Wp.opS; (exact rfl); decide) | (apply Wp.opS0; (exact rfl)))
    refine (s5_loop p pc l c i hc hi hl hs).imp (fun _ h => h.elim) (fun _ h => h) ?_
    rintro b s ⟨rfl, rfl, h3⟩
    rw [if_pos rfl]
    repeat (first | apply Wp.seq | apply Wp.skip | apply Wp.block | (apply Wp.op0; ((simp [M2.keep]) <;> rfl)) | (apply Wp.op; (apply Evt.all; intro; (simp []) <;> (try simp (disch := omega) only [wrap_id]) <;> first | exact ⟨rfl, rfl⟩ | exact rfl)) | (apply Wp.opN; (apply Evt.all; intro; (simp []) <;> (try simp (disch := omega) only [wrap_id]) <;> first | exact ⟨rfl, rfl⟩ | exact rfl)) | (apply Wp.opG; (exact rfl); (apply Evt.all; intro; (simp []) <;> (try simp (disch := omega) only [wrap_id]) <;> first | exact ⟨rfl, rfl⟩ | exact rfl)) | (apply Wp.opS; (exact rfl); decide) | (apply Wp.opS0; (exact rfl)))
    exact ⟨by simp [s6S, trimO, trim, rowsU], h3⟩
  · simp [hi] at ht
theorem stands_call (p pc : Bool) (l : List Row) (c : List Int) (st : List Ob) (CU : U) (hc : c.length = l.length) (hl : ∀ r ∈ l, r.to.length < 1000000000000) (hs : l.length < 1000000000000) (hCU : brw frzD st CU = some (.sl pc (intsU c))) :
    Cl T 16 [rowsU p l, CU] st (.bool (standsF l c)) st := by
  refine Wp.pure (fn := c_joinerylaw12_stands) rfl rfl rfl («as» := [rowsU p l, .sl pc (intsU c)]) ?_ ?_
  · simp only [allM, hCU, Option.bind_some]
    rfl
  repeat (first | apply Wp.seq | apply Wp.skip | apply Wp.block | (apply Wp.op0; ((simp [M2.keep]) <;> rfl)) | (apply Wp.op; (apply Evt.all; intro; (simp []) <;> (try simp (disch := omega) only [wrap_id]) <;> first | exact ⟨rfl, rfl⟩ | exact rfl)) | (apply Wp.opN; (apply Evt.all; intro; (simp []) <;> (try simp (disch := omega) only [wrap_id]) <;> first | exact ⟨rfl, rfl⟩ | exact rfl)) | (apply Wp.opG; (exact rfl); (apply Evt.all; intro; (simp []) <;> (try simp (disch := omega) only [wrap_id]) <;> first | exact ⟨rfl, rfl⟩ | exact rfl)) | (apply Wp.opS; (exact rfl); decide) | (apply Wp.opS0; (exact rfl)))
  have hloop : Wp T (.loop c_joinerylaw12_stands_L6) (s6S p pc l c (0 : Nat)) (fun _ => False) (fun s' => s'.env = [(4, .bool false)] ∧ ¬ Stands l c) (fun b s' => b = 0 ∧ s' = ⟨[(0, rowsU p l), (1, .sl pc (intsU c)), (5, i64 l.length), (15, .bool false)], []⟩ ∧ Stands l c) := by
    refine Wp.count l.length (fun i => s6S p pc l c i) (fun i => ∀ m, m < i → ∀ k, k < m → pairOK l c m k) (fun i hi hP => ?_) (fun hP => ?_) 0 (by omega) (fun m h => absurd h (by omega))
    · refine (s6_step p pc l c i hc hi (hl _ (List.getElem_mem hi)) hs).imp (fun s h => ⟨h.1, fun m hm => ?_⟩) (fun s h => h) (fun _ _ h => h.elim)
      rcases Nat.lt_or_ge m i with h' | h'
      · exact hP m h'
      · have : m = i := by omega
        subst this
        exact h.2
    · rw [s6S]
      repeat (first | apply Wp.seq | apply Wp.skip | apply Wp.block | (apply Wp.op0; ((simp [M2.keep]) <;> rfl)) | (apply Wp.op; (apply Evt.all; intro; (simp [rowsU]) <;> (try simp (disch := omega) only [wrap_id]) <;> first | exact ⟨rfl, rfl⟩ | exact rfl)) | (apply Wp.opN; (apply Evt.all; intro; (simp [rowsU]) <;> (try simp (disch := omega) only [wrap_id]) <;> first | exact ⟨rfl, rfl⟩ | exact rfl)) | (apply Wp.opG; (exact rfl); (apply Evt.all; intro; (simp [rowsU]) <;> (try simp (disch := omega) only [wrap_id]) <;> first | exact ⟨rfl, rfl⟩ | exact rfl)) | (apply Wp.opS; (exact rfl); decide) | (apply Wp.opS0; (exact rfl)))
      refine Wp.cond (by first | rfl | (simp; rfl)) (fun ht => ?_) (fun ht => ?_)
      · simp at ht
      · exact Wp.exit ⟨rfl, by simp [rowsU], fun i k hi hk => hP i hi k hk⟩
  refine hloop.imp (fun _ h => h.elim) (fun s ⟨h1, h2⟩ => ?_) ?_
  · simp [Res, resU, c_joinerylaw12_stands, res1, h1, standsF, h2]
  rintro b s ⟨rfl, rfl, h3⟩
  rw [if_pos rfl]
  repeat (first | apply Wp.seq | apply Wp.skip | apply Wp.block | (apply Wp.op0; ((simp [M2.keep]) <;> rfl)) | (apply Wp.op; (apply Evt.all; intro; (simp []) <;> (try simp (disch := omega) only [wrap_id]) <;> first | exact ⟨rfl, rfl⟩ | exact rfl)) | (apply Wp.opN; (apply Evt.all; intro; (simp []) <;> (try simp (disch := omega) only [wrap_id]) <;> first | exact ⟨rfl, rfl⟩ | exact rfl)) | (apply Wp.opG; (exact rfl); (apply Evt.all; intro; (simp []) <;> (try simp (disch := omega) only [wrap_id]) <;> first | exact ⟨rfl, rfl⟩ | exact rfl)) | (apply Wp.opS; (exact rfl); decide) | (apply Wp.opS0; (exact rfl)))
  refine Wp.ret ?_
  simp [Res, resU, c_joinerylaw12_stands, res1, standsF, h3]
end Go.Proofs.Ytaefnggoempdlaa.M2

/- What the functions answer in M2. Part 12: the table's memory. -/
namespace Go.Proofs.Ytaefnggoempdlaa.M2
open Go
attribute [local simp] ev1 M2.get put A.ev ld sub part elems bin arith un opt idx fillC cellsO splice over newOb sto fillR laidOwn appTo appRow touch touchN touchM touchE touchA plainU flatU plainAs allM rowAt stoRow accM_nil accM_cons accMM_nil accMM_cons frz_int frz_bool frz_str frz_slt frz_nils frz_nilI frz_nilF frz_own frzRow_row frzRow_frow Ob.blw blw_bool blw_int blw_str blw_nils blw_nilI blw_nilF blw_nilp blw_nilm blw_sl blw_own blw_bp blw_rp blw_mp blw_it params
attribute [local simp] beq_dec bne_dec

def bitsU (r : List Bool) : List (List U) := r.map fun b => [.bool b]
theorem bitsU_len (r : List Bool) : (bitsU r).length = r.length := by simp [bitsU]
theorem bitsU_getE {l : List Bool} {i : Nat} (h : i < (bitsU l).length) : (bitsU l)[i] = [.bool (l[i]'(by rwa [bitsU_len] at h))] := by simp [bitsU]
def tabO (N : Nat) : Nat → List (List Bool) → List Ob
  | _, [] => []
  | j, r :: M => .row 4 1 false (bitsU r) :: .row 31 1 true [[.own j N]] :: tabO N (j + 2) M
def tabH (N k : Nat) : List (List U) := (List.range k).map fun i => [.own (1 + 2 * i) N]
def tabSt (N : Nat) (M : List (List Bool)) : List Ob := .row 31 1 true (tabH N M.length) :: tabO N 1 M
theorem tabO_len (N : Nat) : ∀ (j : Nat) (M : List (List Bool)), (tabO N j M).length = 2 * M.length
  | _, [] => rfl
  | j, r :: M => by simp only [tabO, List.length_cons, tabO_len N (j + 2) M]; omega
theorem tabH_len (N k : Nat) : (tabH N k).length = k := by simp [tabH]
theorem tabO_snoc (N : Nat) (r : List Bool) : ∀ (j : Nat) (M : List (List Bool)), tabO N j (M ++ [r]) = tabO N j M ++ [.row 4 1 false (bitsU r), .row 31 1 true [[.own (j + 2 * M.length) N]]]
  | j, [] => by simp [tabO]
  | j, x :: M => by
    simp only [List.cons_append, tabO, tabO_snoc N r (j + 2) M, List.length_cons]
    rw [show j + 2 + 2 * M.length = j + 2 * (M.length + 1) by omega]
theorem tabO_get (N : Nat) : ∀ (j : Nat) (M : List (List Bool)) (i : Nat) (h : i < M.length), (tabO N j M)[2 * i]? = some (.row 4 1 false (bitsU M[i]))
  | j, [], i, h => by simp at h
  | j, r :: M, 0, h => by simp [tabO]
  | j, r :: M, i + 1, h => by
    rw [show 2 * (i + 1) = 2 * i + 1 + 1 by omega, tabO, List.getElem?_cons_succ, List.getElem?_cons_succ, tabO_get N (j + 2) M i (by simpa using h)]
    rfl
theorem tabO_set (N : Nat) (r : List Bool) : ∀ (j : Nat) (M : List (List Bool)) (i : Nat), i < M.length → (tabO N j M).set (2 * i) (.row 4 1 false (bitsU r)) = tabO N j (M.set i r)
  | j, [], i, h => by simp at h
  | j, x :: M, 0, h => by simp [tabO]
  | j, x :: M, i + 1, h => by
    rw [show 2 * (i + 1) = 2 * i + 1 + 1 by omega, tabO, List.set_cons_succ, List.set_cons_succ, tabO_set N r (j + 2) M i (by simpa using h)]
    rfl
theorem tabSt_get {N : Nat} {M : List (List Bool)} {i : Nat} (h : i < M.length) : (tabSt N M)[1 + 2 * i]? = some (.row 4 1 false (bitsU M[i])) := by
  rw [tabSt, show 1 + 2 * i = 2 * i + 1 by omega, List.getElem?_cons_succ, tabO_get N 1 M i h]
theorem tabSt_set {N : Nat} {M : List (List Bool)} {i : Nat} (r : List Bool) (h : i < M.length) : (tabSt N M).set (1 + 2 * i) (.row 4 1 false (bitsU r)) = tabSt N (M.set i r) := by
  rw [tabSt, show 1 + 2 * i = 2 * i + 1 by omega, List.set_cons_succ, tabO_set N r 1 M i h, tabSt, List.length_set]
theorem allM_map {α β γ : Type} (g : β → Option γ) (f : α → β) (h : α → γ) : ∀ (l : List α), (∀ x ∈ l, g (f x) = some (h x)) → allM g (l.map f) = some (l.map h)
  | [], _ => rfl
  | x :: l, hl => by
    rw [List.map_cons, M2.allM, hl x (by simp), Option.bind_some, allM_map g f h l (fun y hy => hl y (by simp [hy])), Option.bind_some]
    rfl
/-- The table as now reads it. -/
theorem tab_brw {N : Nat} {M : List (List Bool)} (hM : Square N M) : brw frzD (tabSt N M) (.own 0 N) = some (matU M) := by
  have h1 : (tabSt N M)[0]? = some (.row 31 1 true (tabH N M.length)) := rfl
  have h2 : allM (allM (brw 11 (tabSt N M))) (tabH N M.length) = some (M.map boolsU) := by
    have : M.map boolsU = (List.range M.length).map fun i => boolsU (M.getD i []) := by
      apply List.ext_getElem (by simp)
      intro i h3 h4
      simp only [List.getElem_map, List.getElem_range]
      rw [List.length_map] at h3
      simp [h3]
    rw [this, tabH]
    refine allM_map _ _ _ _ fun i hi => ?_
    have hi : i < M.length := by simpa using hi
    have hl : (bitsU M[i]).length = N := by rw [bitsU_len]; exact hM.2 _ (List.getElem_mem hi)
    simp only [M2.allM, brw, tabSt_get hi, hl, if_true, Option.bind_some]
    simp [boolsU, bitsU, hi]
  rw [frzD, brw, h1]
  simp only [tabH_len, hM.1, if_true]
  rw [show allM (allM (brw 11 (tabSt N M))) (tabH N N) = some (M.map boolsU) from by rw [← hM.1]; rw [hM.1]; rw [← h2, hM.1]]
  rfl
end Go.Proofs.Ytaefnggoempdlaa.M2

/- What the functions answer in M2. Part 13: the table's loops. -/
namespace Go.Proofs.Ytaefnggoempdlaa.M2
open Go
attribute [local simp] ev1 M2.get put A.ev ld sub part elems bin arith un opt idx fillC cellsO splice over newOb sto fillR laidOwn appTo appRow touch touchN touchM touchE touchA plainU flatU plainAs allM rowAt stoRow accM_nil accM_cons accMM_nil accMM_cons frz_int frz_bool frz_str frz_slt frz_nils frz_nilI frz_nilF frz_own frzRow_row frzRow_frow Ob.blw blw_bool blw_int blw_str blw_nils blw_nilI blw_nilF blw_nilp blw_nilm blw_sl blw_own blw_bp blw_rp blw_mp blw_it params
attribute [local simp] beq_dec bne_dec

theorem newOb_c1 (a o : Ob) (R : List Ob) : newOb (a :: R) (R.length + 1) o = some (a :: (R ++ [o])) := newOb_end (a :: R) o
theorem newOb_c2 (a b o : Ob) (R : List Ob) : newOb (a :: (R ++ [b])) (R.length + 1 + 1) o = some (a :: (R ++ [b, o])) := by
  have := newOb_end (a :: (R ++ [b])) o
  simp only [List.length_cons, List.length_append, List.length_nil, Nat.zero_add] at this
  rw [this]
  simp
theorem trimO_stay {L : Nat} {s : S} (h : (s.st.take L).all (Ob.blw L) = false) : trimO L s = s := by
  unfold trimO trim
  rw [h, Bool.and_false]
  rfl
def blank (N i : Nat) : List (List Bool) := List.replicate i (List.replicate N false)
def t0S (p : Bool) (l : List Row) (i : Nat) : S := ⟨[(0, rowsU p l), (3, .own 0 i), (4, i64 i)], tabSt l.length (blank l.length i)⟩
theorem t0_step (p : Bool) (l : List Row) (i : Nat) (hi : i < l.length) (hs : l.length < 1000000000000) :
    Wp T c_joineryref12_Table_L0 (t0S p l i) (fun s' => trimO (t0S p l i).st.length s' = t0S p l (i + 1)) (fun _ => False) (fun _ _ => False) := by
  have h1 : l.length ≤ limit := by simp only [limit]; omega
  have h2 : (i + 1) * 24 ≤ 140737488355328 := by omega
  have hb : (blank l.length i).length = i := by simp [blank]
  have hb2 : blank l.length (i + 1) = blank l.length i ++ [List.replicate l.length false] := by simp [blank, List.replicate_succ']
  have hR : (tabO l.length 1 (blank l.length i)).length = 2 * i := by rw [tabO_len, hb]
  have hbit : bitsU (List.replicate l.length false) = List.replicate l.length [.bool false] := by simp [bitsU]
  have hH : tabH l.length (i + 1) = tabH l.length i ++ [[.own (1 + 2 * i) l.length]] := by simp [tabH, List.range_succ]
  simp only [t0S]
  rw [hb2, tabSt, tabSt, tabO_snoc, hb, hbit, List.length_append, List.length_singleton, hb, hH]
  generalize hRR : tabO l.length 1 (blank l.length i) = R at *
  repeat (first | apply Wp.seq | apply Wp.skip | apply Wp.block | (apply Wp.op0; ((simp [M2.keep]) <;> rfl)) | (apply Wp.op; (apply Evt.all; intro; (simp [rowsU, hi]) <;> (try simp (disch := omega) only [wrap_id]) <;> first | exact ⟨rfl, rfl⟩ | exact rfl)) | (apply Wp.opN; (apply Evt.all; intro; (simp [rowsU, hi]) <;> (try simp (disch := omega) only [wrap_id]) <;> first | exact ⟨rfl, rfl⟩ | exact rfl)) | (apply Wp.opG; (exact rfl); (apply Evt.all; intro; (simp [rowsU, hi]) <;> (try simp (disch := omega) only [wrap_id]) <;> first | exact ⟨rfl, rfl⟩ | exact rfl)) | (apply Wp.opS; (exact rfl); decide) | (apply Wp.opS0; (exact rfl)))
  refine Wp.cond (by first | rfl | (simp; rfl)) (fun ht => ?_) (fun ht => ?_)
  · repeat (first | apply Wp.seq | apply Wp.skip | apply Wp.block | (apply Wp.op0; ((simp [M2.keep]) <;> rfl)) | (apply Wp.op; (apply Evt.all; intro; (simp [rowsU, h1, newOb_c1, newOb_c2, h2, tabH_len]) <;> (try simp (disch := omega) only [wrap_id]) <;> first | exact ⟨rfl, rfl⟩ | exact rfl)) | (apply Wp.opN; (apply Evt.all; intro; (simp [rowsU, h1, newOb_c1, newOb_c2, h2, tabH_len]) <;> (try simp (disch := omega) only [wrap_id]) <;> first | exact ⟨rfl, rfl⟩ | exact rfl)) | (apply Wp.opG; (exact rfl); (apply Evt.all; intro; (simp [rowsU, h1, newOb_c1, newOb_c2, h2, tabH_len]) <;> (try simp (disch := omega) only [wrap_id]) <;> first | exact ⟨rfl, rfl⟩ | exact rfl)) | (apply Wp.opS; (exact rfl); decide) | (apply Wp.opS0; (exact rfl)))
    rw [trimO_stay (by simp [List.all_append])]
    simp only [hR, show 2 * i + 1 = 1 + 2 * i by omega]
    simp
  · simp [hi] at ht
/-- How many cells are false. -/
def falses (M : List (List Bool)) : Nat := (M.map (fun r => (r.filter (!·)).length)).sum
def setM (M : List (List Bool)) (i k : Nat) : List (List Bool) := M.set i ((M[i]?.getD []).set k true)
def inA (A : Nat → Nat → Prop) (N : Nat) (M : List (List Bool)) : Prop := Square N M ∧ ∀ i k, look2 M i k = true → A i k
/-- A pass over all pairs, up to one. -/
def passed (A : Nat → Nat → Prop) (l : List Row) (M0 : List (List Bool)) (more : Bool) (M : List (List Bool)) (i k : Nat) : Prop :=
  inA A l.length M ∧ (more = true → falses M < falses M0) ∧ (more = false → M = M0 ∧ ∀ i' k', i' < l.length → k' < l.length → (i' < i ∨ i' = i ∧ k' < k) → look2 M0 i' k' = true ∨ nowF l.length M0 (l.getD i' default) (l.getD k' default) = false)
theorem setM_square {N : Nat} {M : List (List Bool)} {i k : Nat} (h : Square N M) (hi : i < N) : Square N (setM M i k) := by
  refine ⟨by rw [setM, List.length_set, h.1], fun r hr => ?_⟩
  rcases List.mem_or_eq_of_mem_set hr with h1 | h1
  · exact h.2 r h1
  · have hiM : i < M.length := by rw [h.1]; exact hi
    rw [h1, List.length_set, List.getElem?_eq_getElem hiM, Option.getD_some]
    exact h.2 _ (List.getElem_mem hiM)
theorem setM_look {N : Nat} {M : List (List Bool)} {i k i' k' : Nat} (h : Square N M) (hi : i < N) (hk : k < N) (hl : look2 (setM M i k) i' k' = true) : look2 M i' k' = true ∨ (i' = i ∧ k' = k) := by
  have hiM : i < M.length := by rw [h.1]; exact hi
  unfold look2 setM at hl
  unfold look2
  rw [List.getElem?_set] at hl
  by_cases e : i = i'
  · subst e
    rw [if_pos rfl, if_pos hiM, Option.getD_some, List.getElem?_eq_getElem hiM, Option.getD_some, List.getElem?_set] at hl
    rw [List.getElem?_eq_getElem hiM, Option.getD_some]
    by_cases e2 : k = k'
    · exact .inr ⟨rfl, e2.symm⟩
    · rw [if_neg e2] at hl
      exact .inl hl
  · rw [if_neg e] at hl
    exact .inl hl
theorem filter_set : ∀ (r : List Bool) (k : Nat) (h : k < r.length), r[k] = false → ((r.set k true).filter (!·)).length + 1 = (r.filter (!·)).length
  | [], k, h, _ => by simp at h
  | b :: r, 0, h, hb => by
    have : b = false := hb
    subst this
    simp
  | b :: r, k + 1, h, hb => by
    have := filter_set r k (by simpa using h) (by simpa using hb)
    cases b <;> simp [← this]
theorem falses_set : ∀ (M : List (List Bool)) (i k : Nat) (hi : i < M.length) (hk : k < M[i].length), (M[i])[k] = false → falses (setM M i k) + 1 = falses M
  | [], i, k, h, _, _ => by simp at h
  | r :: M, 0, k, h, hk, hb => by
    have := filter_set r k hk hb
    simp only [falses, setM, List.getElem?_cons_zero, Option.getD_some, List.set_cons_zero, List.map_cons, List.sum_cons]
    omega
  | r :: M, i + 1, k, h, hk, hb => by
    have := falses_set M i k (by simpa using h) (by simpa using hk) (by simpa using hb)
    simp only [falses, setM, List.getElem?_cons_succ, List.set_cons_succ, List.map_cons, List.sum_cons] at this ⊢
    omega
theorem look2_get {N : Nat} {M : List (List Bool)} (h : Square N M) {i k : Nat} (hi : i < N) (hk : k < N) : ∃ (h1 : i < M.length) (h2 : k < M[i].length), look2 M i k = (M[i])[k] := by
  have hiM : i < M.length := by rw [h.1]; exact hi
  have hkM : k < M[i].length := by rw [h.2 _ (List.getElem_mem hiM)]; exact hk
  exact ⟨hiM, hkM, by simp [look2, hiM, hkM]⟩
end Go.Proofs.Ytaefnggoempdlaa.M2

/- What the functions answer in M2. Part 14: the table's passes. -/
namespace Go.Proofs.Ytaefnggoempdlaa.M2
open Go
attribute [local simp] ev1 M2.get put A.ev ld sub part elems bin arith un opt idx fillC cellsO splice over newOb sto fillR laidOwn appTo appRow touch touchN touchM touchE touchA plainU flatU plainAs allM rowAt stoRow accM_nil accM_cons accMM_nil accMM_cons frz_int frz_bool frz_str frz_slt frz_nils frz_nilI frz_nilF frz_own frzRow_row frzRow_frow Ob.blw blw_bool blw_int blw_str blw_nils blw_nilI blw_nilF blw_nilp blw_nilm blw_sl blw_own blw_bp blw_rp blw_mp blw_it params
attribute [local simp] beq_dec bne_dec

def t1S (p : Bool) (l : List Row) (i : Nat) (a : Nat × Bool × List (List Bool)) : S := ⟨[(0, rowsU p l), (3, .own 0 l.length), (5, .bool a.2.1), (6, i64 i), (7, i64 a.1)], tabSt l.length a.2.2⟩
theorem t1_step (A : Nat → Nat → Prop) (p : Bool) (l : List Row) (i k : Nat) (more : Bool) (M0 M : List (List Bool)) (hi : i < l.length) (hk : k < l.length) (hs : l.length < 1000000000000) (hl : l[i].to.length < 1000000000000)
    (hA : ∀ M i k, i < l.length → k < l.length → inA A l.length M → nowF l.length M (l.getD i default) (l.getD k default) = true → A i k) (hP : passed A l M0 more M i k) :
    Wp T c_joineryref12_Table_L1 (t1S p l i (k, more, M)) (fun s' => ∃ b, trimO (tabSt l.length M).length s' = t1S p l i b ∧ b.1 = k + 1 ∧ passed A l M0 b.2.1 b.2.2 i (k + 1)) (fun _ => False) (fun _ _ => False) := by
  obtain ⟨⟨hM, hMA⟩, hm1, hm2⟩ := hP
  obtain ⟨hiM, hkM, hlook⟩ := look2_get hM hi hk
  have hg0 : (tabSt l.length M)[0]? = some (.row 31 1 true (tabH l.length l.length)) := by rw [tabSt, hM.1]; rfl
  have hgi := tabSt_get (N := l.length) hiM
  have hHi : ∀ h, (tabH l.length l.length)[i]'h = [.own (1 + 2 * i) l.length] := fun h => by simp [tabH]
  have hMi : M[i].length = l.length := hM.2 _ (List.getElem_mem hiM)
  have hrow : l.getD i default = l[i] := getRow hi
  have hrow2 : l.getD k default = l[k] := getRow hk
  simp only [t1S]
  have inc : ∀ (M' : List (List Bool)) (m' : Bool), M'.length = M.length → passed A l M0 m' M' i (k + 1) → ∀ v, Wp T (.ops [
  ⟨(some 31), .mov (.t 7), none⟩,
  ⟨(some 32), .bin .add (.t 31) (.k (.int .i64 1)), none⟩,
  ⟨(some 7), .mov (.t 32), none⟩] [0, 3, 5, 6, 7]) ⟨[(0, rowsU p l), (3, .own 0 l.length), (5, .bool m'), (6, i64 i), (7, i64 k)] ++ v, tabSt l.length M'⟩ (fun s' => ∃ b, trimO (tabSt l.length M).length s' = t1S p l i b ∧ b.1 = k + 1 ∧ passed A l M0 b.2.1 b.2.2 i (k + 1)) (fun _ => False) (fun _ _ => False) := by
    intro M' m' hlen hp v
    simp only [List.cons_append, List.nil_append]
    repeat (first | apply Wp.seq | apply Wp.skip | apply Wp.block | (apply Wp.op0; ((simp [M2.keep]) <;> rfl)) | (apply Wp.op; (apply Evt.all; intro; (simp []) <;> (try simp (disch := omega) only [wrap_id]) <;> first | exact ⟨rfl, rfl⟩ | exact rfl)) | (apply Wp.opN; (apply Evt.all; intro; (simp []) <;> (try simp (disch := omega) only [wrap_id]) <;> first | exact ⟨rfl, rfl⟩ | exact rfl)) | (apply Wp.opG; (exact rfl); (apply Evt.all; intro; (simp []) <;> (try simp (disch := omega) only [wrap_id]) <;> first | exact ⟨rfl, rfl⟩ | exact rfl)) | (apply Wp.opS; (exact rfl); decide) | (apply Wp.opS0; (exact rfl)))
    refine ⟨(k + 1, m', M'), ?_, rfl, hp⟩
    rw [trimO_len (by simp only [tabSt, List.length_cons, tabO_len, hlen])]
    simp [t1S]
  have keepP : (look2 M i k = true ∨ nowF l.length M (l.getD i default) (l.getD k default) = false) → passed A l M0 more M i (k + 1) := by
    intro h
    refine ⟨⟨hM, hMA⟩, hm1, fun hm => ?_⟩
    obtain ⟨h1, h2⟩ := hm2 hm
    refine ⟨h1, fun i' k' hi' hk' hv => ?_⟩
    by_cases e : i' = i ∧ k' = k
    · obtain ⟨rfl, rfl⟩ := e
      exact h1 ▸ h
    · exact h2 i' k' hi' hk' (by omega)
  repeat (first | apply Wp.seq | apply Wp.skip | apply Wp.block | (apply Wp.op0; ((simp [M2.keep]) <;> rfl)) | (apply Wp.op; (apply Evt.all; intro; (simp [rowsU, hk]) <;> (try simp (disch := omega) only [wrap_id]) <;> first | exact ⟨rfl, rfl⟩ | exact rfl)) | (apply Wp.opN; (apply Evt.all; intro; (simp [rowsU, hk]) <;> (try simp (disch := omega) only [wrap_id]) <;> first | exact ⟨rfl, rfl⟩ | exact rfl)) | (apply Wp.opG; (exact rfl); (apply Evt.all; intro; (simp [rowsU, hk]) <;> (try simp (disch := omega) only [wrap_id]) <;> first | exact ⟨rfl, rfl⟩ | exact rfl)) | (apply Wp.opS; (exact rfl); decide) | (apply Wp.opS0; (exact rfl)))
  refine Wp.cond (by first | rfl | (simp; rfl)) (fun ht => ?_) (fun ht => ?_)
  · cases hb : (M[i])[k] with
    | true =>
      repeat (first | apply Wp.seq | apply Wp.skip | apply Wp.block | (apply Wp.op0; ((simp [M2.keep]) <;> rfl)) | (apply Wp.op; (apply Evt.all; intro; (simp [hg0, hHi, tabH_len, hi, hgi, bitsU_len, hMi, hk, bitsU_getE, hb]) <;> (try simp (disch := omega) only [wrap_id]) <;> first | exact ⟨rfl, rfl⟩ | exact rfl)) | (apply Wp.opN; (apply Evt.all; intro; (simp [hg0, hHi, tabH_len, hi, hgi, bitsU_len, hMi, hk, bitsU_getE, hb]) <;> (try simp (disch := omega) only [wrap_id]) <;> first | exact ⟨rfl, rfl⟩ | exact rfl)) | (apply Wp.opG; (exact rfl); (apply Evt.all; intro; (simp [hg0, hHi, tabH_len, hi, hgi, bitsU_len, hMi, hk, bitsU_getE, hb]) <;> (try simp (disch := omega) only [wrap_id]) <;> first | exact ⟨rfl, rfl⟩ | exact rfl)) | (apply Wp.opS; (exact rfl); decide) | (apply Wp.opS0; (exact rfl)))
      refine Wp.cond (by first | rfl | (simp; rfl)) (fun ht2 => ?_) (fun ht2 => ?_)
      · cases ht2
      refine Wp.skip ?_
      exact inc M more rfl (keepP (.inl (by rw [hlook, hb]))) [(47, .bool false)]
    | false =>
      repeat (first | apply Wp.seq | apply Wp.skip | apply Wp.block | (apply Wp.op0; ((simp [M2.keep]) <;> rfl)) | (apply Wp.op; (apply Evt.all; intro; (simp [hg0, hHi, tabH_len, hi, hgi, bitsU_len, hMi, hk, bitsU_getE, hb]) <;> (try simp (disch := omega) only [wrap_id]) <;> first | exact ⟨rfl, rfl⟩ | exact rfl)) | (apply Wp.opN; (apply Evt.all; intro; (simp [hg0, hHi, tabH_len, hi, hgi, bitsU_len, hMi, hk, bitsU_getE, hb]) <;> (try simp (disch := omega) only [wrap_id]) <;> first | exact ⟨rfl, rfl⟩ | exact rfl)) | (apply Wp.opG; (exact rfl); (apply Evt.all; intro; (simp [hg0, hHi, tabH_len, hi, hgi, bitsU_len, hMi, hk, bitsU_getE, hb]) <;> (try simp (disch := omega) only [wrap_id]) <;> first | exact ⟨rfl, rfl⟩ | exact rfl)) | (apply Wp.opS; (exact rfl); decide) | (apply Wp.opS0; (exact rfl)))
      apply Wp.callG
      · exact rfl
      · exact now_call p l M i k hi hk hM hl rfl (tab_brw hM)
      cases hn : nowF l.length M l[i] l[k] with
      | false =>
        repeat (first | apply Wp.seq | apply Wp.skip | apply Wp.block | (apply Wp.op0; ((simp [M2.keep]) <;> rfl)) | (apply Wp.op; (apply Evt.all; intro; (simp []) <;> (try simp (disch := omega) only [wrap_id]) <;> first | exact ⟨rfl, rfl⟩ | exact rfl)) | (apply Wp.opN; (apply Evt.all; intro; (simp []) <;> (try simp (disch := omega) only [wrap_id]) <;> first | exact ⟨rfl, rfl⟩ | exact rfl)) | (apply Wp.opG; (exact rfl); (apply Evt.all; intro; (simp []) <;> (try simp (disch := omega) only [wrap_id]) <;> first | exact ⟨rfl, rfl⟩ | exact rfl)) | (apply Wp.opS; (exact rfl); decide) | (apply Wp.opS0; (exact rfl)))
        refine Wp.cond (by first | rfl | (simp; rfl)) (fun ht2 => ?_) (fun ht2 => ?_)
        · cases ht2
        refine Wp.skip ?_
        exact inc M more rfl (keepP (.inr (by rw [hrow, hrow2, hn]))) [(47, .bool false)]
      | true =>
        repeat (first | apply Wp.seq | apply Wp.skip | apply Wp.block | (apply Wp.op0; ((simp [M2.keep]) <;> rfl)) | (apply Wp.op; (apply Evt.all; intro; (simp []) <;> (try simp (disch := omega) only [wrap_id]) <;> first | exact ⟨rfl, rfl⟩ | exact rfl)) | (apply Wp.opN; (apply Evt.all; intro; (simp []) <;> (try simp (disch := omega) only [wrap_id]) <;> first | exact ⟨rfl, rfl⟩ | exact rfl)) | (apply Wp.opG; (exact rfl); (apply Evt.all; intro; (simp []) <;> (try simp (disch := omega) only [wrap_id]) <;> first | exact ⟨rfl, rfl⟩ | exact rfl)) | (apply Wp.opS; (exact rfl); decide) | (apply Wp.opS0; (exact rfl)))
        refine Wp.cond (by first | rfl | (simp; rfl)) (fun ht2 => ?_) (fun ht2 => ?_)
        · have hset := tabSt_set (N := l.length) (M[i].set k true) hiM
          have hbs : (bitsU M[i]).set k [.bool true] = bitsU (M[i].set k true) := by simp [bitsU, List.map_set]
          have hsM : M.set i (M[i].set k true) = setM M i k := by simp [setM, hiM]
          rw [hsM] at hset
          repeat (first | apply Wp.seq | apply Wp.skip | apply Wp.block | (apply Wp.op0; ((simp [M2.keep]) <;> rfl)) | (apply Wp.op; (apply Evt.all; intro; (simp [hg0, hHi, tabH_len, hi, hgi, bitsU_len, hMi, hk, bitsU_getE, hb, hbs, hset]) <;> (try simp (disch := omega) only [wrap_id]) <;> first | exact ⟨rfl, rfl⟩ | exact rfl)) | (apply Wp.opN; (apply Evt.all; intro; (simp [hg0, hHi, tabH_len, hi, hgi, bitsU_len, hMi, hk, bitsU_getE, hb, hbs, hset]) <;> (try simp (disch := omega) only [wrap_id]) <;> first | exact ⟨rfl, rfl⟩ | exact rfl)) | (apply Wp.opG; (exact rfl); (apply Evt.all; intro; (simp [hg0, hHi, tabH_len, hi, hgi, bitsU_len, hMi, hk, bitsU_getE, hb, hbs, hset]) <;> (try simp (disch := omega) only [wrap_id]) <;> first | exact ⟨rfl, rfl⟩ | exact rfl)) | (apply Wp.opS; (exact rfl); decide) | (apply Wp.opS0; (exact rfl)))
          have hf := falses_set M i k hiM hkM hb
          refine ⟨(k + 1, true, setM M i k), ?_, rfl, ⟨setM_square hM hi, fun i' k' h => ?_⟩, fun _ => ?_, fun h => by cases h⟩
          · rw [trimO_len (by simp only [tabSt, List.length_cons, tabO_len, setM, List.length_set])]
            simp
          · rcases setM_look hM hi hk h with h | ⟨rfl, rfl⟩
            · exact hMA _ _ h
            · exact hA M _ _ hi hk ⟨hM, hMA⟩ (by rw [hrow, hrow2, hn])
          · show falses (setM M i k) < falses M0
            cases more with
            | true => have := hm1 rfl; omega
            | false => have := (hm2 rfl).1; subst this; omega
        · cases ht2
  · cases ht
theorem t1_loop (A : Nat → Nat → Prop) (p : Bool) (l : List Row) (i : Nat) (more : Bool) (M0 M : List (List Bool)) (hi : i < l.length) (hs : l.length < 1000000000000) (hl : ∀ r ∈ l, r.to.length < 1000000000000)
    (hA : ∀ M i k, i < l.length → k < l.length → inA A l.length M → nowF l.length M (l.getD i default) (l.getD k default) = true → A i k) (hP : passed A l M0 more M i 0) :
    Wp T (.loop c_joineryref12_Table_L1) (t1S p l i (0, more, M)) (fun _ => False) (fun _ => False) (fun b s' => b = 6 ∧ ∃ m' M', s' = ⟨[(0, rowsU p l), (3, .own 0 l.length), (5, .bool m'), (6, i64 i), (7, i64 l.length), (30, .bool false)], tabSt l.length M'⟩ ∧ M'.length = l.length ∧ passed A l M0 m' M' (i + 1) 0) := by
  refine Wp.loop (fun a : Nat × Bool × List (List Bool) => l.length - a.1) (t1S p l i) (fun a => a.1 ≤ l.length ∧ passed A l M0 a.2.1 a.2.2 i a.1) (fun a ⟨ha, hp⟩ => ?_) (0, more, M) ⟨by omega, hP⟩
  obtain ⟨k, m', M'⟩ := a
  simp only at ha hp
  by_cases hk : k = l.length
  · subst hk
    simp only [t1S]
    repeat (first | apply Wp.seq | apply Wp.skip | apply Wp.block | (apply Wp.op0; ((simp [M2.keep]) <;> rfl)) | (apply Wp.op; (apply Evt.all; intro; (simp [rowsU]) <;> (try simp (disch := omega) only [wrap_id]) <;> first | exact ⟨rfl, rfl⟩ | exact rfl)) | (apply Wp.opN; (apply Evt.all; intro; (simp [rowsU]) <;> (try simp (disch := omega) only [wrap_id]) <;> first | exact ⟨rfl, rfl⟩ | exact rfl)) | (apply Wp.opG; (exact rfl); (apply Evt.all; intro; (simp [rowsU]) <;> (try simp (disch := omega) only [wrap_id]) <;> first | exact ⟨rfl, rfl⟩ | exact rfl)) | (apply Wp.opS; (exact rfl); decide) | (apply Wp.opS0; (exact rfl)))
    refine Wp.cond (by first | rfl | (simp; rfl)) (fun ht => ?_) (fun ht => ?_)
    · cases ht
    · refine Wp.exit ⟨rfl, m', M', by simp [rowsU], hp.1.1.1, hp.1, hp.2.1, fun hm => ?_⟩
      obtain ⟨h1, h2⟩ := hp.2.2 hm
      exact ⟨h1, fun i' k' hi' hk' hv => h2 i' k' hi' hk' (by omega)⟩
  · refine (t1_step A p l i k m' M0 M' hi (by omega) hs (hl _ (List.getElem_mem hi)) hA hp).imp0 (fun s ⟨b, h1, h2, h3⟩ => ⟨b, h1, by simp only [h2]; omega, by omega, by rw [h2]; exact h3⟩)
def t2S (p : Bool) (l : List Row) (a : Nat × Bool × List (List Bool)) : S := ⟨[(0, rowsU p l), (3, .own 0 l.length), (5, .bool a.2.1), (6, i64 a.1)], tabSt l.length a.2.2⟩
theorem t2_loop (A : Nat → Nat → Prop) (p : Bool) (l : List Row) (M : List (List Bool)) (hs : l.length < 1000000000000) (hl : ∀ r ∈ l, r.to.length < 1000000000000)
    (hA : ∀ M i k, i < l.length → k < l.length → inA A l.length M → nowF l.length M (l.getD i default) (l.getD k default) = true → A i k) (hM : inA A l.length M) :
    Wp T (.loop c_joineryref12_Table_L2) (t2S p l (0, false, M)) (fun _ => False) (fun _ => False) (fun b s' => b = 4 ∧ ∃ m' M', s' = ⟨[(0, rowsU p l), (3, .own 0 l.length), (5, .bool m'), (6, i64 l.length), (24, .bool false)], tabSt l.length M'⟩ ∧ M'.length = l.length ∧ passed A l M m' M' l.length 0) := by
  refine Wp.loop (fun a : Nat × Bool × List (List Bool) => l.length - a.1) (t2S p l) (fun a => a.1 ≤ l.length ∧ passed A l M a.2.1 a.2.2 a.1 0) (fun a ⟨ha, hp⟩ => ?_) (0, false, M) ⟨by omega, hM, fun h => by (cases h), fun _ => ⟨rfl, fun i' k' _ _ hv => by omega⟩⟩
  obtain ⟨i, m', M'⟩ := a
  simp only at ha hp
  by_cases hi : i = l.length
  · subst hi
    simp only [t2S]
    repeat (first | apply Wp.seq | apply Wp.skip | apply Wp.block | (apply Wp.op0; ((simp [M2.keep]) <;> rfl)) | (apply Wp.op; (apply Evt.all; intro; (simp [rowsU]) <;> (try simp (disch := omega) only [wrap_id]) <;> first | exact ⟨rfl, rfl⟩ | exact rfl)) | (apply Wp.opN; (apply Evt.all; intro; (simp [rowsU]) <;> (try simp (disch := omega) only [wrap_id]) <;> first | exact ⟨rfl, rfl⟩ | exact rfl)) | (apply Wp.opG; (exact rfl); (apply Evt.all; intro; (simp [rowsU]) <;> (try simp (disch := omega) only [wrap_id]) <;> first | exact ⟨rfl, rfl⟩ | exact rfl)) | (apply Wp.opS; (exact rfl); decide) | (apply Wp.opS0; (exact rfl)))
    refine Wp.cond (by first | rfl | (simp; rfl)) (fun ht => ?_) (fun ht => ?_)
    · cases ht
    · exact Wp.exit ⟨rfl, m', M', by simp [rowsU], hp.1.1.1, hp⟩
  · simp only [t2S]
    have hi' : i < l.length := by omega
    repeat (first | apply Wp.seq | apply Wp.skip | apply Wp.block | (apply Wp.op0; ((simp [M2.keep]) <;> rfl)) | (apply Wp.op; (apply Evt.all; intro; (simp [rowsU, hi']) <;> (try simp (disch := omega) only [wrap_id]) <;> first | exact ⟨rfl, rfl⟩ | exact rfl)) | (apply Wp.opN; (apply Evt.all; intro; (simp [rowsU, hi']) <;> (try simp (disch := omega) only [wrap_id]) <;> first | exact ⟨rfl, rfl⟩ | exact rfl)) | (apply Wp.opG; (exact rfl); (apply Evt.all; intro; (simp [rowsU, hi']) <;> (try simp (disch := omega) only [wrap_id]) <;> first | exact ⟨rfl, rfl⟩ | exact rfl)) | (apply Wp.opS; (exact rfl); decide) | (apply Wp.opS0; (exact rfl)))
    refine Wp.cond (by first | rfl | (simp; rfl)) (fun ht => ?_) (fun ht => ?_)
    · repeat (first | apply Wp.seq | apply Wp.skip | apply Wp.block | (apply Wp.op0; ((simp [M2.keep]) <;> rfl)) | (apply Wp.op; (apply Evt.all; intro; (simp []) <;> (try simp (disch := omega) only [wrap_id]) <;> first | exact ⟨rfl, rfl⟩ | exact rfl)) | (apply Wp.opN; (apply Evt.all; intro; (simp []) <;> (try simp (disch := omega) only [wrap_id]) <;> first | exact ⟨rfl, rfl⟩ | exact rfl)) | (apply Wp.opG; (exact rfl); (apply Evt.all; intro; (simp []) <;> (try simp (disch := omega) only [wrap_id]) <;> first | exact ⟨rfl, rfl⟩ | exact rfl)) | (apply Wp.opS; (exact rfl); decide) | (apply Wp.opS0; (exact rfl)))
      refine (t1_loop A p l i m' M M' hi' hs hl hA hp).impB ?_
      rintro b s ⟨rfl, m2, Mx, rfl, h2, h3⟩
      rw [if_pos rfl]
      repeat (first | apply Wp.seq | apply Wp.skip | apply Wp.block | (apply Wp.op0; ((simp [M2.keep]) <;> rfl)) | (apply Wp.op; (apply Evt.all; intro; (simp []) <;> (try simp (disch := omega) only [wrap_id]) <;> first | exact ⟨rfl, rfl⟩ | exact rfl)) | (apply Wp.opN; (apply Evt.all; intro; (simp []) <;> (try simp (disch := omega) only [wrap_id]) <;> first | exact ⟨rfl, rfl⟩ | exact rfl)) | (apply Wp.opG; (exact rfl); (apply Evt.all; intro; (simp []) <;> (try simp (disch := omega) only [wrap_id]) <;> first | exact ⟨rfl, rfl⟩ | exact rfl)) | (apply Wp.opS; (exact rfl); decide) | (apply Wp.opS0; (exact rfl)))
      refine ⟨(i + 1, m2, Mx), ?_, by simp only; omega, by simp only; omega, h3⟩
      rw [trimO_len (by simp only [tabSt, List.length_cons, tabO_len, h2, hp.1.1.1])]
      simp [rowsU]
    · cases ht
end Go.Proofs.Ytaefnggoempdlaa.M2

/- What the functions answer in M2. Part 15: the table's call. -/
namespace Go.Proofs.Ytaefnggoempdlaa.M2
open Go
attribute [local simp] ev1 M2.get put A.ev ld sub part elems bin arith un opt idx fillC cellsO splice over newOb sto fillR laidOwn appTo appRow touch touchN touchM touchE touchA plainU flatU plainAs allM rowAt stoRow accM_nil accM_cons accMM_nil accMM_cons frz_int frz_bool frz_str frz_slt frz_nils frz_nilI frz_nilF frz_own frzRow_row frzRow_frow Ob.blw blw_bool blw_int blw_str blw_nils blw_nilI blw_nilF blw_nilp blw_nilm blw_sl blw_own blw_bp blw_rp blw_mp blw_it params
attribute [local simp] beq_dec bne_dec

theorem frz_owns (n : Nat) (X : Nat → List (List U)) : ∀ (ids : List Nat) (st : List Ob), ids.Nodup → (∀ id ∈ ids, st[id]? = some (.row 4 1 false (X id)) ∧ (X id).length = n) →
    ∃ st', accM (accM (frz 11)) st (ids.map fun id => [.own id n]) = some (ids.map fun id => [.sl true (X id)], st') ∧ ∀ j, j ∉ ids → st'[j]? = st[j]?
  | [], st, _, _ => ⟨st, rfl, fun _ _ => rfl⟩
  | id :: ids, st, hd, h => by
    have h1 := h id (by simp)
    rw [List.nodup_cons] at hd
    obtain ⟨st', h2, h3⟩ := frz_owns n X ids (st.set id (.frow (X id))) hd.2 (fun j hj => by
      have : id ≠ j := fun e => hd.1 (e ▸ hj)
      rw [List.getElem?_set_ne this]
      exact h j (by simp [hj]))
    refine ⟨st', ?_, fun j hj => ?_⟩
    · have hf : frz 11 st (.own id n) = some (.sl true (X id), st.set id (.frow (X id))) := by
        rw [frz]
        simp only [h1.1, h1.2, if_true]
      have ha : accM (frz 11) st [.own id n] = some ([.sl true (X id)], st.set id (.frow (X id))) := by
        show (frz 11 st (.own id n)).bind (fun p => (some (([] : List U), p.2)).bind fun q => some (p.1 :: q.1, q.2)) = _
        rw [hf]
        rfl
      show (accM (frz 11) st [.own id n]).bind (fun p => (accM (accM (frz 11)) p.2 (ids.map fun id => [.own id n])).bind fun q => some (p.1 :: q.1, q.2)) = _
      rw [ha]
      show (accM (accM (frz 11)) (st.set id (.frow (X id))) (ids.map fun id => [.own id n])).bind (fun q => some ([.sl true (X id)] :: q.1, q.2)) = _
      rw [h2]
      rfl
    · rw [h3 j (fun hh => hj (by simp [hh])), List.getElem?_set_ne (fun e => hj (by simp [e]))]
/-- The table, as what does not change any more. -/
theorem getD_ok {l : List (List Bool)} {i : Nat} (h : i < l.length) : l.getD i [] = l[i] := by simp [h]
def tabT (M : List (List Bool)) : U := .sl true (M.map fun r => [.sl true (bitsU r)])
theorem tab_frz {N : Nat} {M : List (List Bool)} (hM : Square N M) : (frz frzD (tabSt N M) (.own 0 N)).map (·.1) = some (tabT M) := by
  have h0 : (tabSt N M)[0]? = some (.row 31 1 true (tabH N N)) := by rw [tabSt, hM.1]; rfl
  have hH : tabH N N = ((List.range N).map fun i => 1 + 2 * i).map fun id => [.own id N] := by rw [tabH, List.map_map]; rfl
  obtain ⟨st', h1, h2⟩ := frz_owns N (fun id => bitsU (M.getD ((id - 1) / 2) [])) ((List.range N).map fun i => 1 + 2 * i) (tabSt N M) (by
      refine List.nodup_iff_pairwise_ne.2 (List.pairwise_map.2 ?_)
      exact List.Pairwise.imp (fun h => by omega) List.pairwise_lt_range) (by
    intro id hid
    obtain ⟨i, hi, rfl⟩ := List.mem_map.1 hid
    have hi : i < M.length := by have := hM.1; have := List.mem_range.1 hi; omega
    have e : (1 + 2 * i - 1) / 2 = i := by omega
    simp only [e]
    rw [getD_ok hi]
    exact ⟨tabSt_get hi, by rw [bitsU_len]; exact hM.2 _ (List.getElem_mem hi)⟩)
  have h3 : st'[0]? = some (.row 31 1 true (tabH N N)) := by
    rw [h2 0 (by simp), h0]
  rw [frz_own, h0]
  simp only [frzRow, tabH_len, if_true]
  rw [← hH] at h1
  rw [h1]
  simp only [Option.bind_some, h3, tabH_len, if_true, Option.map_some, tabT, List.map_map]
  congr 2
  apply List.ext_getElem (by simp [hM.1])
  intro i h4 h5
  have hi : i < M.length := by simpa using h5
  simp [show (1 + 2 * i - 1) / 2 = i by omega, hi]
end Go.Proofs.Ytaefnggoempdlaa.M2

/- What the functions answer in M2. Part 16: Table, the document's Classes. -/
namespace Go.Proofs.Ytaefnggoempdlaa.M2
open Go
attribute [local simp] ev1 M2.get put A.ev ld sub part elems bin arith un opt idx fillC cellsO splice over newOb sto fillR laidOwn appTo appRow touch touchN touchM touchE touchA plainU flatU plainAs allM rowAt stoRow accM_nil accM_cons accMM_nil accMM_cons frz_int frz_bool frz_str frz_slt frz_nils frz_nilI frz_nilF frz_own frzRow_row frzRow_frow Ob.blw blw_bool blw_int blw_str blw_nils blw_nilI blw_nilF blw_nilp blw_nilm blw_sl blw_own blw_bp blw_rp blw_mp blw_it params
attribute [local simp] beq_dec bne_dec

/-- No more pair is found. -/
def stable (l : List Row) (M : List (List Bool)) : Prop := ∀ i k, i < l.length → k < l.length → look2 M i k = true ∨ nowF l.length M (l.getD i default) (l.getD k default) = false
def t3S (p : Bool) (l : List Row) (a : Bool × List (List Bool) × Env) : S := ⟨(0, rowsU p l) :: (3, .own 0 l.length) :: (5, .bool a.1) :: a.2.2, tabSt l.length a.2.1⟩
theorem t3_loop (A : Nat → Nat → Prop) (p : Bool) (l : List Row) (M : List (List Bool)) (hs : l.length < 1000000000000) (hl : ∀ r ∈ l, r.to.length < 1000000000000)
    (hA : ∀ M i k, i < l.length → k < l.length → inA A l.length M → nowF l.length M (l.getD i default) (l.getD k default) = true → A i k) (hM : inA A l.length M) :
    Wp T (.loop c_joineryref12_Table_L3) (t3S p l (true, M, [])) (fun _ => False) (fun _ => False) (fun b s' => b = 2 ∧ ∃ M', s' = ⟨[(0, rowsU p l), (3, .own 0 l.length), (20, .bool false)], tabSt l.length M'⟩ ∧ inA A l.length M' ∧ stable l M') := by
  refine Wp.loop (fun a : Bool × List (List Bool) × Env => 2 * falses a.2.1 + (if a.1 then 1 else 0)) (t3S p l) (fun a => inA A l.length a.2.1 ∧ (a.1 = false → stable l a.2.1)) (fun a ⟨ha, hp⟩ => ?_) (true, M, []) ⟨hM, fun h => by cases h⟩
  obtain ⟨more, M', v⟩ := a
  simp only at ha hp
  simp only [t3S]
  cases more with
  | false =>
    repeat (first | apply Wp.seq | apply Wp.skip | apply Wp.block | (apply Wp.op0; ((simp [M2.keep]) <;> rfl)) | (apply Wp.op; (apply Evt.all; intro; (simp []) <;> (try simp (disch := omega) only [wrap_id]) <;> first | exact ⟨rfl, rfl⟩ | exact rfl)) | (apply Wp.opN; (apply Evt.all; intro; (simp []) <;> (try simp (disch := omega) only [wrap_id]) <;> first | exact ⟨rfl, rfl⟩ | exact rfl)) | (apply Wp.opG; (exact rfl); (apply Evt.all; intro; (simp []) <;> (try simp (disch := omega) only [wrap_id]) <;> first | exact ⟨rfl, rfl⟩ | exact rfl)) | (apply Wp.opS; (exact rfl); decide) | (apply Wp.opS0; (exact rfl)))
    refine Wp.cond (by first | rfl | (simp; rfl)) (fun ht => ?_) (fun ht => ?_)
    · cases ht
    · exact Wp.exit ⟨rfl, M', rfl, ha, hp rfl⟩
  | true =>
    repeat (first | apply Wp.seq | apply Wp.skip | apply Wp.block | (apply Wp.op0; ((simp [M2.keep]) <;> rfl)) | (apply Wp.op; (apply Evt.all; intro; (simp []) <;> (try simp (disch := omega) only [wrap_id]) <;> first | exact ⟨rfl, rfl⟩ | exact rfl)) | (apply Wp.opN; (apply Evt.all; intro; (simp []) <;> (try simp (disch := omega) only [wrap_id]) <;> first | exact ⟨rfl, rfl⟩ | exact rfl)) | (apply Wp.opG; (exact rfl); (apply Evt.all; intro; (simp []) <;> (try simp (disch := omega) only [wrap_id]) <;> first | exact ⟨rfl, rfl⟩ | exact rfl)) | (apply Wp.opS; (exact rfl); decide) | (apply Wp.opS0; (exact rfl)))
    refine Wp.cond (by first | rfl | (simp; rfl)) (fun ht => ?_) (fun ht => ?_)
    · repeat (first | apply Wp.seq | apply Wp.skip | apply Wp.block | (apply Wp.op0; ((simp [M2.keep]) <;> rfl)) | (apply Wp.op; (apply Evt.all; intro; (simp []) <;> (try simp (disch := omega) only [wrap_id]) <;> first | exact ⟨rfl, rfl⟩ | exact rfl)) | (apply Wp.opN; (apply Evt.all; intro; (simp []) <;> (try simp (disch := omega) only [wrap_id]) <;> first | exact ⟨rfl, rfl⟩ | exact rfl)) | (apply Wp.opG; (exact rfl); (apply Evt.all; intro; (simp []) <;> (try simp (disch := omega) only [wrap_id]) <;> first | exact ⟨rfl, rfl⟩ | exact rfl)) | (apply Wp.opS; (exact rfl); decide) | (apply Wp.opS0; (exact rfl)))
      refine (t2_loop A p l M' hs hl hA ha).impB ?_
      rintro b s ⟨rfl, m2, Mx, rfl, h2, h3⟩
      rw [if_pos rfl]
      refine ⟨(m2, Mx, [(6, i64 l.length), (24, .bool false)]), ?_, ?_, h3.1, fun h => ?_⟩
      · rw [trimO_len (by simp only [tabSt, List.length_cons, tabO_len, h2, ha.1.1])]
      · simp only
        cases m2 with
        | true => have := h3.2.1 rfl; simp only [if_true]; omega
        | false => have := (h3.2.2 rfl).1; subst this; simp
      · obtain ⟨h4, h5⟩ := h3.2.2 h
        subst h4
        exact fun i k hi hk => h5 i k hi hk (.inl hi)
    · cases ht
/-- The table is one that holds only what may be told apart, and holds all that it finds itself. -/
theorem table_call (A : Nat → Nat → Prop) (p : Bool) (l : List Row) (hs : l.length < 1000000000000) (hl : ∀ r ∈ l, r.to.length < 1000000000000)
    (hA : ∀ M i k, i < l.length → k < l.length → inA A l.length M → nowF l.length M (l.getD i default) (l.getD k default) = true → A i k) :
    ∃ M, (inA A l.length M ∧ stable l M) ∧ ∀ st, Cl T 15 [rowsU p l] st (tabT M) st := by
  have := Wp.pureEx (T := T) (α := List (List Bool)) (P := fun M => inA A l.length M ∧ stable l M) (v := tabT) (f := 15) (fn := c_joineryref12_Table) (args := [rowsU p l]) («as» := [rowsU p l]) rfl rfl rfl ?_
  · obtain ⟨M, h1, h2⟩ := this
    exact ⟨M, h1, fun st => h2 st rfl⟩
  repeat (first | apply Wp.seq | apply Wp.skip | apply Wp.block | (apply Wp.op0; ((simp [M2.keep]) <;> rfl)) | (apply Wp.op; (apply Evt.all; intro; (simp []) <;> (try simp (disch := omega) only [wrap_id]) <;> first | exact ⟨rfl, rfl⟩ | exact rfl)) | (apply Wp.opN; (apply Evt.all; intro; (simp []) <;> (try simp (disch := omega) only [wrap_id]) <;> first | exact ⟨rfl, rfl⟩ | exact rfl)) | (apply Wp.opG; (exact rfl); (apply Evt.all; intro; (simp []) <;> (try simp (disch := omega) only [wrap_id]) <;> first | exact ⟨rfl, rfl⟩ | exact rfl)) | (apply Wp.opS; (exact rfl); decide) | (apply Wp.opS0; (exact rfl)))
  have hsq : inA A l.length (blank l.length l.length) := by
    refine ⟨⟨by simp [blank], fun r hr => ?_⟩, fun i k h => ?_⟩
    · rw [(List.mem_replicate.1 hr).2, List.length_replicate]
    · exfalso
      simp only [look2, blank] at h
      rw [List.getElem?_replicate] at h
      split at h
      · rw [Option.getD_some, List.getElem?_replicate] at h
        split at h <;> simp at h
      · simp at h
  have h0 : Wp T (.loop c_joineryref12_Table_L0) (t0S p l 0) (fun _ => False) (fun _ => False) (fun b s' => b = 0 ∧ s' = ⟨[(0, rowsU p l), (3, .own 0 l.length), (4, i64 l.length), (11, .bool false)], tabSt l.length (blank l.length l.length)⟩) := by
    refine Wp.count l.length (t0S p l) (fun _ => True) (fun i hi _ => (t0_step p l i hi hs).imp0 fun s h => ⟨h, trivial⟩) (fun _ => ?_) 0 (by omega) trivial
    simp only [t0S]
    repeat (first | apply Wp.seq | apply Wp.skip | apply Wp.block | (apply Wp.op0; ((simp [M2.keep]) <;> rfl)) | (apply Wp.op; (apply Evt.all; intro; (simp [rowsU]) <;> (try simp (disch := omega) only [wrap_id]) <;> first | exact ⟨rfl, rfl⟩ | exact rfl)) | (apply Wp.opN; (apply Evt.all; intro; (simp [rowsU]) <;> (try simp (disch := omega) only [wrap_id]) <;> first | exact ⟨rfl, rfl⟩ | exact rfl)) | (apply Wp.opG; (exact rfl); (apply Evt.all; intro; (simp [rowsU]) <;> (try simp (disch := omega) only [wrap_id]) <;> first | exact ⟨rfl, rfl⟩ | exact rfl)) | (apply Wp.opS; (exact rfl); decide) | (apply Wp.opS0; (exact rfl)))
    refine Wp.cond (by first | rfl | (simp; rfl)) (fun ht => ?_) (fun ht => ?_)
    · cases ht
    · exact Wp.exit ⟨rfl, by simp [rowsU]⟩
  refine (show Wp T (.loop c_joineryref12_Table_L0) (t0S p l 0) _ _ _ from h0.impB ?_)
  rintro b s ⟨rfl, rfl⟩
  rw [if_pos rfl]
  repeat (first | apply Wp.seq | apply Wp.skip | apply Wp.block | (apply Wp.op0; ((simp [M2.keep]) <;> rfl)) | (apply Wp.op; (apply Evt.all; intro; (simp []) <;> (try simp (disch := omega) only [wrap_id]) <;> first | exact ⟨rfl, rfl⟩ | exact rfl)) | (apply Wp.opN; (apply Evt.all; intro; (simp []) <;> (try simp (disch := omega) only [wrap_id]) <;> first | exact ⟨rfl, rfl⟩ | exact rfl)) | (apply Wp.opG; (exact rfl); (apply Evt.all; intro; (simp []) <;> (try simp (disch := omega) only [wrap_id]) <;> first | exact ⟨rfl, rfl⟩ | exact rfl)) | (apply Wp.opS; (exact rfl); decide) | (apply Wp.opS0; (exact rfl)))
  refine (show Wp T (.loop c_joineryref12_Table_L3) (t3S p l (true, blank l.length l.length, [])) _ _ _ from (t3_loop A p l _ hs hl hA hsq).impB ?_)
  rintro b s ⟨rfl, M, rfl, h1, h2⟩
  rw [if_pos rfl]
  repeat (first | apply Wp.seq | apply Wp.skip | apply Wp.block | (apply Wp.op0; ((simp [M2.keep]) <;> rfl)) | (apply Wp.op; (apply Evt.all; intro; (simp []) <;> (try simp (disch := omega) only [wrap_id]) <;> first | exact ⟨rfl, rfl⟩ | exact rfl)) | (apply Wp.opN; (apply Evt.all; intro; (simp []) <;> (try simp (disch := omega) only [wrap_id]) <;> first | exact ⟨rfl, rfl⟩ | exact rfl)) | (apply Wp.opG; (exact rfl); (apply Evt.all; intro; (simp []) <;> (try simp (disch := omega) only [wrap_id]) <;> first | exact ⟨rfl, rfl⟩ | exact rfl)) | (apply Wp.opS; (exact rfl); decide) | (apply Wp.opS0; (exact rfl)))
  refine Wp.ret ⟨M, ⟨h1, h2⟩, ?_⟩
  simpa [Res, resU, c_joineryref12_Table, res1, frz_own] using tab_frz h1.1
end Go.Proofs.Ytaefnggoempdlaa.M2

/- What the functions answer in M2. Part 17: the document's Classes. -/
namespace Go.Proofs.Ytaefnggoempdlaa.M2
open Go
attribute [local simp] ev1 M2.get put A.ev ld sub part elems bin arith un opt idx fillC cellsO splice over newOb sto fillR laidOwn appTo appRow touch touchN touchM touchE touchA plainU flatU plainAs allM rowAt stoRow accM_nil accM_cons accMM_nil accMM_cons frz_int frz_bool frz_str frz_slt frz_nils frz_nilI frz_nilF frz_own frzRow_row frzRow_frow Ob.blw blw_bool blw_int blw_str blw_nils blw_nilI blw_nilF blw_nilp blw_nilm blw_sl blw_own blw_bp blw_rp blw_mp blw_it params
attribute [local simp] beq_dec bne_dec

/-- The class of thing i after the last d of the things ahead of it were looked at. -/
def cGo (M : List (List Bool)) (out : List Nat) (i many : Nat) : Nat → Nat
  | 0 => many
  | d + 1 => if look2 M i (i - 1 - d) then cGo M out i many d else out.getD (i - 1 - d) 0
def refStep (M : List (List Bool)) (s : List Nat × Nat) : List Nat × Nat :=
  let c := cGo M s.1 s.1.length s.2 s.1.length
  (s.1 ++ [c], if c = s.2 then s.2 + 1 else s.2)
def refTo (M : List (List Bool)) : Nat → List Nat × Nat
  | 0 => ([], 0)
  | n + 1 => refStep M (refTo M n)
theorem refTo_fits (M : List (List Bool)) : ∀ n, (refTo M n).1.length = n ∧ (refTo M n).2 ≤ n
  | 0 => by simp [refTo]
  | n + 1 => by
    have ih := refTo_fits M n
    simp only [refTo, refStep, List.length_append, List.length_singleton, ih.1, true_and]
    split <;> omega
def c0S (p : Bool) (l : List Row) (M : List (List Bool)) (out : List Nat) (i many : Nat) (d : Nat) : S :=
  ⟨[(0, rowsU p l), (3, tabT M), (4, .own 0 i), (5, i64 many), (6, i64 i), (7, i64 (cGo M out i many d)), (8, i64 (((i - d : Nat) : Int) - 1))], [.row 3 1 false (natsU out)]⟩
theorem c0_step (p : Bool) (l : List Row) (M : List (List Bool)) (out : List Nat) (i many d : Nat) (hM : Square l.length M) (hi : i < l.length) (hd : d < i) (ho : out.length = i) (hs : l.length < 1000000000000) :
    Wp T c_joineryref12_Classes_L0 (c0S p l M out i many d) (fun s' => trimO 1 s' = c0S p l M out i many (d + 1)) (fun _ => False) (fun _ _ => False) := by
  obtain ⟨j, hj⟩ : ∃ j, i - d = j + 1 := ⟨i - d - 1, by omega⟩
  have hj1 : i - (d + 1) = j := by omega
  have hj2 : i - 1 - d = j := by omega
  have hji : j < i := by omega
  obtain ⟨hiM, hjM, hlook⟩ := look2_get hM hi (show j < l.length by omega)
  have hjo : j < out.length := by omega
  have hgo : cGo M out i many (d + 1) = if (M[i])[j] then cGo M out i many d else out[j] := by
    rw [cGo, hj2, hlook]
    simp [hjo]
  simp only [c0S]
  rw [hgo, hj, hj1]
  have e : ((j + 1 : Nat) : Int) - 1 = j := by omega
  rw [e]
  generalize cGo M out i many d = c
  repeat (first | apply Wp.seq | apply Wp.skip | apply Wp.block | (apply Wp.op0; ((simp [M2.keep]) <;> rfl)) | (apply Wp.op; (apply Evt.all; intro; (simp []) <;> (try simp (disch := omega) only [wrap_id]) <;> first | exact ⟨rfl, rfl⟩ | exact rfl)) | (apply Wp.opN; (apply Evt.all; intro; (simp []) <;> (try simp (disch := omega) only [wrap_id]) <;> first | exact ⟨rfl, rfl⟩ | exact rfl)) | (apply Wp.opG; (exact rfl); (apply Evt.all; intro; (simp []) <;> (try simp (disch := omega) only [wrap_id]) <;> first | exact ⟨rfl, rfl⟩ | exact rfl)) | (apply Wp.opS; (exact rfl); decide) | (apply Wp.opS0; (exact rfl)))
  refine Wp.cond (by first | rfl | (simp; rfl)) (fun ht => ?_) (fun ht => ?_)
  · cases hb : (M[i])[j] with
    | true =>
      repeat (first | apply Wp.seq | apply Wp.skip | apply Wp.block | (apply Wp.op0; ((simp [M2.keep]) <;> rfl)) | (apply Wp.op; (apply Evt.all; intro; (simp [tabT, hiM, bitsU_len, bitsU_getE, hjM, hb]) <;> (try simp (disch := omega) only [wrap_id]) <;> first | exact ⟨rfl, rfl⟩ | exact rfl)) | (apply Wp.opN; (apply Evt.all; intro; (simp [tabT, hiM, bitsU_len, bitsU_getE, hjM, hb]) <;> (try simp (disch := omega) only [wrap_id]) <;> first | exact ⟨rfl, rfl⟩ | exact rfl)) | (apply Wp.opG; (exact rfl); (apply Evt.all; intro; (simp [tabT, hiM, bitsU_len, bitsU_getE, hjM, hb]) <;> (try simp (disch := omega) only [wrap_id]) <;> first | exact ⟨rfl, rfl⟩ | exact rfl)) | (apply Wp.opS; (exact rfl); decide) | (apply Wp.opS0; (exact rfl)))
      refine Wp.cond (by first | rfl | (simp; rfl)) (fun ht2 => ?_) (fun ht2 => ?_)
      · cases ht2
      repeat (first | apply Wp.seq | apply Wp.skip | apply Wp.block | (apply Wp.op0; ((simp [M2.keep]) <;> rfl)) | (apply Wp.op; (apply Evt.all; intro; (simp []) <;> (try simp (disch := omega) only [wrap_id]) <;> first | exact ⟨rfl, rfl⟩ | exact rfl)) | (apply Wp.opN; (apply Evt.all; intro; (simp []) <;> (try simp (disch := omega) only [wrap_id]) <;> first | exact ⟨rfl, rfl⟩ | exact rfl)) | (apply Wp.opG; (exact rfl); (apply Evt.all; intro; (simp []) <;> (try simp (disch := omega) only [wrap_id]) <;> first | exact ⟨rfl, rfl⟩ | exact rfl)) | (apply Wp.opS; (exact rfl); decide) | (apply Wp.opS0; (exact rfl)))
      simp [trimO, trim, rowsU, tabT]
    | false =>
      repeat (first | apply Wp.seq | apply Wp.skip | apply Wp.block | (apply Wp.op0; ((simp [M2.keep]) <;> rfl)) | (apply Wp.op; (apply Evt.all; intro; (simp [tabT, hiM, bitsU_len, bitsU_getE, hjM, hb]) <;> (try simp (disch := omega) only [wrap_id]) <;> first | exact ⟨rfl, rfl⟩ | exact rfl)) | (apply Wp.opN; (apply Evt.all; intro; (simp [tabT, hiM, bitsU_len, bitsU_getE, hjM, hb]) <;> (try simp (disch := omega) only [wrap_id]) <;> first | exact ⟨rfl, rfl⟩ | exact rfl)) | (apply Wp.opG; (exact rfl); (apply Evt.all; intro; (simp [tabT, hiM, bitsU_len, bitsU_getE, hjM, hb]) <;> (try simp (disch := omega) only [wrap_id]) <;> first | exact ⟨rfl, rfl⟩ | exact rfl)) | (apply Wp.opS; (exact rfl); decide) | (apply Wp.opS0; (exact rfl)))
      refine Wp.cond (by first | rfl | (simp; rfl)) (fun ht2 => ?_) (fun ht2 => ?_)
      · repeat (first | apply Wp.seq | apply Wp.skip | apply Wp.block | (apply Wp.op0; ((simp [M2.keep]) <;> rfl)) | (apply Wp.op; (apply Evt.all; intro; (simp [natsU_len, ho, hji, natsU_getE, hjo]) <;> (try simp (disch := omega) only [wrap_id]) <;> first | exact ⟨rfl, rfl⟩ | exact rfl)) | (apply Wp.opN; (apply Evt.all; intro; (simp [natsU_len, ho, hji, natsU_getE, hjo]) <;> (try simp (disch := omega) only [wrap_id]) <;> first | exact ⟨rfl, rfl⟩ | exact rfl)) | (apply Wp.opG; (exact rfl); (apply Evt.all; intro; (simp [natsU_len, ho, hji, natsU_getE, hjo]) <;> (try simp (disch := omega) only [wrap_id]) <;> first | exact ⟨rfl, rfl⟩ | exact rfl)) | (apply Wp.opS; (exact rfl); decide) | (apply Wp.opS0; (exact rfl)))
        simp [trimO, trim, rowsU, tabT]
      · cases ht2
  · simp at ht
theorem c0_loop (p : Bool) (l : List Row) (M : List (List Bool)) (out : List Nat) (i many : Nat) (hM : Square l.length M) (hi : i < l.length) (ho : out.length = i) (hs : l.length < 1000000000000) :
    Wp T (.loop c_joineryref12_Classes_L0) (c0S p l M out i many 0) (fun _ => False) (fun _ => False) (fun b s' => b = 2 ∧ s' = ⟨[(0, rowsU p l), (3, tabT M), (4, .own 0 i), (5, i64 many), (6, i64 i), (7, i64 (cGo M out i many i)), (8, i64 (-1)), (21, .bool false)], [.row 3 1 false (natsU out)]⟩) := by
  refine Wp.count i (c0S p l M out i many) (fun _ => True) (fun d hd _ => (c0_step p l M out i many d hM hi hd ho hs).imp0 fun s h => ⟨h, trivial⟩) (fun _ => ?_) 0 (by omega) trivial
  simp only [c0S, Nat.sub_self]
  repeat (first | apply Wp.seq | apply Wp.skip | apply Wp.block | (apply Wp.op0; ((simp [M2.keep]) <;> rfl)) | (apply Wp.op; (apply Evt.all; intro; (simp []) <;> (try simp (disch := omega) only [wrap_id]) <;> first | exact ⟨rfl, rfl⟩ | exact rfl)) | (apply Wp.opN; (apply Evt.all; intro; (simp []) <;> (try simp (disch := omega) only [wrap_id]) <;> first | exact ⟨rfl, rfl⟩ | exact rfl)) | (apply Wp.opG; (exact rfl); (apply Evt.all; intro; (simp []) <;> (try simp (disch := omega) only [wrap_id]) <;> first | exact ⟨rfl, rfl⟩ | exact rfl)) | (apply Wp.opS; (exact rfl); decide) | (apply Wp.opS0; (exact rfl)))
  refine Wp.cond (by first | rfl | (simp; rfl)) (fun ht => ?_) (fun ht => ?_)
  · simp at ht
  · exact Wp.exit ⟨rfl, by simp⟩
def c1S (p : Bool) (l : List Row) (M : List (List Bool)) (i : Nat) : S :=
  ⟨[(0, rowsU p l), (3, tabT M), (4, .own 0 i), (5, i64 (refTo M i).2), (6, i64 i)], [.row 3 1 false (natsU (refTo M i).1)]⟩
theorem c1_step (p : Bool) (l : List Row) (M : List (List Bool)) (i : Nat) (hM : Square l.length M) (hi : i < l.length) (hs : l.length < 1000000000000) :
    Wp T c_joineryref12_Classes_L1 (c1S p l M i) (fun s' => trimO 1 s' = c1S p l M (i + 1)) (fun _ => False) (fun _ _ => False) := by
  obtain ⟨ho, hm⟩ := refTo_fits M i
  have h1 : (i + 1) * 8 ≤ 140737488355328 := by omega
  simp only [c1S]
  have hstep : refTo M (i + 1) = ((refTo M i).1 ++ [cGo M (refTo M i).1 i (refTo M i).2 i], if cGo M (refTo M i).1 i (refTo M i).2 i = (refTo M i).2 then (refTo M i).2 + 1 else (refTo M i).2) := by
    rw [refTo, refStep, ho]
  rw [hstep]
  generalize (refTo M i).1 = out at *
  generalize (refTo M i).2 = many at *
  have hn : ∀ c : Nat, natsU (out ++ [c]) = natsU out ++ [[i64 c]] := fun c => by simp [natsU]
  repeat (first | apply Wp.seq | apply Wp.skip | apply Wp.block | (apply Wp.op0; ((simp [M2.keep]) <;> rfl)) | (apply Wp.op; (apply Evt.all; intro; (simp [rowsU, hi]) <;> (try simp (disch := omega) only [wrap_id]) <;> first | exact ⟨rfl, rfl⟩ | exact rfl)) | (apply Wp.opN; (apply Evt.all; intro; (simp [rowsU, hi]) <;> (try simp (disch := omega) only [wrap_id]) <;> first | exact ⟨rfl, rfl⟩ | exact rfl)) | (apply Wp.opG; (exact rfl); (apply Evt.all; intro; (simp [rowsU, hi]) <;> (try simp (disch := omega) only [wrap_id]) <;> first | exact ⟨rfl, rfl⟩ | exact rfl)) | (apply Wp.opS; (exact rfl); decide) | (apply Wp.opS0; (exact rfl)))
  refine Wp.cond (by first | rfl | (simp; rfl)) (fun ht => ?_) (fun ht => ?_)
  · repeat (first | apply Wp.seq | apply Wp.skip | apply Wp.block | (apply Wp.op0; ((simp [M2.keep]) <;> rfl)) | (apply Wp.op; (apply Evt.all; intro; (simp []) <;> (try simp (disch := omega) only [wrap_id]) <;> first | exact ⟨rfl, rfl⟩ | exact rfl)) | (apply Wp.opN; (apply Evt.all; intro; (simp []) <;> (try simp (disch := omega) only [wrap_id]) <;> first | exact ⟨rfl, rfl⟩ | exact rfl)) | (apply Wp.opG; (exact rfl); (apply Evt.all; intro; (simp []) <;> (try simp (disch := omega) only [wrap_id]) <;> first | exact ⟨rfl, rfl⟩ | exact rfl)) | (apply Wp.opS; (exact rfl); decide) | (apply Wp.opS0; (exact rfl)))
    refine (show Wp T (.loop c_joineryref12_Classes_L0) (c0S p l M out i many 0) _ _ _ from (c0_loop p l M out i many hM hi ho hs).impB ?_)
    rintro b s ⟨rfl, rfl⟩
    rw [if_pos rfl]
    generalize cGo M out i many i = c
    repeat (first | apply Wp.seq | apply Wp.skip | apply Wp.block | (apply Wp.op0; ((simp [M2.keep]) <;> rfl)) | (apply Wp.op; (apply Evt.all; intro; (simp []) <;> (try simp (disch := omega) only [wrap_id]) <;> first | exact ⟨rfl, rfl⟩ | exact rfl)) | (apply Wp.opN; (apply Evt.all; intro; (simp []) <;> (try simp (disch := omega) only [wrap_id]) <;> first | exact ⟨rfl, rfl⟩ | exact rfl)) | (apply Wp.opG; (exact rfl); (apply Evt.all; intro; (simp []) <;> (try simp (disch := omega) only [wrap_id]) <;> first | exact ⟨rfl, rfl⟩ | exact rfl)) | (apply Wp.opS; (exact rfl); decide) | (apply Wp.opS0; (exact rfl)))
    refine Wp.cond (by first | rfl | (simp; rfl)) (fun ht2 => ?_) (fun ht2 => ?_)
    · have e : c = many := by simp at ht2; omega
      repeat (first | apply Wp.seq | apply Wp.skip | apply Wp.block | (apply Wp.op0; ((simp [M2.keep]) <;> rfl)) | (apply Wp.op; (apply Evt.all; intro; (simp [natsU_len, ho, h1]) <;> (try simp (disch := omega) only [wrap_id]) <;> first | exact ⟨rfl, rfl⟩ | exact rfl)) | (apply Wp.opN; (apply Evt.all; intro; (simp [natsU_len, ho, h1]) <;> (try simp (disch := omega) only [wrap_id]) <;> first | exact ⟨rfl, rfl⟩ | exact rfl)) | (apply Wp.opG; (exact rfl); (apply Evt.all; intro; (simp [natsU_len, ho, h1]) <;> (try simp (disch := omega) only [wrap_id]) <;> first | exact ⟨rfl, rfl⟩ | exact rfl)) | (apply Wp.opS; (exact rfl); decide) | (apply Wp.opS0; (exact rfl)))
      simp [trimO, trim, rowsU, tabT, e, hn]
    · have e : ¬ c = many := by simp at ht2; omega
      repeat (first | apply Wp.seq | apply Wp.skip | apply Wp.block | (apply Wp.op0; ((simp [M2.keep]) <;> rfl)) | (apply Wp.op; (apply Evt.all; intro; (simp [natsU_len, ho, h1]) <;> (try simp (disch := omega) only [wrap_id]) <;> first | exact ⟨rfl, rfl⟩ | exact rfl)) | (apply Wp.opN; (apply Evt.all; intro; (simp [natsU_len, ho, h1]) <;> (try simp (disch := omega) only [wrap_id]) <;> first | exact ⟨rfl, rfl⟩ | exact rfl)) | (apply Wp.opG; (exact rfl); (apply Evt.all; intro; (simp [natsU_len, ho, h1]) <;> (try simp (disch := omega) only [wrap_id]) <;> first | exact ⟨rfl, rfl⟩ | exact rfl)) | (apply Wp.opS; (exact rfl); decide) | (apply Wp.opS0; (exact rfl)))
      simp [trimO, trim, rowsU, tabT, e, hn]
  · simp [hi] at ht
theorem refcls_call (A : Nat → Nat → Prop) (p : Bool) (l : List Row) (hs : l.length < 1000000000000) (hl : ∀ r ∈ l, r.to.length < 1000000000000)
    (hA : ∀ M i k, i < l.length → k < l.length → inA A l.length M → nowF l.length M (l.getD i default) (l.getD k default) = true → A i k) :
    ∃ M, (inA A l.length M ∧ stable l M) ∧ (∀ st, Cl T 15 [rowsU p l] st (tabT M) st) ∧ ∀ st, Cl T 12 [rowsU p l] st (.sl true (natsU (refTo M l.length).1)) st := by
  obtain ⟨M, hM, hT⟩ := table_call A p l hs hl hA
  refine ⟨M, hM, hT, fun st => ?_⟩
  refine Wp.pure (fn := c_joineryref12_Classes) rfl rfl rfl («as» := [rowsU p l]) rfl ?_
  repeat (first | apply Wp.seq | apply Wp.skip | apply Wp.block | (apply Wp.op0; ((simp [M2.keep]) <;> rfl)) | (apply Wp.op; (apply Evt.all; intro; (simp []) <;> (try simp (disch := omega) only [wrap_id]) <;> first | exact ⟨rfl, rfl⟩ | exact rfl)) | (apply Wp.opN; (apply Evt.all; intro; (simp []) <;> (try simp (disch := omega) only [wrap_id]) <;> first | exact ⟨rfl, rfl⟩ | exact rfl)) | (apply Wp.opG; (exact rfl); (apply Evt.all; intro; (simp []) <;> (try simp (disch := omega) only [wrap_id]) <;> first | exact ⟨rfl, rfl⟩ | exact rfl)) | (apply Wp.opS; (exact rfl); decide) | (apply Wp.opS0; (exact rfl)))
  apply Wp.call
  · exact hT _
  repeat (first | apply Wp.seq | apply Wp.skip | apply Wp.block | (apply Wp.op0; ((simp [M2.keep]) <;> rfl)) | (apply Wp.op; (apply Evt.all; intro; (simp []) <;> (try simp (disch := omega) only [wrap_id]) <;> first | exact ⟨rfl, rfl⟩ | exact rfl)) | (apply Wp.opN; (apply Evt.all; intro; (simp []) <;> (try simp (disch := omega) only [wrap_id]) <;> first | exact ⟨rfl, rfl⟩ | exact rfl)) | (apply Wp.opG; (exact rfl); (apply Evt.all; intro; (simp []) <;> (try simp (disch := omega) only [wrap_id]) <;> first | exact ⟨rfl, rfl⟩ | exact rfl)) | (apply Wp.opS; (exact rfl); decide) | (apply Wp.opS0; (exact rfl)))
  have hloop : Wp T (.loop c_joineryref12_Classes_L1) (c1S p l M 0) (fun _ => False) (fun _ => False) (fun b s' => b = 0 ∧ s' = ⟨[(0, rowsU p l), (3, tabT M), (4, .own 0 l.length), (5, i64 (refTo M l.length).2), (6, i64 l.length), (14, .bool false)], [.row 3 1 false (natsU (refTo M l.length).1)]⟩) := by
    refine Wp.count l.length (c1S p l M) (fun _ => True) (fun i hi _ => (c1_step p l M i hM.1.1 hi hs).imp0 fun s h => ⟨h, trivial⟩) (fun _ => ?_) 0 (by omega) trivial
    simp only [c1S]
    repeat (first | apply Wp.seq | apply Wp.skip | apply Wp.block | (apply Wp.op0; ((simp [M2.keep]) <;> rfl)) | (apply Wp.op; (apply Evt.all; intro; (simp [rowsU]) <;> (try simp (disch := omega) only [wrap_id]) <;> first | exact ⟨rfl, rfl⟩ | exact rfl)) | (apply Wp.opN; (apply Evt.all; intro; (simp [rowsU]) <;> (try simp (disch := omega) only [wrap_id]) <;> first | exact ⟨rfl, rfl⟩ | exact rfl)) | (apply Wp.opG; (exact rfl); (apply Evt.all; intro; (simp [rowsU]) <;> (try simp (disch := omega) only [wrap_id]) <;> first | exact ⟨rfl, rfl⟩ | exact rfl)) | (apply Wp.opS; (exact rfl); decide) | (apply Wp.opS0; (exact rfl)))
    refine Wp.cond (by first | rfl | (simp; rfl)) (fun ht => ?_) (fun ht => ?_)
    · cases ht
    · exact Wp.exit ⟨rfl, by simp [rowsU]⟩
  refine (show Wp T (.loop c_joineryref12_Classes_L1) (c1S p l M 0) _ _ _ from hloop.impB ?_)
  rintro b s ⟨rfl, rfl⟩
  rw [if_pos rfl]
  repeat (first | apply Wp.seq | apply Wp.skip | apply Wp.block | (apply Wp.op0; ((simp [M2.keep]) <;> rfl)) | (apply Wp.op; (apply Evt.all; intro; (simp []) <;> (try simp (disch := omega) only [wrap_id]) <;> first | exact ⟨rfl, rfl⟩ | exact rfl)) | (apply Wp.opN; (apply Evt.all; intro; (simp []) <;> (try simp (disch := omega) only [wrap_id]) <;> first | exact ⟨rfl, rfl⟩ | exact rfl)) | (apply Wp.opG; (exact rfl); (apply Evt.all; intro; (simp []) <;> (try simp (disch := omega) only [wrap_id]) <;> first | exact ⟨rfl, rfl⟩ | exact rfl)) | (apply Wp.opS; (exact rfl); decide) | (apply Wp.opS0; (exact rfl)))
  refine Wp.ret ?_; simp [Res, resU, res1, c_joineryref12_Classes, natsU_len, (refTo_fits M l.length).1]
end Go.Proofs.Ytaefnggoempdlaa.M2
