/- What the laws need of what is read and of texts, plain. -/
import Derived.Test.YtbcojbmalcghbaaDoorCk
import Derived.Test.YtbcojbmalcghbaaDoorCi
import Derived.Test.YtbcojbmalcghbaaDoorCj
set_option linter.unusedSimpArgs false
set_option linter.unusedVariables false
set_option linter.unusedSectionVars false
namespace Go.Proofs.YtbcojbmalcghbaaDoor.M2
open Go
abbrev valueW : List UInt8 := [118, 97, 108, 117, 101]
abbrev entryW : List UInt8 := [101, 110, 116, 114, 121]
def rdVal (w : List (List UInt8)) : FVal := ⟨rdTo (w.getD 1 []), (w.drop 2).map rdSrc⟩
def fStep (x : FForm) (w : List (List UInt8)) : Option FForm :=
  if w.headD [] ≠ valueW ∧ x.vals = [] then some ⟨x.entry, x.nodes ++ [rdNode w], x.vals⟩
  else if w.headD [] ≠ valueW ∨ w.length < 2 then none else some ⟨x.entry, x.nodes, x.vals ++ [rdVal w]⟩
def fRun (x : FForm) : List (List UInt8) → Option FForm
  | [] => some x
  | t :: ts => match fStep x (spl 32 t) with
    | some y => fRun y ts
    | none => none
def pHead (l : List (List UInt8)) : List (List UInt8) := spl 32 (l.headD [])
def pBadH (l : List (List UInt8)) : Prop := l.length < 2 ∨ l.getLastD [] ≠ [] ∨ (pHead l).length ≠ 2 ∨ (pHead l).headD [] ≠ entryW
instance (l : List (List UInt8)) : Decidable (pBadH l) := by unfold pBadH; infer_instance
def pForm0 (l : List (List UInt8)) : Option FForm :=
  if pBadH l then none else match fRun ⟨rdTo ((pHead l).getD 1 []), [], []⟩ l.tail.dropLast with
    | some x => if rightF x then some x else none
    | none => none
def pForm (s : List UInt8) : Option FForm := pForm0 (spl 10 s)
theorem fRun_some : ∀ {ts : List (List UInt8)} {x y : FForm}, fRun x ts = some y → ∃ A B, ts = A ++ B ∧ y.entry = x.entry ∧ y.nodes = x.nodes ++ A.map (fun t => rdNode (spl 32 t)) ∧ y.vals = x.vals ++ B.map (fun t => rdVal (spl 32 t)) ∧ (∀ t ∈ B, (spl 32 t).headD [] = valueW ∧ 2 ≤ (spl 32 t).length) ∧ (x.vals ≠ [] → A = [])
  | [], x, y, h => by
    injection h with h
    subst h
    exact ⟨[], [], rfl, rfl, by simp, by simp, by simp, fun _ => rfl⟩
  | t :: ts, x, y, h => by
    unfold fRun at h
    unfold fStep at h
    by_cases h1 : (spl 32 t).headD [] ≠ valueW ∧ x.vals = []
    · rw [if_pos h1] at h
      obtain ⟨A, B, e1, e2, e3, e4, e5, e6⟩ := fRun_some h
      exact ⟨t :: A, B, by rw [e1]; rfl, e2, by rw [e3]; simp, e4, e5, fun hv => absurd h1.2 hv⟩
    · rw [if_neg h1] at h
      by_cases h2 : (spl 32 t).headD [] ≠ valueW ∨ (spl 32 t).length < 2
      · rw [if_pos h2] at h
        cases h
      · rw [if_neg h2] at h
        obtain ⟨A, B, e1, e2, e3, e4, e5, e6⟩ := fRun_some h
        have hA : A = [] := e6 (by simp)
        subst hA
        simp only [not_or, ne_eq, Decidable.not_not] at h2
        refine ⟨[], t :: B, by rw [e1]; rfl, e2, e3, by rw [e4]; simp, fun u hu => ?_, fun _ => rfl⟩
        rcases List.mem_cons.1 hu with rfl | hu
        · exact ⟨h2.1, by omega⟩
        · exact e5 u hu
theorem val_back {t : List UInt8} (h1 : (spl 32 t).headD [] = valueW) (h2 : 2 ≤ (spl 32 t).length) (hp : -1 ≤ (rdVal (spl 32 t)).pos) (hs : ∀ s ∈ (rdVal (spl 32 t)).src, s.1 ≠ -1) : jn (valWords (rdVal (spl 32 t))) = t := by
  have hj := jn_spl t
  generalize spl 32 t = w at *
  match w, h2 with
  | a :: b :: r, _ =>
    have ha : a = valueW := h1
    have hb : toF (rdTo b) = b := (rdTo_some hp).1
    have hr : (r.map rdSrc).map srcF = r := by
      rw [List.map_map]
      conv => rhs; rw [show r = r.map id by simp]
      exact List.map_congr_left fun w hw => (rdSrc_some (hs (rdSrc w) (List.mem_map_of_mem hw))).1
    have : valWords (rdVal (a :: b :: r)) = a :: b :: r := by
      show valueW :: toF (rdTo b) :: (r.map rdSrc).map srcF = _
      rw [hb, hr, ha]
    rw [this, hj]
theorem right_node {x : FForm} (h : rightF x = true) : ∀ y ∈ x.nodes, opOk y.op = true ∧ (∀ s ∈ y.args, s.1 ≠ -1) ∧ (∀ o ∈ y.outs, -1 ≤ o ∧ o < x.nodes.length) ∧ y.args.length = argsF y.op := fun y hy => by
  have hk := (right_k h).nodes y hy
  refine ⟨hk.op, fun s hs => ?_, fun o ho => ⟨hk.outs o ho, ?_⟩, hk.alen⟩
  · have := hk.args s hs
    unfold SrcK at this
    omega
  · simp only [rightF, Bool.and_eq_true, decide_eq_true_eq, List.all_eq_true] at h
    obtain ⟨i, hi, e⟩ := List.mem_iff_getElem.1 hy
    have := h.1.2 (y, i) (List.mem_zipIdx_iff_getElem?.2 (by simp [← e, hi]))
    simp only [nodeF, Bool.and_eq_true, List.all_eq_true] at this
    have := this.2 o ho
    simp only [outOk, Bool.and_eq_true, decide_eq_true_eq] at this
    exact this.2
theorem map_fix {α : Type} {f : α → α} {l : List α} (h : ∀ a ∈ l, f a = a) : l.map f = l := by
  conv => rhs; rw [show l = l.map id by simp]
  exact List.map_congr_left h
theorem last_of {l : List (List UInt8)} (h : 2 ≤ l.length) (h2 : l.getLastD [] = []) : l = l.headD [] :: l.tail.dropLast ++ [[]] := by
  match l, h with
  | a :: b :: r, _ =>
    have : (b :: r) = (b :: r).dropLast ++ [(b :: r).getLast (by simp)] := (List.dropLast_concat_getLast (by simp)).symm
    have e : (b :: r).getLast (by simp) = [] := by
      simpa [List.getLastD] using h2
    rw [e] at this
    show a :: b :: r = a :: (b :: r).dropLast ++ [[]]
    rw [List.cons_append, ← this]
theorem pForm_some {s : List UInt8} {x : FForm} (h : pForm s = some x) : rightF x = true ∧ printF x = s := by
  unfold pForm pForm0 at h
  split at h
  · cases h
  · rename_i hb
    unfold pBadH at hb
    simp only [not_or, Nat.not_lt, ne_eq, Decidable.not_not] at hb
    obtain ⟨b1, b2, b3, b4⟩ := hb
    split at h
    · rename_i y hf
      split at h
      · rename_i hr
        injection h with h
        subst h
        refine ⟨hr, ?_⟩
        obtain ⟨A, B, e1, e2, e3, e4, e5, _⟩ := fRun_some hf
        simp only [List.nil_append] at e2 e3 e4
        have hk := right_k hr
        have hl := last_of b1 b2
        have hA : A.map (fun t => jn (nodeWords (rdNode (spl 32 t)))) = A := map_fix fun t ht => by
          obtain ⟨k1, k2, k3, k4⟩ := right_node hr (rdNode (spl 32 t)) (by rw [e3]; exact List.mem_map_of_mem ht)
          rw [rdNode_some k1 k2 (fun o ho => (k3 o ho).1) k4, jn_spl]
        have hB : B.map (fun t => jn (valWords (rdVal (spl 32 t)))) = B := map_fix fun t ht => by
          have hv := hk.vals (rdVal (spl 32 t)) (by rw [e4]; exact List.mem_map_of_mem ht)
          refine val_back (e5 t ht).1 (e5 t ht).2 hv.pos fun s hs => ?_
          have := hv.src s hs
          unfold SrcK at this
          omega
        have hE : jn (entWords y) = (spl 10 s).headD [] := by
          have hw : entWords y = pHead (spl 10 s) := by
            unfold entWords
            have hlo := hk.ent
            rw [e2] at hlo ⊢
            generalize pHead (spl 10 s) = w at *
            match w, b3 with
            | [a, b], _ =>
              have ha : a = entryW := b4
              have hto : toF (rdTo b) = b := (rdTo_some hlo).1
              show [entryW, toF (rdTo b)] = [a, b]
              rw [hto, ha]
          rw [hw]
          exact jn_spl _
        have hlines : linesF y = (spl 10 s).headD [] :: (spl 10 s).tail.dropLast := by
          unfold linesF
          rw [hE, e3, e4, List.map_map, List.map_map, e1]
          exact congrArg _ (by
            have h1 : A.map ((fun y => jn (nodeWords y)) ∘ fun t => rdNode (spl 32 t)) = A := hA
            have h2 : B.map ((fun v => jn (valWords v)) ∘ fun t => rdVal (spl 32 t)) = B := hB
            rw [h1, h2])
        rw [← hlines] at hl
        have := spl_inv hl
        rw [List.append_nil] at this
        exact this.symm
      · cases h
    · cases h
theorem fRun_nodes : ∀ {l : List FNode} {x : FForm} {ts : List (List UInt8)}, x.vals = [] → (∀ y ∈ l, NodeK y ∧ NodeR y ∧ ∀ o ∈ y.outs, o ≤ 20000) → fRun x (l.map (fun y => jn (nodeWords y)) ++ ts) = fRun ⟨x.entry, x.nodes ++ l, []⟩ ts
  | [], x, ts, hv, _ => by
    obtain ⟨a, b, c⟩ := x
    simp only at hv
    subst hv
    simp
  | y :: l, x, ts, hv, h => by
    obtain ⟨k1, k2, k3⟩ := h y (by simp)
    have hs : spl 32 (jn (nodeWords y)) = nodeWords y := spl_jn (nodeW_ne y) (fun w hw c hc => ((nodeW_plain k1 w hw).2 c hc).1)
    have hhd : (nodeWords y).headD [] = wordF y.op := rfl
    rw [List.map_cons, List.cons_append, fRun]
    unfold fStep
    rw [hs, if_pos ⟨by rw [hhd]; exact word_value k1.op, hv⟩]
    simp only
    rw [fRun_nodes (by exact hv) (fun z hz => h z (by simp [hz])), rdNode_back k1 k2 k3]
    simp
theorem fRun_vals : ∀ {l : List FVal} {x : FForm}, (∀ v ∈ l, ValK v ∧ ValR v ∧ v.pos ≤ 20000) → fRun x (l.map (fun v => jn (valWords v))) = some ⟨x.entry, x.nodes, x.vals ++ l⟩
  | [], x, _ => by simp [fRun]
  | v :: l, x, h => by
    obtain ⟨k1, k2, k3⟩ := h v (by simp)
    have hs : spl 32 (jn (valWords v)) = valWords v := spl_jn (valW_ne v) (fun w hw c hc => ((valW_plain v w hw).2 c hc).1)
    have hhd : (valWords v).headD [] = valueW := rfl
    have hle : ¬ (valWords v).length < 2 := by simp [valWords, valHead]
    rw [List.map_cons, fRun]
    unfold fStep
    rw [hs, if_neg (by rw [hhd]; simp), if_neg (by rw [hhd]; simp [hle])]
    simp only
    have hv : rdVal (valWords v) = v := by
      have e1 : (v.src.map srcF).map rdSrc = v.src := by
        rw [List.map_map]
        exact map_fix (f := rdSrc ∘ srcF) fun s hs => rdSrc_src (k1.src s hs) (k2.src s hs).2
      show (⟨rdTo (toF v.pos), (v.src.map srcF).map rdSrc⟩ : FVal) = v
      rw [e1, rdTo_to k1.pos k3]
    rw [fRun_vals (fun z hz => h z (by simp [hz])), hv]
    simp
theorem pForm_back {x : FForm} (hr : rightF x = true) (hR : FormR x) (hn : x.nodes.length ≤ 20000) : pForm (printF x) = some x := by
  have hk := right_k hr
  have hlo := lines_ok hk
  have hv : ∀ v ∈ x.vals, v.pos < x.nodes.length := fun v hv => by
    simp only [rightF, Bool.and_eq_true, decide_eq_true_eq, List.all_eq_true] at hr
    have := hr.2 v hv
    simp only [valOk, Bool.and_eq_true, decide_eq_true_eq] at this
    exact this.1.1.2
  have he : x.entry < x.nodes.length := by
    simp only [rightF, Bool.and_eq_true, decide_eq_true_eq] at hr
    exact hr.1.1.2
  unfold pForm
  have hspl : spl 10 (printF x) = linesF x ++ [[]] := spl_lines fun l hl => (hlo l hl).2
  rw [hspl]
  have hhead : pHead (linesF x ++ [[]]) = entWords x := spl_jn (entW_ne x) (fun w hw c hc => ((entW_plain x w hw).2 c hc).1)
  have htl : (linesF x ++ [[]]).tail.dropLast = x.nodes.map (fun y => jn (nodeWords y)) ++ x.vals.map (fun v => jn (valWords v)) := by
    have : (linesF x ++ [[]]).tail = (x.nodes.map (fun y => jn (nodeWords y)) ++ x.vals.map (fun v => jn (valWords v))) ++ [[]] := rfl
    rw [this, List.dropLast_concat]
  have hb : ¬ pBadH (linesF x ++ [[]]) := by
    unfold pBadH
    rw [hhead]
    have h1 : (linesF x ++ [[]]).getLastD [] = [] := by simp
    have h2 : ¬ (linesF x ++ [[]]).length < 2 := by simp [linesF]; omega
    rintro (h | h | h | h)
    · exact h2 h
    · exact h h1
    · exact h rfl
    · exact h rfl
  unfold pForm0
  rw [if_neg hb, htl, hhead]
  have hent : rdTo ((entWords x).getD 1 []) = x.entry := rdTo_to hk.ent (by omega)
  rw [hent, fRun_nodes rfl (fun y hy => ⟨hk.nodes y hy, hR.nodes y hy, fun o ho => by have := ((right_node hr y hy).2.2.1 o ho).2; omega⟩), fRun_vals (fun v hvv => ⟨hk.vals v hvv, hR.vals v hvv, by have := hv v hvv; omega⟩)]
  simp only [List.nil_append]
  rw [if_pos hr]
end Go.Proofs.YtbcojbmalcghbaaDoor.M2
namespace Go.Proofs.YtbcojbmalcghbaaDoor.M2
open Go
attribute [local simp] ev1 M2.get put A.ev ld sub part elems bin arith un opt idx fillC cellsO splice over newOb sto fillR laidOwn appTo appRow touch touchN touchM touchE touchA plainU flatU plainAs allM rowAt stoRow accM_nil accM_cons accMM_nil accMM_cons frz_int frz_bool frz_str frz_slt frz_nils frz_nilI frz_nilF frz_own frzRow_row frzRow_frow Ob.blw blw_bool blw_int blw_str blw_nils blw_nilI blw_nilF blw_nilp blw_nilm blw_sl blw_own blw_bp blw_rp blw_mp blw_it params
attribute [local simp] frz_agg frz_tup frz_iface frzS_agg frzS_iface accMS_cons frzS_int frzS_bool frzS_str frzS_slt frzS_nils frzS_nilI beq_dec bne_dec
abbrev of0 : List U := [i64 0, .nils, .nils]
def Base (B : List Ob) : Prop := ∃ (e pos : Int) (r1 r2 r3 r4 r5 r6 : List (List U)) (n m k : Nat),
  B = [.box of0, .row 54 4 false [], .row 56 2 false [], .box [i64 e, .nils, .nils]] ∨
  B = [.box of0, .row 54 4 false [], .row 56 2 false [], .box [i64 e, .own 5 n, .nils], .row 54 4 false r1, .row 54 4 false r2] ∨
  B = [.box of0, .row 54 4 false [], .row 56 2 false [], .box [i64 e, .nils, .own 7 m], .row 67 2 false [], .box [i64 pos, .nils], .row 56 2 false r3, .row 56 2 false r4] ∨
  B = [.box of0, .row 54 4 false [], .row 56 2 false [], .box [i64 e, .nils, .own 9 m], .row 67 2 false [], .box [i64 pos, .own 7 k], .row 67 2 false r5, .frow r6, .row 56 2 false r3, .row 56 2 false r4] ∨
  B = [.box of0, .row 54 4 false [], .row 56 2 false [], .box [i64 e, .own 5 n, .own 9 m], .row 54 4 false r1, .row 54 4 false r2, .row 67 2 false [], .box [i64 pos, .nils], .row 56 2 false r3, .row 56 2 false r4] ∨
  B = [.box of0, .row 54 4 false [], .row 56 2 false [], .box [i64 e, .own 5 n, .own 11 m], .row 54 4 false r1, .row 54 4 false r2, .row 67 2 false [], .box [i64 pos, .own 9 k], .row 67 2 false r5, .frow r6, .row 56 2 false r3, .row 56 2 false r4]
def sfO (b : Nat) (a : List (Int × Int)) : U := match a with
  | [] => .nils
  | _ :: _ => .own (b + 3) a.length
def sfX (a : List (Int × Int)) : List Ob := match a with
  | [] => []
  | s :: _ => [.row 67 2 false [srcC s], .row 67 2 false (a.map srcC)]
def pf2S (B : List Ob) (L : U) (n i pos : Int) (u : List (List UInt8)) (a : List (Int × Int)) (k : Nat) : S :=
  ⟨[(2, .bp 0 0), (7, .bp 3 0), (11, .bp (B.length + 1) 0), (51, .sl true (u.map strC)), (52, i64 n), (53, i64 i), (65, L), (66, i64 u.length), (67, i64 k)], B ++ ([.row 67 2 false [], .box [i64 pos, sfO B.length a]] ++ sfX a)⟩
def pf2E (L : U) (n i : Int) (u : List (List UInt8)) (id k : Nat) : Env := [(2, .bp 0 0), (7, .bp 3 0), (11, .bp id 0), (51, L), (52, i64 n), (53, i64 i), (65, .sl true (u.map strC)), (66, i64 u.length), (67, i64 k)]
set_option maxHeartbeats 16000000 in
theorem pf2_new (B : List Ob) (hB : Base B) (ls : List (List UInt8)) (n i : Int) (pos : Int) (u : List (List UInt8)) (k : Nat) (hk : k < u.length) (hu : u.length ≤ 100000000) (hw : ∀ w ∈ u, w.length ≤ 100000000) (R : S → Prop) (Bx : Nat → S → Prop) :
    Wp T c_shape_Parse_L2 ⟨pf2E (wordsU true ls) n i u (B.length + 1) k, B ++ [.row 67 2 false [], .box [i64 pos, .nils]]⟩
      (fun s' => trimO (B.length + 2) s' = ⟨pf2E (wordsU true ls) n i u (B.length + 1) (k + 1), B ++ [.row 67 2 false [], .box [i64 pos, .own (B.length + 3) 1], .row 67 2 false [srcC (rdSrc u[k])], .row 67 2 false [srcC (rdSrc u[k])]]⟩) R Bx := by
  have hk' : (k : Int) < u.length := by omega
  have eg : u[k]? = some u[k] := List.getElem?_eq_getElem hk
  have hs := fun st => readSrc_call u[k] (hw _ (List.getElem_mem hk)) st
  generalize rdSrc u[k] = s at *
  generalize u[k] = w at *
  simp only [srcC] at hs ⊢
  obtain ⟨e, ps, r1, r2, r3, r4, r5, r6, na, m, kk, hB⟩ := hB
  rcases hB with rfl | rfl | rfl | rfl | rfl | rfl
  all_goals simp only [pf2E, List.length_cons, List.length_nil, Nat.reduceAdd, List.cons_append, List.nil_append]
  all_goals (all_goals have := fa (a3 @strC.eq_1 hk' eg); repeat' first | refine Wp.v ?_ | (refine Wp.c ?_ ?_ <;> intro))
  all_goals refine Wp.draw (by (simp [c_shape_Parse_D1, I.need]) <;> rfl) (by (simp [strC]) <;> rfl) (by (simp [strC]) <;> rfl) (by (unfold c_shape_Parse_D1); (repeat (first | ((first | apply Dr.op | apply Dr.opN | (apply Dr.opG; exact rfl)); ((simp [strC]) <;> rfl); (apply Evt.all; intro; (simp [strC]) <;> (try simp (disch := omega) only [wrap_id]) <;> first | exact ⟨rfl, rfl⟩ | exact rfl); ((simp [I.need]) <;> rfl)) | ((first | (apply Dr.opS; exact rfl; decide) | (apply Dr.opS0; exact rfl)); ((simp [I.need]) <;> rfl)) | (apply Dr.call; ((simp [strC]) <;> rfl); exact hs _) | (apply Dr.callG; (exact rfl); ((simp [strC]) <;> rfl); exact hs _))); exact Dr.nil) (by first | decide +kernel | exact rfl) (by (simp [M2.keep]) <;> rfl) ?_
  all_goals (have := fa @wrap_id; repeat refine Wp.f ?_)
  all_goals simp [trimO, trim]
set_option maxHeartbeats 16000000 in
theorem pf2_old (B : List Ob) (hB : Base B) (ls : List (List UInt8)) (n i : Int) (pos : Int) (u : List (List UInt8)) (k : Nat) (hk : k < u.length) (hu : u.length ≤ 100000000) (hw : ∀ w ∈ u, w.length ≤ 100000000) (m : Nat) (hm : m ≤ 100000000) (r0 : List U) (R0 R1 : List (List U)) (e1 : R0 ++ [srcC (rdSrc u[k])] = R1) (e2 : R0.length = m) (R : S → Prop) (Bx : Nat → S → Prop) :
    Wp T c_shape_Parse_L2 ⟨pf2E (wordsU true ls) n i u (B.length + 1) k, B ++ [.row 67 2 false [], .box [i64 pos, .own (B.length + 3) m], .row 67 2 false [r0], .row 67 2 false R0]⟩
      (fun s' => trimO (B.length + 4) s' = ⟨pf2E (wordsU true ls) n i u (B.length + 1) (k + 1), B ++ [.row 67 2 false [], .box [i64 pos, .own (B.length + 3) (m + 1)], .row 67 2 false [r0], .row 67 2 false R1]⟩) R Bx := by
  have hk' : (k : Int) < u.length := by omega
  have eg : u[k]? = some u[k] := List.getElem?_eq_getElem hk
  have hs := fun st => readSrc_call u[k] (hw _ (List.getElem_mem hk)) st
  have lim : (m + 1) * 16 ≤ 140737488355328 := by omega
  generalize rdSrc u[k] = s at *
  generalize u[k] = w at *
  simp only [srcC] at hs e1
  obtain ⟨e, ps, r1, r2, r3, r4, r5, r6, na, mm, kk, hB⟩ := hB
  rcases hB with rfl | rfl | rfl | rfl | rfl | rfl
  all_goals simp only [pf2E, List.length_cons, List.length_nil, Nat.reduceAdd, List.cons_append, List.nil_append]
  all_goals (all_goals have := fa (a3 @strC.eq_1 hk' eg); repeat' first | refine Wp.v ?_ | (refine Wp.c ?_ ?_ <;> intro))
  all_goals refine Wp.draw (by (simp [c_shape_Parse_D1, I.need]) <;> rfl) (by (simp [strC, e1, e2, lim]) <;> rfl) (by (simp [strC, e1, e2, lim]) <;> rfl) (by (unfold c_shape_Parse_D1); (repeat (first | ((first | apply Dr.op | apply Dr.opN | (apply Dr.opG; exact rfl)); ((simp [strC, e1, e2, lim]) <;> rfl); (apply Evt.all; intro; (simp [strC, e1, e2, lim]) <;> (try simp (disch := omega) only [wrap_id]) <;> first | exact ⟨rfl, rfl⟩ | exact rfl); ((simp [I.need]) <;> rfl)) | ((first | (apply Dr.opS; exact rfl; decide) | (apply Dr.opS0; exact rfl)); ((simp [I.need]) <;> rfl)) | (apply Dr.call; ((simp [strC, e1, e2, lim]) <;> rfl); exact hs _) | (apply Dr.callG; (exact rfl); ((simp [strC, e1, e2, lim]) <;> rfl); exact hs _))); exact Dr.nil) (by first | decide +kernel | exact rfl) (by (simp [M2.keep]) <;> rfl) ?_
  all_goals (have := fa @wrap_id; repeat refine Wp.f ?_)
  all_goals simp [trimO, trim]
def pf2St (B : List Ob) (pos : Int) (a : List (Int × Int)) : List Ob := B ++ ([.row 67 2 false [], .box [i64 pos, sfO B.length a]] ++ sfX a)
theorem pf2_loop (B : List Ob) (hB : Base B) (ls : List (List UInt8)) (n i : Int) (pos : Int) (u : List (List UInt8)) (hu : u.length ≤ 100000000) (hw : ∀ w ∈ u, w.length ≤ 100000000) (R : S → Prop) :
    Wp T (.loop c_shape_Parse_L2) ⟨pf2E (wordsU true ls) n i u (B.length + 1) 0, pf2St B pos []⟩ (fun _ => False) R
      (fun b s' => b = 3 ∧ s' = ⟨pf2E (wordsU true ls) n i u (B.length + 1) u.length ++ [(68, .bool false)], pf2St B pos (u.map rdSrc)⟩) := by
  refine Wp.count u.length (fun k => ⟨pf2E (wordsU true ls) n i u (B.length + 1) k, pf2St B pos ((u.take k).map rdSrc)⟩) (fun _ => True) (fun k hk _ => ?_) (fun _ => ?_) 0 (by omega) trivial
  · have ht : (u.take (k + 1)).map rdSrc = (u.take k).map rdSrc ++ [rdSrc u[k]] := map_take rdSrc hk
    rw [ht]
    cases ha : (u.take k).map rdSrc with
    | nil =>
      have hk0 : k = 0 := by
        have := congrArg List.length ha
        rw [List.length_map, List.length_take, List.length_nil] at this
        omega
      have hl : (pf2St B pos []).length = B.length + 2 := by simp [pf2St, sfX]
      refine (pf2_new B hB ls n i pos u k hk hu hw R _).imp (fun s' h => ⟨?_, trivial⟩) (fun _ h => h) (fun _ _ h => h)
      simp only [hl]
      exact h
    | cons s0 a =>
      have hm : (s0 :: a).length = k := by
        rw [← ha, List.length_map, List.length_take]
        omega
      have hl : (pf2St B pos (s0 :: a)).length = B.length + 4 := by simp [pf2St, sfX]
      have h := pf2_old B hB ls n i pos u k hk hu hw k (by omega) (srcC s0) ((s0 :: a).map srcC) ((s0 :: a ++ [rdSrc u[k]]).map srcC) (by simp) (by rw [List.length_map]; exact hm) R
      have e1 : pf2St B pos (s0 :: a) = B ++ [.row 67 2 false [], .box [i64 pos, .own (B.length + 3) k], .row 67 2 false [srcC s0], .row 67 2 false ((s0 :: a).map srcC)] := by
        simp only [pf2St, sfO, sfX, hm]
        rfl
      have e2 : pf2St B pos (s0 :: a ++ [rdSrc u[k]]) = B ++ [.row 67 2 false [], .box [i64 pos, .own (B.length + 3) (k + 1)], .row 67 2 false [srcC s0], .row 67 2 false ((s0 :: a ++ [rdSrc u[k]]).map srcC)] := by
        have : (s0 :: (a ++ [rdSrc u[k]])).length = k + 1 := by
          simp only [List.length_cons, List.length_append, List.length_nil] at hm ⊢
          omega
        simp only [pf2St, List.cons_append, sfO, sfX, this]
        rfl
      simp only [hl]
      rw [e2]
      rw [e1]
      exact (h _).imp (fun s' h => ⟨h, trivial⟩) (fun _ h => h) (fun _ _ h => h)
  · rw [List.take_of_length_le (Nat.le_refl _)]
    simp only [pf2E]
    repeat refine Wp.a ?_
    refine Wp.i ?_ ?_ <;> intro h1
    · simp at h1
    · exact Wp.exit ⟨rfl, rfl⟩
def pf3E (ls : List (List UInt8)) (n i : Int) : Env := [(2, .bp 0 0), (7, .bp 3 0), (51, wordsU true ls), (52, i64 n), (53, i64 i)]
set_option maxHeartbeats 16000000 in
theorem pf3_nnew (e : Int) (ls : List (List UInt8)) (i : Nat) (hi : i < ls.length) (hn : ls.length ≤ 100000000) (hl : ls[i].length ≤ 5000000) (w : List UInt8) (r : List (List UInt8)) (hsp : spl 32 ls[i] = w :: r) (hr : r.length ≤ 10000000) (hw : ∀ t ∈ r, t.length ≤ 100000000) (hv : w ≠ valueW) (R : S → Prop) (Bx : Nat → S → Prop) :
    Wp T c_shape_Parse_L3 ⟨pf3E ls ls.length i, [.box of0, .row 54 4 false [], .row 56 2 false [], .box [i64 e, .nils, .nils]]⟩
      (fun s' => trimO 4 s' = ⟨pf3E ls ls.length (i + 1 : Nat), [.box of0, .row 54 4 false [], .row 56 2 false [], .box [i64 e, .own 5 1, .nils], .row 54 4 false [nodeC (rdNode (w :: r))], .row 54 4 false [nodeC (rdNode (w :: r))]]⟩) R Bx := by
  have hi' : (i : Int) < ls.length := by omega
  have eg : ls[i]? = some ls[i] := List.getElem?_eq_getElem hi
  have hc := fun st => cut_call ls[i] 32 (by omega) st
  rw [hsp] at hc
  have hn := fun st => readNode_call w r hr hw st
  have hb : (w == valueW) = false := beq_eq_false_iff_ne.2 hv
  have q5 : (0 : Int) < (r.length : Int) + 1 := by omega
  generalize rdNode (w :: r) = y at *
  generalize ls[i] = t at *
  simp only [nodeC] at hn ⊢
  simp only [pf3E]
  (all_goals have := fa (a5 @strC.eq_1 hi' eg hb q5); repeat' first | refine Wp.v ?_ | (apply Wp.call; exact hc _) | (refine Wp.c ?_ ?_ <;> intro))
  refine Wp.draw (by (simp [c_shape_Parse_D0, I.need]) <;> rfl) (by (simp [strC, srcsU, outsU]) <;> rfl) (by (simp [strC, srcsU, outsU]) <;> rfl) (by (unfold c_shape_Parse_D0); (repeat (first | ((first | apply Dr.op | apply Dr.opN | (apply Dr.opG; exact rfl)); ((simp [strC, srcsU, outsU]) <;> rfl); (apply Evt.all; intro; (simp [strC, srcsU, outsU]) <;> (try simp (disch := omega) only [wrap_id]) <;> first | exact ⟨rfl, rfl⟩ | exact rfl); ((simp [I.need]) <;> rfl)) | ((first | (apply Dr.opS; exact rfl; decide) | (apply Dr.opS0; exact rfl)); ((simp [I.need]) <;> rfl)) | (apply Dr.call; ((simp [strC, srcsU, outsU]) <;> rfl); exact hn _) | (apply Dr.callG; (exact rfl); ((simp [strC, srcsU, outsU]) <;> rfl); exact hn _))); exact Dr.nil) (by first | decide +kernel | exact rfl) (by (simp [M2.keep]) <;> rfl) ?_
  (have := fa @wrap_id; repeat refine Wp.f ?_)
  simp [trimO, trim, srcsU, outsU]
set_option maxHeartbeats 16000000 in
theorem pf3_nold (e : Int) (m : Nat) (hm : m ≤ 100000000) (r0 : List U) (R0 R1 : List (List U)) (ls : List (List UInt8)) (i : Nat) (hi : i < ls.length) (hn : ls.length ≤ 100000000) (hl : ls[i].length ≤ 5000000) (w : List UInt8) (r : List (List UInt8)) (hsp : spl 32 ls[i] = w :: r) (hr : r.length ≤ 10000000) (hw : ∀ t ∈ r, t.length ≤ 100000000) (hv : w ≠ valueW) (e1 : R0 ++ [nodeC (rdNode (w :: r))] = R1) (e2 : R0.length = m) (R : S → Prop) (Bx : Nat → S → Prop) :
    Wp T c_shape_Parse_L3 ⟨pf3E ls ls.length i, [.box of0, .row 54 4 false [], .row 56 2 false [], .box [i64 e, .own 5 m, .nils], .row 54 4 false [r0], .row 54 4 false R0]⟩
      (fun s' => trimO 6 s' = ⟨pf3E ls ls.length (i + 1 : Nat), [.box of0, .row 54 4 false [], .row 56 2 false [], .box [i64 e, .own 5 (m + 1), .nils], .row 54 4 false [r0], .row 54 4 false R1]⟩) R Bx := by
  have hi' : (i : Int) < ls.length := by omega
  have eg : ls[i]? = some ls[i] := List.getElem?_eq_getElem hi
  have hc := fun st => cut_call ls[i] 32 (by omega) st
  rw [hsp] at hc
  have hn := fun st => readNode_call w r hr hw st
  have hb : (w == valueW) = false := beq_eq_false_iff_ne.2 hv
  have q5 : (0 : Int) < (r.length : Int) + 1 := by omega
  have lim : (m + 1) * 64 ≤ 140737488355328 := by omega
  generalize rdNode (w :: r) = y at *
  generalize ls[i] = t at *
  simp only [nodeC, srcsU, outsU] at hn e1
  simp only [pf3E]
  (all_goals have := fa (a5 @strC.eq_1 hi' eg hb q5); repeat' first | refine Wp.v ?_ | (apply Wp.call; exact hc _) | (refine Wp.c ?_ ?_ <;> intro))
  refine Wp.draw (by (simp [c_shape_Parse_D0, I.need]) <;> rfl) (by (simp [strC, srcsU, outsU, e1, e2, lim]) <;> rfl) (by (simp [strC, srcsU, outsU, e1, e2, lim]) <;> rfl) (by (unfold c_shape_Parse_D0); (repeat (first | ((first | apply Dr.op | apply Dr.opN | (apply Dr.opG; exact rfl)); ((simp [strC, srcsU, outsU, e1, e2, lim]) <;> rfl); (apply Evt.all; intro; (simp [strC, srcsU, outsU, e1, e2, lim]) <;> (try simp (disch := omega) only [wrap_id]) <;> first | exact ⟨rfl, rfl⟩ | exact rfl); ((simp [I.need]) <;> rfl)) | ((first | (apply Dr.opS; exact rfl; decide) | (apply Dr.opS0; exact rfl)); ((simp [I.need]) <;> rfl)) | (apply Dr.call; ((simp [strC, srcsU, outsU, e1, e2, lim]) <;> rfl); exact hn _) | (apply Dr.callG; (exact rfl); ((simp [strC, srcsU, outsU, e1, e2, lim]) <;> rfl); exact hn _))); exact Dr.nil) (by first | decide +kernel | exact rfl) (by (simp [M2.keep]) <;> rfl) ?_
  (have := fa @wrap_id; repeat refine Wp.f ?_)
  simp [trimO, trim]
def vbX (b : Nat) (v : FVal) : List Ob := match v.src with
  | [] => [.row 67 2 false [], .box [i64 v.pos, .nils]]
  | s :: _ => [.row 67 2 false [], .box [i64 v.pos, .own (b + 3) v.src.length], .row 67 2 false [srcC s], .frow (v.src.map srcC)]
abbrev pfB (e : Int) (a c : U) : List Ob := [.box of0, .row 54 4 false [], .row 56 2 false [], .box [i64 e, a, c]]
set_option maxHeartbeats 32000000 in
theorem pf3_vnew (e : Int) (X : List Ob) (na : U) (hX : (X = [] ∧ na = .nils) ∨ ∃ m r1 r2, X = [.row 54 4 false r1, .row 54 4 false r2] ∧ na = .own 5 m) (ls : List (List UInt8)) (i : Nat) (hi : i < ls.length) (hn : ls.length ≤ 100000000) (hl : ls[i].length ≤ 5000000) (t1 : List UInt8) (r : List (List UInt8)) (hsp : spl 32 ls[i] = valueW :: t1 :: r) (h1 : t1.length ≤ 100000000) (hr : r.length ≤ 100000000) (hw : ∀ t ∈ r, t.length ≤ 100000000) (R : S → Prop) (Bx : Nat → S → Prop) :
    Wp T c_shape_Parse_L3 ⟨pf3E ls ls.length i, pfB e na .nils ++ X⟩
      (fun s' => trimO (4 + X.length) s' = ⟨pf3E ls ls.length (i + 1 : Nat), pfB e na (.own (4 + X.length + (vbX (4 + X.length) (rdVal (valueW :: t1 :: r))).length + 1) 1) ++ (X ++ (vbX (4 + X.length) (rdVal (valueW :: t1 :: r)) ++ [.row 56 2 false [valC (rdVal (valueW :: t1 :: r))], .row 56 2 false [valC (rdVal (valueW :: t1 :: r))]]))⟩) R Bx := by
  have hi' : (i : Int) < ls.length := by omega
  have eg : ls[i]? = some ls[i] := List.getElem?_eq_getElem hi
  have hc := fun st => cut_call ls[i] 32 (by omega) st
  rw [hsp] at hc
  have ht := fun st => readTo_call t1 h1 st
  have q5 : (0 : Int) < (r.length : Int) + 1 + 1 := by omega
  have q6 : (1 : Int) < (r.length : Int) + 1 + 1 := by omega
  have q7 : ¬ (r.length : Int) + 1 + 1 < 2 := by omega
  have hct := cut_tail2 [.str valueW] [.str t1] (r.map strC)
  rw [List.length_map] at hct
  have hB : Base (pfB e na .nils ++ X) := by
    rcases hX with ⟨rfl, rfl⟩ | ⟨m, r1, r2, rfl, rfl⟩
    · exact ⟨e, 0, [], [], [], [], [], [], 0, 0, 0, .inl rfl⟩
    · exact ⟨e, 0, r1, r2, [], [], [], [], m, 0, 0, .inr (.inl rfl)⟩
  have hl2 := fun R => pf2_loop (pfB e na .nils ++ X) hB ls ls.length i (rdTo t1) r hr hw R
  have hv : rdVal (valueW :: t1 :: r) = ⟨rdTo t1, r.map rdSrc⟩ := rfl
  rw [hv]
  generalize rdTo t1 = pos at *
  generalize r.map rdSrc = a at *
  generalize ls[i] = t at *
  rcases hX with ⟨rfl, rfl⟩ | ⟨m, r1, r2, rfl, rfl⟩
  · simp only [pf2E, pf2St, sfO, sfX, List.length_cons, List.length_nil, List.length_append, Nat.reduceAdd, List.cons_append, List.nil_append, List.append_nil] at hl2
    cases a with
    | nil =>
      simp only [pf3E, vbX, List.append_nil, List.length_cons, List.length_nil, Nat.reduceAdd, List.cons_append, List.nil_append]
      (all_goals have := fa (a5 @strC.eq_1 hi' eg q5 (a4 q6 q7 headLen_cons hct)); repeat' first | refine Wp.v ?_ | (apply Wp.call; exact hc _) | (apply Wp.call; exact ht _) | (refine Wp.c ?_ ?_ <;> intro))
      refine (hl2 _).imp (fun _ h => h.elim) (fun _ h => h) ?_
      rintro b s ⟨rfl, rfl⟩
      rw [if_pos rfl]
      (repeat' first | refine Wp.u ?_ | (refine Wp.c ?_ ?_ <;> intro))
      (have := fa @wrap_id; repeat refine Wp.f ?_)
      simp [trimO, trim, valC, srcsU]
    | cons s0 a =>
      have e2 : ((s0 :: a).map srcC).length = a.length + 1 := by simp
      simp only [pf3E, vbX, List.append_nil, List.length_cons, List.length_nil, Nat.reduceAdd, List.cons_append, List.nil_append, valC, srcsU]
      simp only [List.length_cons] at hl2
      generalize (s0 :: a).map srcC = RA at *
      (all_goals have := fa (a5 @strC.eq_1 hi' eg q5 (a4 q6 q7 headLen_cons hct)); repeat' first | refine Wp.v ?_ | (apply Wp.call; exact hc _) | (apply Wp.call; exact ht _) | (refine Wp.c ?_ ?_ <;> intro))
      refine (hl2 _).imp (fun _ h => h.elim) (fun _ h => h) ?_
      rintro b s ⟨rfl, rfl⟩
      rw [if_pos rfl]
      (all_goals have := fa e2; repeat' first | refine Wp.v ?_ | (refine Wp.c ?_ ?_ <;> intro))
      (have := fa @wrap_id; repeat refine Wp.f ?_)
      simp [trimO, trim]
  · simp only [pf2E, pf2St, sfO, sfX, List.length_cons, List.length_nil, List.length_append, Nat.reduceAdd, List.cons_append, List.nil_append, List.append_nil] at hl2
    cases a with
    | nil =>
      simp only [pf3E, vbX, List.append_nil, List.length_cons, List.length_nil, Nat.reduceAdd, List.cons_append, List.nil_append]
      (all_goals have := fa (a5 @strC.eq_1 hi' eg q5 (a4 q6 q7 headLen_cons hct)); repeat' first | refine Wp.v ?_ | (apply Wp.call; exact hc _) | (apply Wp.call; exact ht _) | (refine Wp.c ?_ ?_ <;> intro))
      refine (hl2 _).imp (fun _ h => h.elim) (fun _ h => h) ?_
      rintro b s ⟨rfl, rfl⟩
      rw [if_pos rfl]
      (repeat' first | refine Wp.u ?_ | (refine Wp.c ?_ ?_ <;> intro))
      (have := fa @wrap_id; repeat refine Wp.f ?_)
      simp [trimO, trim, valC, srcsU]
    | cons s0 a =>
      have e2 : ((s0 :: a).map srcC).length = a.length + 1 := by simp
      simp only [pf3E, vbX, List.append_nil, List.length_cons, List.length_nil, Nat.reduceAdd, List.cons_append, List.nil_append, valC, srcsU]
      simp only [List.length_cons] at hl2
      generalize (s0 :: a).map srcC = RA at *
      (all_goals have := fa (a5 @strC.eq_1 hi' eg q5 (a4 q6 q7 headLen_cons hct)); repeat' first | refine Wp.v ?_ | (apply Wp.call; exact hc _) | (apply Wp.call; exact ht _) | (refine Wp.c ?_ ?_ <;> intro))
      refine (hl2 _).imp (fun _ h => h.elim) (fun _ h => h) ?_
      rintro b s ⟨rfl, rfl⟩
      rw [if_pos rfl]
      (all_goals have := fa e2; repeat' first | refine Wp.v ?_ | (refine Wp.c ?_ ?_ <;> intro))
      (have := fa @wrap_id; repeat refine Wp.f ?_)
      simp [trimO, trim]
def Vold (e : Int) (m : Nat) (R0 R1 : List (List U)) (B B' : List Ob) : Prop := ∃ (pos : Int) (r1 r2 r3 r5 r6 : List (List U)) (n k : Nat),
  (B = [.box of0, .row 54 4 false [], .row 56 2 false [], .box [i64 e, .nils, .own 7 m], .row 67 2 false [], .box [i64 pos, .nils], .row 56 2 false r3, .row 56 2 false R0] ∧
   B' = [.box of0, .row 54 4 false [], .row 56 2 false [], .box [i64 e, .nils, .own 7 (m + 1)], .row 67 2 false [], .box [i64 pos, .nils], .row 56 2 false r3, .row 56 2 false R1]) ∨
  (B = [.box of0, .row 54 4 false [], .row 56 2 false [], .box [i64 e, .nils, .own 9 m], .row 67 2 false [], .box [i64 pos, .own 7 k], .row 67 2 false r5, .frow r6, .row 56 2 false r3, .row 56 2 false R0] ∧
   B' = [.box of0, .row 54 4 false [], .row 56 2 false [], .box [i64 e, .nils, .own 9 (m + 1)], .row 67 2 false [], .box [i64 pos, .own 7 k], .row 67 2 false r5, .frow r6, .row 56 2 false r3, .row 56 2 false R1]) ∨
  (B = [.box of0, .row 54 4 false [], .row 56 2 false [], .box [i64 e, .own 5 n, .own 9 m], .row 54 4 false r1, .row 54 4 false r2, .row 67 2 false [], .box [i64 pos, .nils], .row 56 2 false r3, .row 56 2 false R0] ∧
   B' = [.box of0, .row 54 4 false [], .row 56 2 false [], .box [i64 e, .own 5 n, .own 9 (m + 1)], .row 54 4 false r1, .row 54 4 false r2, .row 67 2 false [], .box [i64 pos, .nils], .row 56 2 false r3, .row 56 2 false R1]) ∨
  (B = [.box of0, .row 54 4 false [], .row 56 2 false [], .box [i64 e, .own 5 n, .own 11 m], .row 54 4 false r1, .row 54 4 false r2, .row 67 2 false [], .box [i64 pos, .own 9 k], .row 67 2 false r5, .frow r6, .row 56 2 false r3, .row 56 2 false R0] ∧
   B' = [.box of0, .row 54 4 false [], .row 56 2 false [], .box [i64 e, .own 5 n, .own 11 (m + 1)], .row 54 4 false r1, .row 54 4 false r2, .row 67 2 false [], .box [i64 pos, .own 9 k], .row 67 2 false r5, .frow r6, .row 56 2 false r3, .row 56 2 false R1])
theorem vold_base {e : Int} {m : Nat} {R0 R1 : List (List U)} {B B' : List Ob} (h : Vold e m R0 R1 B B') : Base B := by
  obtain ⟨pos, r1, r2, r3, r5, r6, n, k, h⟩ := h
  rcases h with ⟨rfl, _⟩ | ⟨rfl, _⟩ | ⟨rfl, _⟩ | ⟨rfl, _⟩
  · exact ⟨e, pos, r1, r2, r3, R0, r5, r6, n, m, k, .inr (.inr (.inl rfl))⟩
  · exact ⟨e, pos, r1, r2, r3, R0, r5, r6, n, m, k, .inr (.inr (.inr (.inl rfl)))⟩
  · exact ⟨e, pos, r1, r2, r3, R0, r5, r6, n, m, k, .inr (.inr (.inr (.inr (.inl rfl))))⟩
  · exact ⟨e, pos, r1, r2, r3, R0, r5, r6, n, m, k, .inr (.inr (.inr (.inr (.inr rfl))))⟩
set_option maxHeartbeats 64000000 in
theorem pf3_vold (e : Int) (m : Nat) (hm : m ≤ 100000000) (R0 R1 : List (List U)) (e2 : R0.length = m) (B B' : List Ob) (hV : Vold e m R0 R1 B B') (ls : List (List UInt8)) (i : Nat) (hi : i < ls.length) (hn : ls.length ≤ 100000000) (hl : ls[i].length ≤ 5000000) (t1 : List UInt8) (r : List (List UInt8)) (hsp : spl 32 ls[i] = valueW :: t1 :: r) (h1 : t1.length ≤ 100000000) (hr : r.length ≤ 100000000) (hw : ∀ t ∈ r, t.length ≤ 100000000)
    (e1 : R0 ++ [valC (rdVal (valueW :: t1 :: r))] = R1) (R : S → Prop) (Bx : Nat → S → Prop) :
    Wp T c_shape_Parse_L3 ⟨pf3E ls ls.length i, B⟩ (fun s' => trimO B.length s' = ⟨pf3E ls ls.length (i + 1 : Nat), B'⟩) R Bx := by
  have hi' : (i : Int) < ls.length := by omega
  have eg : ls[i]? = some ls[i] := List.getElem?_eq_getElem hi
  have hc := fun st => cut_call ls[i] 32 (by omega) st
  rw [hsp] at hc
  have ht := fun st => readTo_call t1 h1 st
  have q5 : (0 : Int) < (r.length : Int) + 1 + 1 := by omega
  have q6 : (1 : Int) < (r.length : Int) + 1 + 1 := by omega
  have q7 : ¬ (r.length : Int) + 1 + 1 < 2 := by omega
  have lim : (m + 1) * 32 ≤ 140737488355328 := by omega
  have hct := cut_tail2 [.str valueW] [.str t1] (r.map strC)
  rw [List.length_map] at hct
  have hl2 := fun R => pf2_loop B (vold_base hV) ls ls.length i (rdTo t1) r hr hw R
  have hv : rdVal (valueW :: t1 :: r) = ⟨rdTo t1, r.map rdSrc⟩ := rfl
  rw [hv] at e1
  generalize rdTo t1 = pos at *
  generalize r.map rdSrc = a at *
  generalize ls[i] = t at *
  simp only [valC, srcsU] at e1
  obtain ⟨ps, r1, r2, r3, r5, r6, n, k, hV⟩ := hV
  cases a with
  | nil =>
    rw [List.map_nil] at e1
    rcases hV with ⟨rfl, rfl⟩ | ⟨rfl, rfl⟩ | ⟨rfl, rfl⟩ | ⟨rfl, rfl⟩
    all_goals simp only [pf2E, pf2St, sfO, sfX, List.length_cons, List.length_nil, Nat.reduceAdd, List.cons_append, List.nil_append, List.append_nil] at hl2
    all_goals simp only [pf3E, List.length_cons, List.length_nil, Nat.reduceAdd]
    all_goals (all_goals have := fa (a5 @strC.eq_1 hi' eg q5 (a4 q6 q7 headLen_cons hct)); repeat' first | refine Wp.v ?_ | (apply Wp.call; exact hc _) | (apply Wp.call; exact ht _) | (refine Wp.c ?_ ?_ <;> intro))
    all_goals refine (hl2 _).imp (fun _ h => h.elim) (fun _ h => h) ?_
    all_goals (rintro b s ⟨rfl, rfl⟩; rw [if_pos rfl])
    all_goals (all_goals have := fa (a3 e1 e2 lim); repeat' first | refine Wp.v ?_ | (refine Wp.c ?_ ?_ <;> intro))
    all_goals (have := fa @wrap_id; repeat refine Wp.f ?_)
    all_goals simp [trimO, trim]
  | cons s0 a =>
    have e4 : ((s0 :: a).map srcC).length = a.length + 1 := by simp
    rcases hV with ⟨rfl, rfl⟩ | ⟨rfl, rfl⟩ | ⟨rfl, rfl⟩ | ⟨rfl, rfl⟩
    all_goals simp only [pf2E, pf2St, sfO, sfX, List.length_cons, List.length_nil, Nat.reduceAdd, List.cons_append, List.nil_append, List.append_nil] at hl2
    all_goals simp only [pf3E, List.length_cons, List.length_nil, Nat.reduceAdd]
    all_goals generalize (s0 :: a).map srcC = RA at *
    all_goals (all_goals have := fa (a5 @strC.eq_1 hi' eg q5 (a4 q6 q7 headLen_cons hct)); repeat' first | refine Wp.v ?_ | (apply Wp.call; exact hc _) | (apply Wp.call; exact ht _) | (refine Wp.c ?_ ?_ <;> intro))
    all_goals refine (hl2 _).imp (fun _ h => h.elim) (fun _ h => h) ?_
    all_goals (rintro b s ⟨rfl, rfl⟩; rw [if_pos rfl])
    all_goals (all_goals have := fa (a4 e1 e2 e4 lim); repeat' first | refine Wp.v ?_ | (refine Wp.c ?_ ?_ <;> intro))
    all_goals (have := fa @wrap_id; repeat refine Wp.f ?_)
    all_goals simp [trimO, trim]
def ndO (ns : List FNode) : U := match ns with
  | [] => .nils
  | _ :: _ => .own 5 ns.length
def ndX (ns : List FNode) : List Ob := match ns with
  | [] => []
  | y :: _ => [.row 54 4 false [nodeC y], .row 54 4 false (ns.map nodeC)]
def vlO (b : Nat) (vs : List FVal) : U := match vs with
  | [] => .nils
  | v :: _ => .own (b + (vbX b v).length + 1) vs.length
def vlX (b : Nat) (vs : List FVal) : List Ob := match vs with
  | [] => []
  | v :: _ => vbX b v ++ [.row 56 2 false [valC v], .row 56 2 false (vs.map valC)]
def pfX (x : FForm) : List Ob := pfB x.entry (ndO x.nodes) (vlO (4 + (ndX x.nodes).length) x.vals) ++ (ndX x.nodes ++ vlX (4 + (ndX x.nodes).length) x.vals)
def parU : Option FForm → U
  | some x => .tup [formU x, i64 0]
  | none => .tup [.agg [i64 0, .sl true [], .sl true []], i64 2]
theorem spl_len (q : UInt8) : ∀ l : List UInt8, (spl q l).length ≤ l.length + 1
  | [] => by simp [spl]
  | c :: l => by
    have ih := spl_len q l
    unfold spl
    split
    · rw [List.length_cons, List.length_cons]; omega
    · cases hs : spl q l with
      | nil => exact absurd hs (spl_ne q l)
      | cons w ws => rw [hs] at ih; simp only [List.length_cons] at ih ⊢; omega
theorem spl_word (q : UInt8) : ∀ {l : List UInt8}, ∀ w ∈ spl q l, w.length ≤ l.length
  | [], w, h => by
    simp only [spl, List.mem_singleton] at h
    simp [h]
  | c :: l, w, h => by
    have ih := spl_word q (l := l)
    unfold spl at h
    split at h
    · rcases List.mem_cons.1 h with rfl | h
      · simp
      · have := ih w h
        rw [List.length_cons]; omega
    · cases hs : spl q l with
      | nil => exact absurd hs (spl_ne q l)
      | cons v vs =>
        rw [hs] at h ih
        simp only at h
        rcases List.mem_cons.1 h with rfl | h
        · have := ih v (by simp)
          simp only [List.length_cons]; omega
        · have := ih w (by simp [h])
          rw [List.length_cons]; omega
set_option maxHeartbeats 32000000 in
theorem pf3_bad (x : FForm) (ls : List (List UInt8)) (i : Nat) (hi : i < ls.length) (hn : ls.length ≤ 100000000) (hl : ls[i].length ≤ 5000000) (w : List UInt8) (r : List (List UInt8)) (hsp : spl 32 ls[i] = w :: r) (hb : (w ≠ valueW ∧ x.vals ≠ []) ∨ (w = valueW ∧ r = [])) (K : S → Prop) (Bx : Nat → S → Prop) :
    Wp T c_shape_Parse_L3 ⟨pf3E ls ls.length i, pfX x⟩ K (Res c_shape_Parse (parU none)) Bx := by
  have hi' : (i : Int) < ls.length := by omega
  have eg : ls[i]? = some ls[i] := List.getElem?_eq_getElem hi
  have hc := fun st => cut_call ls[i] 32 (by omega) st
  rw [hsp] at hc
  have q5 : (0 : Int) < (r.length : Int) + 1 := by omega
  generalize ls[i] = t at *
  rcases hb with ⟨hw, hv⟩ | ⟨rfl, rfl⟩
  · have hb : (w == valueW) = false := beq_eq_false_iff_ne.2 hw
    obtain ⟨e, ns, vs⟩ := x
    simp only at hv
    cases vs with
    | nil => exact absurd rfl hv
    | cons v vs =>
      obtain ⟨ps, src⟩ := v
      have e2 : (((⟨ps, src⟩ : FVal) :: vs).map valC).length = vs.length + 1 := by simp
      have q8 : ¬ (vs.length : Int) + 1 = 0 := by omega
      have q9 : ¬ ((vs.length + 1 : Nat) : Int) = 0 := by omega
      cases ns with
      | nil =>
        cases src with
        | nil =>
          simp only [pf3E, pfX, ndO, ndX, vlO, vlX, vbX, List.length_cons, List.length_nil, Nat.reduceAdd, List.cons_append, List.nil_append, List.append_nil]
          generalize List.map valC _ = RV at *
          (all_goals have := fa (a5 @strC.eq_1 hi' eg q5 (a4 hb e2 q8 q9)); repeat' first | refine Wp.v ?_ | (apply Wp.call; exact hc _) | (refine Wp.c ?_ ?_ <;> intro))
          refine Wp.ret ?_; simp [Res, resU, res1, c_shape_Parse, parU]
        | cons s0 src =>
          simp only [pf3E, pfX, ndO, ndX, vlO, vlX, vbX, List.length_cons, List.length_nil, Nat.reduceAdd, List.cons_append, List.nil_append, List.append_nil]
          generalize List.map valC _ = RV at *
          (all_goals have := fa (a5 @strC.eq_1 hi' eg q5 (a4 hb e2 q8 q9)); repeat' first | refine Wp.v ?_ | (apply Wp.call; exact hc _) | (refine Wp.c ?_ ?_ <;> intro))
          refine Wp.ret ?_; simp [Res, resU, res1, c_shape_Parse, parU]
      | cons y ns =>
        cases src with
        | nil =>
          simp only [pf3E, pfX, ndO, ndX, vlO, vlX, vbX, List.length_cons, List.length_nil, Nat.reduceAdd, List.cons_append, List.nil_append, List.append_nil]
          generalize List.map valC _ = RV at *
          (all_goals have := fa (a5 @strC.eq_1 hi' eg q5 (a4 hb e2 q8 q9)); repeat' first | refine Wp.v ?_ | (apply Wp.call; exact hc _) | (refine Wp.c ?_ ?_ <;> intro))
          refine Wp.ret ?_; simp [Res, resU, res1, c_shape_Parse, parU]
        | cons s0 src =>
          simp only [pf3E, pfX, ndO, ndX, vlO, vlX, vbX, List.length_cons, List.length_nil, Nat.reduceAdd, List.cons_append, List.nil_append, List.append_nil]
          generalize List.map valC _ = RV at *
          (all_goals have := fa (a5 @strC.eq_1 hi' eg q5 (a4 hb e2 q8 q9)); repeat' first | refine Wp.v ?_ | (apply Wp.call; exact hc _) | (refine Wp.c ?_ ?_ <;> intro))
          refine Wp.ret ?_; simp [Res, resU, res1, c_shape_Parse, parU]
  · simp only [pf3E, pfX, pfB, List.cons_append, List.nil_append]
    generalize ndO x.nodes = uA
    generalize vlO (4 + (ndX x.nodes).length) x.vals = uO
    generalize ndX x.nodes ++ vlX (4 + (ndX x.nodes).length) x.vals = uX
    (all_goals have := fa (a3 @strC.eq_1 hi' eg); repeat' first | refine Wp.v ?_ | (apply Wp.call; exact hc _) | (refine Wp.c ?_ ?_ <;> intro))
    refine Wp.ret ?_; simp [Res, resU, res1, c_shape_Parse, parU]
theorem fStep_cons (e : Int) (ns : List FNode) (vs : List FVal) (w : List UInt8) (r : List (List UInt8)) : fStep ⟨e, ns, vs⟩ (w :: r) = if w ≠ valueW ∧ vs = [] then some ⟨e, ns ++ [rdNode (w :: r)], vs⟩ else if w ≠ valueW ∨ r.length + 1 < 2 then none else some ⟨e, ns, vs ++ [rdVal (w :: r)]⟩ := rfl
theorem pf3_go (x y : FForm) (ls : List (List UInt8)) (i : Nat) (hi : i < ls.length) (hn : ls.length ≤ 50000000) (hl : ls[i].length ≤ 5000000) (h1 : x.nodes.length ≤ ls.length) (h2 : x.vals.length ≤ ls.length) (hs : fStep x (spl 32 ls[i]) = some y) (R : S → Prop) (Bx : Nat → S → Prop) :
    Wp T c_shape_Parse_L3 ⟨pf3E ls ls.length i, pfX x⟩ (fun s' => trimO (pfX x).length s' = ⟨pf3E ls ls.length (i + 1 : Nat), pfX y⟩) R Bx := by
  have hln := spl_len 32 ls[i]
  have hwd := spl_word 32 (l := ls[i])
  generalize hw : spl 32 ls[i] = ws at *
  have hne : ws ≠ [] := hw ▸ spl_ne 32 _
  obtain ⟨e, ns, vs⟩ := x
  cases ws with
  | nil => exact absurd rfl hne
  | cons w r =>
    rw [List.length_cons] at hln
    have hr : r.length ≤ 10000000 := by omega
    have hwr : ∀ t ∈ r, t.length ≤ 100000000 := fun t ht => Nat.le_trans (hwd t (by simp [ht])) (by omega)
    rw [fStep_cons] at hs
    by_cases c1 : w ≠ valueW ∧ vs = []
    · rw [if_pos c1] at hs
      injection hs with hs
      subst hs
      obtain ⟨c1, rfl⟩ := c1
      cases ns with
      | nil => exact pf3_nnew e ls i hi (by omega) hl w r hw hr hwr c1 R Bx
      | cons z ns =>
        have h := pf3_nold e (z :: ns).length (by simp only at h1; omega) (nodeC z) ((z :: ns).map nodeC) ((z :: ns ++ [rdNode (w :: r)]).map nodeC) ls i hi (by omega) hl w r hw hr hwr c1 (by simp) (by simp) R Bx
        have e2 : (z :: ns ++ [rdNode (w :: r)]).length = (z :: ns).length + 1 := by simp
        have e1 : pfX ⟨e, z :: ns ++ [rdNode (w :: r)], []⟩ = [.box of0, .row 54 4 false [], .row 56 2 false [], .box [i64 e, .own 5 ((z :: ns).length + 1), .nils], .row 54 4 false [nodeC z], .row 54 4 false ((z :: ns ++ [rdNode (w :: r)]).map nodeC)] := by
          rw [← e2]
          rfl
        rw [e1]
        exact h
    · rw [if_neg c1] at hs
      split at hs
      · cases hs
      · rename_i c2
        injection hs with hs
        subst hs
        simp only [not_or, ne_eq, Decidable.not_not] at c2
        obtain ⟨rfl, c2⟩ := c2
        cases r with
        | nil => simp at c2
        | cons t1 r =>
          rw [List.length_cons] at hr
          have ht1 : t1.length ≤ 100000000 := hwr t1 (by simp)
          have hwr := fun t ht => hwr t (List.mem_cons_of_mem _ ht)
          generalize hv : rdVal (valueW :: t1 :: r) = v at *
          cases vs with
          | nil =>
            have h := pf3_vnew e (ndX ns) (ndO ns) (by
              cases ns with
              | nil => exact .inl ⟨rfl, rfl⟩
              | cons z ns => exact .inr ⟨_, _, _, rfl, rfl⟩) ls i hi (by omega) hl t1 r hw ht1 (by omega) hwr R Bx
            rw [hv] at h
            have e0 : pfX ⟨e, ns, []⟩ = pfB e (ndO ns) .nils ++ ndX ns := by simp [pfX, vlO, vlX]
            have e1 : pfX ⟨e, ns, [] ++ [v]⟩ = pfB e (ndO ns) (.own (4 + (ndX ns).length + (vbX (4 + (ndX ns).length) v).length + 1) 1) ++ (ndX ns ++ (vbX (4 + (ndX ns).length) v ++ [.row 56 2 false [valC v], .row 56 2 false [valC v]])) := rfl
            have e3 : (pfB e (ndO ns) .nils ++ ndX ns).length = 4 + (ndX ns).length := by simp; omega
            rw [e1, e0, e3]
            exact h
          | cons v0 vs =>
            have e2 : (v0 :: vs ++ [v]).length = (v0 :: vs).length + 1 := by simp
            have hV : Vold e (v0 :: vs).length ((v0 :: vs).map valC) ((v0 :: vs ++ [v]).map valC) (pfX ⟨e, ns, v0 :: vs⟩) (pfX ⟨e, ns, v0 :: vs ++ [v]⟩) := by
              obtain ⟨p0, s0⟩ := v0
              have e5 : ∀ b, vlO b (⟨p0, s0⟩ :: vs ++ [v]) = .own (b + (vbX b ⟨p0, s0⟩).length + 1) ((⟨p0, s0⟩ :: vs : List FVal).length + 1) := fun b => by rw [← e2]; rfl
              have e6 : ∀ b, vlX b (⟨p0, s0⟩ :: vs ++ [v]) = vbX b ⟨p0, s0⟩ ++ [.row 56 2 false [valC ⟨p0, s0⟩], .row 56 2 false ((⟨p0, s0⟩ :: vs ++ [v]).map valC)] := fun b => rfl
              unfold pfX
              simp only [e5, e6]
              cases ns with
              | nil =>
                cases s0 with
                | nil => exact ⟨p0, [], [], [valC ⟨p0, []⟩], [], [], 0, 0, .inl ⟨rfl, rfl⟩⟩
                | cons q s0 => exact ⟨p0, [], [], [valC ⟨p0, q :: s0⟩], [srcC q], (q :: s0).map srcC, 0, (q :: s0).length, .inr (.inl ⟨rfl, rfl⟩)⟩
              | cons z ns =>
                cases s0 with
                | nil => exact ⟨p0, [nodeC z], (z :: ns).map nodeC, [valC ⟨p0, []⟩], [], [], (z :: ns).length, 0, .inr (.inr (.inl ⟨rfl, rfl⟩))⟩
                | cons q s0 => exact ⟨p0, [nodeC z], (z :: ns).map nodeC, [valC ⟨p0, q :: s0⟩], [srcC q], (q :: s0).map srcC, (z :: ns).length, (q :: s0).length, .inr (.inr (.inr ⟨rfl, rfl⟩))⟩
            exact pf3_vold e (v0 :: vs).length (by simp only at h2; omega) _ _ (by simp) _ _ hV ls i hi (by omega) hl t1 r hw ht1 (by omega) hwr (by rw [hv]; simp) R Bx
theorem fStep_len {x y : FForm} {w : List (List UInt8)} (h : fStep x w = some y) : x.nodes.length ≤ y.nodes.length ∧ y.nodes.length ≤ x.nodes.length + 1 ∧ x.vals.length ≤ y.vals.length ∧ y.vals.length ≤ x.vals.length + 1 := by
  unfold fStep at h
  split at h
  · injection h with h
    subst h
    rename_i h
    simp
  · split at h
    · cases h
    · injection h with h
      subst h
      simp
theorem pf3_no (x : FForm) (ls : List (List UInt8)) (i : Nat) (hi : i < ls.length) (hn : ls.length ≤ 50000000) (hl : ls[i].length ≤ 5000000) (hs : fStep x (spl 32 ls[i]) = none) (K : S → Prop) (Bx : Nat → S → Prop) :
    Wp T c_shape_Parse_L3 ⟨pf3E ls ls.length i, pfX x⟩ K (Res c_shape_Parse (parU none)) Bx := by
  cases hw : spl 32 ls[i] with
  | nil => exact absurd hw (spl_ne 32 _)
  | cons w r =>
    refine pf3_bad x ls i hi (by omega) hl w r hw ?_ K Bx
    obtain ⟨e, ns, vs⟩ := x
    rw [hw, fStep_cons] at hs
    by_cases c1 : w ≠ valueW ∧ vs = []
    · rw [if_pos c1] at hs
      cases hs
    · rw [if_neg c1] at hs
      by_cases c2 : w = valueW
      · refine .inr ⟨c2, ?_⟩
        cases r with
        | nil => rfl
        | cons a r =>
          rw [if_neg (by simp [c2])] at hs
          cases hs
      · exact .inl ⟨c2, fun h => c1 ⟨c2, h⟩⟩
theorem pf3_loop (ls : List (List UInt8)) (hn : ls.length ≤ 50000000) (hl : ∀ t ∈ ls, t.length ≤ 5000000) (e : Int) :
    Wp T (.loop c_shape_Parse_L3) ⟨pf3E ls ls.length 0, pfX ⟨e, [], []⟩⟩ (fun _ => False) (fun s => fRun ⟨e, [], []⟩ ls = none ∧ Res c_shape_Parse (parU none) s)
      (fun b s' => b = 0 ∧ ∃ x, fRun ⟨e, [], []⟩ ls = some x ∧ s' = ⟨pf3E ls ls.length ls.length ++ [(54, .bool false)], pfX x⟩) := by
  refine Wp.loop (fun a : Nat × FForm => ls.length - a.1) (fun a => ⟨pf3E ls ls.length a.1, pfX a.2⟩) (fun a => a.1 ≤ ls.length ∧ a.2.nodes.length ≤ a.1 ∧ a.2.vals.length ≤ a.1 ∧ fRun a.2 (ls.drop a.1) = fRun ⟨e, [], []⟩ ls) (fun a ha => ?_) (0, ⟨e, [], []⟩) ⟨Nat.zero_le _, Nat.le_refl _, Nat.le_refl _, rfl⟩
  obtain ⟨k, x⟩ := a
  obtain ⟨h1, h2, h3, h4⟩ := ha
  simp only at h1 h2 h3 h4 ⊢
  by_cases hk : k < ls.length
  · have hd : ls.drop k = ls[k] :: ls.drop (k + 1) := List.drop_eq_getElem_cons hk
    rw [hd, fRun] at h4
    have hlk := hl _ (List.getElem_mem hk)
    cases hs : fStep x (spl 32 ls[k]) with
    | none =>
      rw [hs] at h4
      exact (pf3_no x ls k hk hn hlk hs _ _).imp (fun _ h => h) (fun _ h => ⟨h4.symm, h⟩) (fun _ _ h => h)
    | some y =>
      rw [hs] at h4
      have hln := fStep_len hs
      refine (pf3_go x y ls k hk hn hlk (by omega) (by omega) hs _ _).imp (fun s' h => ⟨(k + 1, y), h, ?_, ?_, ?_, ?_, h4⟩) (fun _ h => h) (fun _ _ h => h)
      · simp only; omega
      · simp only; omega
      · simp only; omega
      · simp only; omega
  · have hk : k = ls.length := by omega
    subst hk
    rw [List.drop_of_length_le (Nat.le_refl _), fRun] at h4
    simp only [pf3E]
    generalize hX : pfX x = X
    repeat refine Wp.a ?_
    refine Wp.i ?_ ?_ <;> intro h1
    · simp at h1
    · exact Wp.exit ⟨rfl, x, h4.symm, by rw [hX]; rfl⟩
end Go.Proofs.YtbcojbmalcghbaaDoor.M2
namespace Go.Proofs.YtbcojbmalcghbaaDoor.M2
open Go
def sumL : List (List UInt8) → Nat
  | [] => 0
  | t :: l => t.length + 1 + sumL l
theorem sumL_app : ∀ (a b : List (List UInt8)), sumL (a ++ b) = sumL a + sumL b
  | [], b => by simp [sumL]
  | t :: a, b => by
    have := sumL_app a b
    rw [List.cons_append]
    simp only [sumL]
    omega
theorem sumL_len : ∀ (a : List (List UInt8)), a.length ≤ sumL a
  | [] => by simp [sumL]
  | t :: a => by
    have := sumL_len a
    simp only [sumL, List.length_cons]
    omega
theorem sumL_mem : ∀ {a : List (List UInt8)}, ∀ t ∈ a, t.length + 1 ≤ sumL a
  | u :: a, t, h => by
    simp only [sumL]
    rcases List.mem_cons.1 h with rfl | h
    · omega
    · have := sumL_mem t h
      omega
theorem spl_sum (q : UInt8) : ∀ l : List UInt8, sumL (spl q l) = l.length + 1
  | [] => rfl
  | c :: l => by
    have ih := spl_sum q l
    unfold spl
    split
    · simp only [sumL, List.length_cons, List.length_nil]; omega
    · cases hs : spl q l with
      | nil => exact absurd hs (spl_ne q l)
      | cons w ws => rw [hs] at ih; simp only [sumL, List.length_cons] at ih ⊢; omega
theorem spO_len : ∀ r : List (List UInt8), (spO r).1.length ≤ r.length
  | [] => by simp [spO]
  | [w] => by simp [spO]
  | w :: t :: r => by
    have ih := spO_len r
    unfold spO
    split
    · simp only [List.length_cons]; omega
    · simp
theorem rdRest_len (op n : Int) (r : List (List UInt8)) : (rdRest op n r).args.length ≤ r.length ∧ (rdRest op n r).outs.length ≤ r.length := by
  unfold rdRest
  split
  · refine ⟨?_, Nat.le_trans (spO_len _) (List.IsSuffix.length_le (List.dropWhile_suffix _))⟩
    simp only [List.length_map]
    exact List.IsPrefix.length_le (List.takeWhile_prefix _)
  · simp [badN]
theorem rdNode_len : ∀ (ws : List (List UInt8)), (rdNode ws).args.length ≤ ws.length ∧ (rdNode ws).outs.length ≤ ws.length
  | [] => by simp [rdNode, badN]
  | w :: r => by
    by_cases h : opK w 19 = 15
    · match r with
      | [] =>
        rw [rdNode_15n h]
        have := rdRest_len 15 0 []
        exact ⟨Nat.le_trans this.1 (by simp), Nat.le_trans this.2 (by simp)⟩
      | t :: r =>
        cases hn : pNum t with
        | none =>
          rw [rdNode_15b h hn]
          simp [badN]
        | some n =>
          rw [rdNode_15s h hn]
          have := rdRest_len 15 n r
          simp only [List.length_cons]
          omega
    · rw [rdNode_o h]
      have := rdRest_len (opK w 19) 0 r
      simp only [List.length_cons]
      omega
theorem rdVal_len (ws : List (List UInt8)) : (rdVal ws).src.length ≤ ws.length := by
  simp only [rdVal, List.length_map, List.length_drop]
  omega
theorem sum_rd : ∀ (A : List (List UInt8)), sumO (A.map fun t => rdNode (spl 32 t)) ≤ sumL A
  | [] => by simp [sumO]
  | t :: A => by
    have ih := sum_rd A
    have h1 := (rdNode_len (spl 32 t)).2
    have h2 := sumL_len (spl 32 t)
    have h3 := spl_sum 32 t
    rw [List.map_cons]
    simp only [sumO, sumL]
    omega
theorem words_len (t : List UInt8) : (spl 32 t).length ≤ t.length + 1 := by
  have h2 := sumL_len (spl 32 t)
  have h3 := spl_sum 32 t
  omega
theorem run_wide {e : Int} {D : List (List UInt8)} {x : FForm} (h : fRun ⟨e, [], []⟩ D = some x) (hD : sumL D ≤ 10000000) : Wide x := by
  obtain ⟨A, B, e1, e2, e3, e4, _⟩ := fRun_some h
  simp only [List.nil_append] at e3 e4
  have hs : sumL D = sumL A + sumL B := by rw [e1, sumL_app]
  have hA := sumL_len A
  have hB := sumL_len B
  refine ⟨?_, ?_, ?_, ?_, ?_, ?_⟩
  · rw [e3, List.length_map]; omega
  · rw [e4, List.length_map]; omega
  · intro y hy
    rw [e3] at hy
    obtain ⟨t, ht, rfl⟩ := List.mem_map.1 hy
    have h1 := (rdNode_len (spl 32 t)).1
    have h2 := words_len t
    have h3 := sumL_mem t ht
    omega
  · intro y hy
    rw [e3] at hy
    obtain ⟨t, ht, rfl⟩ := List.mem_map.1 hy
    have h1 := (rdNode_len (spl 32 t)).2
    have h2 := words_len t
    have h3 := sumL_mem t ht
    omega
  · intro v hv
    rw [e4] at hv
    obtain ⟨t, ht, rfl⟩ := List.mem_map.1 hv
    have h1 := rdVal_len (spl 32 t)
    have h2 := words_len t
    have h3 := sumL_mem t ht
    omega
  · rw [e3]
    have := sum_rd A
    omega
theorem pForm0_bad {l : List (List UInt8)} (h : pBadH l) : pForm0 l = none := by unfold pForm0; rw [if_pos h]
theorem pForm0_good {l : List (List UInt8)} (h : ¬ pBadH l) : pForm0 l = (match fRun ⟨rdTo ((pHead l).getD 1 []), [], []⟩ l.tail.dropLast with
    | some x => if rightF x then some x else none
    | none => none) := by unfold pForm0; rw [if_neg h]; first | done | (cases fRun ⟨rdTo ((pHead l).getD 1 []), [], []⟩ l.tail.dropLast <;> rfl)
theorem lines_apart {l : List (List UInt8)} (h : 2 ≤ l.length) : ∃ l0 D z, l = l0 :: (D ++ [z]) := by
  match l, h with
  | a :: b :: r, _ => exact ⟨a, (b :: r).dropLast, (b :: r).getLast (by simp), by rw [List.dropLast_concat_getLast]⟩
end Go.Proofs.YtbcojbmalcghbaaDoor.M2
namespace Go.Proofs.YtbcojbmalcghbaaDoor.M2
open Go
attribute [local simp] ev1 M2.get put A.ev ld sub part elems bin arith un opt idx fillC cellsO splice over newOb sto fillR laidOwn appTo appRow touch touchN touchM touchE touchA plainU flatU plainAs allM rowAt stoRow accM_nil accM_cons accMM_nil accMM_cons frz_int frz_bool frz_str frz_slt frz_nils frz_nilI frz_nilF frz_own frzRow_row frzRow_frow Ob.blw blw_bool blw_int blw_str blw_nils blw_nilI blw_nilF blw_nilp blw_nilm blw_sl blw_own blw_bp blw_rp blw_mp blw_it params
attribute [local simp] frz_agg frz_tup frz_iface frzS_agg frzS_iface accMS_cons frzS_int frzS_bool frzS_str frzS_slt frzS_nils frzS_nilI beq_dec bne_dec
def frzQ (n : Nat) (st : List Ob) (id : Nat) : Option Ob → Option (U × List Ob)
  | some (.frow xs) => if xs.length = n then some (.sl true xs, st) else none
  | some (.row _ _ false xs) => if xs.length = n then some (.sl true xs, st.set id (.frow xs)) else none
  | some (.row _ _ true xs) => if xs.length = n then (accM (accM (frz 9)) st xs).bind fun (xs, st) => match st[id]? with
    | some (.row _ _ _ ys) => if ys.length = n then some (.sl true xs, st.set id (.frow xs)) else none
    | _ => none
    else none
  | _ => none
theorem frz10_own (st : List Ob) (id n : Nat) : frz 10 st (.own id n) = frzQ n st id st[id]? := by
  rw [frz]
  unfold frzQ
  rfl
theorem frzQ_row (n : Nat) (st : List Ob) (id t e : Nat) (xs : List (List U)) : frzQ n st id (some (.row t e false xs)) = if xs.length = n then some (.sl true xs, st.set id (.frow xs)) else none := rfl
theorem brw_own (st : List Ob) (id n t e : Nat) (xs : List (List U)) (h : st[id]? = some (.row t e false xs)) (h2 : xs.length = n) : brw 11 st (.own id n) = some (.sl false xs) := by
  unfold brw
  simp only [h, h2, if_true]
theorem right_lent (e : Int) (ns : List FNode) (vs : List FVal) (hx : Wide ⟨e, ns, vs⟩) (st : List Ob) (p q : Bool) (uA uC : U) (hA : brw 11 st uA = some (.sl p (ns.map nodeC))) (hC : brw 11 st uC = some (.sl q (vs.map valC))) : Cl T n_shape_Right [.agg [i64 e, uA, uC]] st (.bool (rightF ⟨e, ns, vs⟩)) st := by
  refine Cl.lend (fn := c_shape_Right) rfl rfl (bs := [formU ⟨e, ns, vs⟩ p q]) rfl ?_ (right_call p q ⟨e, ns, vs⟩ hx st)
  have h1 : brwA frzD st (.agg [i64 e, uA, uC]) = some (.agg [i64 e, .sl p (ns.map nodeC), .sl q (vs.map valC)]) := by
    show brw 12 st (.agg [i64 e, uA, uC]) = _
    have h0 : brw 11 st (i64 e) = some (i64 e) := rfl
    rw [brw]
    simp only [allM, h0, hA, hC, Option.bind_some]
  have h2 : brwA frzD st (formU ⟨e, ns, vs⟩ p q) = some (.agg [i64 e, .sl p (ns.map nodeC), .sl q (vs.map valC)]) := rfl
  simp only [allM, h1, h2]
def pfTail : C := match c_shape_Parse.body with
  | .seq _ (.seq _ (.seq _ (.seq _ (.seq _ (.seq _ (.seq _ c)))))) => c
  | c => c
set_option maxHeartbeats 32000000 in
theorem pf4_end (x : FForm) (hx : Wide x) (uD uN uI : U) : Wp T pfTail ⟨[(2, .bp 0 0), (7, .bp 3 0), (51, uD), (52, uN), (53, uI), (54, .bool false)], pfX x⟩ (Res c_shape_Parse (parU (if rightF x then some x else none))) (Res c_shape_Parse (parU (if rightF x then some x else none))) (fun _ _ => False) := by
  obtain ⟨e, ns, vs⟩ := x
  have hr := fun st p q uA uC => right_lent e ns vs hx st p q uA uC
  generalize rightF ⟨e, ns, vs⟩ = r at *
  have hu : parU (if r = true then some ⟨e, ns, vs⟩ else none) = if r = true then .tup [.agg [i64 e, .sl true (ns.map nodeC), .sl true (vs.map valC)], i64 0] else parU none := by cases r <;> rfl
  rw [hu]
  show Wp T (.seq _ _) _ _ _ _
  clear hx hu
  cases ns with
  | nil =>
    cases vs with
    | nil =>
      have h := hr (pfX ⟨e, [], []⟩) true true .nils .nils rfl rfl
      simp only [pfX, ndO, ndX, vlO, vlX, vbX, List.cons_append, List.nil_append, List.append_nil] at h ⊢
      try simp only [List.length_cons, List.length_nil, Nat.reduceAdd] at h ⊢
      cases r
      all_goals (repeat' first | refine Wp.u ?_ | (apply Wp.call; exact h) | (refine Wp.c ?_ ?_ <;> intro))
      all_goals refine Wp.ret ?_; simp [Res, resU, res1, c_shape_Parse, parU, frz10_own, frzQ_row]
    | cons v vs =>
      obtain ⟨ps, src⟩ := v
      cases src with
      | nil =>
        have e2 : ((⟨ps, []⟩ :: vs : List FVal).map valC).length = (⟨ps, []⟩ :: vs : List FVal).length := List.length_map _
        have h := hr (pfX ⟨e, [], ⟨ps, []⟩ :: vs⟩) true false .nils (.own 7 (⟨ps, []⟩ :: vs : List FVal).length) rfl (brw_own _ _ _ 56 2 _ rfl e2)
        simp only [pfX, ndO, ndX, vlO, vlX, vbX, List.cons_append, List.nil_append, List.append_nil] at h ⊢
        generalize List.map valC (⟨ps, []⟩ :: vs) = RV at *
        generalize (⟨ps, []⟩ :: vs : List FVal).length = m at *
        simp only [List.length_cons, List.length_nil, Nat.reduceAdd] at h ⊢
        cases r
        all_goals (repeat' first | refine Wp.u ?_ | (apply Wp.call; exact h) | (refine Wp.c ?_ ?_ <;> intro))
        all_goals refine Wp.ret ?_; simp [Res, resU, res1, c_shape_Parse, parU, frz10_own, frzQ_row, e2]
      | cons s0 src =>
        have e2 : ((⟨ps, s0 :: src⟩ :: vs : List FVal).map valC).length = (⟨ps, s0 :: src⟩ :: vs : List FVal).length := List.length_map _
        have h := hr (pfX ⟨e, [], ⟨ps, s0 :: src⟩ :: vs⟩) true false .nils (.own 9 (⟨ps, s0 :: src⟩ :: vs : List FVal).length) rfl (brw_own _ _ _ 56 2 _ rfl e2)
        simp only [pfX, ndO, ndX, vlO, vlX, vbX, List.cons_append, List.nil_append, List.append_nil] at h ⊢
        generalize List.map srcC (s0 :: src) = RS at *
        generalize (s0 :: src).length = k at *
        generalize List.map valC (⟨ps, s0 :: src⟩ :: vs) = RV at *
        generalize (⟨ps, s0 :: src⟩ :: vs : List FVal).length = m at *
        simp only [List.length_cons, List.length_nil, Nat.reduceAdd] at h ⊢
        cases r
        all_goals (repeat' first | refine Wp.u ?_ | (apply Wp.call; exact h) | (refine Wp.c ?_ ?_ <;> intro))
        all_goals refine Wp.ret ?_; simp [Res, resU, res1, c_shape_Parse, parU, frz10_own, frzQ_row, e2]
  | cons y ns =>
    cases vs with
    | nil =>
      have e1 : ((y :: ns).map nodeC).length = (y :: ns).length := List.length_map _
      have h := hr (pfX ⟨e, y :: ns, []⟩) false true (.own 5 (y :: ns).length) .nils (brw_own _ _ _ 54 4 _ rfl e1) rfl
      simp only [pfX, ndO, ndX, vlO, vlX, vbX, List.cons_append, List.nil_append, List.append_nil] at h ⊢
      generalize List.map nodeC (y :: ns) = RN at *
      generalize (y :: ns).length = n at *
      try simp only [List.length_cons, List.length_nil, Nat.reduceAdd] at h ⊢
      cases r
      all_goals (repeat' first | refine Wp.u ?_ | (apply Wp.call; exact h) | (refine Wp.c ?_ ?_ <;> intro))
      all_goals refine Wp.ret ?_; simp [Res, resU, res1, c_shape_Parse, parU, frz10_own, frzQ_row, e1]
    | cons v vs =>
      obtain ⟨ps, src⟩ := v
      cases src with
      | nil =>
        have e1 : ((y :: ns).map nodeC).length = (y :: ns).length := List.length_map _
        have e2 : ((⟨ps, []⟩ :: vs : List FVal).map valC).length = (⟨ps, []⟩ :: vs : List FVal).length := List.length_map _
        have h := hr (pfX ⟨e, y :: ns, ⟨ps, []⟩ :: vs⟩) false false (.own 5 (y :: ns).length) (.own 9 (⟨ps, []⟩ :: vs : List FVal).length) (brw_own _ _ _ 54 4 _ rfl e1) (brw_own _ _ _ 56 2 _ rfl e2)
        simp only [pfX, ndO, ndX, vlO, vlX, vbX, List.cons_append, List.nil_append, List.append_nil] at h ⊢
        generalize List.map nodeC (y :: ns) = RN at *
        generalize (y :: ns).length = n at *
        generalize List.map valC (⟨ps, []⟩ :: vs) = RV at *
        generalize (⟨ps, []⟩ :: vs : List FVal).length = m at *
        simp only [List.length_cons, List.length_nil, Nat.reduceAdd] at h ⊢
        cases r
        all_goals (repeat' first | refine Wp.u ?_ | (apply Wp.call; exact h) | (refine Wp.c ?_ ?_ <;> intro))
        all_goals refine Wp.ret ?_; simp [Res, resU, res1, c_shape_Parse, parU, frz10_own, frzQ_row, e1, e2]
      | cons s0 src =>
        have e1 : ((y :: ns).map nodeC).length = (y :: ns).length := List.length_map _
        have e2 : ((⟨ps, s0 :: src⟩ :: vs : List FVal).map valC).length = (⟨ps, s0 :: src⟩ :: vs : List FVal).length := List.length_map _
        have h := hr (pfX ⟨e, y :: ns, ⟨ps, s0 :: src⟩ :: vs⟩) false false (.own 5 (y :: ns).length) (.own 11 (⟨ps, s0 :: src⟩ :: vs : List FVal).length) (brw_own _ _ _ 54 4 _ rfl e1) (brw_own _ _ _ 56 2 _ rfl e2)
        simp only [pfX, ndO, ndX, vlO, vlX, vbX, List.cons_append, List.nil_append, List.append_nil] at h ⊢
        generalize List.map nodeC (y :: ns) = RN at *
        generalize (y :: ns).length = n at *
        generalize List.map srcC (s0 :: src) = RS at *
        generalize (s0 :: src).length = k at *
        generalize List.map valC (⟨ps, s0 :: src⟩ :: vs) = RV at *
        generalize (⟨ps, s0 :: src⟩ :: vs : List FVal).length = m at *
        simp only [List.length_cons, List.length_nil, Nat.reduceAdd] at h ⊢
        cases r
        all_goals (repeat' first | refine Wp.u ?_ | (apply Wp.call; exact h) | (refine Wp.c ?_ ?_ <;> intro))
        all_goals refine Wp.ret ?_; simp [Res, resU, res1, c_shape_Parse, parU, frz10_own, frzQ_row, e1, e2]
theorem pf3_start (e : Int) : pfX ⟨e, [], []⟩ = [.box of0, .row 54 4 false [], .row 56 2 false [], .box [i64 e, .nils, .nils]] := rfl
set_option maxHeartbeats 32000000 in
theorem parse_call (s : List UInt8) (hs : s.length ≤ 4000000) (st : List Ob) : Cl T n_shape_Parse [.str s] st (parU (pForm s)) st := by
  refine Wp.pure (fn := c_shape_Parse) rfl rfl rfl («as» := [.str s]) rfl ?_
  have hc := fun st => cut_call s 10 (by omega) st
  have hsum := spl_sum 10 s
  have hne := spl_ne 10 s
  unfold pForm
  generalize spl 10 s = L at *
  have hlen := sumL_len L
  cases hL : L with
  | nil => exact absurd hL hne
  | cons l0 r =>
    have hml := fun t ht => sumL_mem (a := L) t ht
    have hl0 : l0.length ≤ 4000000 := by
      have := hml l0 (by rw [hL]; simp)
      omega
    have hc0 := fun st => cut_call l0 32 (by omega) st
    have hw0 := spl_ne 32 l0
    have hwm := spl_word 32 (l := l0)
    have hpH : pHead (l0 :: r) = spl 32 l0 := rfl
    cases r with
    | nil =>
      rw [hL] at hc
      rw [pForm0_bad (.inl (by simp))]
      generalize spl 32 l0 = W at *
      (all_goals have := fa @strC.eq_1; repeat' first | refine Wp.v ?_ | (apply Wp.call; exact hc _) | (apply Wp.call; exact hc0 _) | (refine Wp.c ?_ ?_ <;> intro))
      refine Wp.ret ?_; simp [Res, resU, res1, c_shape_Parse, parU]
    | cons r1 r =>
      obtain ⟨l0', D, z, e0⟩ := lines_apart (l := l0 :: r1 :: r) (by simp)
      have e00 : l0' = l0 := by
        have := congrArg List.head? e0
        simpa using this.symm
      subst e00
      rw [e0] at hL hpH ⊢
      clear e0 r r1
      subst hL
      rw [sumL, sumL_app] at hsum
      have hD : sumL D ≤ 4000001 := by omega
      have hDl := sumL_len D
      have hz : z.length ≤ 4000000 := by
        simp only [sumL] at hsum
        omega
      have htd : (l0' :: (D ++ [z])).tail.dropLast = D := by simp
      have hg := pForm0_good (l := l0' :: (D ++ [z]))
      have hb := pForm0_bad (l := l0' :: (D ++ [z]))
      rw [htd, hpH] at hg
      have hB : pBadH (l0' :: (D ++ [z])) ↔ z ≠ [] ∨ (spl 32 l0').length ≠ 2 ∨ (spl 32 l0').headD [] ≠ entryW := by
        unfold pBadH
        rw [hpH]
        have h1 : (l0' :: (D ++ [z])).getLastD [] = z := by rw [List.getLastD_cons, List.getLastD_concat]
        have h2 : ¬ (l0' :: (D ++ [z])).length < 2 := by simp
        rw [h1]
        exact ⟨fun h => h.resolve_left h2, .inr⟩
      have ml : ((l0' :: (D ++ [z])).map strC).length = D.length + 2 := by simp
      have m0 : ∀ h, ((l0' :: (D ++ [z])).map strC)[0]'h = [.str l0'] := fun _ => rfl
      have mn : ∀ h, ((l0' :: (D ++ [z])).map strC)[D.length + 1]'h = [.str z] := fun h => by simp [strC]
      have mh : headLen 1 ((l0' :: (D ++ [z])).map strC) = true := rfl
      have mc : cut ((l0' :: (D ++ [z])).map strC) 1 ((D.length : Int) + 1) = some (D.map strC) := by
        unfold cut
        rw [if_pos ⟨by omega, by omega, by rw [ml]; omega⟩]
        have : ((D.length : Int) + 1).toNat = D.length + 1 := by omega
        rw [this]
        simp
      generalize pForm0 (l0' :: (D ++ [z])) = out at *
      rw [hB] at hg hb
      clear hB hpH htd
      simp only [wordsU] at hc
      generalize (l0' :: (D ++ [z])).map strC = M at *
      have mt : ((D.length : Int) + 1).toNat = D.length + 1 := by omega
      have mw : IntKind.wrap .i64 ((D.length : Int) + 2 - 1) = (D.length : Int) + 1 := by rw [wrap_id] <;> omega
      have mw2 : IntKind.wrap .i64 ((D.length : Int) + 1) = (D.length : Int) + 1 := by rw [wrap_id] <;> omega
      have q1 : ¬ (D.length : Int) + 1 < 1 := by omega
      have q2 : (0 : Int) < (D.length : Int) + 2 := by omega
      have q3 : (0 : Int) ≤ (D.length : Int) + 1 := by omega
      have q4 : (D.length : Int) + 1 < (D.length : Int) + 2 := by omega
      cases z with
      | cons c z =>
        rw [hb (.inl (by simp))]
        generalize spl 32 l0' = W at *
        (all_goals have := fa (a5 @strC.eq_1 ml m0 mn (a5 mt mw mw2 q1 (a3 q2 q3 q4))); repeat' first | refine Wp.v ?_ | (apply Wp.call; exact hc _) | (apply Wp.call; exact hc0 _) | (refine Wp.c ?_ ?_ <;> intro))
        refine Wp.ret ?_; simp [Res, resU, res1, c_shape_Parse, parU]
      | nil =>
        generalize spl 32 l0' = W at *
        match W, hw0 with
        | [w0], _ =>
          rw [hb (.inr (.inl (by simp)))]
          (all_goals have := fa (a5 @strC.eq_1 ml m0 mn (a5 mt mw mw2 q1 (a3 q2 q3 q4))); repeat' first | refine Wp.v ?_ | (apply Wp.call; exact hc _) | (apply Wp.call; exact hc0 _) | (refine Wp.c ?_ ?_ <;> intro))
          refine Wp.ret ?_; simp [Res, resU, res1, c_shape_Parse, parU]
        | w0 :: w1 :: w2 :: W, _ =>
          have q5 : ¬ (W.length : Int) + 1 + 1 + 1 = 2 := by omega
          rw [hb (.inr (.inl (by simp)))]
          (all_goals have := fa (a5 @strC.eq_1 ml m0 mn (a5 mt mw mw2 q1 (a4 q2 q3 q4 q5))); repeat' first | refine Wp.v ?_ | (apply Wp.call; exact hc _) | (apply Wp.call; exact hc0 _) | (refine Wp.c ?_ ?_ <;> intro))
          refine Wp.ret ?_; simp [Res, resU, res1, c_shape_Parse, parU]
        | [w0, w1], _ =>
          by_cases he : w0 = entryW
          · subst he
            have ht := fun st => readTo_call w1 (Nat.le_trans (hwm w1 (by simp)) (by omega)) st
            have hl3 := pf3_loop D (by omega) (fun t ht => by have := sumL_mem t ht; omega) (rdTo w1)
            rw [hg (by simp)]
            simp only [List.getD_cons_succ, List.getD_cons_zero]
            have hwide := fun x (h : fRun ⟨rdTo w1, [], []⟩ D = some x) => run_wide h (by omega)
            generalize rdTo w1 = e at *
            generalize fRun ⟨e, [], []⟩ D = o at *
            rw [pf3_start] at hl3
            simp only [pf3E] at hl3
            (all_goals have := fa (a5 @strC.eq_1 ml m0 mn (a5 mt mw mw2 q1 (a5 q2 q3 q4 mh mc))); repeat' first | refine Wp.v ?_ | (apply Wp.call; exact hc _) | (apply Wp.call; exact hc0 _) | (apply Wp.call; exact ht _) | (refine Wp.c ?_ ?_ <;> intro))
            refine hl3.imp (fun _ h => h.elim) (fun _ h => ?_) ?_
            · obtain ⟨rfl, h⟩ := h
              exact h
            · rintro b s ⟨rfl, x, rfl, rfl⟩
              rw [if_pos rfl]
              exact pf4_end x (hwide x rfl) _ _ _
          · have q5 : (w0 == entryW) = false := beq_eq_false_iff_ne.2 he
            rw [hb (.inr (.inr he))]
            (all_goals have := fa (a5 @strC.eq_1 ml m0 mn (a5 mt mw mw2 q1 (a4 q2 q3 q4 q5))); repeat' first | refine Wp.v ?_ | (apply Wp.call; exact hc _) | (apply Wp.call; exact hc0 _) | (refine Wp.c ?_ ?_ <;> intro))
            refine Wp.ret ?_; simp [Res, resU, res1, c_shape_Parse, parU]
end Go.Proofs.YtbcojbmalcghbaaDoor.M2
namespace Go.Proofs.YtbcojbmalcghbaaDoor.M2
open Go
theorem rng_small {n : Int} (h1 : -100000 ≤ n) (h2 : n ≤ 100000) : rng n := ⟨by omega, by omega⟩
theorem rdTo_rng (w : List UInt8) : rng (rdTo w) := by
  unfold rdTo
  split
  · exact rng_small (by omega) (by omega)
  · split
    · split
      · exact rng_small (by omega) (by omega)
      · exact rng_small (by omega) (by omega)
    · exact rng_small (by omega) (by omega)
theorem rdSrc_rng (w : List UInt8) : SrcR (rdSrc w) := by
  have h0 : rng 0 := rng_small (by omega) (by omega)
  have hm : SrcR (-1, 0) := ⟨rng_small (by omega) (by omega), h0⟩
  unfold rdSrc
  split
  · exact ⟨h0, h0⟩
  · split
    · exact ⟨rng_small (by omega) (by omega), h0⟩
    · split
      · exact hm
      · split
        · exact hm
        · rename_i n hn
          have hr := (pNum_some hn).1
          split
          · exact ⟨rng_small (by omega) (by omega), hr⟩
          · split
            · exact ⟨rng_small (by omega) (by omega), hr⟩
            · split
              · exact ⟨rng_small (by omega) (by omega), hr⟩
              · exact hm
theorem spO_rng : ∀ r : List (List UInt8), ∀ o ∈ (spO r).1, rng o
  | [], o, h => by simp [spO] at h
  | [w], o, h => by simp [spO] at h
  | w :: t :: r, o, h => by
    unfold spO at h
    split at h
    · rcases List.mem_cons.1 h with rfl | h
      · exact rdTo_rng t
      · exact spO_rng r o h
    · simp at h
theorem opK_rng (w : List UInt8) : rng (opK w 19) := by
  rcases opK_inv w 19 with h | ⟨i, h1, h2, _⟩
  · rw [h]; exact rng_small (by omega) (by omega)
  · rw [h2]; exact rng_small (by omega) (by omega)
theorem badN_rng : NodeR badN := ⟨rng_small (by decide) (by decide), rng_small (by decide) (by decide), by simp [badN], by simp [badN]⟩
theorem rdRest_rng {op n : Int} (r : List (List UInt8)) (h1 : rng op) (h2 : rng n) : NodeR (rdRest op n r) := by
  unfold rdRest
  split
  · refine ⟨h1, h2, fun s hs => ?_, fun o ho => spO_rng _ o ho⟩
    obtain ⟨w, _, rfl⟩ := List.mem_map.1 hs
    exact rdSrc_rng w
  · exact badN_rng
theorem rdNode_rng : ∀ (ws : List (List UInt8)), NodeR (rdNode ws)
  | [] => badN_rng
  | w :: r => by
    have h0 : rng 0 := rng_small (by omega) (by omega)
    have h15 : rng 15 := rng_small (by omega) (by omega)
    by_cases h : opK w 19 = 15
    · match r with
      | [] =>
        rw [rdNode_15n h]
        exact rdRest_rng _ h15 h0
      | t :: r =>
        cases hn : pNum t with
        | none =>
          rw [rdNode_15b h hn]
          exact badN_rng
        | some n =>
          rw [rdNode_15s h hn]
          exact rdRest_rng _ h15 (pNum_some hn).1
    · rw [rdNode_o h]
      exact rdRest_rng _ (opK_rng w) h0
theorem run_rng {e : Int} (he : rng e) {D : List (List UInt8)} {x : FForm} (h : fRun ⟨e, [], []⟩ D = some x) : FormR x := by
  obtain ⟨A, B, _, e2, e3, e4, _⟩ := fRun_some h
  simp only [List.nil_append] at e2 e3 e4
  refine ⟨by rw [e2]; exact he, fun y hy => ?_, fun v hv => ?_⟩
  · rw [e3] at hy
    obtain ⟨t, _, rfl⟩ := List.mem_map.1 hy
    exact rdNode_rng _
  · rw [e4] at hv
    obtain ⟨t, _, rfl⟩ := List.mem_map.1 hv
    refine ⟨rdTo_rng _, fun s hs => ?_⟩
    obtain ⟨w, _, rfl⟩ := List.mem_map.1 hs
    exact rdSrc_rng w
theorem run_small {e : Int} {D : List (List UInt8)} {x : FForm} (h : fRun ⟨e, [], []⟩ D = some x) (hD : sumL D ≤ 9000) : Small x := by
  obtain ⟨A, B, e1, e2, e3, e4, _⟩ := fRun_some h
  simp only [List.nil_append] at e3 e4
  have hs : sumL D = sumL A + sumL B := by rw [e1, sumL_app]
  have hA := sumL_len A
  have hB := sumL_len B
  refine ⟨?_, ?_, ?_, ?_, ?_⟩
  · rw [e3, List.length_map]; omega
  · rw [e4, List.length_map]; omega
  · intro y hy
    rw [e3] at hy
    obtain ⟨t, ht, rfl⟩ := List.mem_map.1 hy
    have h1 := (rdNode_len (spl 32 t)).1
    have h2 := words_len t
    have h3 := sumL_mem t ht
    omega
  · intro y hy
    rw [e3] at hy
    obtain ⟨t, ht, rfl⟩ := List.mem_map.1 hy
    have h1 := (rdNode_len (spl 32 t)).2
    have h2 := words_len t
    have h3 := sumL_mem t ht
    omega
  · intro v hv
    rw [e4] at hv
    obtain ⟨t, ht, rfl⟩ := List.mem_map.1 hv
    have h1 := rdVal_len (spl 32 t)
    have h2 := words_len t
    have h3 := sumL_mem t ht
    omega
theorem pForm_small {s : List UInt8} {x : FForm} (h : pForm s = some x) (hs : s.length ≤ 5000) : Small x ∧ FormR x := by
  unfold pForm at h
  have hsum := spl_sum 10 s
  generalize spl 10 s = L at *
  by_cases hb : pBadH L
  · rw [pForm0_bad hb] at h
    cases h
  · rw [pForm0_good hb] at h
    split at h
    · rename_i y hy
      split at h
      · injection h with h
        subst h
        refine ⟨run_small hy ?_, run_rng (rdTo_rng _) hy⟩
        unfold pBadH at hb
        obtain ⟨l0, D, z, rfl⟩ := lines_apart (l := L) (by omega)
        rw [sumL, sumL_app] at hsum
        have : (l0 :: (D ++ [z])).tail.dropLast = D := by simp
        rw [this]
        omega
      · cases h
    · cases h
theorem print_len {x : FForm} (hx : FormT x) (hg : greatF x = false) : (printF x).length ≤ 3000000 := by
  simp only [greatF, Bool.or_eq_false_iff, List.any_eq_false, wideN, Bool.or_eq_true, decide_eq_true_eq, not_or, decide_eq_false_iff_not, Nat.not_lt] at hg
  obtain ⟨⟨⟨h1, h2⟩, h3⟩, h4⟩ := hg
  have hE : (jn (entWords x)).length ≤ 202 := jn_len (entWords x) (ent_w hx.ent)
  have hN : ((x.nodes.map (fun y => jn (nodeWords y))).flatMap endL).length ≤ x.nodes.length * 6263 := by
    have := flat_len (f := endL) (b := 6263) (l := x.nodes.map (fun y => jn (nodeWords y))) (fun l hl => by
      obtain ⟨y, hy, rfl⟩ := List.mem_map.1 hl
      have k1 := jn_len (nodeWords y) (node_w (hx.nodes y hy))
      have k2 : (nodeWords y).length ≤ 62 := by
        have := head_len y
        have := (h1 y hy).1
        have := (h1 y hy).2
        have := outW_len y.outs
        simp only [nodeWords, List.length_append, List.length_map]
        omega
      unfold endL
      rw [List.length_append, List.length_singleton]
      omega)
    rwa [List.length_map] at this
  have hV : ((x.vals.map (fun v => jn (valWords v))).flatMap endL).length ≤ x.vals.length * 10303 := by
    have := flat_len (f := endL) (b := 10303) (l := x.vals.map (fun v => jn (valWords v))) (fun l hl => by
      obtain ⟨v, hv, rfl⟩ := List.mem_map.1 hl
      have k1 := jn_len (valWords v) (val_w (hx.vals v hv))
      have k2 : (valWords v).length ≤ 102 := by
        have := h2 v hv
        simp only [valWords, valHead, List.length_append, List.length_map, List.length_cons, List.length_nil]
        omega
      unfold endL
      rw [List.length_append, List.length_singleton]
      omega)
    rwa [List.length_map] at this
  have m1 : x.nodes.length * 6263 ≤ 60 * 6263 := Nat.mul_le_mul_right _ h3
  have m2 : x.vals.length * 10303 ≤ 200 * 10303 := Nat.mul_le_mul_right _ h4
  unfold printF linesF
  rw [List.flatMap_cons, List.flatMap_append, List.length_append, List.length_append]
  have : (endL (jn (entWords x))).length = (jn (entWords x)).length + 1 := by unfold endL; rw [List.length_append, List.length_singleton]
  omega
theorem print_more {x y : FForm} (hx : rightF x = true) (hy : rightF y = true) : printF y ≠ printF x ++ [10] := fun h => by
  have hlx := lines_ok (right_k hx)
  have hly := lines_ok (right_k hy)
  have e1 : spl 10 (printF y) = linesF y ++ [[]] := spl_lines fun l hl => (hly l hl).2
  have e2 : printF x ++ [10] = (linesF x ++ [[]]).flatMap endL := by simp [printF, endL]
  have e3 : spl 10 (printF x ++ [10]) = (linesF x ++ [[]]) ++ [[]] := by
    rw [e2]
    exact spl_lines fun l hl => by
      rcases List.mem_append.1 hl with hl | hl
      · exact (hlx l hl).2
      · simp only [List.mem_singleton] at hl
        subst hl
        simp
  rw [h, e3] at e1
  have e4 := List.append_cancel_right e1
  exact (hly [] (by rw [← e4]; simp)).1 rfl
theorem print_snoc (x : FForm) : ∃ t, printF x = t ++ [10] := by
  have hne : linesF x ≠ [] := by simp [linesF]
  refine ⟨((linesF x).dropLast.flatMap endL) ++ (linesF x).getLast hne, ?_⟩
  unfold printF
  conv => lhs; rw [← List.dropLast_concat_getLast hne]
  rw [List.flatMap_append]
  simp [endL]
theorem form_less {x : FForm} {t : List UInt8} (hx : rightF x = true) (h : printF x = t ++ [10]) : pForm t = none := by
  cases hp : pForm t with
  | none => rfl
  | some y =>
    obtain ⟨k1, k2⟩ := pForm_some hp
    rw [← k2] at h
    exact absurd h (print_more k1 hx)
theorem form_more {x : FForm} (hx : rightF x = true) : pForm (printF x ++ [10]) = none := by
  cases hp : pForm (printF x ++ [10]) with
  | none => rfl
  | some y =>
    obtain ⟨k1, k2⟩ := pForm_some hp
    exact absurd k2 (print_more hx k1)
end Go.Proofs.YtbcojbmalcghbaaDoor.M2
