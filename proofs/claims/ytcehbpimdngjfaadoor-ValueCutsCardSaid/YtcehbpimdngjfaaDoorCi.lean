/- What the functions answer in M2. Part 34: the ways to each node, as the program has them. -/
import Derived.Test.YtcehbpimdngjfaaDoorCh
set_option linter.unusedSimpArgs false
set_option linter.unusedVariables false
set_option linter.unusedSectionVars false
namespace Go.Proofs.YtcehbpimdngjfaaDoor.M2
open Go
attribute [local simp] ev1 M2.get put A.ev ld sub part elems bin arith un opt idx fillC cellsO splice over newOb sto fillR laidOwn appTo appRow touch touchN touchM touchE touchA plainU flatU plainAs allM rowAt stoRow accM_nil accM_cons accMM_nil accMM_cons frz_int frz_bool frz_str frz_slt frz_nils frz_nilI frz_nilF frz_own frzRow_row frzRow_frow Ob.blw blw_bool blw_int blw_str blw_nils blw_nilI blw_nilF blw_nilp blw_nilm blw_sl blw_own blw_bp blw_rp blw_mp blw_it params
attribute [local simp] frz_agg frz_tup frz_iface frzS_agg frzS_iface accMS_cons frzS_int frzS_bool frzS_str frzS_slt frzS_nils frzS_nilI beq_dec bne_dec
def wSt (w : Way) (ns : List Node) (E : List (List U)) (X : List Ob) : List Ob := .box (skelU w ns) :: .row 47 1 true E :: .box [.own 1 E.length] :: X
structure LInv (es : List (List Edge)) (E : List (List U)) (X : List Ob) : Prop where
  len : E.length = es.length
  cell : ∀ k (h : k < es.length), (es[k] = [] ∧ E[k]? = some [.nils]) ∨ ∃ id, E[k]? = some [.own (id + 3) es[k].length] ∧ X[id]? = some (.row 55 2 false (edR es[k]))
  apart : ∀ (k k' id n n' : Nat), E[k]? = some [U.own id n] → E[k']? = some [U.own id n'] → k = k'
  xs : ∀ L, X.all (Ob.blw L) = true
theorem row_blw {es : List (List Edge)} {E : List (List U)} {X : List Ob} (h : LInv es E X) {L : Nat} (hL : X.length + 3 ≤ L) (ns : List Node) (w : Way) : (wSt w ns E X).all (Ob.blw L) = true := by
  have h1 : Ob.blw L (.row 47 1 true E) = true := by
    show E.all (fun x => x.all (blw blwD L)) = true
    rw [List.all_eq_true]
    intro x hx
    obtain ⟨k, hk, rfl⟩ := List.mem_iff_getElem.1 hx
    have hk' : k < es.length := by rw [← h.len]; exact hk
    rcases h.cell k hk' with ⟨_, h2⟩ | ⟨id, h2, h3⟩
    · rw [List.getElem?_eq_getElem hk] at h2
      injection h2 with h2
      rw [h2]
      rfl
    · rw [List.getElem?_eq_getElem hk] at h2
      injection h2 with h2
      rw [h2]
      have hid := (List.getElem?_eq_some_iff.1 h3).1
      show (decide (id + 3 < L) && true) = true
      rw [decide_eq_true (by omega)]
      rfl
  have h2 : Ob.blw L (.box [U.own 1 E.length]) = true := by
    show (decide (1 < L) && true) = true
    rw [decide_eq_true (by omega)]
    rfl
  simp only [wSt, List.all_cons, h1, h2, h.xs L, skel_blw, Bool.and_self]
def leadF (es : List (List Edge)) (to : Int) (e : Edge) : List (List Edge) := if 0 ≤ to ∧ to < es.length then es.set to.toNat (es.getD to.toNat [] ++ [e]) else es
theorem lead_out (w : Way) (ns : List Node) (es : List (List Edge)) (E : List (List U)) (X : List Ob) (h : LInv es E X) (to : Int) (e : Edge) (ht : ¬ (0 ≤ to ∧ to < es.length)) :
    Cl T 44 [i64 to, .agg (edgeU e), .bp 2 0] (wSt w ns E X) (.tup []) (wSt w ns E X) := by
  refine Wp.impure (fn := c_skel_Ways_1) rfl rfl rfl ?_
  have hl := h.len
  simp only [wSt]
  by_cases h0 : 0 ≤ to
  · have d0 : decide (0 ≤ to) = true := decide_eq_true h0
    have h1 : ¬ to < E.length := by omega
    have d1 : decide (to < E.length) = false := decide_eq_false h1
    (all_goals have := fa @edgeU.eq_1; repeat' first | refine Wp.v ?_ | (refine Wp.c ?_ ?_ <;> intro))
    refine ⟨rfl, ?_⟩
    exact congrArg S.st (trim_backs (st := wSt w ns E X) (l := [.box [i64 e.1, i64 e.2]]) (e := [(0, .tup [])]) rfl (row_blw h (by show X.length + 3 ≤ X.length + 1 + 1 + 1; omega) ns w))
  · have d0 : decide (0 ≤ to) = false := decide_eq_false h0
    (all_goals have := fa @edgeU.eq_1; repeat' first | refine Wp.v ?_ | (refine Wp.c ?_ ?_ <;> intro))
    refine ⟨rfl, ?_⟩
    exact congrArg S.st (trim_backs (st := wSt w ns E X) (l := [.box [i64 e.1, i64 e.2]]) (e := [(0, .tup [])]) rfl (row_blw h (by show X.length + 3 ≤ X.length + 1 + 1 + 1; omega) ns w))
set_option maxHeartbeats 4000000 in
theorem lead_own (w : Way) (ns : List Node) (E : List (List U)) (X : List Ob) (k id : Nat) (cur : List Edge) (e : Edge) (hk : k < E.length) (hE : E[k]? = some [.own (id + 3) cur.length]) (hX : X[id]? = some (.row 55 2 false (edR cur))) (hc : cur.length ≤ 1000)
    (hb : (wSt w ns (E.set k [.own (id + 3) (cur.length + 1)]) (X.set id (.row 55 2 false (edR cur ++ [edgeU e])))).all (Ob.blw (X.length + 1 + 1 + 1)) = true) :
    Cl T 44 [i64 k, .agg (edgeU e), .bp 2 0] (wSt w ns E X) (.tup []) (wSt w ns (E.set k [.own (id + 3) (cur.length + 1)]) (X.set id (.row 55 2 false (edR cur ++ [edgeU e])))) := by
  refine Wp.impure (fn := c_skel_Ways_1) rfl rfl rfl ?_
  have hk' : (k : Int) < E.length := by omega
  have d0 : decide (0 ≤ (k : Int)) = true := decide_eq_true (by omega)
  have hid := (List.getElem?_eq_some_iff.1 hX).1
  have hXa : ∀ l, (X ++ l)[id]? = some (.row 55 2 false (edR cur)) := fun l => by rw [List.getElem?_append_left hid]; exact hX
  have hXs : ∀ l v, (X ++ l).set id v = X.set id v ++ l := fun l v => List.set_append_left _ _ hid
  have lim : (cur.length + 1) * 16 ≤ 140737488355328 := by omega
  simp only [wSt]
  (all_goals have := fa (a2 @edgeU.eq_1 hk'); repeat' first | refine Wp.v ?_ | (refine Wp.c ?_ ?_ <;> intro))
  apply Wp.draw; ((simp [c_skel_Ways_1_D0, I.need]) <;> rfl); ((simp [edgeU, hk', hE, hXa, hXs, lim]) <;> rfl); ((simp [edgeU, hk', hE, hXa, hXs, lim]) <;> rfl); unfold c_skel_Ways_1_D0
  repeat (first | ((first | apply Dr.op | apply Dr.opN | (apply Dr.opG; exact rfl)); ((simp [edgeU, hk', hE, hXa, hXs, lim]) <;> rfl); (apply Evt.all; intro; (simp [edgeU, hk', hE, hXa, hXs, lim]) <;> (try simp (disch := omega) only [wrap_id]) <;> first | exact ⟨rfl, rfl⟩ | exact rfl); ((simp [I.need]) <;> rfl)) | ((first | (apply Dr.opS; exact rfl; decide) | (apply Dr.opS0; exact rfl)); ((simp [I.need]) <;> rfl)))
  exact Dr.nil
  · have n1 : ¬ (id + 3 = X.length + 4) := by omega
    have n2 : ¬ X.length = id := by omega
    simp [chkD, aside, tmpInd, ind, c_skel_Ways_1_D0, touchX, touchE, elems, rowAt, O.uses, I.uses, A.uses, hXa, n2]
    decide
  · (simp [M2.keep]) <;> rfl
  refine ⟨rfl, ?_⟩
  have hl : (wSt w ns (E.set k [.own (id + 3) (cur.length + 1)]) (X.set id (.row 55 2 false (edR cur ++ [edgeU e])))).length = X.length + 1 + 1 + 1 := by simp [wSt]
  have htr := trim_backs (st := wSt w ns (E.set k [.own (id + 3) (cur.length + 1)]) (X.set id (.row 55 2 false (edR cur ++ [edgeU e])))) (l := [.box [i64 e.1, i64 e.2], .row 55 2 false [[i64 e.1, i64 e.2]], .hole]) (e := [(0, .tup [])]) rfl (by rw [hl]; exact hb)
  rw [hl] at htr
  simp only [wSt, List.length_set] at htr ⊢
  exact congrArg S.st htr
set_option maxHeartbeats 4000000 in
theorem lead_new (w : Way) (ns : List Node) (E : List (List U)) (X : List Ob) (k : Nat) (e : Edge) (hk : k < E.length) (hE : E[k]? = some [.nils]) :
    Cl T 44 [i64 k, .agg (edgeU e), .bp 2 0] (wSt w ns E X) (.tup []) (wSt w ns (E.set k [.own (X.length + 4 + 1) 1]) (X ++ [.box [i64 e.1, i64 e.2], .row 55 2 false [[i64 e.1, i64 e.2]], .row 55 2 false [[i64 e.1, i64 e.2]]])) := by
  refine Wp.impure (fn := c_skel_Ways_1) rfl rfl rfl ?_
  have hk' : (k : Int) < E.length := by omega
  have d0 : decide (0 ≤ (k : Int)) = true := decide_eq_true (by omega)
  simp only [wSt]
  (all_goals have := fa (a2 @edgeU.eq_1 hk'); repeat' first | refine Wp.v ?_ | (refine Wp.c ?_ ?_ <;> intro))
  apply Wp.draw; ((simp [c_skel_Ways_1_D0, I.need]) <;> rfl); ((simp [edgeU, hk', hE]) <;> rfl); ((simp [edgeU, hk', hE]) <;> rfl); unfold c_skel_Ways_1_D0
  repeat (first | ((first | apply Dr.op | apply Dr.opN | (apply Dr.opG; exact rfl)); ((simp [edgeU, hk', hE]) <;> rfl); (apply Evt.all; intro; (simp [edgeU, hk', hE]) <;> (try simp (disch := omega) only [wrap_id]) <;> first | exact ⟨rfl, rfl⟩ | exact rfl); ((simp [I.need]) <;> rfl)) | ((first | (apply Dr.opS; exact rfl; decide) | (apply Dr.opS0; exact rfl)); ((simp [I.need]) <;> rfl)))
  exact Dr.nil
  · simp [chkD, aside, tmpInd, ind, c_skel_Ways_1_D0, touchX, touchE, elems, rowAt, O.uses, I.uses, A.uses]
    decide
  · (simp [M2.keep]) <;> rfl
  refine ⟨rfl, ?_⟩
  have hst : ∀ (e : Env) (st : List Ob) (L : Nat) (o : Ob), st[1]? = some o → 1 < L → Ob.blw L o = false → trimO L ⟨e, st⟩ = ⟨e, st⟩ := fun e st L o h1 hL h2 => by
    unfold trimO trim
    rw [if_neg]
    · rfl
    · intro h
      simp only [Bool.and_eq_true] at h
      have h3 : (st.take L)[1]? = some o := by rw [List.getElem?_take, if_pos hL]; exact h1
      have := List.all_eq_true.1 h.2 o (List.mem_of_getElem? h3)
      rw [h2] at this
      cases this
  have hb : Ob.blw (X.length + 1 + 1 + 1) (.row 47 1 true (E.set k [.own (X.length + 4 + 1) 1])) = false := by
    show (E.set k [U.own (X.length + 4 + 1) 1]).all (fun x => x.all (blw blwD (X.length + 1 + 1 + 1))) = false
    rw [Bool.eq_false_iff]
    intro h
    have h1 := List.all_eq_true.1 h [U.own (X.length + 4 + 1) 1] (List.mem_of_getElem? (i := k) (by rw [List.getElem?_set_self hk]))
    have h2 : (decide (X.length + 4 + 1 < X.length + 1 + 1 + 1) && true) = true := h1
    simp at h2
  refine (congrArg S.st (hst _ _ _ _ rfl (by simp) hb)).trans ?_
  simp only [wSt, List.length_set]
theorem leadF_len (es : List (List Edge)) (to : Int) (e : Edge) : (leadF es to e).length = es.length := by
  unfold leadF
  split
  · rw [List.length_set]
  · rfl
theorem lead_call (w : Way) (ns : List Node) (es : List (List Edge)) (E : List (List U)) (X : List Ob) (h : LInv es E X) (hes : ∀ x ∈ es, x.length ≤ 1000) (to : Int) (e : Edge) :
    ∃ E' X', LInv (leadF es to e) E' X' ∧ Cl T 44 [i64 to, .agg (edgeU e), .bp 2 0] (wSt w ns E X) (.tup []) (wSt w ns E' X') := by
  by_cases ht : 0 ≤ to ∧ to < es.length
  · obtain ⟨k, rfl⟩ := Int.eq_ofNat_of_zero_le ht.1
    have hk : k < es.length := by omega
    have hkE : k < E.length := by rw [h.len]; exact hk
    have hF : leadF es k e = es.set k (es[k] ++ [e]) := by
      unfold leadF
      rw [if_pos ht, Int.toNat_natCast]
      simp [hk]
    rw [hF]
    rcases h.cell k hk with ⟨h1, h2⟩ | ⟨id, h2, h3⟩
    · refine ⟨_, _, ⟨by rw [List.length_set, List.length_set, h.len], fun j hj => ?_, fun a b id n n' ha hb => ?_, fun L => ?_⟩, lead_new w ns E X k e hkE h2⟩
      · rw [List.length_set] at hj
        by_cases hjk : k = j
        · subst hjk
          refine .inr ⟨X.length + 2, ?_, ?_⟩
          · rw [List.getElem?_set_self hkE]; simp [h1]
          · rw [List.getElem?_append_right (by omega), show X.length + 2 - X.length = 2 by omega]
            simp [h1, edgeU]
        · have e1 : (es.set k (es[k] ++ [e]))[j]'(by rw [List.length_set]; exact hj) = es[j] := by rw [List.getElem_set_ne hjk]
          rw [e1, List.getElem?_set_ne hjk]
          rcases h.cell j hj with c | ⟨id', c1, c2⟩
          · exact .inl c
          · refine .inr ⟨id', c1, ?_⟩
            rw [List.getElem?_append_left (List.getElem?_eq_some_iff.1 c2).1]
            exact c2
      · have key : ∀ a n, k ≠ a → E[a]? = some [U.own id n] → id < X.length + 3 := fun a n hak ha => by
          have hal : a < es.length := by rw [← h.len]; exact (List.getElem?_eq_some_iff.1 ha).1
          rcases h.cell a hal with ⟨_, c⟩ | ⟨id', c1, c2⟩
          · rw [ha] at c; simp at c
          · rw [ha] at c1
            simp at c1
            have := (List.getElem?_eq_some_iff.1 c2).1
            omega
        by_cases hak : k = a
        · by_cases hbk : k = b
          · rw [← hak, hbk]
          · subst hak
            rw [List.getElem?_set_self hkE] at ha
            rw [List.getElem?_set_ne hbk] at hb
            simp at ha
            have := key b n' hbk hb
            omega
        · by_cases hbk : k = b
          · subst hbk
            rw [List.getElem?_set_self hkE] at hb
            rw [List.getElem?_set_ne hak] at ha
            simp at hb
            have := key a n hak ha
            omega
          · rw [List.getElem?_set_ne hak] at ha
            rw [List.getElem?_set_ne hbk] at hb
            exact h.apart a b id _ _ ha hb
      · rw [List.all_append, h.xs L]; rfl
    · have hx := List.getElem?_eq_some_iff.1 h3
      have hinv : LInv (es.set k (es[k] ++ [e])) (E.set k [.own (id + 3) (es[k].length + 1)]) (X.set id (.row 55 2 false (edR es[k] ++ [edgeU e]))) := by
        refine ⟨by rw [List.length_set, List.length_set, h.len], fun j hj => ?_, fun a b id' n n' ha hb => ?_, fun L => ?_⟩
        · rw [List.length_set] at hj
          by_cases hjk : k = j
          · subst hjk
            refine .inr ⟨id, ?_, ?_⟩
            · rw [List.getElem?_set_self hkE]; simp
            · rw [List.getElem?_set_self hx.1]; simp
          · have e1 : (es.set k (es[k] ++ [e]))[j]'(by rw [List.length_set]; exact hj) = es[j] := by rw [List.getElem_set_ne hjk]
            rw [e1, List.getElem?_set_ne hjk]
            rcases h.cell j hj with c | ⟨id', c1, c2⟩
            · exact .inl c
            · refine .inr ⟨id', c1, ?_⟩
              have hne : id ≠ id' := fun hi => hjk (h.apart k j (id + 3) _ _ h2 (by rw [hi]; exact c1))
              rw [List.getElem?_set_ne hne]
              exact c2
        · have key : ∀ a n, (E.set k [U.own (id + 3) (es[k].length + 1)])[a]? = some [U.own id' n] → ∃ m, E[a]? = some [U.own id' m] := fun a n ha => by
            by_cases hak : k = a
            · subst hak
              rw [List.getElem?_set_self hkE] at ha
              simp at ha
              exact ⟨_, by rw [h2, ha.1]⟩
            · rw [List.getElem?_set_ne hak] at ha
              exact ⟨_, ha⟩
          obtain ⟨m1, k1⟩ := key a n ha
          obtain ⟨m2, k2⟩ := key b n' hb
          exact h.apart a b id' _ _ k1 k2
        · rw [List.all_eq_true]
          intro o ho
          rcases List.mem_or_eq_of_mem_set ho with ho | rfl
          · exact List.all_eq_true.1 (h.xs L) o ho
          · rfl
      exact ⟨_, _, hinv, lead_own w ns E X k id es[k] e hkE h2 h3 (hes _ (List.getElem_mem hk)) (row_blw hinv (by rw [List.length_set]; omega) ns w)⟩
  · have hF : leadF es to e = es := by unfold leadF; rw [if_neg ht]
    rw [hF]
    exact ⟨E, X, h, lead_out w ns es E X h to e ht⟩
def leads (es : List (List Edge)) (l : List (Int × Edge)) : List (List Edge) := l.foldl (fun es x => leadF es x.1 x.2) es
theorem leads_len : ∀ (l : List (Int × Edge)) (es : List (List Edge)), (leads es l).length = es.length
  | [], _ => rfl
  | x :: l, es => by
    unfold leads
    rw [List.foldl_cons]
    exact (leads_len l _).trans (leadF_len es x.1 x.2)
theorem leads_app (es : List (List Edge)) (a b : List (Int × Edge)) : leads es (a ++ b) = leads (leads es a) b := by simp [leads]
theorem leads_get : ∀ (l : List (Int × Edge)) (es : List (List Edge)) (k : Nat), k < es.length → (leads es l).getD k [] = es.getD k [] ++ hits k l
  | [], es, k, _ => by simp [leads, hits]
  | x :: l, es, k, hk => by
    have h1 : leads es (x :: l) = leads (leadF es x.1 x.2) l := rfl
    rw [h1, leads_get l _ k (by rw [leadF_len]; exact hk)]
    have h2 : hits k (x :: l) = hits k [x] ++ hits k l := by rw [← hits_app]; rfl
    rw [h2, ← List.append_assoc]
    congr 1
    unfold leadF hits
    by_cases he : x.1 = k
    · have ht : 0 ≤ x.1 ∧ x.1 < es.length := by omega
      have hn : x.1.toNat = k := by omega
      rw [if_pos ht, hn]
      simp [he, hk, List.getD_eq_getElem?_getD]
    · split
      · rename_i ht
        have hn : x.1.toNat ≠ k := by omega
        simp [he, List.getD_eq_getElem?_getD, List.getElem?_set_ne hn]
      · simp [he]
theorem LInv.push {es : List (List Edge)} {E : List (List U)} {X : List Ob} (h : LInv es E X) (o : Ob) (ho : ∀ L, Ob.blw L o = true) : LInv es E (X ++ [o]) := by
  refine ⟨h.len, fun k hk => ?_, h.apart, fun L => ?_⟩
  · rcases h.cell k hk with c | ⟨id, c1, c2⟩
    · exact .inl c
    · exact .inr ⟨id, c1, by rw [List.getElem?_append_left (List.getElem?_eq_some_iff.1 c2).1]; exact c2⟩
  · rw [List.all_append, h.xs L, List.all_cons, ho L]
    rfl
theorem trim_linv {es : List (List Edge)} {E : List (List U)} {X : List Ob} (h : LInv es E X) (w : Way) (ns : List Node) (e : Env) (L : Nat) (hL : 3 ≤ L) : ∃ X', trimO L ⟨e, wSt w ns E X⟩ = ⟨e, wSt w ns E X'⟩ ∧ LInv es E X' := by
  obtain ⟨m, rfl⟩ : ∃ m, L = m + 1 + 1 + 1 := ⟨L - 3, by omega⟩
  unfold trimO trim
  split
  · rename_i hc
    simp only [Bool.and_eq_true] at hc
    have ht : (wSt w ns E X).take (m + 1 + 1 + 1) = wSt w ns E (X.take m) := rfl
    rw [ht] at hc
    refine ⟨X.take m, by simp only [Option.getD_some]; rw [ht], h.len, fun k hk => ?_, h.apart, fun L => ?_⟩
    · rcases h.cell k hk with c | ⟨id, c1, c2⟩
      · exact .inl c
      · refine .inr ⟨id, c1, ?_⟩
        have h1 := List.all_eq_true.1 hc.2 (.row 47 1 true E) (by simp [wSt])
        have h2 : E.all (fun x => x.all (blw blwD (m + 1 + 1 + 1))) = true := h1
        have h3 := List.all_eq_true.1 h2 _ (List.mem_of_getElem? c1)
        have h4 : (decide (id + 3 < m + 1 + 1 + 1) && true) = true := h3
        simp at h4
        rw [List.getElem?_take, if_pos (by omega)]
        exact c2
    · rw [List.all_eq_true]
      intro o ho
      exact List.all_eq_true.1 (h.xs L) o (List.mem_of_mem_take ho)
  · exact ⟨X, rfl, h⟩
def w0S (w : Way) (ns : List Node) (n : Nat) (os : List Way) (x : Nat × List (List U) × List Ob) : S :=
  ⟨[(3, .bp 2 0), (4, .fn 44 [.bp 2 0]), (5, i64 n), (21, .sl true (ns.map nodeU)), (22, i64 (ns.length : Nat)), (23, i64 n), (29, .sl true (os.map wayU)), (30, i64 (os.length : Nat)), (31, i64 x.1)], wSt w ns x.2.1 x.2.2⟩
set_option maxHeartbeats 8000000 in
theorem w0_step (w : Way) (ns : List Node) (n : Nat) (os : List Way) (hos : os.length ≤ 2) (k : Nat) (hk : k < os.length) (ho : os[k].2.length = 24) (es : List (List Edge)) (E : List (List U)) (X : List Ob) (h : LInv es E X) (hes : ∀ x ∈ es, x.length ≤ 1000) (R : S → Prop) (B : Nat → S → Prop) :
    Wp T c_skel_Ways_L0 (w0S w ns n os (k, E, X)) (fun s' => ∃ E' X', trimO (wSt w ns E X).length s' = w0S w ns n os (k + 1, E', X') ∧ LInv (leadF es os[k].1 ((n : Int), (k : Int))) E' X') R B := by
  have hk' : (k : Int) < os.length := by omega
  have eg : os[k]? = some os[k] := List.getElem?_eq_getElem hk
  generalize os[k] = o at *
  have ol := wayU_len ho
  have ot : (wayU o).take 25 = wayU o := by rw [List.take_of_length_le]; omega
  have hpush := h.push (.box (wayU o)) (fun L => by
    show (wayU o).all (blw blwD L) = true
    rw [List.all_eq_true]
    intro u hu
    rcases List.mem_cons.1 hu with rfl | hu
    · rfl
    · exact tab_blw L o.2 u hu)
  obtain ⟨E', X', hinv, hcl⟩ := lead_call w ns es E (X ++ [.box (wayU o)]) hpush hes o.1 ((n : Int), (k : Int))
  simp only [wSt, edgeU] at hcl
  have o1 : (wayU o).take 1 = [i64 o.1] := rfl
  simp only [w0S, wSt]
  (have := fa hk'; repeat refine Wp.f ?_)
  refine Wp.i ?_ ?_ <;> intro h1
  · (have := fa (a5 hk' eg ol ot (a2 @over_full o1)); repeat refine Wp.f ?_)
    apply Wp.callv
    · exact rfl
    · exact hcl
    (have := fa @wrap_id; repeat refine Wp.f ?_)
    obtain ⟨X2, ht, hinv2⟩ := trim_linv hinv w ns [(3, .bp 2 0), (4, .fn 44 [.bp 2 0]), (5, i64 n), (21, .sl true (ns.map nodeU)), (22, i64 (ns.length : Nat)), (23, i64 n), (29, .sl true (os.map wayU)), (30, i64 (os.length : Nat)), (31, i64 ((k : Int) + 1))] (X.length + 1 + 1 + 1) (by omega)
    exact ⟨E', X2, ht, hinv2⟩
  · cases h1
abbrev noEs (N : Nat) : List (List Edge) := List.replicate N []
theorem leads_small (N : Nat) (l : List (Int × Edge)) : ∀ x ∈ leads (noEs N) l, x.length ≤ l.length := by
  intro x hx
  obtain ⟨k, hk, rfl⟩ := List.mem_iff_getElem.1 hx
  rw [leads_len, List.length_replicate] at hk
  have h1 := leads_get l (noEs N) k (by rw [List.length_replicate]; exact hk)
  rw [List.getD_eq_getElem?_getD, List.getElem?_eq_getElem (by rw [leads_len, List.length_replicate]; exact hk)] at h1
  simp only [Option.getD_some] at h1
  rw [h1]
  simp [hk]
  exact hits_len _ _
theorem leads_one (N : Nat) (l : List (Int × Edge)) (x : Int × Edge) : leads (noEs N) (l ++ [x]) = leadF (leads (noEs N) l) x.1 x.2 := by
  rw [leads_app]
  rfl
set_option maxHeartbeats 4000000 in
theorem w0_loop (w : Way) (ns : List Node) (n : Nat) (os : List Way) (hos : os.length ≤ 2) (ho : ∀ o ∈ os, o.2.length = 24) (pre : List (Int × Edge)) (hpre : pre.length ≤ 900) (E : List (List U)) (X : List Ob) (h : LInv (leads (noEs ns.length) pre) E X) :
    Wp T (.loop c_skel_Ways_L0) (w0S w ns n os (0, E, X)) (fun _ => False) (fun _ => False) (fun b s' => b = 2 ∧ ∃ E' X', LInv (leads (noEs ns.length) (pre ++ nodeEs n 0 os)) E' X' ∧
      s' = ⟨[(3, .bp 2 0), (4, .fn 44 [.bp 2 0]), (5, i64 n), (21, .sl true (ns.map nodeU)), (22, i64 (ns.length : Nat)), (23, i64 n), (29, .sl true (os.map wayU)), (30, i64 (os.length : Nat)), (31, i64 (os.length : Nat)), (32, .bool false)], wSt w ns E' X'⟩) := by
  refine Wp.loop (α := Nat × List (List U) × List Ob) (fun a => os.length - a.1) (fun a => w0S w ns n os a) (fun a => a.1 ≤ os.length ∧ LInv (leads (noEs ns.length) (pre ++ nodeEs n 0 (os.take a.1))) a.2.1 a.2.2) (fun a ⟨ha, hl⟩ => ?_) (0, E, X) ⟨Nat.zero_le _, by simpa [nodeEs] using h⟩
  obtain ⟨k, E, X⟩ := a
  simp only at ha hl
  by_cases hk : k < os.length
  · have hsm : ∀ x ∈ leads (noEs ns.length) (pre ++ nodeEs n 0 (os.take k)), x.length ≤ 1000 := fun x hx => by
      have h1 := leads_small ns.length _ x hx
      rw [List.length_append, nodeEs_len, List.length_take] at h1
      omega
    refine (w0_step w ns n os hos k hk (ho _ (List.getElem_mem hk)) _ E X hl hsm _ _).imp ?_ (fun _ h => h) (fun _ _ h => h)
    rintro s' ⟨E', X', ht, hl'⟩
    refine ⟨(k + 1, E', X'), ht, by simp only; omega, by simp only; omega, ?_⟩
    simp only
    rw [nodeEs_take n 0 os k hk, ← List.append_assoc, leads_one, Nat.zero_add]
    exact hl'
  · have hk2 : k = os.length := by omega
    subst hk2
    rw [List.take_length] at hl
    simp only [w0S]
    repeat refine Wp.a ?_
    refine Wp.i ?_ ?_ <;> intro h1
    · simp at h1
    · exact Wp.exit ⟨rfl, E, X, hl, rfl⟩
def w1S (w : Way) (ns : List Node) (n : Nat) (x : List (List U) × List Ob) : S :=
  ⟨[(3, .bp 2 0), (4, .fn 44 [.bp 2 0]), (21, .sl true (ns.map nodeU)), (22, i64 (ns.length : Nat)), (23, i64 n)], wSt w ns x.1 x.2⟩
set_option maxHeartbeats 8000000 in
theorem w1_loop (w : Way) (ns : List Node) (hns : ns.length ≤ 200) (hall : ∀ x ∈ ns, (x.2.getD []).length ≤ 2 ∧ ∀ o ∈ x.2.getD [], o.2.length = 24) (pre : List (Int × Edge)) (hpre : pre.length ≤ 1) (E : List (List U)) (X : List Ob) (h : LInv (leads (noEs ns.length) pre) E X) :
    Wp T (.loop c_skel_Ways_L1) (w1S w ns 0 (E, X)) (fun _ => False) (fun _ => False) (fun b s' => b = 0 ∧ ∃ E' X', LInv (leads (noEs ns.length) (pre ++ allEs 0 (ns.map rN))) E' X' ∧
      s' = ⟨[(3, .bp 2 0), (4, .fn 44 [.bp 2 0]), (21, .sl true (ns.map nodeU)), (22, i64 (ns.length : Nat)), (23, i64 (ns.length : Nat)), (24, .bool false)], wSt w ns E' X'⟩) := by
  refine Wp.loop (α := Nat × List (List U) × List Ob) (fun a => ns.length - a.1) (fun a => w1S w ns a.1 a.2) (fun a => a.1 ≤ ns.length ∧ LInv (leads (noEs ns.length) (pre ++ allEs 0 ((ns.map rN).take a.1))) a.2.1 a.2.2) (fun a ⟨ha, hl⟩ => ?_) (0, E, X) ⟨Nat.zero_le _, by simpa [allEs] using h⟩
  obtain ⟨n, E, X⟩ := a
  simp only at ha hl
  by_cases hn : n < ns.length
  · have hn' : (n : Int) < ns.length := by omega
    have eg : ns[n]? = some ns[n] := List.getElem?_eq_getElem hn
    obtain ⟨x1, x2⟩ := hall _ (List.getElem_mem hn)
    have htk := allEs_take 0 (ns.map rN) n (by simpa using hn)
    have hr : (ns.map rN)[n]'(by simpa using hn) = rN ns[n] := by simp
    rw [hr] at htk
    have hpl : (pre ++ allEs 0 ((ns.map rN).take n)).length ≤ 900 := by
      have h2 := allEs_len 0 ((ns.map rN).take n) (fun x hx => by
        obtain ⟨y, hy, rfl⟩ := List.mem_map.1 (List.mem_of_mem_take hx)
        exact (hall y hy).1)
      rw [List.length_take, List.length_map] at h2
      rw [List.length_append]
      omega
    generalize ns[n] = x at *
    obtain ⟨at_, o⟩ := x
    have hp := hl.push (.box (nodeU (at_, o))) (fun L => rfl)
    have hlp := w0_loop w ns n (o.getD []) x1 x2 _ hpl E (X ++ [.box (nodeU (at_, o))]) hp
    simp only [w1S, wSt]
    (have := fa hn'; repeat refine Wp.f ?_)
    refine Wp.i ?_ ?_ <;> intro h1
    · (have := fa (a4 eg @nodeU.eq_1 @outsU.eq_1 hn'); repeat refine Wp.f ?_)
      refine (show Wp T (.loop c_skel_Ways_L0) (w0S w ns n (o.getD []) (0, E, X ++ [.box (nodeU (at_, o))])) _ _ _ from hlp.imp (fun _ h => h.elim) (fun _ h => h.elim) ?_)
      rintro b s ⟨rfl, E', X', hl', rfl⟩
      rw [if_pos rfl]
      (have := fa @wrap_id; repeat refine Wp.f ?_)
      obtain ⟨X2, ht, hinv2⟩ := trim_linv hl' w ns [(3, .bp 2 0), (4, .fn 44 [.bp 2 0]), (21, .sl true (ns.map nodeU)), (22, i64 (ns.length : Nat)), (23, i64 ((n : Int) + 1))] (X.length + 1 + 1 + 1) (by omega)
      refine ⟨(n + 1, E', X2), ht, by simp only; omega, by simp only; omega, ?_⟩
      simp only
      rw [htk, ← List.append_assoc, Nat.zero_add]
      exact hinv2
    · cases h1
  · have hn2 : n = ns.length := by omega
    subst hn2
    rw [List.take_of_length_le (by simp)] at hl
    simp only [w1S]
    repeat refine Wp.a ?_
    refine Wp.i ?_ ?_ <;> intro h1
    · simp at h1
    · exact Wp.exit ⟨rfl, E, X, hl, rfl⟩
/-! The rows that have grown, laid for good. -/
def good (st : List Ob) (e : List Edge) (c : List U) : Prop := (e = [] ∧ c = [.nils]) ∨ ∃ id, 3 ≤ id ∧ c = [.own id e.length] ∧ (st[id]? = some (.row 55 2 false (edR e)) ∨ st[id]? = some (.frow (edR e)))
def AllE (st : List Ob) : List (List Edge) → List (List U) → Prop
  | [], [] => True
  | e :: es, c :: cs => good st e c ∧ AllE st es cs
  | _, _ => False
theorem AllE.mono {st st' : List Ob} (h : ∀ e c, good st e c → good st' e c) : ∀ {es : List (List Edge)} {E : List (List U)}, AllE st es E → AllE st' es E
  | [], [], _ => trivial
  | _ :: _, _ :: _, hh => ⟨h _ _ hh.1, hh.2.mono h⟩
  | [], _ :: _, hh => hh.elim
  | _ :: _, [], hh => hh.elim
theorem alle_of (st : List Ob) : ∀ (es : List (List Edge)) (E : List (List U)), E.length = es.length → (∀ k (h : k < es.length) (h2 : k < E.length), good st es[k] E[k]) → AllE st es E
  | [], [], _, _ => trivial
  | e :: es, c :: cs, hl, h => ⟨h 0 (by simp) (by simp), alle_of st es cs (by simpa using hl) (fun k h1 h2 => h (k + 1) (by simpa using h1) (by simpa using h2))⟩
  | [], _ :: _, hl, _ => by simp at hl
  | _ :: _, [], hl, _ => by simp at hl
theorem frzS_frow {d : Nat} {st : List Ob} {id n : Nat} {xs : List (List U)} (h : st[id]? = some (.frow xs)) (hn : xs.length = n) : frz (d + 1) st (.own id n) = some (.sl true xs, st) := by
  rw [frz]
  simp only [h, hn, if_true]
theorem frz_cell {st : List Ob} {e : List Edge} {c : List U} (h : good st e c) : ∃ st', accM (frz 11) st c = some ([.sl true (edR e)], st') ∧ (∀ i, i < 3 → st'[i]? = st[i]?) ∧ ∀ e' c', good st e' c' → good st' e' c' := by
  rcases h with ⟨rfl, rfl⟩ | ⟨id, h3, rfl, h | h⟩
  · exact ⟨st, rfl, fun _ _ => rfl, fun _ _ h => h⟩
  · have hid := (List.getElem?_eq_some_iff.1 h).1
    refine ⟨st.set id (.frow (edR e)), ?_, fun i hi => List.getElem?_set_ne (by omega), fun e' c' hg => ?_⟩
    · rw [accM, frzS_row h (by simp)]
      simp only [Option.bind_some, accM]
    · rcases hg with c | ⟨id', h1, h2, h4⟩
      · exact .inl c
      · refine .inr ⟨id', h1, h2, ?_⟩
        by_cases hi : id = id'
        · subst hi
          right
          rw [List.getElem?_set_self hid]
          rcases h4 with h4 | h4
          · rw [h] at h4; injection h4 with h4; injection h4 with _ _ _ h4; rw [h4]
          · rw [h] at h4; injection h4 with h4; cases h4
        · rw [List.getElem?_set_ne hi]
          exact h4
  · refine ⟨st, ?_, fun _ _ => rfl, fun _ _ h => h⟩
    rw [accM, frzS_frow h (by simp)]
    simp only [Option.bind_some, accM]
theorem frz_cells : ∀ (es : List (List Edge)) (E : List (List U)) (st : List Ob), AllE st es E → ∃ st', accM (accM (frz 11)) st E = some (es.map fun e => [.sl true (edR e)], st') ∧ ∀ i, i < 3 → st'[i]? = st[i]?
  | [], [], st, _ => ⟨st, rfl, fun _ _ => rfl⟩
  | e :: es, c :: cs, st, h => by
    obtain ⟨st1, h1, h2, h3⟩ := frz_cell h.1
    obtain ⟨st2, h4, h5⟩ := frz_cells es cs st1 (h.2.mono h3)
    refine ⟨st2, ?_, fun i hi => (h5 i hi).trans (h2 i hi)⟩
    rw [accM, h1]
    simp only [Option.bind_some, h4, List.map_cons]
  | [], _ :: _, _, h => h.elim
  | _ :: _, [], _, h => h.elim
theorem LInv.frozen {es : List (List Edge)} {E : List (List U)} {X : List Ob} (h : LInv es E X) (w : Way) (ns : List Node) : (frz frzD (wSt w ns E X) (.own 1 E.length)).map (·.1) = some (.sl true (es.map fun e => [.sl true (edR e)])) := by
  have ha : AllE (wSt w ns E X) es E := alle_of _ _ _ h.len (fun k h1 h2 => by
    rcases h.cell k h1 with ⟨c1, c2⟩ | ⟨id, c1, c2⟩
    · rw [List.getElem?_eq_getElem h2] at c2
      injection c2 with c2
      exact .inl ⟨c1, c2⟩
    · rw [List.getElem?_eq_getElem h2] at c1
      injection c1 with c1
      exact .inr ⟨id + 3, by omega, c1, .inl (by simpa [wSt] using c2)⟩)
  obtain ⟨st', h1, h2⟩ := frz_cells es E _ ha
  rw [frz_own]
  have h3 : (wSt w ns E X)[1]? = some (.row 47 1 true E) := rfl
  rw [h3]
  unfold frzRow
  simp only [if_true, h1, Option.bind_some, h2 1 (by omega), h3, Option.map_some]
theorem linv0 (N : Nat) : LInv (leads (noEs N) []) (List.replicate N [.nils]) [] := by
  refine ⟨by simp [leads], fun k hk => .inl ?_, fun a b id n n' ha _ => ?_, fun L => rfl⟩
  · have hk' : k < N := by simpa [leads] using hk
    simp [leads, hk']
  · rw [List.getElem?_replicate] at ha
    split at ha
    · simp at ha
    · cases ha
theorem leads_all (w : Way) (rn : List RNode) : leads (noEs rn.length) ((w.1, (-1, 0)) :: allEs 0 rn) = (List.range rn.length).map fun n => toF w rn n := by
  refine List.ext_getElem (by rw [leads_len]; simp) fun k h1 h2 => ?_
  have hk : k < rn.length := by simpa using h2
  have h3 := leads_get ((w.1, (-1, 0)) :: allEs 0 rn) (noEs rn.length) k (by rw [List.length_replicate]; exact hk)
  rw [List.getD_eq_getElem?_getD, List.getElem?_eq_getElem h1] at h3
  simp only [Option.getD_some] at h3
  rw [h3]
  simp [hk, toF]
set_option maxHeartbeats 8000000 in
theorem ways_call (w : Way) (hw : w.2.length = 24) (ns : List Node) (hns : ns.length ≤ 200) (hall : ∀ x ∈ ns, (x.2.getD []).length ≤ 2 ∧ ∀ o ∈ x.2.getD [], o.2.length = 24) (st : List Ob) :
    Cl T 21 [.agg (skelU w ns)] st (.sl true ((List.range ns.length).map fun n => [.sl true (edR (toF w (ns.map rN) n))])) st := by
  have hbr : brw frzD st (.agg (skelU w ns)) = some (.agg (skelU w ns)) := brw_skel st w ns
  refine Wp.pure (fn := c_skel_Ways) rfl rfl rfl («as» := [.agg (skelU w ns)]) (by simp [hbr]) ?_
  have wl := wayU_len hw
  have d25 := drop25 hw
  have h0 := linv0 ns.length
  obtain ⟨E, X, h1, hcl⟩ := lead_call w ns _ _ _ h0 (fun x hx => by have := leads_small ns.length [] x hx; simp at this; simp [this]) w.1 (-1, 0)
  have h1 : LInv (leads (noEs ns.length) [(w.1, (-1, 0))]) E X := h1
  have hlp := w1_loop w ns hns hall [(w.1, (-1, 0))] (by simp) E X h1
  have hall2 := leads_all w (ns.map rN)
  simp only [List.length_map] at hall2
  have o1 : (wayU w).take 1 = [i64 w.1] := rfl
  have lim : (ns.length : Int) * 24 ≤ limit := by
    show (ns.length : Int) * 24 ≤ 140737488355328
    omega
  simp only [wSt, edgeU, List.length_replicate] at hcl
  (have := fa (a4 @skelU.eq_1 wl d25 lim); repeat refine Wp.f ?_)
  apply Wp.callv
  · exact rfl
  · exact hcl
  (have := fa (a3 @skelU.eq_1 wl d25); repeat refine Wp.f ?_)
  refine (show Wp T (.loop c_skel_Ways_L1) (w1S w ns 0 (E, X)) _ _ _ from hlp.imp (fun _ h => h.elim) (fun _ h => h.elim) ?_)
  rintro b s ⟨rfl, E', X', hl', rfl⟩
  rw [if_pos rfl]
  simp only [wSt]
  repeat refine Wp.a ?_
  refine Wp.ret ?_
  have hf := hl'.frozen w ns
  have hls : leads (noEs ns.length) ([(w.1, (-1, 0))] ++ allEs 0 (ns.map rN)) = leads (noEs ns.length) ((w.1, (-1, 0)) :: allEs 0 (ns.map rN)) := rfl
  rw [hls, hall2, List.map_map] at hf
  simp only [Res, resU, res1, c_skel_Ways, M2.allM, Option.bind_some]
  exact hf
end Go.Proofs.YtcehbpimdngjfaaDoor.M2
