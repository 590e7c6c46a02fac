/- What the functions answer in M2: the program's facts. -/
import Derived.Test.YtcehbpimdngjfaaDoorCl
import Derived.Test.YtcehbpimdngjfaaDoorCj
import Derived.Test.YtcehbpimdngjfaaDoorCi
set_option linter.unusedSimpArgs false
set_option linter.unusedVariables false
set_option linter.unusedSectionVars false
namespace Go.Proofs.YtcehbpimdngjfaaDoor.M2
open Go
attribute [local simp] ev1 M2.get put A.ev ld sub part elems bin arith un opt idx fillC cellsO splice over newOb sto fillR laidOwn appTo appRow touch touchN touchM touchE touchA plainU flatU plainAs allM rowAt stoRow accM_nil accM_cons accMM_nil accMM_cons frz_int frz_bool frz_str frz_slt frz_nils frz_nilI frz_nilF frz_own frzRow_row frzRow_frow Ob.blw blw_bool blw_int blw_str blw_nils blw_nilI blw_nilF blw_nilp blw_nilm blw_sl blw_own blw_bp blw_rp blw_mp blw_it params
attribute [local simp] frz_agg frz_tup frz_iface frzS_agg frzS_iface accMS_cons frzS_int frzS_bool frzS_str frzS_slt frzS_nils frzS_nilI beq_dec bne_dec
abbrev opU : List U := [i64 (-1), i64 0]
def fS (p : Bool) (l : List Ins) (w : Way) (ns : List Node) (n j : Nat) (E : List (List U)) (X : List Ob) : S :=
  ⟨[(0, insL p l), (3, .bp 0 0), (5, .bp 2 0), (6, i64 n), (23, i64 (ns.length : Nat)), (24, i64 n), (27, i64 j)], .box (skelU w ns) :: .row 50 1 true E :: .box [.own 1 ns.length] :: X⟩
theorem keep_all (e : Env) (st : List Ob) (L k : Nat) (o : Ob) (h1 : st[k]? = some o) (hL : k < L) (h2 : Ob.blw L o = false) : trimO L ⟨e, st⟩ = ⟨e, st⟩ := by
  unfold trimO trim
  rw [if_neg]
  · rfl
  · intro h
    simp only [Bool.and_eq_true] at h
    have h3 : (st.take L)[k]? = some o := by rw [List.getElem?_take, if_pos hL]; exact h1
    have := List.all_eq_true.1 h.2 o (List.mem_of_getElem? h3)
    rw [h2] at this
    cases this
theorem row_up (E : List (List U)) (k id n L : Nat) (hk : k < E.length) (hid : L ≤ id) : Ob.blw L (.row 50 1 true (E.set k [.own id n])) = false := by
  show (E.set k [U.own id n]).all (fun x => x.all (blw blwD L)) = false
  rw [Bool.eq_false_iff]
  intro h
  have h1 := List.all_eq_true.1 h [U.own id n] (List.mem_of_getElem? (i := k) (by rw [List.getElem?_set_self hk]))
  have h2 : (decide (id < L) && true) = true := h1
  simp at h2
  omega
set_option maxHeartbeats 8000000 in
theorem fill_new (p : Bool) (l : List Ins) (w : Way) (ns : List Node) (n : Nat) (E : List (List U)) (X : List Ob) (hl : E.length = ns.length) (hn : n < E.length) (hE : E[n]? = some [.nils]) (R : S → Prop) (B : Nat → S → Prop) :
    Wp T c_value_Facts_L1 (fS p l w ns n 0 E X) (fun s' => trimO (X.length + 1 + 1 + 1) s' = fS p l w ns n 1 (E.set n [.own (X.length + 4) 1]) (X ++ [.row 52 2 false [opU], .row 52 2 false [opU]])) R B := by
  have hn' : (n : Int) < ns.length := by omega
  simp only [fS]
  repeat refine Wp.a ?_
  refine Wp.i ?_ ?_ <;> intro h1
  · repeat refine Wp.a ?_
    apply Wp.draw; ((simp [c_value_Facts_D0, I.need]) <;> rfl); ((simp [hl, hn', hE, gl_0]) <;> rfl); ((simp [hl, hn', hE, gl_0]) <;> rfl); unfold c_value_Facts_D0
    repeat (first | ((first | apply Dr.op | apply Dr.opN | (apply Dr.opG; exact rfl)); ((simp [hl, hn', hE, gl_0]) <;> rfl); (apply Evt.all; intro; (simp [hl, hn', hE, gl_0]) <;> (try simp (disch := omega) only [wrap_id]) <;> first | exact ⟨rfl, rfl⟩ | exact rfl); ((simp [I.need]) <;> rfl)) | ((first | (apply Dr.opS; exact rfl; decide) | (apply Dr.opS0; exact rfl)); ((simp [I.need]) <;> rfl)))
    exact Dr.nil
    · simp [chkD, aside, tmpInd, ind, c_value_Facts_D0, touchX, touchE, elems, rowAt, O.uses, I.uses, A.uses]
      decide
    · (simp [M2.keep]) <;> rfl
    (have := fa @wrap_id; repeat refine Wp.f ?_)
    exact keep_all _ _ _ 1 _ rfl (by omega) (row_up E n (X.length + 3 + 1) 1 _ hn (by omega))
  · cases h1
set_option maxHeartbeats 8000000 in
theorem fill_own (p : Bool) (l : List Ins) (w : Way) (ns : List Node) (n j : Nat) (hj : j < 24) (E : List (List U)) (X : List Ob) (id : Nat) (r : List (List U)) (hr : r.length = j) (hl : E.length = ns.length) (hn : n < E.length) (hE : E[n]? = some [.own (id + 3) j]) (hX : X[id]? = some (.row 52 2 false r))
    (hb : ∀ v, (.box (skelU w ns) :: .row 50 1 true (E.set n [.own (id + 3) (j + 1)]) :: .box [.own 1 ns.length] :: X.set id (.row 52 2 false v)).all (Ob.blw (X.length + 1 + 1 + 1)) = true) (R : S → Prop) (B : Nat → S → Prop) :
    Wp T c_value_Facts_L1 (fS p l w ns n j E X) (fun s' => trimO (X.length + 1 + 1 + 1) s' = fS p l w ns n (j + 1) (E.set n [.own (id + 3) (j + 1)]) (X.set id (.row 52 2 false (r ++ [opU])))) R B := by
  have hn' : (n : Int) < ns.length := by omega
  have hj' : (j : Int) < 24 := by omega
  have hid := (List.getElem?_eq_some_iff.1 hX).1
  have hXa : ∀ l, (X ++ l)[id]? = some (.row 52 2 false r) := fun l => by rw [List.getElem?_append_left hid]; exact hX
  have hXs : ∀ l v, (X ++ l).set id v = X.set id v ++ l := fun l v => List.set_append_left _ _ hid
  have lim : (j + 1) * 16 ≤ 140737488355328 := by omega
  simp only [fS]
  (have := fa hj'; repeat refine Wp.f ?_)
  refine Wp.i ?_ ?_ <;> intro h1
  · repeat refine Wp.a ?_
    apply Wp.draw; ((simp [c_value_Facts_D0, I.need]) <;> rfl); ((simp [hl, hn', hE, gl_0, hXa, hXs, hr, lim]) <;> rfl); ((simp [hl, hn', hE, gl_0, hXa, hXs, hr, lim]) <;> rfl); unfold c_value_Facts_D0
    repeat (first | ((first | apply Dr.op | apply Dr.opN | (apply Dr.opG; exact rfl)); ((simp [hl, hn', hE, gl_0, hXa, hXs, hr, lim]) <;> rfl); (apply Evt.all; intro; (simp [hl, hn', hE, gl_0, hXa, hXs, hr, lim]) <;> (try simp (disch := omega) only [wrap_id]) <;> first | exact ⟨rfl, rfl⟩ | exact rfl); ((simp [I.need]) <;> rfl)) | ((first | (apply Dr.opS; exact rfl; decide) | (apply Dr.opS0; exact rfl)); ((simp [I.need]) <;> rfl)))
    exact Dr.nil
    · have n2 : ¬ X.length = id := by omega
      simp [chkD, aside, tmpInd, ind, c_value_Facts_D0, touchX, touchE, elems, rowAt, O.uses, I.uses, A.uses, hXa, n2]
      decide
    · (simp [M2.keep]) <;> rfl
    (have := fa @wrap_id; repeat refine Wp.f ?_)
    have htr := trim_backs (st := .box (skelU w ns) :: .row 50 1 true (E.set n [.own (id + 3) (j + 1)]) :: .box [.own 1 ns.length] :: X.set id (.row 52 2 false (r ++ [opU]))) (l := [.row 52 2 false [opU], .hole]) (e := [(0, insL p l), (3, .bp 0 0), (5, .bp 2 0), (6, i64 n), (23, i64 (ns.length : Nat)), (24, i64 n), (27, i64 ((j : Int) + 1))]) rfl (by simp only [List.length_cons, List.length_set]; exact hb _)
    simp only [List.length_cons, List.length_set] at htr
    exact htr
  · cases h1
def fillE (N n : Nat) : List (List U) := (List.range n).map (fun i => [U.own (2 * i + 4) 24]) ++ List.replicate (N - n) [.nils]
def fillX : Nat → List Ob
  | 0 => []
  | n + 1 => fillX n ++ [.row 52 2 false [opU], .row 52 2 false (List.replicate 24 opU)]
theorem fillX_len : ∀ n, (fillX n).length = 2 * n
  | 0 => rfl
  | n + 1 => by rw [fillX, List.length_append, fillX_len n]; simp; omega
theorem fillE_len {N n : Nat} (h : n ≤ N) : (fillE N n).length = N := by simp [fillE]; omega
theorem fillE_get {N n : Nat} (h : n < N) : (fillE N n)[n]? = some [.nils] := by
  unfold fillE
  rw [List.getElem?_append_right (by simp), List.getElem?_replicate, List.length_map, List.length_range, if_pos (by omega)]
theorem fillE_set {N n : Nat} (h : n < N) : (fillE N n).set n [.own (2 * n + 4) 24] = fillE N (n + 1) := by
  unfold fillE
  rw [List.set_append_right _ _ (by simp)]
  obtain ⟨m, hm⟩ : ∃ m, N - n = m + 1 := ⟨N - n - 1, by omega⟩
  have hm2 : N - (n + 1) = m := by omega
  rw [hm, hm2, List.replicate_succ]
  simp [List.range_succ]
theorem mat_blw {w : Way} {ns : List Node} {E : List (List U)} {X : List Ob} {L N : Nat} (h1 : 1 < L) (hE : ∀ x ∈ E, x.all (blw blwD L) = true) (hX : X.all (Ob.blw L) = true) : (Ob.box (skelU w ns) :: Ob.row 50 1 true E :: Ob.box [.own 1 N] :: X).all (Ob.blw L) = true := by
  have e1 : Ob.blw L (.row 50 1 true E) = true := by
    show E.all (fun x => x.all (blw blwD L)) = true
    rw [List.all_eq_true]
    exact hE
  have e2 : Ob.blw L (.box [.own 1 N]) = true := by
    show (decide (1 < L) && true) = true
    rw [decide_eq_true h1]
    rfl
  simp only [List.all_cons, skel_blw, e1, e2, hX, Bool.and_self]
theorem own_blw {id n L : Nat} (h : id < L) : [U.own id n].all (blw blwD L) = true := by
  show (decide (id < L) && true) = true
  rw [decide_eq_true h]
  rfl
theorem fillE_blw {N n L : Nat} (h : 2 * n + 3 ≤ L) : ∀ x ∈ fillE N n, x.all (blw blwD L) = true := by
  intro x hx
  rcases List.mem_append.1 hx with hx | hx
  · obtain ⟨i, hi, rfl⟩ := List.mem_map.1 hx
    rw [List.mem_range] at hi
    exact own_blw (by omega)
  · rw [(List.mem_replicate.1 hx).2]
    rfl
theorem fillX_blw (L : Nat) : ∀ n, (fillX n).all (Ob.blw L) = true
  | 0 => rfl
  | n + 1 => by
    rw [fillX, List.all_append, fillX_blw L n]
    rfl
def fjE (N n j : Nat) : List (List U) := if j = 0 then fillE N n else (fillE N n).set n [.own (2 * n + 4) j]
def fjX (n j : Nat) : List Ob := if j = 0 then fillX n else fillX n ++ [.row 52 2 false [opU], .row 52 2 false (List.replicate j opU)]
set_option maxHeartbeats 4000000 in
theorem fill_loop (p : Bool) (l : List Ins) (w : Way) (ns : List Node) (n : Nat) (hn : n < ns.length) :
    Wp T (.loop c_value_Facts_L1) (fS p l w ns n 0 (fillE ns.length n) (fillX n)) (fun _ => False) (fun _ => False) (fun b s' => b = 2 ∧ s' = ⟨[(0, insL p l), (3, .bp 0 0), (5, .bp 2 0), (6, i64 n), (23, i64 (ns.length : Nat)), (24, i64 n), (27, i64 (24 : Nat)), (28, .bool false)], .box (skelU w ns) :: .row 50 1 true (fillE ns.length (n + 1)) :: .box [.own 1 ns.length] :: fillX (n + 1)⟩) := by
  have hel := fillE_len (N := ns.length) (n := n) (by omega)
  have hxl := fillX_len n
  refine Wp.count 24 (fun j => fS p l w ns n j (fjE ns.length n j) (fjX n j)) (fun _ => True) (fun j hj _ => ?_) (fun _ => ?_) 0 (by omega) trivial
  · cases j with
    | zero =>
      refine (fill_new p l w ns n (fillE ns.length n) (fillX n) hel (by omega) (fillE_get hn) _ _).imp (fun s' h => ⟨?_, trivial⟩) (fun _ h => h) (fun _ _ h => h)
      refine h.trans ?_
      simp only [fjE, fjX, hxl]
      rfl
    | succ j =>
      have hX : (fillX n ++ [Ob.row 52 2 false [opU], .row 52 2 false (List.replicate (j + 1) opU)])[2 * n + 1]? = some (.row 52 2 false (List.replicate (j + 1) opU)) := by
        rw [List.getElem?_append_right (by omega), hxl, show 2 * n + 1 - 2 * n = 1 by omega]
        rfl
      have hxs : ∀ v, (fillX n ++ [Ob.row 52 2 false [opU], .row 52 2 false (List.replicate (j + 1) opU)]).set (2 * n + 1) v = fillX n ++ [.row 52 2 false [opU], v] := fun v => by
        rw [List.set_append_right _ _ (by omega), hxl, show 2 * n + 1 - 2 * n = 1 by omega]
        rfl
      have hlen : (fillX n ++ [Ob.row 52 2 false [opU], .row 52 2 false (List.replicate (j + 1) opU)]).length = 2 * n + 2 := by simp [hxl]
      have hset : ((fillE ns.length n).set n [U.own (2 * n + 4) (j + 1)]).set n [.own (2 * n + 1 + 3) (j + 1 + 1)] = (fillE ns.length n).set n [.own (2 * n + 4) (j + 1 + 1)] := by simp
      have hst := fill_own p l w ns n (j + 1) hj ((fillE ns.length n).set n [.own (2 * n + 4) (j + 1)]) (fillX n ++ [.row 52 2 false [opU], .row 52 2 false (List.replicate (j + 1) opU)]) (2 * n + 1) (List.replicate (j + 1) opU) (by simp) (by rw [List.length_set]; exact hel) (by rw [List.length_set]; omega) (by rw [List.getElem?_set_self (by omega)]) hX (fun v => by
        rw [hxs, hset, hlen]
        refine mat_blw (by omega) (fun x hx => ?_) (by rw [List.all_append, fillX_blw]; rfl)
        rcases List.mem_or_eq_of_mem_set hx with hx | rfl
        · exact fillE_blw (by omega) x hx
        · exact own_blw (by omega))
      rw [hset, hxs] at hst
      simp only [fjE, fjX]
      rw [if_neg (by omega), if_neg (by omega), if_neg (by omega), if_neg (by omega)]
      refine (hst _ _).imp (fun s' h => ⟨?_, trivial⟩) (fun _ h => h) (fun _ _ h => h)
      refine h.trans ?_
      rw [show List.replicate (j + 1) opU ++ [opU] = List.replicate (j + 1 + 1) opU from List.replicate_succ'.symm]
  · simp only [fS, fjE, fjX]
    rw [if_neg (by omega), if_neg (by omega), fillE_set hn]
    repeat refine Wp.a ?_
    refine Wp.i ?_ ?_ <;> intro h1
    · cases h1
    · refine Wp.exit ⟨rfl, ?_⟩
      rfl
structure MInv (tag es base : Nat) (M : List (List (List U))) (E : List (List U)) (X : List Ob) : Prop where
  len : E.length = M.length
  cell : ∀ (k : Nat) (r : List (List U)), M[k]? = some r → ∃ id, E[k]? = some [U.own (id + base) r.length] ∧ X[id]? = some (Ob.row tag es false r)
  apart : ∀ (k k' id n n' : Nat), E[k]? = some [U.own id n] → E[k']? = some [U.own id n'] → k = k'
  xs : ∀ L, X.length + base ≤ L → X.all (Ob.blw L) = true
theorem MInv.push {tag es base : Nat} {M : List (List (List U))} {E : List (List U)} {X : List Ob} (h : MInv tag es base M E X) (l : List Ob) (hl : ∀ L, X.length + l.length + base ≤ L → l.all (Ob.blw L) = true) : MInv tag es base M E (X ++ l) := by
  refine ⟨h.len, fun k r hk => ?_, h.apart, fun L hL => ?_⟩
  · obtain ⟨id, c1, c2⟩ := h.cell k r hk
    exact ⟨id, c1, by rw [List.getElem?_append_left (List.getElem?_eq_some_iff.1 c2).1]; exact c2⟩
  · rw [List.length_append] at hL
    rw [List.all_append, h.xs L (by omega), hl L hL]
    rfl
theorem MInv.set {tag es base : Nat} {M : List (List (List U))} {E : List (List U)} {X : List Ob} (h : MInv tag es base M E X) {k id : Nat} {r : List (List U)} (hk : M[k]? = some r) (hE : E[k]? = some [U.own (id + base) r.length]) (hX : X[id]? = some (Ob.row tag es false r)) (r' : List (List U)) (hr : r'.length = r.length) : MInv tag es base (M.set k r') E (X.set id (.row tag es false r')) := by
  have hid := (List.getElem?_eq_some_iff.1 hX).1
  have hkl := (List.getElem?_eq_some_iff.1 hk).1
  refine ⟨by rw [List.length_set]; exact h.len, fun j s hj => ?_, h.apart, fun L hL => ?_⟩
  · by_cases hjk : k = j
    · subst hjk
      rw [List.getElem?_set_self hkl] at hj
      cases hj
      exact ⟨id, by rw [hr]; exact hE, by rw [List.getElem?_set_self hid]⟩
    · rw [List.getElem?_set_ne hjk] at hj
      obtain ⟨id', c1, c2⟩ := h.cell j s hj
      refine ⟨id', c1, ?_⟩
      have hne : ¬ id = id' := fun e => by
        subst e
        exact hjk (h.apart _ _ _ _ _ hE c1)
      rw [List.getElem?_set_ne hne]
      exact c2
  · rw [List.all_eq_true]
    intro o ho
    rcases List.mem_or_eq_of_mem_set ho with ho | rfl
    · exact List.all_eq_true.1 (h.xs L (by rw [List.length_set] at hL; exact hL)) o ho
    · rfl
theorem MInv.ups {tag es base : Nat} {M : List (List (List U))} {E : List (List U)} {X : List Ob} (h : MInv tag es base M E X) {L : Nat} (hL : X.length + base ≤ L) : ∀ x ∈ E, x.all (blw blwD L) = true := by
  intro x hx
  obtain ⟨k, hk, rfl⟩ := List.mem_iff_getElem.1 hx
  have hkM : k < M.length := by rw [← h.len]; exact hk
  obtain ⟨id, c1, c2⟩ := h.cell k _ (List.getElem?_eq_getElem hkM)
  rw [List.getElem?_eq_getElem hk] at c1
  injection c1 with c1
  rw [c1]
  exact own_blw (by have := (List.getElem?_eq_some_iff.1 c2).1; omega)
theorem fill_minv (N : Nat) : MInv 52 2 3 (List.replicate N (List.replicate 24 opU)) (fillE N N) (fillX N) := by
  have hg : ∀ k, k < N → (fillE N N)[k]? = some [.own (2 * k + 4) 24] := fun k hk => by
    unfold fillE
    rw [List.getElem?_append_left (by simp; omega)]
    simp [hk]
  have hx : ∀ n k, k < n → (fillX n)[2 * k + 1]? = some (.row 52 2 false (List.replicate 24 opU)) := by
    intro n
    induction n with
    | zero => intro k hk; omega
    | succ n ih =>
      intro k hk
      rw [fillX]
      by_cases hkn : k < n
      · rw [List.getElem?_append_left (by rw [fillX_len]; omega)]
        exact ih k hkn
      · have : k = n := by omega
        subst this
        rw [List.getElem?_append_right (by rw [fillX_len]; omega), fillX_len, show 2 * k + 1 - 2 * k = 1 by omega]
        rfl
  refine ⟨by rw [fillE_len (Nat.le_refl _), List.length_replicate], fun k r hk => ?_, fun k k' id n n' h1 h2 => ?_, fun L _ => fillX_blw L N⟩
  · rw [List.getElem?_replicate] at hk
    split at hk
    · rename_i hkN
      cases hk
      refine ⟨2 * k + 1, ?_, hx N k hkN⟩
      rw [hg k hkN, List.length_replicate]
    · cases hk
  · have hk : k < N := by
      have := (List.getElem?_eq_some_iff.1 h1).1
      rwa [fillE_len (Nat.le_refl _)] at this
    have hk' : k' < N := by
      have := (List.getElem?_eq_some_iff.1 h2).1
      rwa [fillE_len (Nat.le_refl _)] at this
    rw [hg k hk] at h1
    rw [hg k' hk'] at h2
    simp at h1 h2
    omega
theorem fs_cmp (a b c d : Int) : sameV (.tst [(1, .ti), (1, .ti)]) (.agg [i64 a, i64 b]) (.agg [i64 c, i64 d]) = some (decide (((a, b) : FS) = (c, d))) := by
  simp only [sameV, cellsS, Option.bind_some, sameD, same, same.fields, List.length_cons, List.length_nil, List.take, List.drop, i64, Prod.mk.injEq]
  by_cases h1 : a = c
  · by_cases h2 : b = d <;> simp [h1, h2]
  · simp [h1]
abbrev facP (w : Way) (ns : List Node) (E : List (List U)) (X : List Ob) : List Ob := .box (skelU w ns) :: .row 50 1 true E :: .box [.own 1 ns.length] :: X
def mtS (w : Way) (ns : List Node) (E : List (List U)) (X : List Ob) (ai n q : Nat) (es : List Edge) (x : Nat × FS) : S :=
  ⟨[(0, i64 n), (1, i64 q), (3, .bp (ai + 3) 0), (4, .bp 2 0), (7, .bp (X.length + 3) 0), (8, .bp (X.length + 3 + 1) 0), (9, .bp (X.length + 3 + 1 + 1) 0), (19, .sl true (edR es)), (20, i64 (es.length : Nat)), (21, i64 x.1)],
    facP w ns E (X ++ [.box [i64 0, i64 0], .box [i64 4, i64 q], .box [i64 x.2.1, i64 x.2.2]])⟩
set_option maxHeartbeats 16000000 in
theorem meet_step (w : Way) (ns : List Node) (F : List (List FS)) (E : List (List U)) (X : List Ob) (hM : MInv 52 2 3 (F.map (·.map fsU)) E X) (hF : F.length = ns.length) (hrow : ∀ n, n < F.length → (F.getD n []).length = 24) (ai n q : Nat) (hq : q < 24) (es : List Edge) (A : List (List U)) (hA : X[ai]? = some (.box [.sl true A])) (f : Edge → Nat → FS) (hAn : A[n]? = some [.sl true (nodeA f es)])
    (i : Nat) (hi : i < es.length) (hes : es.length ≤ 1000) (hfrm : (f es[i] q).1 = 4 → es[i].1.toNat < F.length ∧ (f es[i] q).2.toNat < 24 ∧ 0 ≤ es[i].1 ∧ 0 ≤ (f es[i] q).2) (now : FS) (R : S → Prop) (B : Nat → S → Prop)
    (hR : (¬ sub2 F es[i] (f es[i] q) = fsO ∧ ((¬ (sub2 F es[i] (f es[i] q)).1 = 2 ∧ ¬ (sub2 F es[i] (f es[i] q)).1 = 0) ∨ (¬ now = fsO ∧ ¬ now = sub2 F es[i] (f es[i] q)))) → ∀ a b c, R ⟨[(7, .bp (X.length + 3) 0)], facP w ns E (X ++ [.box [i64 4, i64 q], .box [i64 4, i64 q], .box a, .box b, .box c])⟩) :
    Wp T c_value_Facts_1_L1 (mtS w ns E X ai n q es (i, now))
      (fun s' => (sub2 F es[i] (f es[i] q) = fsO ∧ trimO (X.length + 1 + 1 + 1 + 1 + 1 + 1) s' = mtS w ns E X ai n q es (i + 1, now)) ∨
        (¬ sub2 F es[i] (f es[i] q) = fsO ∧ ¬ ((¬ (sub2 F es[i] (f es[i] q)).1 = 2 ∧ ¬ (sub2 F es[i] (f es[i] q)).1 = 0) ∨ (¬ now = fsO ∧ ¬ now = sub2 F es[i] (f es[i] q))) ∧ trimO (X.length + 1 + 1 + 1 + 1 + 1 + 1) s' = mtS w ns E X ai n q es (i + 1, sub2 F es[i] (f es[i] q)))) R B := by
  have hi' : (i : Int) < es.length := by omega
  have hq' : (q : Int) < 24 := by omega
  have eg : es[i]? = some es[i] := List.getElem?_eq_getElem hi
  have hne : (nodeA f es)[i]? = some [.sl true (rowU (f es[i]))] := by simp [nodeA, hi]
  have hnl : (nodeA f es).length = es.length := by simp [nodeA]
  have hrl := rowU_len (f es[i])
  have hrq : (rowU (f es[i]))[q]? = some (fsU (f es[i] q)) := by simp [rowU, hq]
  have hai := (List.getElem?_eq_some_iff.1 hA).1
  have hnA := (List.getElem?_eq_some_iff.1 hAn).1
  have hn' : (n : Int) < A.length := by omega
  have hXa : ∀ l, (X ++ l)[ai]? = some (.box [.sl true A]) := fun l => by rw [List.getElem?_append_left hai]; exact hA
  generalize es[i] = e at *
  generalize hRU : rowU (f e) = RU at *
  generalize nodeA f es = NA at *
  obtain ⟨c, d⟩ := now
  generalize hx : f e q = x at *
  by_cases h4 : x.1 = 4
  · obtain ⟨f1, f2, f3, f4⟩ := hfrm h4
    obtain ⟨ef, ek⟩ := e
    obtain ⟨x1, xt⟩ := x
    simp only at h4 f1 f2 f3 f4
    subst h4
    obtain ⟨m, rfl⟩ := Int.eq_ofNat_of_zero_le f3
    obtain ⟨t, rfl⟩ := Int.eq_ofNat_of_zero_le f4
    rw [Int.toNat_natCast] at f1 f2
    have hs : sub2 F ((m : Int), ek) (4, (t : Int)) = get2 F m t := by
      unfold sub2
      rw [if_pos rfl]
      rfl
    rw [hs] at hR ⊢
    have hr24 := hrow m f1
    have hFm : F.getD m [] = F[m] := by simp [f1]
    rw [hFm] at hr24
    have hg : get2 F m t = F[m][t] := by
      unfold get2
      rw [hFm]
      simp [hr24, f2]
    obtain ⟨id, c1, c2⟩ := hM.cell m (F[m].map fsU) (by rw [List.getElem?_map, List.getElem?_eq_getElem f1]; rfl)
    rw [List.length_map, hr24] at c1
    have hRt : (F[m].map fsU)[t]? = some (fsU (get2 F m t)) := by
      rw [hg, List.getElem?_map, List.getElem?_eq_getElem (by omega)]
      rfl
    have hRl : (F[m].map fsU).length = 24 := by rw [List.length_map]; exact hr24
    have hid := (List.getElem?_eq_some_iff.1 c2).1
    generalize F[m].map fsU = RW at *
    have hXid : ∀ l, (X ++ l)[id]? = some (.row 52 2 false RW) := fun l => by rw [List.getElem?_append_left hid]; exact c2
    have hm' : (m : Int) < ns.length := by omega
    have hEl : E.length = ns.length := by rw [hM.len, List.length_map]; exact hF
    have ht' : (t : Int) < 24 := by omega
    generalize get2 F m t = y at *
    obtain ⟨a, b⟩ := y
    simp only
    have hup : ∀ x ∈ E, x.all (blw blwD (X.length + 1 + 1 + 1 + 1 + 1 + 1)) = true := hM.ups (by omega)
    have hxs : ∀ u v w : List U, (u.all (blw blwD (X.length + 1 + 1 + 1 + 1 + 1 + 1)) = true) → (v.all (blw blwD (X.length + 1 + 1 + 1 + 1 + 1 + 1)) = true) → (w.all (blw blwD (X.length + 1 + 1 + 1 + 1 + 1 + 1)) = true) → (X ++ [Ob.box u, .box v, .box w]).all (Ob.blw (X.length + 1 + 1 + 1 + 1 + 1 + 1)) = true := fun u v w hu hv hw => by
      rw [List.all_append, hM.xs _ (by omega)]
      show ((u.all (blw blwD _)) && ((v.all (blw blwD _)) && ((w.all (blw blwD _)) && true))) = true
      rw [hu, hv, hw]
      rfl
    have htr : ∀ (c d : Int) (u v : Ob), trimO (X.length + 1 + 1 + 1 + 1 + 1 + 1) ⟨[(0, i64 n), (1, i64 q), (3, .bp (ai + 3) 0), (4, .bp 2 0), (7, .bp (X.length + 3) 0), (8, .bp (X.length + 3 + 1) 0), (9, .bp (X.length + 3 + 1 + 1) 0), (19, .sl true (edR es)), (20, i64 (es.length : Nat)), (21, i64 ((i : Int) + 1))], facP w ns E (X ++ [.box [i64 0, i64 0], .box [i64 4, i64 q], .box [i64 c, i64 d], u, v])⟩ = ⟨[(0, i64 n), (1, i64 q), (3, .bp (ai + 3) 0), (4, .bp 2 0), (7, .bp (X.length + 3) 0), (8, .bp (X.length + 3 + 1) 0), (9, .bp (X.length + 3 + 1 + 1) 0), (19, .sl true (edR es)), (20, i64 (es.length : Nat)), (21, i64 ((i : Int) + 1))], facP w ns E (X ++ [.box [i64 0, i64 0], .box [i64 4, i64 q], .box [i64 c, i64 d]])⟩ := fun c d u v => by
      have hl : (facP w ns E (X ++ [.box [i64 0, i64 0], .box [i64 4, i64 q], .box [i64 c, i64 d]])).length = X.length + 1 + 1 + 1 + 1 + 1 + 1 := by simp [facP]
      have ha : facP w ns E (X ++ [.box [i64 0, i64 0], .box [i64 4, i64 q], .box [i64 c, i64 d], u, v]) = facP w ns E (X ++ [.box [i64 0, i64 0], .box [i64 4, i64 q], .box [i64 c, i64 d]]) ++ [u, v] := by simp [facP]
      rw [ha, ← hl]
      refine trim_backs ?_ ?_
      · rw [hl]
        simp
        omega
      · rw [hl]
        exact mat_blw (by omega) hup (hxs _ _ _ rfl rfl rfl)
    simp only [mtS, facP]
    (have := fa hi'; repeat refine Wp.f ?_)
    refine Wp.i ?_ ?_ <;> intro h1
    · (have := fa (a5 hi' eg @edgeU.eq_1 hXa (a5 hn' hAn hnl hne (a4 hrl hrq hq' @fsU.eq_1))); repeat refine Wp.f ?_)
      refine Wp.i ?_ ?_ <;> intro h8
      · apply Wp.draw; ((simp [c_value_Facts_1_D0, I.need]) <;> rfl); ((simp [hXid, hm', hEl, c1, ht', hRl, hRt, fsU]) <;> rfl); ((simp [hXid, hm', hEl, c1, ht', hRl, hRt, fsU]) <;> rfl); unfold c_value_Facts_1_D0
        repeat (first | ((first | apply Dr.op | apply Dr.opN | (apply Dr.opG; exact rfl)); ((simp [hXid, hm', hEl, c1, ht', hRl, hRt, fsU]) <;> rfl); (apply Evt.all; intro; (simp [hXid, hm', hEl, c1, ht', hRl, hRt, fsU]) <;> (try simp (disch := omega) only [wrap_id]) <;> first | exact ⟨rfl, rfl⟩ | exact rfl); ((simp [I.need]) <;> rfl)) | ((first | (apply Dr.opS; exact rfl; decide) | (apply Dr.opS0; exact rfl)); ((simp [I.need]) <;> rfl)))
        exact Dr.nil
        · simp [chkD, aside, tmpInd, ind, c_value_Facts_1_D0, touchX, touchE, elems, rowAt, O.uses, I.uses, M2.A.uses]
          exact ⟨by decide, by decide, by decide, by decide, ⟨by decide, by decide⟩, by decide, by decide, .inl (by decide), by decide⟩
        · (simp [M2.keep]) <;> rfl
        by_cases hO : ((a, b) : FS) = fsO
        · have k1 : (decide (a = -1) && decide (b = 0)) = true := by simpa using hO
          (have := fa (a2 k1 @gl_0.eq_1); repeat refine Wp.f ?_)
          refine Wp.i ?_ ?_ <;> intro h2
          · (have := fa @wrap_id; repeat refine Wp.f ?_)
            exact .inl ⟨hO, htr _ _ _ _⟩
          · first | cases h2 | exact absurd (k1.symm.trans h2) (by decide)
        · have k1 : (decide (a = -1) && decide (b = 0)) = false := by simpa using hO
          (have := fa (a2 k1 @gl_0.eq_1); repeat refine Wp.f ?_)
          refine Wp.i ?_ ?_ <;> intro h2
          · first | cases h2 | exact absurd (k1.symm.trans h2) (by decide)
          by_cases hk : ¬ a = 2 ∧ ¬ a = 0
          · (have := fa (a2 hk.1 hk.2); repeat refine Wp.f ?_)
            refine Wp.i ?_ ?_ <;> intro h3
            · repeat refine Wp.a ?_
              refine Wp.i ?_ ?_ <;> intro h5
              · repeat refine Wp.a ?_
                exact Wp.ret (hR ⟨hO, .inl hk⟩ _ _ _)
              · cases h5
            · cases h3
          · have hk' : a = 2 ∨ a = 0 := by omega
            have hnk : ¬ (¬ ((a, b) : FS).1 = 2 ∧ ¬ ((a, b) : FS).1 = 0) := hk
            by_cases h6 : ((c, d) : FS) = fsO
            · have k2 : (!decide (c = -1) || !decide (d = 0)) = false := by simpa using h6
              rcases hk' with rfl | rfl
              all_goals
                repeat refine Wp.a ?_
                refine Wp.i ?_ ?_ <;> intro h3
                · cases h3
                (have := fa (a2 k2 @gl_0.eq_1); repeat refine Wp.f ?_)
                refine Wp.i ?_ ?_ <;> intro h5
                · cases h5
                (have := fa @wrap_id; repeat refine Wp.f ?_)
                exact .inr ⟨hO, fun h => h.elim hnk (fun h => h.1 h6), htr _ _ _ _⟩
            · have k2 : (!decide (c = -1) || !decide (d = 0)) = true := by
                rw [← Bool.not_and, Bool.not_eq_true']
                simpa using h6
              by_cases h7 : ((c, d) : FS) = (a, b)
              · have k3 : (!decide (c = a) || !decide (d = b)) = false := by simpa using h7
                rcases hk' with rfl | rfl
                all_goals
                  repeat refine Wp.a ?_
                  refine Wp.i ?_ ?_ <;> intro h3
                  · cases h3
                  (have := fa (a3 k2 k3 @gl_0.eq_1); repeat refine Wp.f ?_)
                  refine Wp.i ?_ ?_ <;> intro h5
                  · cases h5
                  (have := fa @wrap_id; repeat refine Wp.f ?_)
                  exact .inr ⟨hO, fun h => h.elim hnk (fun h => h.2 h7), htr _ _ _ _⟩
              · have k3 : (!decide (c = a) || !decide (d = b)) = true := by
                  rw [← Bool.not_and, Bool.not_eq_true']
                  simpa using h7
                rcases hk' with rfl | rfl
                all_goals
                  repeat refine Wp.a ?_
                  refine Wp.i ?_ ?_ <;> intro h3
                  · cases h3
                  (have := fa (a3 k2 k3 @gl_0.eq_1); repeat refine Wp.f ?_)
                  refine Wp.i ?_ ?_ <;> intro h5
                  · repeat refine Wp.a ?_
                    exact Wp.ret (hR ⟨hO, .inr ⟨h6, h7⟩⟩ _ _ _)
                  · cases h5
      · simp at h8
    · cases h1
  · have hs : sub2 F e x = x := if_neg h4
    rw [hs] at hR ⊢
    obtain ⟨a, b⟩ := x
    simp only at h4 ⊢
    have hup : ∀ x ∈ E, x.all (blw blwD (X.length + 1 + 1 + 1 + 1 + 1 + 1)) = true := hM.ups (by omega)
    have hxs : ∀ u v w : List U, (u.all (blw blwD (X.length + 1 + 1 + 1 + 1 + 1 + 1)) = true) → (v.all (blw blwD (X.length + 1 + 1 + 1 + 1 + 1 + 1)) = true) → (w.all (blw blwD (X.length + 1 + 1 + 1 + 1 + 1 + 1)) = true) → (X ++ [Ob.box u, .box v, .box w]).all (Ob.blw (X.length + 1 + 1 + 1 + 1 + 1 + 1)) = true := fun u v w hu hv hw => by
      rw [List.all_append, hM.xs _ (by omega)]
      show ((u.all (blw blwD _)) && ((v.all (blw blwD _)) && ((w.all (blw blwD _)) && true))) = true
      rw [hu, hv, hw]
      rfl
    have htr : ∀ (c d : Int) (u v : Ob), trimO (X.length + 1 + 1 + 1 + 1 + 1 + 1) ⟨[(0, i64 n), (1, i64 q), (3, .bp (ai + 3) 0), (4, .bp 2 0), (7, .bp (X.length + 3) 0), (8, .bp (X.length + 3 + 1) 0), (9, .bp (X.length + 3 + 1 + 1) 0), (19, .sl true (edR es)), (20, i64 (es.length : Nat)), (21, i64 ((i : Int) + 1))], facP w ns E (X ++ [.box [i64 0, i64 0], .box [i64 4, i64 q], .box [i64 c, i64 d], u, v])⟩ = ⟨[(0, i64 n), (1, i64 q), (3, .bp (ai + 3) 0), (4, .bp 2 0), (7, .bp (X.length + 3) 0), (8, .bp (X.length + 3 + 1) 0), (9, .bp (X.length + 3 + 1 + 1) 0), (19, .sl true (edR es)), (20, i64 (es.length : Nat)), (21, i64 ((i : Int) + 1))], facP w ns E (X ++ [.box [i64 0, i64 0], .box [i64 4, i64 q], .box [i64 c, i64 d]])⟩ := fun c d u v => by
      have hl : (facP w ns E (X ++ [.box [i64 0, i64 0], .box [i64 4, i64 q], .box [i64 c, i64 d]])).length = X.length + 1 + 1 + 1 + 1 + 1 + 1 := by simp [facP]
      have ha : facP w ns E (X ++ [.box [i64 0, i64 0], .box [i64 4, i64 q], .box [i64 c, i64 d], u, v]) = facP w ns E (X ++ [.box [i64 0, i64 0], .box [i64 4, i64 q], .box [i64 c, i64 d]]) ++ [u, v] := by simp [facP]
      rw [ha, ← hl]
      refine trim_backs ?_ ?_
      · rw [hl]
        simp
        omega
      · rw [hl]
        exact mat_blw (by omega) hup (hxs _ _ _ rfl rfl rfl)
    simp only [mtS, facP]
    (have := fa hi'; repeat refine Wp.f ?_)
    refine Wp.i ?_ ?_ <;> intro h1
    · (have := fa (a5 hi' eg @edgeU.eq_1 hXa (a5 hn' hAn hnl hne (a5 hrl hrq hq' @fsU.eq_1 h4))); repeat refine Wp.f ?_)
      refine Wp.i ?_ ?_ <;> intro h8
      · simp [h4] at h8
      repeat refine Wp.a ?_
      by_cases hO : ((a, b) : FS) = fsO
      · have k1 : (decide (a = -1) && decide (b = 0)) = true := by simpa using hO
        (have := fa (a2 k1 @gl_0.eq_1); repeat refine Wp.f ?_)
        refine Wp.i ?_ ?_ <;> intro h2
        · (have := fa @wrap_id; repeat refine Wp.f ?_)
          exact .inl ⟨hO, htr _ _ _ _⟩
        · first | cases h2 | exact absurd (k1.symm.trans h2) (by decide)
      · have k1 : (decide (a = -1) && decide (b = 0)) = false := by simpa using hO
        (have := fa (a2 k1 @gl_0.eq_1); repeat refine Wp.f ?_)
        refine Wp.i ?_ ?_ <;> intro h2
        · first | cases h2 | exact absurd (k1.symm.trans h2) (by decide)
        by_cases hk : ¬ a = 2 ∧ ¬ a = 0
        · (have := fa (a2 hk.1 hk.2); repeat refine Wp.f ?_)
          refine Wp.i ?_ ?_ <;> intro h3
          · repeat refine Wp.a ?_
            refine Wp.i ?_ ?_ <;> intro h5
            · repeat refine Wp.a ?_
              exact Wp.ret (hR ⟨hO, .inl hk⟩ _ _ _)
            · cases h5
          · cases h3
        · have hk' : a = 2 ∨ a = 0 := by omega
          have hnk : ¬ (¬ ((a, b) : FS).1 = 2 ∧ ¬ ((a, b) : FS).1 = 0) := hk
          by_cases h6 : ((c, d) : FS) = fsO
          · have k2 : (!decide (c = -1) || !decide (d = 0)) = false := by simpa using h6
            rcases hk' with rfl | rfl
            all_goals
              repeat refine Wp.a ?_
              refine Wp.i ?_ ?_ <;> intro h3
              · cases h3
              (have := fa (a2 k2 @gl_0.eq_1); repeat refine Wp.f ?_)
              refine Wp.i ?_ ?_ <;> intro h5
              · cases h5
              (have := fa @wrap_id; repeat refine Wp.f ?_)
              exact .inr ⟨hO, fun h => h.elim hnk (fun h => h.1 h6), htr _ _ _ _⟩
          · have k2 : (!decide (c = -1) || !decide (d = 0)) = true := by
              rw [← Bool.not_and, Bool.not_eq_true']
              simpa using h6
            by_cases h7 : ((c, d) : FS) = (a, b)
            · have k3 : (!decide (c = a) || !decide (d = b)) = false := by simpa using h7
              rcases hk' with rfl | rfl
              all_goals
                repeat refine Wp.a ?_
                refine Wp.i ?_ ?_ <;> intro h3
                · cases h3
                (have := fa (a3 k2 k3 @gl_0.eq_1); repeat refine Wp.f ?_)
                refine Wp.i ?_ ?_ <;> intro h5
                · cases h5
                (have := fa @wrap_id; repeat refine Wp.f ?_)
                exact .inr ⟨hO, fun h => h.elim hnk (fun h => h.2 h7), htr _ _ _ _⟩
            · have k3 : (!decide (c = a) || !decide (d = b)) = true := by
                rw [← Bool.not_and, Bool.not_eq_true']
                simpa using h7
              rcases hk' with rfl | rfl
              all_goals
                repeat refine Wp.a ?_
                refine Wp.i ?_ ?_ <;> intro h3
                · cases h3
                (have := fa (a3 k2 k3 @gl_0.eq_1); repeat refine Wp.f ?_)
                refine Wp.i ?_ ?_ <;> intro h5
                · repeat refine Wp.a ?_
                  exact Wp.ret (hR ⟨hO, .inr ⟨h6, h7⟩⟩ _ _ _)
                · cases h5
    · cases h1
theorem meetGo_cons (own x : FS) (xs : List FS) (now : FS) : meetGo own (x :: xs) now = if x = fsO then meetGo own xs now else if (¬ x.1 = 2 ∧ ¬ x.1 = 0) ∨ (¬ now = fsO ∧ ¬ now = x) then own else meetGo own xs x := rfl
set_option maxHeartbeats 8000000 in
theorem meet_call (w : Way) (ns : List Node) (F : List (List FS)) (E : List (List U)) (X : List Ob) (hM : MInv 52 2 3 (F.map (·.map fsU)) E X) (hF : F.length = ns.length) (hrow : ∀ n, n < F.length → (F.getD n []).length = 24) (wi ai n q : Nat) (hq : q < 24) (to : Nat → List Edge) (hes : (to n).length ≤ 1000) (W A : List (List U)) (hW : X[wi]? = some (.box [.sl true W])) (hWn : W[n]? = some [.sl true (edR (to n))]) (hA : X[ai]? = some (.box [.sl true A])) (f : Edge → Nat → FS) (hAn : A[n]? = some [.sl true (nodeA f (to n))])
    (hfrm : ∀ e ∈ to n, (f e q).1 = 4 → e.1.toNat < F.length ∧ (f e q).2.toNat < 24 ∧ 0 ≤ e.1 ∧ 0 ≤ (f e q).2) :
    Cl T n_value_Facts_1 [i64 n, i64 q, .bp (wi + 3) 0, .bp (ai + 3) 0, .bp 2 0] (facP w ns E X) (.agg (fsU (meetF to f F n q))) (facP w ns E X) := by
  refine Wp.impure (fn := c_value_Facts_1) rfl rfl rfl ?_
  have hwi := (List.getElem?_eq_some_iff.1 hW).1
  have hnW := (List.getElem?_eq_some_iff.1 hWn).1
  have hn' : (n : Int) < W.length := by omega
  have hXw : ∀ l, (X ++ l)[wi]? = some (.box [.sl true W]) := fun l => by rw [List.getElem?_append_left hwi]; exact hW
  have hup : ∀ x ∈ E, x.all (blw blwD (X.length + 1 + 1 + 1)) = true := hM.ups (by omega)
  have hbk : ∀ (u : U) (l : List Ob), blw blwD (X.length + 1 + 1 + 1) u = true → (trimO (facP w ns E X).length ⟨[(0, u)], facP w ns E (X ++ l)⟩).st = facP w ns E X := fun u l hu => by
    have hl : (facP w ns E X).length = X.length + 1 + 1 + 1 := rfl
    have ha : facP w ns E (X ++ l) = facP w ns E X ++ l := rfl
    rw [ha]
    refine congrArg S.st (trim_backs ?_ ?_)
    · rw [hl]
      show (blw blwD _ u && true) = true
      rw [hu]
      rfl
    · rw [hl]
      exact mat_blw (by omega) hup (hM.xs _ (by omega))
  have hfu : ∀ x : FS, blw blwD (X.length + 1 + 1 + 1) (.agg (fsU x)) = true := fun x => rfl
  simp only [facP]
  (have := fa (a4 hXw hn' hWn @gl_0.eq_1); repeat refine Wp.f ?_)
  refine (show Wp T (.loop c_value_Facts_1_L1) (mtS w ns E X ai n q (to n) (0, fsO)) _ _ _ from ?_)
  refine Wp.loop (fun x : Nat × FS => (to n).length - x.1) (mtS w ns E X ai n q (to n)) (fun x => x.1 ≤ (to n).length ∧ meetGo (4, (q : Int)) (((to n).drop x.1).map fun e => sub2 F e (f e q)) x.2 = meetF to f F n q) (fun x ⟨hx, hv⟩ => ?_) (0, fsO) ⟨by simp, rfl⟩
  obtain ⟨i, now⟩ := x
  simp only at hx hv
  by_cases hi : i < (to n).length
  · rw [List.drop_eq_getElem_cons hi, List.map_cons, meetGo_cons] at hv
    have hl6 : (mtS w ns E X ai n q (to n) (i, now)).st.length = X.length + 1 + 1 + 1 + 1 + 1 + 1 := by simp [mtS, facP]
    rw [hl6]
    refine (meet_step w ns F E X hM hF hrow ai n q hq (to n) A hA f hAn i hi hes (hfrm _ (List.getElem_mem hi)) now _ _ (fun hc a b c => ?_)).imp (fun s' h => ?_) (fun _ h => h) (fun _ _ h => h)
    · rw [if_neg hc.1, if_pos hc.2] at hv
      rw [← hv]
      refine ⟨by simp [resU, res1, c_value_Facts_1, fsU], ?_⟩
      exact hbk _ _ (hfu _)
    · rcases h with ⟨h1, h2⟩ | ⟨h1, h2, h3⟩
      · rw [if_pos h1] at hv
        exact ⟨(i + 1, now), h2, by simp only; omega, by simp only; omega, hv⟩
      · rw [if_neg h1, if_neg h2] at hv
        exact ⟨(i + 1, _), h3, by simp only; omega, by simp only; omega, hv⟩
  · have hi2 : i = (to n).length := by omega
    subst hi2
    rw [List.drop_of_length_le (Nat.le_refl _)] at hv
    have hv : now = meetF to f F n q := hv
    simp only [mtS, facP]
    repeat refine Wp.a ?_
    refine Wp.i ?_ ?_ <;> intro h1
    · simp at h1
    · refine Wp.exit ?_
      rw [if_pos rfl]
      repeat refine Wp.a ?_
      refine Wp.ret ?_
      rw [← hv]
      refine ⟨by simp [resU, res1, c_value_Facts_1, fsU], ?_⟩
      exact hbk _ _ (hfu _)
structure GInv (E : List (List U)) (wi ai : Nat) (W A : List (List U)) (F : List (List FS)) (X : List Ob) : Prop where
  m : MInv 52 2 3 (F.map (·.map fsU)) E X
  w : X[wi]? = some (Ob.box [.sl true W])
  a : X[ai]? = some (Ob.box [.sl true A])
theorem map_set2 (F : List (List FS)) (n q : Nat) (hn : n < F.length) (x : FS) : (set2 F n q x).map (·.map fsU) = (F.map (·.map fsU)).set n ((F[n].map fsU).set q (fsU x)) := by
  have e : F.getD n [] = F[n] := by simp [hn]
  unfold set2
  rw [e, List.map_set, List.map_set]
theorem GInv.set {E : List (List U)} {wi ai : Nat} {W A : List (List U)} {F : List (List FS)} {X : List Ob} (h : GInv E wi ai W A F X) {n q id : Nat} (hn : n < F.length) (hE : E[n]? = some [U.own (id + 3) F[n].length]) (hX : X[id]? = some (Ob.row 52 2 false (F[n].map fsU))) (x : FS) : GInv E wi ai W A (set2 F n q x) (X.set id (.row 52 2 false ((F[n].map fsU).set q (fsU x)))) := by
  have hne : ∀ k B, X[k]? = some (Ob.box B) → ¬ id = k := fun k B hk e => by
    subst e
    rw [hX] at hk
    cases hk
  refine ⟨?_, ?_, ?_⟩
  · rw [map_set2 F n q hn]
    exact h.m.set (by rw [List.getElem?_map, List.getElem?_eq_getElem hn]; rfl) (by rw [List.length_map]; exact hE) hX _ (by simp)
  · rw [List.getElem?_set_ne (hne _ _ h.w)]
    exact h.w
  · rw [List.getElem?_set_ne (hne _ _ h.a)]
    exact h.a
def swS (w : Way) (ns : List Node) (E : List (List U)) (wi ai : Nat) (more : Bool) (n q : Nat) (X : List Ob) : S :=
  ⟨[(5, .bp 2 0), (9, .fn 39 [.bp (wi + 3) 0, .bp (ai + 3) 0, .bp 2 0]), (10, .bool more), (11, i64 n), (49, i64 (ns.length : Nat)), (50, i64 n), (53, i64 q)], facP w ns E X⟩
theorem trim_fac {w : Way} {ns : List Node} {E : List (List U)} {X : List Ob} (hup : ∀ x ∈ E, x.all (blw blwD (X.length + 1 + 1 + 1)) = true) (hX : X.all (Ob.blw (X.length + 1 + 1 + 1)) = true) (e : Env) (he : e.all (fun p => blw blwD (X.length + 1 + 1 + 1) p.2) = true) (l : List Ob) : trimO (X.length + 1 + 1 + 1) ⟨e, facP w ns E (X ++ l)⟩ = ⟨e, facP w ns E X⟩ := by
  have hl : (facP w ns E X).length = X.length + 1 + 1 + 1 := rfl
  have ha : facP w ns E (X ++ l) = facP w ns E X ++ l := rfl
  rw [ha, ← hl]
  refine trim_backs ?_ ?_
  · rw [hl]
    exact he
  · rw [hl]
    exact mat_blw (by omega) hup hX
set_option maxHeartbeats 16000000 in
theorem sw_step (w : Way) (ns : List Node) (E : List (List U)) (wi ai : Nat) (to : Nat → List Edge) (f : Edge → Nat → FS) (W A : List (List U)) (F : List (List FS)) (X : List Ob) (hG : GInv E wi ai W A F X) (hF : F.length = ns.length) (hrow : ∀ n, n < F.length → (F.getD n []).length = 24) (more : Bool) (n q : Nat) (hn : n < ns.length) (hq : q < 24) (hes : (to n).length ≤ 1000) (hWn : W[n]? = some [.sl true (edR (to n))]) (hAn : A[n]? = some [.sl true (nodeA f (to n))])
    (hfrm : ∀ e ∈ to n, (f e q).1 = 4 → e.1.toNat < F.length ∧ (f e q).2.toNat < 24 ∧ 0 ≤ e.1 ∧ 0 ≤ (f e q).2) (R : S → Prop) (B : Nat → S → Prop) :
    Wp T c_value_Facts_L6 (swS w ns E wi ai more n q X) (fun s' => ∃ X', trimO (X.length + 1 + 1 + 1) s' = swS w ns E wi ai (facStep to f (F, more) n q).2 n (q + 1) X' ∧ GInv E wi ai W A (facStep to f (F, more) n q).1 X' ∧ X'.length = X.length) R B := by
  have hm := meet_call w ns F E X hG.m hF hrow wi ai n q hq to hes W A hG.w hWn hG.a f hAn hfrm
  have hnF : n < F.length := by omega
  have hn' : (n : Int) < ns.length := by omega
  have hq' : (q : Int) < 24 := by omega
  have hr24 := hrow n hnF
  have hFm : F.getD n [] = F[n] := by simp [hnF]
  rw [hFm] at hr24
  have hg : get2 F n q = F[n][q] := by
    unfold get2
    rw [hFm]
    simp [hr24, hq]
  obtain ⟨id, c1, c2⟩ := hG.m.cell n (F[n].map fsU) (by rw [List.getElem?_map, List.getElem?_eq_getElem hnF]; rfl)
  rw [List.length_map] at c1
  have hset := fun x => hG.set (q := q) hnF c1 c2 x
  rw [hr24] at c1
  have hRt : (F[n].map fsU)[q]? = some (fsU (get2 F n q)) := by
    rw [hg, List.getElem?_map, List.getElem?_eq_getElem (by omega)]
    rfl
  have hRl : (F[n].map fsU).length = 24 := by rw [List.length_map]; exact hr24
  have hEl : E.length = ns.length := by rw [hG.m.len, List.length_map]; exact hF
  have hid := (List.getElem?_eq_some_iff.1 c2).1
  have hwi := (List.getElem?_eq_some_iff.1 hG.w).1
  have hai := (List.getElem?_eq_some_iff.1 hG.a).1
  have hup : ∀ x ∈ E, x.all (blw blwD (X.length + 1 + 1 + 1)) = true := hG.m.ups (by omega)
  have hxs := hG.m.xs
  have hXid : ∀ l, (X ++ l)[id]? = some (.row 52 2 false (F[n].map fsU)) := fun l => by rw [List.getElem?_append_left hid]; exact c2
  have hXs : ∀ l v, (X ++ l).set id v = X.set id v ++ l := fun l v => List.set_append_left _ _ hid
  have henv : ∀ b : Bool, ([(5, U.bp 2 0), (9, .fn 39 [.bp (wi + 3) 0, .bp (ai + 3) 0, .bp 2 0]), (10, .bool b), (11, i64 n), (49, i64 (ns.length : Nat)), (50, i64 n), (53, i64 ((q : Int) + 1))] : Env).all (fun p => blw blwD (X.length + 1 + 1 + 1) p.2) = true := fun b => by
    show (decide (2 < X.length + 1 + 1 + 1) && ((decide (wi + 3 < X.length + 1 + 1 + 1) && (decide (ai + 3 < X.length + 1 + 1 + 1) && (decide (2 < X.length + 1 + 1 + 1) && true))) && true)) = true
    rw [decide_eq_true (by omega), decide_eq_true (by omega), decide_eq_true (by omega)]
    rfl
  have key : facStep to f (F, more) n q = if meetF to f F n q = get2 F n q then (F, more) else (set2 F n q (meetF to f F n q), true) := rfl
  rw [key]
  generalize meetF to f F n q = y at *
  generalize get2 F n q = z at *
  generalize F[n].map fsU = RW at *
  obtain ⟨a, b⟩ := y
  obtain ⟨c, d⟩ := z
  simp only [facP] at hm
  simp only [swS, facP]
  (have := fa hq'; repeat refine Wp.f ?_)
  refine Wp.i ?_ ?_ <;> intro h1
  · repeat refine Wp.a ?_
    apply Wp.callv
    · exact rfl
    · exact hm
    (have := fa @fsU.eq_1; repeat refine Wp.f ?_)
    by_cases he : ((a, b) : FS) = (c, d)
    · have k1 : (!decide (a = c) || !decide (b = d)) = false := by simpa using he
      apply Wp.draw; ((simp [c_value_Facts_D4, I.need]) <;> rfl); ((simp [hXid, hn', hEl, c1, hq', hRl, hRt, fsU, k1]) <;> rfl); ((simp [hXid, hn', hEl, c1, hq', hRl, hRt, fsU, k1]) <;> rfl); unfold c_value_Facts_D4
      repeat (first | ((first | apply Dr.op | apply Dr.opN | (apply Dr.opG; exact rfl)); ((simp [hXid, hn', hEl, c1, hq', hRl, hRt, fsU, k1]) <;> rfl); (apply Evt.all; intro; (simp [hXid, hn', hEl, c1, hq', hRl, hRt, fsU, k1]) <;> (try simp (disch := omega) only [wrap_id]) <;> first | exact ⟨rfl, rfl⟩ | exact rfl); ((simp [I.need]) <;> rfl)) | ((first | (apply Dr.opS; exact rfl; decide) | (apply Dr.opS0; exact rfl)); ((simp [I.need]) <;> rfl)))
      exact Dr.nil
      · simp [chkD, aside, tmpInd, ind, c_value_Facts_D4, touchX, touchE, elems, rowAt, O.uses, I.uses, M2.A.uses]
        decide
      · (simp [M2.keep]) <;> rfl
      refine Wp.i ?_ ?_ <;> intro h2
      · first | cases h2 | exact absurd (k1.symm.trans h2) (by decide)
      (have := fa @wrap_id; repeat refine Wp.f ?_)
      rw [if_pos he]
      exact ⟨X, trim_fac hup (hxs _ (by omega)) _ (henv _) [_], hG, rfl⟩
    · have k1 : (!decide (a = c) || !decide (b = d)) = true := by
        rw [← Bool.not_and, Bool.not_eq_true']
        simpa using he
      apply Wp.draw; ((simp [c_value_Facts_D4, I.need]) <;> rfl); ((simp [hXid, hn', hEl, c1, hq', hRl, hRt, fsU, k1]) <;> rfl); ((simp [hXid, hn', hEl, c1, hq', hRl, hRt, fsU, k1]) <;> rfl); unfold c_value_Facts_D4
      repeat (first | ((first | apply Dr.op | apply Dr.opN | (apply Dr.opG; exact rfl)); ((simp [hXid, hn', hEl, c1, hq', hRl, hRt, fsU, k1]) <;> rfl); (apply Evt.all; intro; (simp [hXid, hn', hEl, c1, hq', hRl, hRt, fsU, k1]) <;> (try simp (disch := omega) only [wrap_id]) <;> first | exact ⟨rfl, rfl⟩ | exact rfl); ((simp [I.need]) <;> rfl)) | ((first | (apply Dr.opS; exact rfl; decide) | (apply Dr.opS0; exact rfl)); ((simp [I.need]) <;> rfl)))
      exact Dr.nil
      · simp [chkD, aside, tmpInd, ind, c_value_Facts_D4, touchX, touchE, elems, rowAt, O.uses, I.uses, M2.A.uses]
        decide
      · (simp [M2.keep]) <;> rfl
      refine Wp.i ?_ ?_ <;> intro h2
      · apply Wp.draw; ((simp [c_value_Facts_D5, I.need]) <;> rfl); ((simp [hXid, hXs, hn', hEl, c1, hq', hRl, hRt, fsU]) <;> rfl); ((simp [hXid, hXs, hn', hEl, c1, hq', hRl, hRt, fsU]) <;> rfl); unfold c_value_Facts_D5
        repeat (first | ((first | apply Dr.op | apply Dr.opN | (apply Dr.opG; exact rfl)); ((simp [hXid, hXs, hn', hEl, c1, hq', hRl, hRt, fsU]) <;> rfl); (apply Evt.all; intro; (simp [hXid, hXs, hn', hEl, c1, hq', hRl, hRt, fsU]) <;> (try simp (disch := omega) only [wrap_id]) <;> first | exact ⟨rfl, rfl⟩ | exact rfl); ((simp [I.need]) <;> rfl)) | ((first | (apply Dr.opS; exact rfl; decide) | (apply Dr.opS0; exact rfl)); ((simp [I.need]) <;> rfl)))
        exact Dr.nil
        · simp [chkD, aside, tmpInd, ind, c_value_Facts_D5, touchX, touchE, elems, rowAt, O.uses, I.uses, M2.A.uses]
          decide
        · (simp [M2.keep]) <;> rfl
        (have := fa @wrap_id; repeat refine Wp.f ?_)
        rw [if_neg he]
        have hs := hset (a, b)
        have hl : (X.set id (.row 52 2 false (RW.set q (fsU (a, b))))).length = X.length := List.length_set ..
        have htr := trim_fac (w := w) (ns := ns) (X := X.set id (.row 52 2 false (RW.set q (fsU (a, b))))) (E := E) (by rw [hl]; exact hup) (hs.m.xs _ (by rw [hl]; omega)) _ (by rw [hl]; exact henv true) [.box [i64 a, i64 b]]
        rw [hl] at htr
        exact ⟨_, htr, hs, hl⟩
      · first | cases h2 | exact absurd (k1.symm.trans h2) (by decide)
  · cases h1
def goodM (tag es base : Nat) (st : List Ob) (r : List (List U)) (c : List U) : Prop := ∃ id, base ≤ id ∧ c = [.own id r.length] ∧ (st[id]? = some (.row tag es false r) ∨ st[id]? = some (.frow r))
def AllM (tag es base : Nat) (st : List Ob) : List (List (List U)) → List (List U) → Prop
  | [], [] => True
  | r :: M, c :: cs => goodM tag es base st r c ∧ AllM tag es base st M cs
  | _, _ => False
theorem AllM.mono {tag es base : Nat} {st st' : List Ob} (h : ∀ r c, goodM tag es base st r c → goodM tag es base st' r c) : ∀ {M : List (List (List U))} {E : List (List U)}, AllM tag es base st M E → AllM tag es base st' M E
  | [], [], _ => trivial
  | _ :: _, _ :: _, hh => ⟨h _ _ hh.1, hh.2.mono h⟩
  | [], _ :: _, hh => hh.elim
  | _ :: _, [], hh => hh.elim
theorem allm_of (tag es base : Nat) (st : List Ob) : ∀ (M : List (List (List U))) (E : List (List U)), E.length = M.length → (∀ (k : Nat) (r : List (List U)), M[k]? = some r → ∃ c, E[k]? = some c ∧ goodM tag es base st r c) → AllM tag es base st M E
  | [], [], _, _ => trivial
  | r :: M, c :: cs, hl, h => by
    refine ⟨?_, allm_of tag es base st M cs (by simpa using hl) (fun k s hs => ?_)⟩
    · obtain ⟨c', h1, h2⟩ := h 0 r rfl
      simp only [List.getElem?_cons_zero, Option.some.injEq] at h1
      rw [h1]
      exact h2
    · obtain ⟨c', h1, h2⟩ := h (k + 1) s (by simpa using hs)
      exact ⟨c', by simpa using h1, h2⟩
  | [], _ :: _, hl, _ => by simp at hl
  | _ :: _, [], hl, _ => by simp at hl
theorem frz_cellM {tag es base : Nat} {st : List Ob} {r : List (List U)} {c : List U} (h : goodM tag es base st r c) : ∃ st', accM (frz 11) st c = some ([.sl true r], st') ∧ (∀ i, i < base → st'[i]? = st[i]?) ∧ ∀ r' c', goodM tag es base st r' c' → goodM tag es base st' r' c' := by
  rcases h with ⟨id, h3, rfl, h | h⟩
  · have hid := (List.getElem?_eq_some_iff.1 h).1
    refine ⟨st.set id (.frow r), ?_, fun i hi => List.getElem?_set_ne (by omega), fun r' c' hg => ?_⟩
    · rw [accM, frzS_row h rfl]
      simp only [Option.bind_some, accM]
    · rcases hg with ⟨id', h1, h2, h4⟩
      refine ⟨id', h1, h2, ?_⟩
      by_cases hi : id = id'
      · subst hi
        right
        rw [List.getElem?_set_self hid]
        rcases h4 with h4 | h4
        · rw [h] at h4; injection h4 with h4; injection h4 with _ _ _ h4; rw [h4]
        · rw [h] at h4; injection h4 with h4; cases h4
      · rw [List.getElem?_set_ne hi]
        exact h4
  · refine ⟨st, ?_, fun _ _ => rfl, fun _ _ h => h⟩
    rw [accM, frzS_frow h rfl]
    simp only [Option.bind_some, accM]
theorem frz_cellsM {tag es base : Nat} : ∀ (M : List (List (List U))) (E : List (List U)) (st : List Ob), AllM tag es base st M E → ∃ st', accM (accM (frz 11)) st E = some (M.map fun r => [.sl true r], st') ∧ ∀ i, i < base → st'[i]? = st[i]?
  | [], [], st, _ => ⟨st, rfl, fun _ _ => rfl⟩
  | r :: M, c :: cs, st, h => by
    obtain ⟨st1, h1, h2, h3⟩ := frz_cellM h.1
    obtain ⟨st2, h4, h5⟩ := frz_cellsM M cs st1 (h.2.mono h3)
    refine ⟨st2, ?_, fun i hi => (h5 i hi).trans (h2 i hi)⟩
    rw [accM, h1]
    simp only [Option.bind_some, h4, List.map_cons]
  | [], _ :: _, _, h => h.elim
  | _ :: _, [], _, h => h.elim
theorem mat_frozen {tag es base tg rid : Nat} {M : List (List (List U))} {E : List (List U)} {st : List Ob} (hr : st[rid]? = some (.row tg 1 true E)) (hb : rid < base) (hl : E.length = M.length) (hc : ∀ (k : Nat) (r : List (List U)), M[k]? = some r → ∃ id, base ≤ id ∧ E[k]? = some [U.own id r.length] ∧ st[id]? = some (Ob.row tag es false r)) :
    (frz frzD st (.own rid M.length)).map (·.1) = some (.sl true (M.map fun r => [.sl true r])) := by
  have ha := allm_of tag es base st M E hl (fun k r hk => by
    obtain ⟨id, h1, h2, h3⟩ := hc k r hk
    exact ⟨_, h2, id, h1, rfl, .inl h3⟩)
  obtain ⟨st', h1, h2⟩ := frz_cellsM M E st ha
  rw [← hl, frz_own, hr]
  unfold frzRow
  simp only [if_true, h1, Option.bind_some, h2 rid hb, hr, Option.map_some]
theorem lend_cells {st : List Ob} : ∀ (M : List (List (List U))) (E : List (List U)), E.length = M.length → (∀ (k : Nat) (r : List (List U)), M[k]? = some r → ∃ id tag es, E[k]? = some [U.own id r.length] ∧ st[id]? = some (Ob.row tag es false r)) → allM (allM (brw 11 st)) E = some (M.map fun r => [.sl false r])
  | [], [], _, _ => rfl
  | r :: M, c :: cs, hl, h => by
    obtain ⟨id, tag, es, h1, h2⟩ := h 0 r rfl
    simp only [List.getElem?_cons_zero, Option.some.injEq] at h1
    subst h1
    have ih := lend_cells M cs (by simpa using hl) (fun k s hs => by
      obtain ⟨id, tag, es, k1, k2⟩ := h (k + 1) s (by simpa using hs)
      exact ⟨id, tag, es, by simpa using k1, k2⟩)
    have h3 : brw 11 st (.own id r.length) = some (.sl false r) := by
      rw [brw]
      simp only [h2, if_true]
    simp only [M2.allM, h3, Option.bind_some, ih, List.map_cons]
  | [], _ :: _, hl, _ => by simp at hl
  | _ :: _, [], hl, _ => by simp at hl
theorem mat_lent {tg rid : Nat} {M : List (List (List U))} {E : List (List U)} {st : List Ob} (hr : st[rid]? = some (.row tg 1 true E)) (hl : E.length = M.length) (hc : ∀ (k : Nat) (r : List (List U)), M[k]? = some r → ∃ id tag es, E[k]? = some [U.own id r.length] ∧ st[id]? = some (Ob.row tag es false r)) :
    brw frzD st (.own rid M.length) = some (.sl false (M.map fun r => [.sl false r])) := by
  rw [frzD, brw]
  simp only [hr, hl, if_true, lend_cells M E hl hc, Option.bind_some]
section
variable (w : Way) (ns : List Node) (E : List (List U)) (wi ai : Nat) (to : Nat → List Edge) (f : Edge → Nat → FS) (W A : List (List U))
structure Sweep : Prop where
  ok : ByOK ns.length to f
  es : ∀ n, (to n).length ≤ 1000
  w : ∀ n, n < ns.length → W[n]? = some [.sl true (edR (to n))]
  a : ∀ n, n < ns.length → A[n]? = some [.sl true (nodeA f (to n))]
variable {w ns E wi ai to f W A}
set_option maxHeartbeats 8000000 in
theorem sw6_loop (hw : Sweep ns to f W A) (F0 : List (List FS)) (n : Nat) (hn : n < ns.length) (x : List (List FS) × Bool) (X : List Ob) (hS : SInv ns.length to f F0 x n 0) (hG : GInv E wi ai W A x.1 X) :
    Wp T (.loop c_value_Facts_L6) (swS w ns E wi ai x.2 n 0 X) (fun _ => False) (fun _ => False) (fun b s' => b = 8 ∧ ∃ (x' : List (List FS) × Bool) (X' : List Ob), SInv ns.length to f F0 x' n 24 ∧ GInv E wi ai W A x'.1 X' ∧ X'.length = X.length ∧
      s' = ⟨[(5, .bp 2 0), (9, .fn 39 [.bp (wi + 3) 0, .bp (ai + 3) 0, .bp 2 0]), (10, .bool x'.2), (11, i64 n), (49, i64 (ns.length : Nat)), (50, i64 n), (53, i64 (24 : Nat)), (54, .bool false)], facP w ns E X'⟩) := by
  refine Wp.loop (fun y : Nat × (List (List FS) × Bool) × List Ob => 24 - y.1) (fun y => swS w ns E wi ai y.2.1.2 n y.1 y.2.2) (fun y => y.1 ≤ 24 ∧ SInv ns.length to f F0 y.2.1 n y.1 ∧ GInv E wi ai W A y.2.1.1 y.2.2 ∧ y.2.2.length = X.length) (fun y ⟨hq, hs, hg, hl⟩ => ?_) (0, x, X) ⟨by simp, hS, hG, rfl⟩
  obtain ⟨q, ⟨F, more⟩, Y⟩ := y
  simp only at hq hs hg hl ⊢
  by_cases hq24 : q < 24
  · have hst := sw_step w ns E wi ai to f W A F Y hg hs.inv.len (fun m hm => hs.inv.row m (by have := hs.inv.len; simp only at this; omega)) more n q hn hq24 (hw.es n) (hw.w n hn) (hw.a n hn) (fun e he h4 => by
      obtain ⟨k1, k2, k3⟩ := hw.ok.frm n hn e he q hq24 h4
      have := hs.inv.len
      simp only at this
      exact ⟨by omega, k2, k3, hw.ok.pos n hn e he q hq24 h4⟩)
    have hnx := hs.step hw.ok hn hq24
    refine (hst _ _).imp (fun s' h => ?_) (fun _ h => h) (fun _ _ h => h)
    obtain ⟨X', h1, h2, h3⟩ := h
    exact ⟨(q + 1, facStep to f (F, more) n q, X'), h1, by simp only; omega, by simp only; omega, hnx, h2, by simp only; omega⟩
  · have hq2 : q = 24 := by omega
    subst hq2
    simp only [swS, facP]
    repeat refine Wp.a ?_
    refine Wp.i ?_ ?_ <;> intro h1
    · cases h1
    · exact Wp.exit ⟨rfl, (F, more), Y, hs, hg, hl, rfl⟩
def sw7S (w : Way) (ns : List Node) (E : List (List U)) (wi ai : Nat) (more : Bool) (n : Nat) (X : List Ob) : S :=
  ⟨[(5, .bp 2 0), (9, .fn 39 [.bp (wi + 3) 0, .bp (ai + 3) 0, .bp 2 0]), (10, .bool more), (49, i64 (ns.length : Nat)), (50, i64 n)], facP w ns E X⟩
set_option maxHeartbeats 8000000 in
theorem sw7_loop (hns : ns.length ≤ 200) (hw : Sweep ns to f W A) (F0 : List (List FS)) (X : List Ob) (hS : SInv ns.length to f F0 (F0, false) 0 0) (hG : GInv E wi ai W A F0 X) :
    Wp T (.loop c_value_Facts_L7) (sw7S w ns E wi ai false 0 X) (fun _ => False) (fun _ => False) (fun b s' => b = 6 ∧ ∃ (x' : List (List FS) × Bool) (X' : List Ob), SInv ns.length to f F0 x' ns.length 0 ∧ GInv E wi ai W A x'.1 X' ∧ X'.length = X.length ∧
      s' = ⟨[(5, .bp 2 0), (9, .fn 39 [.bp (wi + 3) 0, .bp (ai + 3) 0, .bp 2 0]), (10, .bool x'.2), (49, i64 (ns.length : Nat)), (50, i64 (ns.length : Nat)), (51, .bool false)], facP w ns E X'⟩) := by
  refine Wp.loop (fun y : Nat × (List (List FS) × Bool) × List Ob => ns.length - y.1) (fun y => sw7S w ns E wi ai y.2.1.2 y.1 y.2.2) (fun y => y.1 ≤ ns.length ∧ SInv ns.length to f F0 y.2.1 y.1 0 ∧ GInv E wi ai W A y.2.1.1 y.2.2 ∧ y.2.2.length = X.length) (fun y ⟨hn, hs, hg, hl⟩ => ?_) (0, (F0, false), X) ⟨by simp, hS, hG, rfl⟩
  obtain ⟨n, ⟨F, more⟩, Y⟩ := y
  simp only at hn hs hg hl ⊢
  by_cases hn2 : n < ns.length
  · have hn' : (n : Int) < ns.length := by omega
    have hlp := sw6_loop (w := w) hw F0 n hn2 (F, more) Y hs hg
    simp only [sw7S, facP]
    (have := fa hn'; repeat refine Wp.f ?_)
    refine Wp.i ?_ ?_ <;> intro h1
    · repeat refine Wp.a ?_
      refine (show Wp T (.loop c_value_Facts_L6) (swS w ns E wi ai more n 0 Y) _ _ _ from hlp.imp (fun _ h => h.elim) (fun _ h => h.elim) ?_)
      rintro b s ⟨rfl, x', X', h3, h4, h5, rfl⟩
      rw [if_pos rfl]
      simp only [facP]
      (have := fa @wrap_id; repeat refine Wp.f ?_)
      refine ⟨(n + 1, x', X'), ?_, by simp only; omega, by simp only; omega, h3.next, h4, by simp only; omega⟩
      exact trimO_len (by simp [h5])
    · cases h1
  · have hn3 : n = ns.length := by omega
    subst hn3
    simp only [sw7S, facP]
    repeat refine Wp.a ?_
    refine Wp.i ?_ ?_ <;> intro h1
    · simp at h1
    · exact Wp.exit ⟨rfl, (F, more), Y, hs, hg, hl, rfl⟩
def sw8S (w : Way) (ns : List Node) (E : List (List U)) (wi ai : Nat) (more : Bool) (ex : Env) (X : List Ob) : S :=
  ⟨(5, .bp 2 0) :: (9, .fn 39 [.bp (wi + 3) 0, .bp (ai + 3) 0, .bp 2 0]) :: (10, .bool more) :: ex, facP w ns E X⟩
set_option maxHeartbeats 8000000 in
theorem sw8_loop (hns : ns.length ≤ 200) (hw : Sweep ns to f W A) (F : List (List FS)) (X : List Ob) (hF : FInv ns.length to f F) (hG : GInv E wi ai W A F X) :
    Wp T (.loop c_value_Facts_L8) (sw8S w ns E wi ai true [] X) (fun _ => False) (fun _ => False) (fun b s' => b = 4 ∧ ∃ (F' : List (List FS)) (X' : List Ob), FInv ns.length to f F' ∧ GInv E wi ai W A F' X' ∧ (∀ n p, n < ns.length → p < 24 → meetF to f F' n p = get2 F' n p) ∧
      s' = ⟨[(5, .bp 2 0), (9, .fn 39 [.bp (wi + 3) 0, .bp (ai + 3) 0, .bp 2 0]), (47, .bool false)], facP w ns E X'⟩) := by
  refine Wp.loop (fun y : (List (List FS) × Bool) × List Ob × Env => 2 * (48 * ns.length - totF y.1.1) + bitF y.1.2) (fun y => sw8S w ns E wi ai y.1.2 y.2.2 y.2.1) (fun y => FInv ns.length to f y.1.1 ∧ GInv E wi ai W A y.1.1 y.2.1 ∧ (y.1.2 = false → ∀ n p, n < ns.length → p < 24 → meetF to f y.1.1 n p = get2 y.1.1 n p)) (fun y ⟨hf, hg, hd⟩ => ?_) ((F, true), X, []) ⟨hF, hG, by simp⟩
  obtain ⟨⟨F1, more⟩, Y, ex⟩ := y
  simp only at hf hg hd ⊢
  cases more with
  | false =>
    simp only [sw8S, facP]
    repeat refine Wp.a ?_
    refine Wp.i ?_ ?_ <;> intro h1
    · cases h1
    · exact Wp.exit ⟨rfl, F1, Y, hf, hg, hd rfl, rfl⟩
  | true =>
    have hlp := sw7_loop (w := w) hns hw F1 Y ⟨hf, (by intro h; cases h), fun _ => ⟨rfl, fun m q h => by omega⟩⟩ hg
    have hEl : E.length = ns.length := by rw [hg.m.len, List.length_map]; exact hf.len
    simp only [sw8S, facP]
    repeat refine Wp.a ?_
    refine Wp.i ?_ ?_ <;> intro h1
    · (have := fa hEl; repeat refine Wp.f ?_)
      refine (show Wp T (.loop c_value_Facts_L7) (sw7S w ns E wi ai false 0 Y) _ _ _ from hlp.imp (fun _ h => h.elim) (fun _ h => h.elim) ?_)
      rintro b s ⟨rfl, ⟨F2, more2⟩, X', h3, h4, h5, rfl⟩
      rw [if_pos rfl]
      simp only [facP]
      repeat refine Wp.a ?_
      refine ⟨((F2, more2), X', [(49, i64 (ns.length : Nat)), (50, i64 (ns.length : Nat)), (51, .bool false)]), ?_, ?_, h3.inv, h4, fun hm => ?_⟩
      · refine trimO_len ?_
        show (Ob.box (skelU w ns) :: Ob.row 50 1 true E :: Ob.box [.own 1 ns.length] :: X').length = (Ob.box (skelU w ns) :: Ob.row 50 1 true E :: Ob.box [.own 1 ns.length] :: Y).length
        simp only [List.length_cons, h5]
      · simp only
        have hle := tot_le (F := F2) (N := ns.length) h3.inv.len h3.inv.row
        cases more2 with
        | true =>
          have := h3.more rfl
          simp only at this
          simp only [bitF, if_true]
          omega
        | false =>
          have := (h3.still rfl).1
          simp only at this
          subst this
          simp [bitF]
      · simp only at hm
        subst hm
        obtain ⟨k1, k2⟩ := h3.still rfl
        simp only at k1
        subst k1
        exact fun n p hn hp => k2 n p (by omega)
    · cases h1
end
def flS (p : Bool) (l : List Ins) (w : Way) (ns : List Node) (n : Nat) : S :=
  ⟨[(0, insL p l), (3, .bp 0 0), (5, .bp 2 0), (23, i64 (ns.length : Nat)), (24, i64 n)], facP w ns (fillE ns.length n) (fillX n)⟩
set_option maxHeartbeats 8000000 in
theorem fl_loop (p : Bool) (l : List Ins) (w : Way) (ns : List Node) (hns : ns.length ≤ 200) :
    Wp T (.loop c_value_Facts_L2) (flS p l w ns 0) (fun _ => False) (fun _ => False) (fun b s' => b = 0 ∧ s' = ⟨[(0, insL p l), (3, .bp 0 0), (5, .bp 2 0), (23, i64 (ns.length : Nat)), (24, i64 (ns.length : Nat)), (25, .bool false)], facP w ns (fillE ns.length ns.length) (fillX ns.length)⟩) := by
  refine Wp.count ns.length (fun n => flS p l w ns n) (fun _ => True) (fun n hn _ => ?_) (fun _ => ?_) 0 (by omega) trivial
  · have hn' : (n : Int) < ns.length := by omega
    have hlp := fill_loop p l w ns n hn
    have hxl := fillX_len n
    have hup : Ob.blw ((fillX n).length + 1 + 1 + 1) (.row 50 1 true (fillE ns.length (n + 1))) = false := by
      rw [← fillE_set hn]
      exact row_up _ n _ 24 _ (by rw [fillE_len (by omega)]; exact hn) (by omega)
    simp only [flS, facP]
    (have := fa hn'; repeat refine Wp.f ?_)
    refine Wp.i ?_ ?_ <;> intro h1
    · repeat refine Wp.a ?_
      refine (show Wp T (.loop c_value_Facts_L1) (fS p l w ns n 0 (fillE ns.length n) (fillX n)) _ _ _ from hlp.imp (fun _ h => h.elim) (fun _ h => h.elim) ?_)
      rintro b s ⟨rfl, rfl⟩
      rw [if_pos rfl]
      (have := fa @wrap_id; repeat refine Wp.f ?_)
      exact ⟨keep_all _ _ _ 1 _ rfl (by simp) hup, trivial⟩
    · cases h1
  · simp only [flS, facP]
    repeat refine Wp.a ?_
    refine Wp.i ?_ ?_ <;> intro h1
    · simp at h1
    · exact Wp.exit ⟨rfl, rfl⟩
noncomputable def factsU (l : List Ins) (cut : List Bool) : List (List U) := (List.range (pNodes l cut).length).map fun n => [.sl true (rowU (factF l cut n))]
theorem pf21 : pfT T 21 = true := rfl
theorem pf12 : pfT T 12 = true := rfl
theorem plain_skel (w : Way) (ns : List Node) : plainU (.agg (skelU w ns)) = true := by
  have h2 : (tabU w.2).all (flatU 5) = true := plain_tab w.2
  show (wayU w ++ [U.sl true (ns.map nodeU)]).all (flatU 5) = true
  rw [List.all_append]
  have h3 : (wayU w).all (flatU 5) = true := by
    show (true && (tabU w.2).all (flatU 5)) = true
    rw [h2]
    rfl
  rw [h3]
  rfl
set_option maxHeartbeats 16000000 in
theorem facts_call (p : Bool) (l : List Ins) (hr : rightF l = true) (cut : List Bool) (st : List Ob) : Cl T n_value_Facts [insL p l, .agg (skelU (pEntry l) (pNodes l cut))] st (.sl true (factsU l cut)) st := by
  have hbr : brw frzD st (.agg (skelU (pEntry l) (pNodes l cut))) = some (.agg (skelU (pEntry l) (pNodes l cut))) := brw_skel st _ _
  refine Wp.pure (fn := c_value_Facts) rfl rfl rfl («as» := [insL p l, .agg (skelU (pEntry l) (pNodes l cut))]) (by simp [hbr, insL]; rfl) ?_
  obtain ⟨f1, f2, f3⟩ := skel_facts (cut := cut) hr
  have hb := built_call p l hr cut
  have hwy : ∀ st, Cl T n_skel_Ways [.agg (skelU (pEntry l) (pNodes l cut))] st (.sl true (waysU (pNodes l cut).length (toF (wE l) (rnE l cut)))) st := ways_call (pEntry l) f3 (pNodes l cut) f1 f2
  have hal := all_call p l hr cut
  have hN : (rnE l cut).length = (pNodes l cut).length := List.length_map ..
  have hok := by_ok hr cut
  rw [hN] at hok
  have hsw : Sweep (pNodes l cut) (toF (wE l) (rnE l cut)) (byF l (wE l) (rnE l cut)) (waysU (pNodes l cut).length (toF (wE l) (rnE l cut))) (allU (pNodes l cut).length (toF (wE l) (rnE l cut)) (byF l (wE l) (rnE l cut))) := ⟨hok, toF_len hr cut, fun n hn => by simp [waysU, hn], fun n hn => by simp [allU, hn]⟩
  have hfl := fl_loop p l (pEntry l) (pNodes l cut) f1
  have hmi := fill_minv (pNodes l cut).length
  have hf0 : FInv (pNodes l cut).length (toF (wE l) (rnE l cut)) (byF l (wE l) (rnE l cut)) (List.replicate (pNodes l cut).length (List.replicate 24 fsO)) := finv0
  have hdone : ∀ F, FInv (pNodes l cut).length (toF (wE l) (rnE l cut)) (byF l (wE l) (rnE l cut)) F → (∀ n p, n < (pNodes l cut).length → p < 24 → meetF (toF (wE l) (rnE l cut)) (byF l (wE l) (rnE l cut)) F n p = get2 F n p) → F = (List.range (pNodes l cut).length).map fun n => (List.range 24).map (factF l cut n) := fun F h1 h2 => by
    have := facts_done hr (cut := cut) (F := F) (by rw [hN]; exact h1) (by rw [hN]; exact h2)
    rwa [hN] at this
  have sl := skel_len f3 (pNodes l cut)
  have t26 : (skelU (pEntry l) (pNodes l cut)).take 26 = skelU (pEntry l) (pNodes l cut) := by rw [List.take_of_length_le]; omega
  have sd25 : (skelU (pEntry l) (pNodes l cut)).drop 25 = [.sl true ((pNodes l cut).map nodeU)] := drop25 f3 _
  have hps := plain_skel (pEntry l) (pNodes l cut)
  have hfE : (factsU l cut) = ((List.range (pNodes l cut).length).map fun n => (List.range 24).map (factF l cut n)).map fun r => [.sl true (r.map fsU)] := by simp [factsU, rowU, Function.comp_def]
  rw [hfE]
  generalize hfm : ((List.range (pNodes l cut).length).map fun n => (List.range 24).map (factF l cut n)) = FM at *
  generalize toF (wE l) (rnE l cut) = to at *
  generalize byF l (wE l) (rnE l cut) = f at *
  generalize waysU (pNodes l cut).length to = W at *
  generalize allU (pNodes l cut).length to f = A at *
  have lim : ((pNodes l cut).length : Int) * 24 ≤ limit := by
    show ((pNodes l cut).length : Int) * 24 ≤ 140737488355328
    omega
  (all_goals have := fa (a5 @insL.eq_1 sl t26 sd25 lim); repeat' first | refine Wp.v ?_ | (apply Wp.call; exact hb _) | (refine Wp.c ?_ ?_ <;> intro))
  refine (show Wp T (.loop c_value_Facts_L2) (flS p l (pEntry l) (pNodes l cut) 0) _ _ _ from hfl.imp (fun _ h => h.elim) (fun _ h => h.elim) ?_)
  rintro b s ⟨rfl, rfl⟩
  rw [if_pos rfl]
  generalize fillE (pNodes l cut).length (pNodes l cut).length = E at *
  generalize fillX (pNodes l cut).length = X at *
  simp only [facP]
  have hpi : plainU (.sl p (l.map insU)) = true := rfl
  repeat refine Wp.a ?_
  refine Wp.draw (by (simp [c_value_Facts_D3, I.need]) <;> rfl) (by (simp [insL, sl, t26, pf21, pf12, -plainU, hps, hpi]) <;> rfl) (by (simp [insL, sl, t26, pf21, pf12, -plainU, hps, hpi]) <;> rfl) (by (unfold c_value_Facts_D3); (repeat (first | ((first | apply Dr.op | apply Dr.opN | (apply Dr.opG; exact rfl)); ((simp [insL, sl, t26, pf21, pf12, -plainU, hps, hpi]) <;> rfl); (apply Evt.all; intro; (simp [insL, sl, t26, pf21, pf12, -plainU, hps, hpi]) <;> (try simp (disch := omega) only [wrap_id]) <;> first | exact ⟨rfl, rfl⟩ | exact rfl); ((simp [I.need]) <;> rfl)) | ((first | (apply Dr.opS; exact rfl; decide) | (apply Dr.opS0; exact rfl)); ((simp [I.need]) <;> rfl)) | (apply Dr.call; ((simp [insL, sl, t26, pf21, pf12, -plainU, hps, hpi]) <;> rfl); exact hwy _) | (apply Dr.callG; (exact rfl); ((simp [insL, sl, t26, pf21, pf12, -plainU, hps, hpi]) <;> rfl); exact hwy _) | (apply Dr.call; ((simp [insL, sl, t26, pf21, pf12, -plainU, hps, hpi]) <;> rfl); exact hal _) | (apply Dr.callG; (exact rfl); ((simp [insL, sl, t26, pf21, pf12, -plainU, hps, hpi]) <;> rfl); exact hal _))); exact Dr.nil) (by (simp [chkD, aside, tmpInd, ind, c_value_Facts_D3, touchX, touchE, elems, rowAt, O.uses, I.uses, M2.A.uses]) <;> (try decide)) (by (simp [M2.keep]) <;> rfl) ?_
  repeat refine Wp.a ?_
  have hG : GInv E X.length (X.length + 1) W A (List.replicate (pNodes l cut).length (List.replicate 24 fsO)) (X ++ [.box [.sl true W], .box [.sl true A]]) := by
    refine ⟨?_, by rw [List.getElem?_append_right (Nat.le_refl _), Nat.sub_self]; rfl, by rw [List.getElem?_append_right (by omega), show X.length + 1 - X.length = 1 by omega]; rfl⟩
    have := hmi.push [.box [.sl true W], .box [.sl true A]] (fun L _ => rfl)
    simpa [fsU] using this
  have hlp := sw8_loop (w := pEntry l) f1 hsw _ _ hf0 hG
  refine (show Wp T (.loop c_value_Facts_L8) (sw8S (pEntry l) (pNodes l cut) E X.length (X.length + 1) true [] (X ++ [.box [.sl true W], .box [.sl true A]])) _ _ _ from hlp.imp (fun _ h => h.elim) (fun _ h => h.elim) ?_)
  rintro b s ⟨rfl, F', X', h1, h2, h3, rfl⟩
  rw [if_pos rfl]
  have hF := hdone F' h1 h3
  subst hF
  have hFl := h1.len
  simp only [facP]
  repeat refine Wp.a ?_
  refine Wp.ret ?_
  have hz := mat_frozen (tag := 52) (es := 2) (base := 3) (tg := 50) (rid := 1) (M := F'.map (·.map fsU)) (E := E) (st := facP (pEntry l) (pNodes l cut) E X') rfl (by omega) h2.m.len (fun k r hk => by
    obtain ⟨id, c1, c2⟩ := h2.m.cell k r hk
    exact ⟨id + 3, by omega, c1, c2⟩)
  rw [List.length_map, hFl] at hz
  simp only [Res, resU, res1, c_value_Facts, M2.allM, Option.bind_some]
  refine hz.trans ?_
  simp
end Go.Proofs.YtcehbpimdngjfaaDoor.M2
