/- What the functions answer in M2. Part 28: the ways to a node, as the document says. -/
import Derived.Test.YtcehbpimdngjfaaDoorCg
set_option linter.unusedSimpArgs false
set_option linter.unusedVariables false
set_option linter.unusedSectionVars false
namespace Go.Proofs.YtcehbpimdngjfaaDoor.M2
open Go
attribute [local simp] ev1 M2.get put A.ev ld sub part elems bin arith un opt idx fillC cellsO splice over newOb sto fillR laidOwn appTo appRow touch touchN touchM touchE touchA plainU flatU plainAs allM rowAt stoRow accM_nil accM_cons accMM_nil accMM_cons frz_int frz_bool frz_str frz_slt frz_nils frz_nilI frz_nilF frz_own frzRow_row frzRow_frow Ob.blw blw_bool blw_int blw_str blw_nils blw_nilI blw_nilF blw_nilp blw_nilm blw_sl blw_own blw_bp blw_rp blw_mp blw_it params
attribute [local simp] frz_agg frz_tup frz_iface frzS_agg frzS_iface accMS_cons frzS_int frzS_bool frzS_str frzS_slt frzS_nils frzS_nilI beq_dec bne_dec
theorem froms_call (p : Bool) (l : List Ins) (q : Bool) (cut : List Bool) (i : Nat) (hi : i < l.length) (hl : l.length < 1000) (hto : (l.getD i default).op = 17 → 0 ≤ (l.getD i default).to) (st : List Ob) : Cl T 37 [insL p l, boolU q cut, i64 i] st (natU true (fsC l cut i)) st := by
  refine Wp.pure (fn := c_joineryref10_froms) rfl rfl rfl («as» := [insL p l, boolU q cut, i64 i]) rfl ?_
  unfold fsC fsAt
  have hx : l.getD i default = l[i] := by simp [hi]
  rw [hx] at hto ⊢
  unfold fsN
  by_cases h18 : l[i].op = 18
  · have d18 : decide (l[i].op = 18) = true := decide_eq_true h18
    have e : (if cutF cut i = true then [] else if l[i].op = 18 then [] else if l[i].op = 17 then [l[i].to.toNat, i + 1] else [i + 1]) = ([] : List Nat) := by simp [h18]
    rw [e]
    (all_goals have := fa (a5 @insL.eq_1 @insU.eq_1 @natU.eq_1 @boolU.eq_1 hi); repeat' first | refine Wp.v ?_ | (refine Wp.c ?_ ?_ <;> intro))
    refine Wp.ret ?_
    simp [Res, resU, res1, c_joineryref10_froms, natU]
  · have d18 : decide (l[i].op = 18) = false := decide_eq_false h18
    rw [if_neg h18]
    by_cases hc : i < cut.length
    · have dc : decide (i < cut.length) = true := decide_eq_true hc
      have hcg : cutF cut i = cut[i] := by simp [cutF, hc]
      rw [hcg]
      have hcl : (i : Int) < cut.length := by omega
      cases hb : cut[i] with
      | true =>
        have eb : cut[i]? = some true := by rw [List.getElem?_eq_getElem hc, hb]
        (all_goals have := fa (a5 @insL.eq_1 @insU.eq_1 @natU.eq_1 @boolU.eq_1 (a3 hi hcl eb)); repeat' first | refine Wp.v ?_ | (refine Wp.c ?_ ?_ <;> intro))
        refine Wp.ret ?_
        simp [Res, resU, res1, c_joineryref10_froms, natU]
      | false =>
        have eb : cut[i]? = some false := by rw [List.getElem?_eq_getElem hc, hb]
        by_cases h17 : l[i].op = 17
        · have d17 : decide (l[i].op = 17) = true := decide_eq_true h17
          obtain ⟨N, hN⟩ := Int.eq_ofNat_of_zero_le (hto h17)
          (all_goals have := fa (a5 @insL.eq_1 @insU.eq_1 @natU.eq_1 @boolU.eq_1 (a3 hi hcl eb)); repeat' first | refine Wp.v ?_ | (refine Wp.c ?_ ?_ <;> intro))
          refine Wp.ret ?_
          simp [Res, resU, res1, c_joineryref10_froms, natU, h17, hN]
        · have d17 : decide (l[i].op = 17) = false := decide_eq_false h17
          (all_goals have := fa (a5 @insL.eq_1 @insU.eq_1 @natU.eq_1 @boolU.eq_1 (a3 hi hcl eb)); repeat' first | refine Wp.v ?_ | (refine Wp.c ?_ ?_ <;> intro))
          refine Wp.ret ?_
          simp [Res, resU, res1, c_joineryref10_froms, natU, h17]
    · have dc : decide (i < cut.length) = false := decide_eq_false hc
      have hcg : cutF cut i = false := by simp [cutF, List.getElem?_eq_none (Nat.le_of_not_lt hc)]
      rw [hcg]
      by_cases h17 : l[i].op = 17
      · have d17 : decide (l[i].op = 17) = true := decide_eq_true h17
        obtain ⟨N, hN⟩ := Int.eq_ofNat_of_zero_le (hto h17)
        (all_goals have := fa (a5 @insL.eq_1 @insU.eq_1 @natU.eq_1 @boolU.eq_1 hi); repeat' first | refine Wp.v ?_ | (refine Wp.c ?_ ?_ <;> intro))
        refine Wp.ret ?_
        simp [Res, resU, res1, c_joineryref10_froms, natU, h17, hN]
      · have d17 : decide (l[i].op = 17) = false := decide_eq_false h17
        (all_goals have := fa (a5 @insL.eq_1 @insU.eq_1 @natU.eq_1 @boolU.eq_1 hi); repeat' first | refine Wp.v ?_ | (refine Wp.c ?_ ?_ <;> intro))
        refine Wp.ret ?_
        simp [Res, resU, res1, c_joineryref10_froms, natU, h17]
def whS (p : Bool) (ps : List Nat) (x : Nat) (i : Nat) : S := ⟨[(0, natU p ps), (1, i64 x), (5, i64 i)], []⟩
theorem where_call (p : Bool) (ps : List Nat) (x : Nat) (hl : ps.length < 1000) (st : List Ob) (PU : U) (hPU : brw frzD st PU = some (natU p ps)) : Cl T 62 [PU, i64 x] st (i64 (ps.idxOf x : Nat)) st := by
  refine Wp.pure (fn := c_joineryref10_where) rfl rfl rfl («as» := [natU p ps, i64 x]) (by simp [hPU]; rfl) ?_
  repeat refine Wp.a ?_
  refine (show Wp T (.loop c_joineryref10_where_L0) (whS p ps x (0 : Nat)) _ _ _ from Wp.count ps.length (fun i => whS p ps x i) (fun i => x ∉ ps.take i) (fun i hi hn => ?_) (fun hn => ?_) 0 (by omega) (by simp))
  · have hi' : (i : Int) < ps.length := by omega
    simp only [whS]
    (have := fa (a2 @natU.eq_1 hi'); repeat refine Wp.f ?_)
    refine Wp.i ?_ ?_ <;> intro h1
    · (have := fa (a2 @natU.eq_1 hi); repeat refine Wp.f ?_)
      refine Wp.i ?_ ?_ <;> intro h2
      · have h2' : ps[i] = x := by
          have : ((ps[i] : Nat) : Int) = x := by simpa using h2
          omega
        repeat refine Wp.a ?_
        refine Wp.ret ?_
        have : ps.idxOf x = i := by
          rw [← List.take_append_drop i ps, List.idxOf_append, if_neg hn, List.drop_eq_getElem_cons hi, h2', List.idxOf_cons_self]
          simp; omega
        simp [Res, resU, res1, c_joineryref10_where, this]
      · have h2' : ¬ ps[i] = x := by
          intro h
          rw [h] at h2
          simp at h2
        (have := fa @wrap_id; repeat refine Wp.f ?_)
        refine ⟨trimO_len rfl, ?_⟩
        rw [List.take_succ_eq_append_getElem hi]
        simp only [List.mem_append, List.mem_singleton, not_or]
        exact ⟨hn, fun h => h2' h.symm⟩
    · cases h1
  · rw [List.take_of_length_le (Nat.le_refl _)] at hn
    simp only [whS]
    (have := fa @natU.eq_1; repeat refine Wp.f ?_)
    refine Wp.i ?_ ?_ <;> intro h1
    · simp at h1
    · refine Wp.exit ?_
      rw [if_pos rfl]
      (have := fa @natU.eq_1; repeat refine Wp.f ?_)
      refine Wp.ret ?_
      simp [Res, resU, res1, c_joineryref10_where, List.idxOf_eq_length hn]
theorem trim_backs {st l : List Ob} {e : Env} (he : e.all (fun p => blw blwD st.length p.2) = true) (hB : st.all (Ob.blw st.length) = true) : trimO st.length ⟨e, st ++ l⟩ = ⟨e, st⟩ := by
  unfold trimO trim
  simp only [List.take_left, he, hB, Bool.and_self, if_true, Option.getD_some]
def wayU (w : Way) : List U := i64 w.1 :: tabU w.2
def outsU (o : Option (List Way)) : U := .sl true ((o.getD []).map wayU)
def nodeU (x : Node) : List U := [i64 x.1, outsU x.2]
def mapE : Nat → List Nat → List (U × U)
  | _, [] => []
  | k, p :: ps => (i64 p, i64 k) :: mapE (k + 1) ps
theorem mapE_app : ∀ (k : Nat) (ps : List Nat) (p : Nat), mapE k (ps ++ [p]) = mapE k ps ++ [(i64 p, i64 ((k + ps.length : Nat) : Int))]
  | k, [], p => rfl
  | k, q :: ps, p => by
    rw [List.cons_append, mapE, mapE, mapE_app (k + 1) ps p, List.cons_append, List.length_cons, show k + 1 + ps.length = k + (ps.length + 1) by omega]
theorem same_i64 (x y : Int) : sameV .ti (i64 x) (i64 y) = some (decide (x = y)) := by
  simp [sameV, cellsS, same, sameD]
theorem map_look : ∀ (k : Nat) (ps : List Nat) (p : Nat), look .ti (i64 p) (mapE k ps) = some (if p ∈ ps then some (i64 ((k + ps.idxOf p : Nat) : Int)) else none)
  | k, [], p => rfl
  | k, q :: ps, p => by
    rw [mapE, look, same_i64]
    by_cases h : p = q
    · subst h
      simp
    · have h' : ¬ ((p : Int) = q) := by omega
      have h2 : ¬ q = p := fun e => h e.symm
      rw [decide_eq_false h', Option.bind_some, if_neg (by simp), map_look (k + 1) ps p]
      simp only [List.mem_cons, h, false_or]
      rw [List.idxOf_cons, show (q == p) = false by simpa using h2]
      simp only [cond_false]
      rw [show k + 1 + ps.idxOf p = k + (ps.idxOf p + 1) by omega]
theorem map_set : ∀ (k : Nat) (ps : List Nat) (p : Nat) (v : U), p ∉ ps → mset .ti (i64 p) v (mapE k ps) = some (mapE k ps ++ [(i64 p, v)])
  | k, [], p, v, _ => rfl
  | k, q :: ps, p, v, h => by
    simp only [List.mem_cons, not_or] at h
    have h' : ¬ ((p : Int) = q) := by omega
    rw [mapE, mset, same_i64, decide_eq_false h', Option.bind_some, if_neg (by simp), map_set (k + 1) ps p v h.2]
    rfl
abbrev nil26 : List U := [.int .i64 0, .nilI, .nilI, .nilI, .nilI, .nilI, .nilI, .nilI, .nilI, .nilI, .nilI, .nilI, .nilI, .nilI, .nilI, .nilI, .nilI, .nilI, .nilI, .nilI, .nilI, .nilI, .nilI, .nilI, .nilI, .nils]
def bSt (p : Bool) (l : List Ins) (ns : List Node) (ent : List U) : List Ob := [.box [insL p l], .box nil26, .row 81 2 false (ns.map nodeU), .box (ent ++ [.own 2 ns.length]), .map (mapE 0 (ns.map (·.1))), .box [.mp 4]]
theorem bSt_blw (p : Bool) (l : List Ins) (ns : List Node) (w : Way) (L : Nat) (hL : 5 < L) : (bSt p l ns (wayU w)).all (Ob.blw L) = true := by
  have h3 : Ob.blw L (.box (wayU w ++ [U.own 2 ns.length])) = true := by
    show (wayU w ++ [U.own 2 ns.length]).all (blw blwD L) = true
    rw [List.all_eq_true]
    intro u hu
    simp only [wayU, List.mem_append, List.mem_cons, List.not_mem_nil, or_false] at hu
    rcases hu with (rfl | hu) | rfl
    · rfl
    · exact tab_blw L w.2 u hu
    · show decide (2 < L) = true
      exact decide_eq_true (by omega)
  have h4 : Ob.blw L (.box [.mp 4]) = true := by
    show (decide (4 < L) && true) = true
    rw [decide_eq_true (by omega)]
    rfl
  simp only [bSt, List.all_cons, h3, h4, List.all_nil]
  rfl
theorem wayU_len {w : Way} (h : w.2.length = 24) : (wayU w).length = 25 := by simp [wayU, tabU_len, h]
theorem pOuts_t (l : List Ins) (ps : List Nat) (a : Nat) : (outP l ps a).2 = (wq l a).2.1 := by
  unfold outP
  split <;> rfl
theorem acc_way (st : List Ob) (w : Way) : accM (frz 11) st (wayU w) = some (wayU w, st) := acc_app (xs := [i64 w.1]) (show accM (frz 11) st [i64 w.1] = some ([i64 w.1], st) from rfl) (acc_tab st w.2)
theorem res_way {st : List Ob} {k : Nat} {w : Way} (hw : w.2.length = 24) (h : st[k]? = some (.box (wayU w))) : resU ⟨[(5, .bp k 0)], st⟩ c_skel_Build_1.res = some (.agg (wayU w)) := by
  have hl := wayU_len hw
  have ht : (wayU w).take 25 = wayU w := by rw [List.take_of_length_le]; omega
  simp [resU, res1, c_skel_Build_1, h, hl, ht, acc_way]
theorem drop25 {w : Way} (hw : w.2.length = 24) (x : U) : (wayU w ++ [x]).drop 25 = [x] := by
  rw [List.drop_append, wayU_len hw, List.drop_eq_nil_of_le (by rw [wayU_len hw]; omega)]
  rfl
theorem splice25 {w : Way} (hw : w.2.length = 24) (x y : U) : splice (wayU w ++ [x]) 25 [y] = wayU w ++ [y] := by
  rw [splice_set _ _ _ (by rw [List.length_append, wayU_len hw]; exact Nat.lt_succ_self _), List.set_append_right _ _ (by rw [wayU_len hw]; omega), wayU_len hw]
  rfl
theorem way_env (w : Way) (L : Nat) : [((0 : Nat), U.agg (wayU w))].all (fun p => blw blwD L p.2) = true := by
  show (((wayU w).all (blw 11 L)) && true) = true
  rw [Bool.and_true, List.all_eq_true]
  intro u hu
  rcases List.mem_cons.1 hu with rfl | hu
  · rfl
  · obtain ⟨s, _, rfl⟩ := List.mem_map.1 hu
    cases s <;> rfl
def Behind (rest : List Ob) : Prop := rest = [] ∨ ∃ os : List Way, rest = [.row 31 25 false (os.map wayU)]
theorem behind_blw {p : Bool} {l : List Ins} {ns : List Node} {w : Way} {rest : List Ob} (h : Behind rest) : (bSt p l ns (wayU w) ++ rest).all (Ob.blw (bSt p l ns (wayU w) ++ rest).length) = true := by
  rw [List.all_append, bSt_blw p l ns w _ (by rw [List.length_append]; show 5 < 6 + _; omega)]
  rcases h with rfl | ⟨os, rfl⟩ <;> rfl
set_option maxHeartbeats 8000000 in
theorem way_neg (p : Bool) (l : List Ins) (a : Nat) (to : Int) (t : List Src) (sn : Int) (ht : t.length = 24) (hfr : ∀ st, Cl T 31 [insL p l, i64 a] st (.tup [.agg (pU to t sn), i64 0]) st) (h0 : to < 0) (ns : List Node) (w : Way) (rest : List Ob) (hrest : Behind rest) :
    Cl T 30 [i64 a, .bp 0 0, .bp 5 0, .bp 3 0] (bSt p l ns (wayU w) ++ rest) (.agg (wayU (-1, t))) (bSt p l ns (wayU w) ++ rest) := by
  refine Wp.impure (fn := c_skel_Build_1) rfl rfl rfl ?_
  have h24 := tab24 ht
  have hb := behind_blw (p := p) (l := l) (ns := ns) (w := w) hrest
  have d0 : decide (to < 0) = true := decide_eq_true h0
  rcases hrest with rfl | ⟨os, rfl⟩
  · simp only [bSt, List.append_nil]
    (all_goals have := fa (a5 @insL.eq_1 @pU_take26 @pU_over @pU_len (a5 @pU_take1 ht @pU_d1 @pU_tail (a3 @tabU_len @over_full h24))); repeat' first | refine Wp.v ?_ | (apply Wp.call; exact hfr _) | (refine Wp.c ?_ ?_ <;> intro))
    refine Wp.ret ⟨res_way (w := (-1, t)) ht rfl, ?_⟩
    exact congrArg S.st (trim_backs (st := bSt p l ns (wayU w) ++ []) (l := [_, _]) (way_env _ _) hb)
  · simp only [bSt, List.cons_append, List.nil_append]
    (all_goals have := fa (a5 @insL.eq_1 @pU_take26 @pU_over @pU_len (a5 @pU_take1 ht @pU_d1 @pU_tail (a3 @tabU_len @over_full h24))); repeat' first | refine Wp.v ?_ | (apply Wp.call; exact hfr _) | (refine Wp.c ?_ ?_ <;> intro))
    refine Wp.ret ⟨res_way (w := (-1, t)) ht rfl, ?_⟩
    exact congrArg S.st (trim_backs (st := bSt p l ns (wayU w) ++ [.row 31 25 false (os.map wayU)]) (l := [_, _]) (way_env _ _) hb)
set_option maxHeartbeats 8000000 in
theorem way_old (p : Bool) (l : List Ins) (a : Nat) (N : Nat) (t : List Src) (sn : Int) (ht : t.length = 24) (hfr : ∀ st, Cl T 31 [insL p l, i64 a] st (.tup [.agg (pU N t sn), i64 0]) st) (ns : List Node) (hm : N ∈ ns.map (·.1)) (w : Way) (rest : List Ob) (hrest : Behind rest) :
    Cl T 30 [i64 a, .bp 0 0, .bp 5 0, .bp 3 0] (bSt p l ns (wayU w) ++ rest) (.agg (wayU ((((ns.map (·.1)).idxOf N : Nat) : Int), t))) (bSt p l ns (wayU w) ++ rest) := by
  refine Wp.impure (fn := c_skel_Build_1) rfl rfl rfl ?_
  have h24 := tab24 ht
  have hb := behind_blw (p := p) (l := l) (ns := ns) (w := w) hrest
  have d0 : decide ((N : Int) < 0) = false := decide_eq_false (by omega)
  have hlk := map_look 0 (ns.map (·.1)) N
  rw [if_pos hm, Nat.zero_add] at hlk
  have hsm : sameV .ti (i64 (N : Int)) (i64 N) = some true := by rw [same_i64]; simp
  generalize (ns.map (·.1)).idxOf N = k at *
  generalize hmp : mapE 0 (ns.map (·.1)) = mp at *
  rcases hrest with rfl | ⟨os, rfl⟩
  · simp only [bSt, List.append_nil, hmp]
    (all_goals have := fa (a5 @insL.eq_1 @pU_take26 @pU_over @pU_len (a5 @pU_take1 ht @pU_d1 @pU_tail (a5 @tabU_len @over_full h24 hlk hsm))); repeat' first | refine Wp.v ?_ | (apply Wp.call; exact hfr _) | (refine Wp.c ?_ ?_ <;> intro))
    subst hmp
    refine Wp.ret ⟨res_way (w := ((k : Int), t)) ht rfl, ?_⟩
    exact congrArg S.st (trim_backs (st := bSt p l ns (wayU w) ++ []) (l := [_, _]) (way_env _ _) hb)
  · simp only [bSt, List.cons_append, List.nil_append, hmp]
    (all_goals have := fa (a5 @insL.eq_1 @pU_take26 @pU_over @pU_len (a5 @pU_take1 ht @pU_d1 @pU_tail (a5 @tabU_len @over_full h24 hlk hsm))); repeat' first | refine Wp.v ?_ | (apply Wp.call; exact hfr _) | (refine Wp.c ?_ ?_ <;> intro))
    subst hmp
    refine Wp.ret ⟨res_way (w := ((k : Int), t)) ht rfl, ?_⟩
    exact congrArg S.st (trim_backs (st := bSt p l ns (wayU w) ++ [.row 31 25 false (os.map wayU)]) (l := [_, _]) (way_env _ _) hb)
set_option maxHeartbeats 8000000 in
theorem way_new (p : Bool) (l : List Ins) (a : Nat) (N : Nat) (t : List Src) (sn : Int) (ht : t.length = 24) (hfr : ∀ st, Cl T 31 [insL p l, i64 a] st (.tup [.agg (pU N t sn), i64 0]) st) (ns : List Node) (hns : ns.length ≤ 200) (hm : N ∉ ns.map (·.1)) (w : Way) (hw : w.2.length = 24) (rest : List Ob) (hrest : Behind rest) :
    Cl T 30 [i64 a, .bp 0 0, .bp 5 0, .bp 3 0] (bSt p l ns (wayU w) ++ rest) (.agg (wayU (((ns.length : Nat) : Int), t))) (bSt p l (ns ++ [(N, none)]) (wayU w) ++ rest) := by
  refine Wp.impure (fn := c_skel_Build_1) rfl rfl rfl ?_
  have h24 := tab24 ht
  have hb := behind_blw (p := p) (l := l) (ns := ns ++ [(N, none)]) (w := w) hrest
  have d0 : decide ((N : Int) < 0) = false := decide_eq_false (by omega)
  have hlk := map_look 0 (ns.map (·.1)) N
  rw [if_neg hm] at hlk
  have hst := map_set 0 (ns.map (·.1)) N (i64 (ns.length : Int)) hm
  have hap := mapE_app 0 (ns.map (·.1)) N
  rw [Nat.zero_add, List.length_map] at hap
  have hsm : sameV .ti (i64 (N : Int)) (i64 N) = some true := by rw [same_i64]; simp
  have wl := wayU_len hw
  have d25 := drop25 hw
  have s25 := splice25 hw
  have lim : (ns.length + 1) * 32 ≤ 140737488355328 := by omega
  have hnd : (ns ++ [(N, none)]).map nodeU = ns.map nodeU ++ [[i64 N, .sl true []]] := by simp [nodeU, outsU]
  have hmm : (ns ++ [((N : Nat), (none : Option (List Way)))]).map (·.1) = ns.map (·.1) ++ [N] := by simp
  have hln : (((ns ++ [((N : Nat), (none : Option (List Way)))]).length : Nat) : Int) = (ns.length : Int) + 1 := by simp
  have target : bSt p l (ns ++ [(N, none)]) (wayU w) = [.box [insL p l], .box nil26, .row 81 2 false (ns.map nodeU ++ [[i64 N, .sl true []]]), .box (wayU w ++ [.own 2 (ns.length + 1)]), .map (mapE 0 (ns.map (·.1)) ++ [(i64 N, i64 (ns.length : Int))]), .box [.mp 4]] := by
    simp only [bSt, hnd, hmm, hap, List.length_append, List.length_cons, List.length_nil]
  rw [target] at hb ⊢
  generalize hmp : mapE 0 (ns.map (·.1)) = mp at *
  rcases hrest with rfl | ⟨os, rfl⟩
  · simp only [bSt, List.append_nil, hmp]
    (repeat' first | refine Wp.t ?_ | ((first | apply Wp.op | apply Wp.opN); (apply Evt.all; intro; (simp [insL, pU_take26, pU_over, pU_len, pU_take1, ht, pU_d1, pU_tail, tabU_len, over_full, h24, hlk, hsm, hst, wl, d25, s25, lim, closed]) <;> (try simp (disch := omega) only [wrap_id]) <;> first | exact ⟨rfl, rfl⟩ | exact rfl)) | (apply Wp.call; exact hfr _) | (refine Wp.c ?_ ?_ <;> intro))
    refine Wp.ret ⟨res_way (w := ((ns.length : Int), t)) ht rfl, ?_⟩
    exact congrArg S.st (trim_backs (st := [.box [insL p l], .box nil26, .row 81 2 false (ns.map nodeU ++ [[i64 N, .sl true []]]), .box (wayU w ++ [.own 2 (ns.length + 1)]), .map (mp ++ [(i64 N, i64 (ns.length : Int))]), .box [.mp 4]] ++ []) (l := [_, _, _]) (way_env _ _) hb)
  · simp only [bSt, List.cons_append, List.nil_append, hmp]
    (repeat' first | refine Wp.t ?_ | ((first | apply Wp.op | apply Wp.opN); (apply Evt.all; intro; (simp [insL, pU_take26, pU_over, pU_len, pU_take1, ht, pU_d1, pU_tail, tabU_len, over_full, h24, hlk, hsm, hst, wl, d25, s25, lim, closed]) <;> (try simp (disch := omega) only [wrap_id]) <;> first | exact ⟨rfl, rfl⟩ | exact rfl)) | (apply Wp.call; exact hfr _) | (refine Wp.c ?_ ?_ <;> intro))
    refine Wp.ret ⟨res_way (w := ((ns.length : Int), t)) ht rfl, ?_⟩
    exact congrArg S.st (trim_backs (st := [.box [insL p l], .box nil26, .row 81 2 false (ns.map nodeU ++ [[i64 N, .sl true []]]), .box (wayU w ++ [.own 2 (ns.length + 1)]), .map (mp ++ [(i64 N, i64 (ns.length : Int))]), .box [.mp 4]] ++ [.row 31 25 false (os.map wayU)]) (l := [_, _, _]) (way_env _ _) hb)
theorem way_call (p : Bool) (l : List Ins) (hr : rightF l = true) (a : Nat) (ha : a < l.length) (ns : List Node) (hns : ns.length ≤ 200) (w : Way) (hw : w.2.length = 24) (rest : List Ob) (hrest : Behind rest) :
    Cl T 30 [i64 a, .bp 0 0, .bp 5 0, .bp 3 0] (bSt p l ns (wayU w) ++ rest) (.agg (wayU (outP l ((pAdd l ns a).map (·.1)) a))) (bSt p l (pAdd l ns a) (wayU w) ++ rest) := by
  obtain ⟨t, ht, e⟩ := fair_pr hr ha
  have hfr := from_call p l a
  have hwq : wq l a = (fromF l a).1 := rfl
  rw [e] at hfr hwq
  unfold outP pAdd
  rw [hwq]
  have hnn := (wq_ok hr ha)
  rw [hwq] at hnn
  generalize (prI (pr l (l.length + 1) a)).1 = to at *
  generalize (prI (pr l (l.length + 1) a)).2 = sn at *
  simp only at hnn ⊢
  by_cases h0 : to < 0
  · simp only [h0, true_or, if_true]
    exact way_neg p l a to t sn ht hfr h0 ns w rest hrest
  · obtain ⟨N, rfl⟩ := Int.eq_ofNat_of_zero_le (Int.not_lt.1 h0)
    simp only [h0, false_or, if_false, Int.toNat_natCast]
    by_cases hm : N ∈ ns.map (·.1)
    · rw [if_pos hm]
      exact way_old p l a N t sn ht hfr ns hm w rest hrest
    · rw [if_neg hm]
      have := way_new p l a N t sn ht hfr ns hns hm w hw rest hrest
      have hi : ((ns ++ [((N : Nat), (none : Option (List Way)))]).map (·.1)).idxOf N = ns.length := by
        rw [List.map_append, List.idxOf_append, if_neg hm]
        simp
      rw [hi]
      exact this
structure NOK (l : List Ins) (ns : List Node) : Prop where
  nodup : (ns.map (·.1)).Nodup
  lt : ∀ p ∈ ns.map (·.1), p < l.length ∧ movesF (l.getD p default) = false
theorem NOK.few {l : List Ins} {ns : List Node} (h : NOK l ns) : ns.length ≤ l.length := by
  have := List.Nodup.length_le_of_subset h.nodup (l₂ := List.range l.length) (fun p hp => by rw [List.mem_range]; exact (h.lt p hp).1)
  simpa using this
theorem NOK.add {l : List Ins} (hr : rightF l = true) {ns : List Node} (h : NOK l ns) {a : Nat} (ha : a < l.length) : NOK l (pAdd l ns a) := by
  have h1 := (pAdd_places l ns a).1
  obtain ⟨h2, h3⟩ := addP_ok hr ha h.nodup h.lt
  exact ⟨by rw [h1]; exact h2, by rw [h1]; exact h3⟩
theorem wq_t {l : List Ins} (hr : rightF l = true) {a : Nat} (ha : a < l.length) (ps : List Nat) : (outP l ps a).2.length = 24 := by
  obtain ⟨t, ht, e⟩ := fair_pr hr ha
  rw [pOuts_t]
  unfold wq
  rw [e]
  exact ht
theorem acc_tabD (st : List Ob) : ∀ (t : List Src), accM (frz frzD) st (tabU t) = some (tabU t, st)
  | [] => rfl
  | s :: t => by
    have ih := acc_tabD st t
    simp only [tabU, List.map_cons] at ih ⊢
    have h1 : frz frzD st (srcU s) = some (srcU s, st) := frz_src st 9 s
    simp only [accMS_cons, h1, ih, Option.bind_some]
theorem acc_wayD (st : List Ob) (w : Way) : accM (frz frzD) st (wayU w) = some (wayU w, st) := acc_app (xs := [i64 w.1]) (show accM (frz frzD) st [i64 w.1] = some ([i64 w.1], st) from rfl) (acc_tabD st w.2)
abbrev capsB : U := .fn 30 [.bp 0 0, .bp 5 0, .bp 3 0]
def b0S' (p : Bool) (l : List Ins) (cutU : U) (w : Way) (n : Nat) (fs : List Nat) (x : Nat × List Node × List Way) : S :=
  ⟨[(1, cutU), (2, .bp 0 0), (4, .bp 1 0), (6, .bp 3 0), (8, capsB), (9, i64 n), (11, .own 6 x.2.2.length), (51, natU true fs), (52, i64 (fs.length : Nat)), (53, i64 x.1)], bSt p l x.2.1 (wayU w) ++ [.row 31 25 false (x.2.2.map wayU)]⟩
set_option maxHeartbeats 4000000 in
theorem bl0_loop (p : Bool) (l : List Ins) (hr : rightF l = true) (q : Bool) (cut : List Bool) (w : Way) (hw : w.2.length = 24) (n : Nat) (fs : List Nat) (hf : ∀ a ∈ fs, a < l.length) (hfl : fs.length ≤ 2) (ns : List Node) (hns : NOK l ns) :
    Wp T (.loop c_skel_Build_L0) (b0S' p l (boolU q cut) w n fs (0, ns, [])) (fun _ => False) (fun _ => False)
      (fun b s' => b = 2 ∧ s' = ⟨[(1, boolU q cut), (2, .bp 0 0), (4, .bp 1 0), (6, .bp 3 0), (8, capsB), (9, i64 n), (11, .own 6 (pOuts l fs ns []).2.length), (51, natU true fs), (52, i64 (fs.length : Nat)), (53, i64 (fs.length : Nat)), (54, .bool false)], bSt p l (pOuts l fs ns []).1 (wayU w) ++ [.row 31 25 false ((pOuts l fs ns []).2.map wayU)]⟩ ∧ NOK l (pOuts l fs ns []).1) := by
  have h200 := (right_facts hr).1
  refine Wp.loop (fun x : Nat × List Node × List Way => fs.length - x.1) (b0S' p l (boolU q cut) w n fs) (fun x => x.1 ≤ fs.length ∧ x.2.2.length = x.1 ∧ NOK l x.2.1 ∧ pOuts l (fs.drop x.1) x.2.1 x.2.2 = pOuts l fs ns []) (fun x ⟨hx, hos, hok, he⟩ => ?_) (0, ns, []) ⟨by simp, rfl, hns, rfl⟩
  obtain ⟨i, ns1, os⟩ := x
  simp only at hx hos hok he
  simp only [b0S']
  by_cases hi : i < fs.length
  · have hi' : (i : Int) < fs.length := by omega
    have hfi : fs[i] < l.length := hf _ (List.getElem_mem hi)
    rw [List.drop_eq_getElem_cons hi, pOuts] at he
    have hwc := way_call p l hr fs[i] hfi ns1 (by have := hok.few; omega) w hw [.row 31 25 false (os.map wayU)] (.inr ⟨os, rfl⟩)
    have hok' := hok.add hr hfi
    have hot := wq_t hr hfi ((pAdd l ns1 fs[i]).map (·.1))
    generalize outP l ((pAdd l ns1 fs[i]).map (·.1)) fs[i] = o at *
    generalize pAdd l ns1 fs[i] = ns2 at *
    have ol := wayU_len hot
    have lim : (i + 1) * 392 ≤ 140737488355328 := by omega
    have eg : fs[i]? = some fs[i] := List.getElem?_eq_getElem hi
    generalize hfx : fs[i] = fi at *
    (have := fa hi'; repeat refine Wp.f ?_)
    refine Wp.i ?_ ?_ <;> intro h1
    · (have := fa (a3 @natU.eq_1 hi' eg); repeat refine Wp.f ?_)
      apply Wp.callv
      · exact rfl
      · exact hwc
      simp only [bSt, List.cons_append, List.nil_append]
      (have := fa (a5 ol @acc_wayD lim hos @wrap_id); repeat refine Wp.f ?_)
      refine ⟨(i + 1, ns2, os ++ [o]), ?_, by simp only; omega, by simp only; omega, by simp [hos], hok', he⟩
      have e1 : (os ++ [o]).map wayU = os.map wayU ++ [wayU o] := by simp
      have e2 : (os ++ [o]).length = i + 1 := by simp [hos]
      simp only [e2]
      have hb := behind_blw (p := p) (l := l) (ns := ns2) (w := w) (rest := [.row 31 25 false ((os ++ [o]).map wayU)]) (.inr ⟨_, rfl⟩)
      have := trim_backs (st := bSt p l ns2 (wayU w) ++ [.row 31 25 false ((os ++ [o]).map wayU)]) (l := [.row 31 25 false [wayU o]]) (e := [(1, boolU q cut), (2, .bp 0 0), (4, .bp 1 0), (6, .bp 3 0), (8, capsB), (9, i64 n), (11, .own 6 (i + 1)), (51, natU true fs), (52, i64 (fs.length : Nat)), (53, i64 ((i : Int) + 1))]) rfl hb
      rw [e1] at this ⊢
      exact this
    · cases h1
  · have hi2 : fs.length = i := by omega
    rw [List.drop_of_length_le (by omega), pOuts] at he
    have hne : ¬ (i : Int) < fs.length := by omega
    (have := fa hne; repeat refine Wp.f ?_)
    refine Wp.i ?_ ?_ <;> intro h1
    · simp at h1
    · refine Wp.exit ⟨rfl, ?_, ?_⟩
      · rw [← he, hi2]
      · rw [← he]; exact hok
theorem fs_len (l : List Ins) (i : Nat) : (fsAt l i).length ≤ 2 := by
  unfold fsAt fsN
  split
  · simp
  · split <;> simp
def b1S (p : Bool) (l : List Ins) (cutU : U) (w : Way) (x : Nat × List Node) : S :=
  ⟨[(1, cutU), (2, .bp 0 0), (4, .bp 1 0), (6, .bp 3 0), (8, capsB), (9, i64 x.1)], bSt p l x.2 (wayU w)⟩
theorem NInv.ok {l : List Ins} {cut : List Bool} {n : Nat} {ns : List Node} (h : NInv l cut n ns) : NOK l ns := ⟨h.nodup, h.lt⟩
set_option maxHeartbeats 8000000 in
theorem bl1_step (p : Bool) (l : List Ins) (hr : rightF l = true) (q : Bool) (cut : List Bool) (w : Way) (hw : w.2.length = 24) (n : Nat) (ns : List Node) (h : NInv l cut n ns) (hn : n < ns.length) (R : S → Prop) (B : Nat → S → Prop) :
    Wp T c_skel_Build_L1 (b1S p l (boolU q cut) w (n, ns)) (fun s' => trimO 6 s' = b1S p l (boolU q cut) w (n + 1, pStep l cut n ns)) R B := by
  have h200 := (right_facts hr).1
  have hfew := h.few
  have hn' : (n : Int) < ns.length := by omega
  have wl := wayU_len hw
  have d25 := drop25 hw
  obtain ⟨hg, o, hg2⟩ := atN_get hn
  have hold := h.new n _ (Nat.le_refl _) hg2
  simp only at hold
  subst hold
  unfold pStep
  generalize atN ns n = at_ at *
  have hat := h.lt at_ (List.mem_of_getElem? hg)
  obtain ⟨hfs, hto⟩ := fsAt_ok hr hat.1 hat.2
  have hx : l.getD at_ default = l[at_] := by simp [hat.1]
  have hnx := nexts_call l[at_] at_ (by omega) (by rw [← hx]; exact hto)
  rw [show fsN l[at_] at_ = fsAt l at_ from by unfold fsAt; rw [hx]] at hnx
  simp only [b1S, bSt]
  (have := fa (a3 d25 wl hn'); repeat refine Wp.f ?_)
  refine Wp.i ?_ ?_ <;> intro h1
  · (have := fa (a5 d25 wl hn' hg2 @nodeU.eq_1); repeat refine Wp.f ?_)
    by_cases hc : at_ < cut.length
    · have hcl : (at_ : Int) < cut.length := by omega
      have dc : decide (at_ < cut.length) = true := decide_eq_true hc
      have hcg : cutF cut at_ = cut[at_] := by simp [cutF, hc]
      cases hb : cut[at_] with
      | true =>
        rw [hb] at hcg
        have eb : cut[at_]? = some true := by rw [List.getElem?_eq_getElem hc, hb]
        rw [if_pos hcg]
        (all_goals have := fa (a3 @boolU.eq_1 hcl eb); repeat' first | refine Wp.v ?_ | (refine Wp.c ?_ ?_ <;> intro))
        refine Wp.exit ?_
        rw [if_pos rfl]
        (have := fa @wrap_id; repeat refine Wp.f ?_)
        exact trimO_len rfl
      | false =>
        rw [hb] at hcg
        have eb : cut[at_]? = some false := by rw [List.getElem?_eq_getElem hc, hb]
        (all_goals have := fa (a3 @boolU.eq_1 hcl eb); repeat' first | refine Wp.v ?_ | (refine Wp.c ?_ ?_ <;> intro))
        rw [if_neg (by simp [hcg])]
        (have := fa (a5 @insL.eq_1 hat.1 @insU_len @insU_take @over_full); repeat refine Wp.f ?_)
        apply Wp.call
        · exact hnx _
        (have := fa @natU.eq_1; repeat refine Wp.f ?_)
        refine (show Wp T (.loop c_skel_Build_L0) (b0S' p l (boolU q cut) w n (fsAt l at_) (0, ns, [])) _ _ _ from (bl0_loop p l hr q cut w hw n (fsAt l at_) hfs (fs_len l at_) ns h.ok).imp (fun _ h => h.elim) (fun _ h => h.elim) ?_)
        rintro b s ⟨rfl, rfl, hok⟩
        rw [if_pos rfl]
        have hsp := pOuts_spec l (fsAt l at_) ns []
        generalize (pOuts l (fsAt l at_) ns []).2 = os at *
        generalize (pOuts l (fsAt l at_) ns []).1 = ns' at *
        obtain ⟨_, ⟨qs, hq⟩, _⟩ := hsp
        have hn2 : n < ns'.length := by rw [hq, List.length_append]; omega
        have hn3 : (n : Int) < ns'.length := by omega
        have hg3 : ns'[n]? = some (at_, none) := by rw [hq, List.getElem?_append_left hn]; exact hg2
        have hset : (ns'.set n (at_, some os)).map nodeU = (ns'.map nodeU).set n [i64 at_, .sl true (os.map wayU)] := by rw [List.map_set]; rfl
        have hfst : (ns'.set n (at_, some os)).map (·.1) = ns'.map (·.1) := by
          apply List.ext_getElem?
          intro i
          rw [List.getElem?_map, List.getElem?_map, List.getElem?_set]
          split
          · rename_i hi
            subst hi
            rw [hg3]
            rfl
          · rfl
        have hbs : bSt p l (ns'.set n (at_, some os)) (wayU w) = [.box [insL p l], .box nil26, .row 81 2 false ((ns'.map nodeU).set n [i64 at_, .sl true (os.map wayU)]), .box (wayU w ++ [.own 2 ns'.length]), .map (mapE 0 (ns'.map (·.1))), .box [.mp 4]] := by
          simp only [bSt, hset, hfst, List.length_set]
        have hb := bSt_blw p l (ns'.set n (at_, some os)) w 6 (by omega)
        simp only [bSt, List.cons_append, List.nil_append]
        have hse : splice [i64 (at_ : Int), U.sl true []] 1 [U.sl true (os.map wayU)] = [i64 (at_ : Int), U.sl true (os.map wayU)] := rfl
        repeat first | refine Wp.s ?_ | ((first | apply Wp.op | apply Wp.opN | (apply Wp.opG; exact rfl)); (apply Evt.all; intro; (simp [d25, wl, hn3, hg3, nodeU, outsU, hse, wrap_id, -List.map_set]) <;> (try simp (disch := omega) only [wrap_id]) <;> first | exact ⟨rfl, rfl⟩ | exact rfl))
        have htr := trim_backs (st := bSt p l (ns'.set n (at_, some os)) (wayU w)) (l := [.frow (os.map wayU)]) (e := [(1, boolU q cut), (2, .bp 0 0), (4, .bp 1 0), (6, .bp 3 0), (8, capsB), (9, i64 ((n : Int) + 1))]) rfl hb
        rw [hbs] at htr
        simp only [hset, hfst, List.length_set]
        exact htr
    · have dc : decide (at_ < cut.length) = false := decide_eq_false hc
      have hcg : cutF cut at_ = false := by simp [cutF, List.getElem?_eq_none (Nat.le_of_not_lt hc)]
      (all_goals have := fa @boolU.eq_1; repeat' first | refine Wp.v ?_ | (refine Wp.c ?_ ?_ <;> intro))
      rw [if_neg (by simp [hcg])]
      (have := fa (a5 @insL.eq_1 hat.1 @insU_len @insU_take @over_full); repeat refine Wp.f ?_)
      apply Wp.call
      · exact hnx _
      (have := fa @natU.eq_1; repeat refine Wp.f ?_)
      refine (show Wp T (.loop c_skel_Build_L0) (b0S' p l (boolU q cut) w n (fsAt l at_) (0, ns, [])) _ _ _ from (bl0_loop p l hr q cut w hw n (fsAt l at_) hfs (fs_len l at_) ns h.ok).imp (fun _ h => h.elim) (fun _ h => h.elim) ?_)
      rintro b s ⟨rfl, rfl, hok⟩
      rw [if_pos rfl]
      have hsp := pOuts_spec l (fsAt l at_) ns []
      generalize (pOuts l (fsAt l at_) ns []).2 = os at *
      generalize (pOuts l (fsAt l at_) ns []).1 = ns' at *
      obtain ⟨_, ⟨qs, hq⟩, _⟩ := hsp
      have hn2 : n < ns'.length := by rw [hq, List.length_append]; omega
      have hn3 : (n : Int) < ns'.length := by omega
      have hg3 : ns'[n]? = some (at_, none) := by rw [hq, List.getElem?_append_left hn]; exact hg2
      have hset : (ns'.set n (at_, some os)).map nodeU = (ns'.map nodeU).set n [i64 at_, .sl true (os.map wayU)] := by rw [List.map_set]; rfl
      have hfst : (ns'.set n (at_, some os)).map (·.1) = ns'.map (·.1) := by
        apply List.ext_getElem?
        intro i
        rw [List.getElem?_map, List.getElem?_map, List.getElem?_set]
        split
        · rename_i hi
          subst hi
          rw [hg3]
          rfl
        · rfl
      have hbs : bSt p l (ns'.set n (at_, some os)) (wayU w) = [.box [insL p l], .box nil26, .row 81 2 false ((ns'.map nodeU).set n [i64 at_, .sl true (os.map wayU)]), .box (wayU w ++ [.own 2 ns'.length]), .map (mapE 0 (ns'.map (·.1))), .box [.mp 4]] := by
        simp only [bSt, hset, hfst, List.length_set]
      have hb := bSt_blw p l (ns'.set n (at_, some os)) w 6 (by omega)
      simp only [bSt, List.cons_append, List.nil_append]
      have hse : splice [i64 (at_ : Int), U.sl true []] 1 [U.sl true (os.map wayU)] = [i64 (at_ : Int), U.sl true (os.map wayU)] := rfl
      repeat first | refine Wp.s ?_ | ((first | apply Wp.op | apply Wp.opN | (apply Wp.opG; exact rfl)); (apply Evt.all; intro; (simp [d25, wl, hn3, hg3, nodeU, outsU, hse, wrap_id, -List.map_set]) <;> (try simp (disch := omega) only [wrap_id]) <;> first | exact ⟨rfl, rfl⟩ | exact rfl))
      have htr := trim_backs (st := bSt p l (ns'.set n (at_, some os)) (wayU w)) (l := [.frow (os.map wayU)]) (e := [(1, boolU q cut), (2, .bp 0 0), (4, .bp 1 0), (6, .bp 3 0), (8, capsB), (9, i64 ((n : Int) + 1))]) rfl hb
      rw [hbs] at htr
      simp only [hset, hfst, List.length_set]
      exact htr
  · cases h1
theorem bl1_loop (p : Bool) (l : List Ins) (hr : rightF l = true) (q : Bool) (cut : List Bool) (w : Way) (hw : w.2.length = 24) (ns : List Node) (h : NInv l cut 0 ns) :
    Wp T (.loop c_skel_Build_L1) (b1S p l (boolU q cut) w (0, ns)) (fun _ => False) (fun _ => False)
      (fun b s' => b = 0 ∧ ∃ k : Nat, s' = ⟨[(1, boolU q cut), (2, .bp 0 0), (4, .bp 1 0), (6, .bp 3 0), (8, capsB), (9, i64 k), (27, .bool false)], bSt p l (pRun l cut 201 0 ns) (wayU w)⟩) := by
  have h200 := (right_facts hr).1
  refine Wp.loop (fun x : Nat × Nat × List Node => x.1) (fun x => b1S p l (boolU q cut) w x.2) (fun x => NInv l cut x.2.1 x.2.2 ∧ x.1 + x.2.1 = 201 ∧ pRun l cut x.1 x.2.1 x.2.2 = pRun l cut 201 0 ns) (fun x ⟨hx, hk, he⟩ => ?_) (201, 0, ns) ⟨h, rfl, rfl⟩
  obtain ⟨k, n, ns1⟩ := x
  simp only at hx hk he
  have hfew := hx.few
  have hle := hx.le
  obtain ⟨k, rfl⟩ : ∃ m, k = m + 1 := ⟨k - 1, by omega⟩
  rw [pRun] at he
  by_cases hn : n < ns1.length
  · rw [if_pos hn] at he
    refine (bl1_step p l hr q cut w hw n ns1 hx hn _ _).imp (fun s' h => ?_) (fun _ h => h) (fun _ _ h => h)
    exact ⟨(k, n + 1, pStep l cut n ns1), h, by simp only; omega, (hx.step hr hn).1, by simp only; omega, he⟩
  · rw [if_neg hn] at he
    have hne : ¬ (n : Int) < ns1.length := by omega
    rw [← he]
    have wl := wayU_len hw
    have d25 := drop25 hw
    simp only [b1S, bSt]
    (have := fa (a3 d25 wl hne); repeat refine Wp.f ?_)
    refine Wp.i ?_ ?_ <;> intro h1
    · cases h1
    · exact Wp.exit ⟨rfl, n, rfl⟩
def skelU (w : Way) (ns : List Node) : List U := wayU w ++ [.sl true (ns.map nodeU)]
theorem acc_nodes (st : List Ob) : ∀ ns : List Node, accM (accM (frz frzD)) st (ns.map nodeU) = some (ns.map nodeU, st)
  | [] => rfl
  | x :: ns => by
    have ih := acc_nodes st ns
    simp only [List.map_cons]
    rw [accMM_cons]
    have h1 : accM (frz frzD) st (nodeU x) = some (nodeU x, st) := rfl
    simp only [h1, ih, Option.bind_some]
theorem acc_way10 (st : List Ob) (w : Way) : accM (frz 10) st (wayU w) = some (wayU w, st) := acc_app (xs := [i64 w.1]) (show accM (frz 10) st [i64 w.1] = some ([i64 w.1], st) from rfl) (acc_tab' st w.2)
theorem acc_skel (st : List Ob) (w : Way) (ns : List Node) (st' : List Ob) (h : frz 10 st (.own 2 ns.length) = some (.sl true (ns.map nodeU), st')) : accM (frz 10) st (wayU w ++ [.own 2 ns.length]) = some (skelU w ns, st') :=
  acc_app (acc_way10 st w) (by rw [accMS_cons, h]; rfl)
def bSt' (p : Bool) (l : List Ins) (ns : List Node) (w : Way) : List Ob := [.box [insL p l], .box (wayU w ++ [.own 2 ns.length]), .row 81 2 false (ns.map nodeU), .box (wayU w ++ [.own 2 ns.length]), .map (mapE 0 (ns.map (·.1))), .box [.mp 4]]
set_option maxHeartbeats 4000000 in
theorem build_call (p : Bool) (l : List Ins) (hr : rightF l = true) (q : Bool) (cut : List Bool) (st : List Ob) : Cl T 11 [insL p l, boolU q cut] st (.tup [.agg (skelU (pEntry l) (pNodes l cut)), i64 0]) st := by
  refine Wp.pure (fn := c_skel_Build) rfl rfl rfl («as» := [insL p l, boolU q cut]) rfl ?_
  have hright := fun st => asmRight_call p l st (insL p l) rfl
  rw [hr] at hright
  obtain ⟨h1, h2, h3, h4⟩ := right_facts hr
  (all_goals have := fa (a2 @insL.eq_1 @boolU.eq_1); repeat' first | refine Wp.v ?_ | (apply Wp.call; exact hright _) | (refine Wp.c ?_ ?_ <;> intro))
  have hw0 := way_call p l hr 0 h2 [] (by simp) (0, List.replicate 24 .no) rfl [] (.inl rfl)
  apply Wp.callv
  · exact rfl
  · exact hw0
  have hN := ninv0 (cut := cut) hr
  have he : pEntry l = outP l ((pAdd l [] 0).map (·.1)) 0 := rfl
  have hnd : pNodes l cut = pRun l cut 201 0 (pAdd l [] 0) := rfl
  have hwt := wq_t hr h2 ((pAdd l [] 0).map (·.1))
  rw [← he] at hwt ⊢
  have hlp := bl1_loop p l hr q cut (pEntry l) hwt _ hN
  rw [← hnd] at hlp
  have hfew := (nodes_spec (cut := cut) hr)
  generalize pNodes l cut = ns2 at *
  generalize pEntry l = w at *
  generalize pAdd l [] 0 = ns1 at *
  have wl := wayU_len hwt
  have h25 : (wayU (0, List.replicate 24 .no)).length = 25 := rfl
  simp only [bSt, List.append_nil]
  generalize wayU (0, List.replicate 24 .no) = z at *
  have sp0 : ∀ x : U, over (wayU w) (z ++ [x]) = wayU w ++ [x] := fun x => over_app _ _ _ (by rw [wl, h25])
  (have := fa (a3 h25 wl sp0); repeat refine Wp.f ?_)
  refine (show Wp T (.loop c_skel_Build_L1) (b1S p l (boolU q cut) w (0, ns1)) _ _ _ from hlp.imp (fun _ h => h.elim) (fun _ h => h.elim) ?_)
  rintro b s ⟨rfl, k, rfl⟩
  rw [if_pos rfl]
  have t26 : ∀ x : U, (wayU w ++ [x]).take 26 = wayU w ++ [x] := fun x => by rw [List.take_of_length_le]; rw [List.length_append, wl]; exact Nat.le_refl _
  have o26 : ∀ x : U, over (wayU w ++ [x]) nil26 = wayU w ++ [x] := fun x => over_full _ _ (by rw [List.length_append, wl]; rfl)
  simp only [bSt]
  (have := fa (a3 wl t26 o26); repeat refine Wp.f ?_)
  refine Wp.ret ?_
  have hfz : frz 10 (bSt' p l ns2 w) (.own 2 ns2.length) = some (.sl true (ns2.map nodeU), (bSt' p l ns2 w).set 2 (.frow (ns2.map nodeU))) := by
    show (if (ns2.map nodeU).length = ns2.length then some (U.sl true (ns2.map nodeU), (bSt' p l ns2 w).set 2 (.frow (ns2.map nodeU))) else none) = _
    rw [if_pos (List.length_map ..)]
  have hac := acc_skel _ w ns2 _ hfz
  have hr1 : resU ⟨[(4, .bp 1 0), (5, i64 0)], bSt' p l ns2 w⟩ c_skel_Build.res = some (.tup [.agg (wayU w ++ [.own 2 ns2.length]), i64 0]) := by
    simp [resU, res1, c_skel_Build, bSt', wl, t26]
  show (resU ⟨[(4, .bp 1 0), (5, i64 0)], bSt' p l ns2 w⟩ c_skel_Build.res).bind (fun u => (frz frzD (bSt' p l ns2 w) u).map (·.1)) = _
  rw [hr1, Option.bind_some, M2.frz_tup, accMS_cons, frzS_agg, hac]
  rfl
theorem build_bad (p : Bool) (l : List Ins) (hr : rightF l = false) (q : Bool) (cut : List Bool) (st : List Ob) : Cl T 11 [insL p l, boolU q cut] st (.tup [.agg (i64 0 :: (List.replicate 24 .nilI ++ [.sl true []])), i64 1]) st := by
  refine Wp.pure (fn := c_skel_Build) rfl rfl rfl («as» := [insL p l, boolU q cut]) rfl ?_
  have hright := fun st => asmRight_call p l st (insL p l) rfl
  rw [hr] at hright
  (all_goals have := fa (a2 @insL.eq_1 @boolU.eq_1); repeat' first | refine Wp.v ?_ | (apply Wp.call; exact hright _) | (refine Wp.c ?_ ?_ <;> intro))
  refine Wp.ret ?_
  simp [Res, resU, res1, c_skel_Build, List.replicate]
theorem pf65 : pfT T 62 = true := rfl
def rwayU (w : Way) : List U := [i64 w.1, refT true w.2]
theorem refAns_wq {l : List Ins} (hr : rightF l = true) {a : Nat} (ha : a < l.length) : refAns l a = .agg [i64 (wq l a).1, refT true (wq l a).2.1, i64 (wq l a).2.2] := by
  have h := fair_run hr ha
  unfold wq refAns
  rw [h]
  cases refRun l (l.length + 1) ⟨a, newT, 0⟩ <;> rfl
set_option maxHeartbeats 4000000 in
theorem rway_call (p : Bool) (l : List Ins) (hr : rightF l = true) (a : Nat) (ha : a < l.length) (ps : List Nat) (hps : ps.length < 1000) (b : Bool) (PU : U) (st : List Ob) (hPU : brw frzD st PU = some (natU b ps)) : Cl T 36 [insL p l, PU, i64 a] st (.agg (rwayU (outP l ps a))) st := by
  refine Wp.pure (fn := c_joineryref10_way) rfl rfl rfl («as» := [insL p l, natU b ps, i64 a]) (by simp [hPU]; rfl) ?_
  have hrf := reffrom_call p l hr a ha
  rw [refAns_wq hr ha] at hrf
  have hq := wq_ok hr ha
  unfold outP
  generalize (wq l a).2.2 = sn at *
  generalize (wq l a).2.1 = t at *
  generalize (wq l a).1 = to at *
  by_cases h0 : to < 0
  · have d0 : decide (to < 0) = true := decide_eq_true h0
    rw [if_pos h0]
    (all_goals have := fa @insL.eq_1; repeat' first | refine Wp.v ?_ | (apply Wp.call; exact hrf _) | (refine Wp.c ?_ ?_ <;> intro))
    refine Wp.ret ?_
    simp [Res, resU, res1, c_joineryref10_way, rwayU, refT]
  · obtain ⟨N, rfl⟩ := Int.eq_ofNat_of_zero_le (Int.not_lt.1 h0)
    have d0 : decide ((N : Int) < 0) = false := decide_eq_false h0
    rw [if_neg h0]
    have hwh := fun st => where_call b ps N hps st (natU b ps) rfl
    (all_goals have := fa @insL.eq_1; repeat' first | refine Wp.v ?_ | (apply Wp.call; exact hrf _) | (refine Wp.c ?_ ?_ <;> intro))
    refine Wp.draw (by (simp [c_joineryref10_way_D0, I.need]) <;> rfl) (by (simp [refT, pf65, natU]) <;> rfl) (by (simp [refT, pf65, natU]) <;> rfl) (by (unfold c_joineryref10_way_D0); (repeat (first | ((first | apply Dr.op | apply Dr.opN | (apply Dr.opG; exact rfl)); ((simp [refT, pf65, natU]) <;> rfl); (apply Evt.all; intro; (simp [refT, pf65, natU]) <;> (try simp (disch := omega) only [wrap_id]) <;> first | exact ⟨rfl, rfl⟩ | exact rfl); ((simp [I.need]) <;> rfl)) | ((first | (apply Dr.opS; exact rfl; decide) | (apply Dr.opS0; exact rfl)); ((simp [I.need]) <;> rfl)) | (apply Dr.call; ((simp [refT, pf65, natU]) <;> rfl); exact hwh _) | (apply Dr.callG; (exact rfl); ((simp [refT, pf65, natU]) <;> rfl); exact hwh _))); exact Dr.nil) (by first | decide +kernel | exact rfl) (by (simp [M2.keep]) <;> rfl) ?_
    refine Wp.ret ?_
    simp [Res, resU, res1, c_joineryref10_way, rwayU, refT]
abbrev natR (ps : List Nat) : List (List U) := ps.map fun (n : Nat) => [i64 (n : Int)]
def Junk (J : List Ob) : Prop := ∃ (x s : Int) (t : List Src), J = [.box [i64 x, refT true t, i64 s]] ∨ ∃ rs : List (List U), J = [.box [i64 x, refT true t, i64 s], .row 3 1 false rs]
theorem junk_blw {J : List Ob} (h : Junk J) (ps : List Nat) : (Ob.row 3 1 false (natR ps) :: J).all (Ob.blw (Ob.row 3 1 false (natR ps) :: J).length) = true := by
  obtain ⟨x, s, t, rfl | ⟨rs, rfl⟩⟩ := h <;> rfl
def p0S (p : Bool) (l : List Ins) (cutU : U) (n : Nat) (fs : List Nat) (J : List Ob) (x : Nat × List Nat) : S :=
  ⟨[(0, insL p l), (1, cutU), (5, .own 0 x.2.length), (7, i64 n), (8, natU true fs), (9, i64 x.1)], .row 3 1 false (natR x.2) :: J⟩
set_option maxHeartbeats 8000000 in
theorem pl0_step (p : Bool) (l : List Ins) (hr : rightF l = true) (q : Bool) (cut : List Bool) (n : Nat) (fs : List Nat) (hfl : fs.length ≤ 2) (J : List Ob) (hJ : Junk J) (i : Nat) (hi : i < fs.length) (hfi : fs[i] < l.length) (ps : List Nat) (hps : ps.length ≤ 200) (R : S → Prop) (B : Nat → S → Prop) :
    Wp T c_joineryref10_Places_L0 (p0S p l (boolU q cut) n fs J (i, ps)) (fun s' => trimO (Ob.row 3 1 false (natR ps) :: J).length s' = p0S p l (boolU q cut) n fs J (i + 1, addP l ps fs[i])) R B := by
  have hi' : (i : Int) < fs.length := by omega
  have hrf := reffrom_call p l hr fs[i] hfi
  rw [refAns_wq hr hfi] at hrf
  have hq := wq_ok hr hfi
  unfold addP
  generalize (wq l fs[i]).2.2 = sn at *
  generalize (wq l fs[i]).2.1 = t at *
  generalize (wq l fs[i]).1 = to at *
  have eg : fs[i]? = some fs[i] := List.getElem?_eq_getElem hi
  generalize fs[i] = a at *
  have hjb := junk_blw hJ
  by_cases h0 : to < 0
  · have d0 : decide (0 ≤ to) = false := decide_eq_false (by omega)
    rw [if_pos (.inl h0)]
    have hj := hjb ps
    obtain ⟨x, s, tt, rfl | ⟨rs, rfl⟩⟩ := hJ
    · simp only [p0S]
      (all_goals have := fa (a4 @insL.eq_1 @natU.eq_1 hi' eg); repeat' first | refine Wp.v ?_ | (apply Wp.call; exact hrf _) | (refine Wp.c ?_ ?_ <;> intro))
      exact trim_backs (st := Ob.row 3 1 false (natR ps) :: [.box [i64 x, refT true tt, i64 s]]) (l := [_]) (e := [(0, insL p l), (1, boolU q cut), (5, .own 0 ps.length), (7, i64 n), (8, natU true fs), (9, i64 ((i : Int) + 1))]) rfl hj
    · simp only [p0S]
      (all_goals have := fa (a4 @insL.eq_1 @natU.eq_1 hi' eg); repeat' first | refine Wp.v ?_ | (apply Wp.call; exact hrf _) | (refine Wp.c ?_ ?_ <;> intro))
      exact trim_backs (st := Ob.row 3 1 false (natR ps) :: [.box [i64 x, refT true tt, i64 s], .row 3 1 false rs]) (l := [_]) (e := [(0, insL p l), (1, boolU q cut), (5, .own 0 ps.length), (7, i64 n), (8, natU true fs), (9, i64 ((i : Int) + 1))]) rfl hj
  · obtain ⟨N, rfl⟩ := Int.eq_ofNat_of_zero_le (Int.not_lt.1 h0)
    have d0 : decide (0 ≤ (N : Int)) = true := decide_eq_true (by omega)
    have hwh : ∀ J, Cl T 62 [.own 0 ps.length, i64 N] (.row 3 1 false (natR ps) :: J) (i64 (ps.idxOf N : Nat)) (.row 3 1 false (natR ps) :: J) := fun J => where_call false ps N (by omega) _ _ (by
      show (if (natR ps).length = ps.length then some (U.sl false (natR ps)) else none) = _
      rw [if_pos (List.length_map ..)]
      rfl)
    simp only [h0, false_or, Int.toNat_natCast]
    by_cases hm : N ∈ ps
    · rw [if_pos hm]
      have hlt := List.idxOf_lt_length_of_mem hm
      have d1 : decide (((ps.idxOf N : Nat) : Int) = ps.length) = false := decide_eq_false (by omega)
      have d2 : decide (ps.idxOf N = ps.length) = false := decide_eq_false (by omega)
      have hj := hjb ps
      obtain ⟨x, s, tt, rfl | ⟨rs, rfl⟩⟩ := hJ
      · simp only [p0S]
        (all_goals have := fa (a4 @insL.eq_1 @natU.eq_1 hi' eg); repeat' first | refine Wp.v ?_ | (apply Wp.call; exact hrf _) | (apply Wp.call; exact hwh _) | (refine Wp.c ?_ ?_ <;> intro))
        exact trim_backs (st := Ob.row 3 1 false (natR ps) :: [.box [i64 x, refT true tt, i64 s]]) (l := [_]) (e := [(0, insL p l), (1, boolU q cut), (5, .own 0 ps.length), (7, i64 n), (8, natU true fs), (9, i64 ((i : Int) + 1))]) rfl hj
      · simp only [p0S]
        (all_goals have := fa (a4 @insL.eq_1 @natU.eq_1 hi' eg); repeat' first | refine Wp.v ?_ | (apply Wp.call; exact hrf _) | (apply Wp.call; exact hwh _) | (refine Wp.c ?_ ?_ <;> intro))
        exact trim_backs (st := Ob.row 3 1 false (natR ps) :: [.box [i64 x, refT true tt, i64 s], .row 3 1 false rs]) (l := [_]) (e := [(0, insL p l), (1, boolU q cut), (5, .own 0 ps.length), (7, i64 n), (8, natU true fs), (9, i64 ((i : Int) + 1))]) rfl hj
    · rw [if_neg hm]
      have hidx := List.idxOf_eq_length hm
      rw [hidx] at hwh
      have hj := hjb (ps ++ [N])
      have hnn : natR (ps ++ [N]) = natR ps ++ [[i64 N]] := by simp
      have hln : (ps ++ [N]).length = ps.length + 1 := by simp
      have lim : (ps.length + 1) * 8 ≤ 140737488355328 := by omega
      obtain ⟨x, s, tt, rfl | ⟨rs, rfl⟩⟩ := hJ
      · simp only [p0S]
        (all_goals have := fa (a5 @insL.eq_1 @natU.eq_1 hi' eg lim); repeat' first | refine Wp.v ?_ | (apply Wp.call; exact hrf _) | (apply Wp.call; exact hwh _) | (refine Wp.c ?_ ?_ <;> intro))
        have htr := trim_backs (st := Ob.row 3 1 false (natR (ps ++ [N])) :: [.box [i64 x, refT true tt, i64 s]]) (l := [.box [i64 N, refT true t, i64 sn], .row 3 1 false [[i64 N]]]) (e := [(0, insL p l), (1, boolU q cut), (5, .own 0 (ps.length + 1)), (7, i64 n), (8, natU true fs), (9, i64 ((i : Int) + 1))]) rfl hj
        rw [hnn] at htr
        rw [hnn, hln]
        exact htr
      · simp only [p0S]
        (all_goals have := fa (a5 @insL.eq_1 @natU.eq_1 hi' eg lim); repeat' first | refine Wp.v ?_ | (apply Wp.call; exact hrf _) | (apply Wp.call; exact hwh _) | (refine Wp.c ?_ ?_ <;> intro))
        have htr := trim_backs (st := Ob.row 3 1 false (natR (ps ++ [N])) :: [.box [i64 x, refT true tt, i64 s], .row 3 1 false rs]) (l := [.box [i64 N, refT true t, i64 sn], .row 3 1 false [[i64 N]]]) (e := [(0, insL p l), (1, boolU q cut), (5, .own 0 (ps.length + 1)), (7, i64 n), (8, natU true fs), (9, i64 ((i : Int) + 1))]) rfl hj
        rw [hnn] at htr
        rw [hnn, hln]
        exact htr
structure POK (l : List Ins) (ps : List Nat) : Prop where
  nodup : ps.Nodup
  lt : ∀ p ∈ ps, p < l.length ∧ movesF (l.getD p default) = false
theorem POK.few {l : List Ins} {ps : List Nat} (h : POK l ps) : ps.length ≤ l.length := by
  have := List.Nodup.length_le_of_subset h.nodup (l₂ := List.range l.length) (fun p hp => by rw [List.mem_range]; exact (h.lt p hp).1)
  simpa using this
theorem fsC_ok {l : List Ins} (hr : rightF l = true) {ps : List Nat} (h : POK l ps) {cut : List Bool} {i : Nat} (hi : i ∈ ps) : (∀ a ∈ fsC l cut i, a < l.length) ∧ (fsC l cut i).length ≤ 2 := by
  obtain ⟨h1, h2⟩ := h.lt i hi
  unfold fsC
  split
  · simp
  · exact ⟨(fsAt_ok hr h1 h2).1, fs_len l i⟩
theorem POK.fold {l : List Ins} (hr : rightF l = true) {ps : List Nat} (h : POK l ps) {ls : List Nat} (ha : ∀ a ∈ ls, a < l.length) : POK l (ls.foldl (addP l) ps) := by
  obtain ⟨h1, h2⟩ := fold_ok hr ls ps ha h.nodup h.lt
  exact ⟨h1, h2⟩
theorem pl0_loop (p : Bool) (l : List Ins) (hr : rightF l = true) (q : Bool) (cut : List Bool) (n : Nat) (fs : List Nat) (hfl : fs.length ≤ 2) (hfs : ∀ a ∈ fs, a < l.length) (J : List Ob) (hJ : Junk J) (ps : List Nat) (hps : POK l ps) :
    Wp T (.loop c_joineryref10_Places_L0) (p0S p l (boolU q cut) n fs J (0, ps)) (fun _ => False) (fun _ => False) (fun b s' => b = 2 ∧ s' = ⟨[(0, insL p l), (1, boolU q cut), (5, .own 0 (fs.foldl (addP l) ps).length), (7, i64 n), (8, natU true fs), (9, i64 (fs.length : Nat)), (37, .bool false)], .row 3 1 false (natR (fs.foldl (addP l) ps)) :: J⟩) := by
  have h200 := (right_facts hr).1
  refine Wp.loop (fun x : Nat × List Nat => fs.length - x.1) (p0S p l (boolU q cut) n fs J) (fun x => x.1 ≤ fs.length ∧ POK l x.2 ∧ (fs.drop x.1).foldl (addP l) x.2 = fs.foldl (addP l) ps) (fun x ⟨hx, hok, he⟩ => ?_) (0, ps) ⟨by simp, hps, rfl⟩
  obtain ⟨i, ps1⟩ := x
  simp only at hx hok he
  by_cases hi : i < fs.length
  · have hfi : fs[i] < l.length := hfs _ (List.getElem_mem hi)
    have hfew := hok.few
    rw [List.drop_eq_getElem_cons hi, List.foldl_cons] at he
    have hok' := hok.fold hr (ls := [fs[i]]) (by simpa using hfi)
    refine (pl0_step p l hr q cut n fs hfl J hJ i hi hfi ps1 (by omega) _ _).imp (fun s' h => ?_) (fun _ h => h) (fun _ _ h => h)
    exact ⟨(i + 1, addP l ps1 fs[i]), h, by simp only; omega, by simp only; omega, hok', he⟩
  · have hi2 : i = fs.length := by omega
    subst hi2
    rw [List.drop_of_length_le (Nat.le_refl _)] at he
    have he' : ps1 = fs.foldl (addP l) ps := he
    subst he'
    have hne : ¬ (fs.length : Int) < fs.length := by omega
    simp only [p0S]
    (have := fa @natU.eq_1; repeat refine Wp.f ?_)
    refine Wp.i ?_ ?_ <;> intro h1
    · simp at h1
    · exact Wp.exit ⟨rfl, rfl⟩
def p1S (p : Bool) (l : List Ins) (cutU : U) (J : List Ob) (x : Nat × List Nat) : S :=
  ⟨[(0, insL p l), (1, cutU), (5, .own 0 x.2.length), (7, i64 x.1)], .row 3 1 false (natR x.2) :: J⟩
set_option maxHeartbeats 4000000 in
theorem pl1_step (p : Bool) (l : List Ins) (hr : rightF l = true) (q : Bool) (cut : List Bool) (J : List Ob) (hJ : Junk J) (n : Nat) (ps : List Nat) (hps : POK l ps) (hn : n < ps.length) (R : S → Prop) (B : Nat → S → Prop) :
    Wp T c_joineryref10_Places_L1 (p1S p l (boolU q cut) J (n, ps)) (fun s' => trimO (Ob.row 3 1 false (natR ps) :: J).length s' = p1S p l (boolU q cut) J (n + 1, (fsC l cut (ps.getD n 0)).foldl (addP l) ps)) R B := by
  have h200 := (right_facts hr).1
  have hfew := hps.few
  have hn' : (n : Int) < ps.length := by omega
  have eg : ps[n]? = some ps[n] := List.getElem?_eq_getElem hn
  have ed : ps.getD n 0 = ps[n] := by simp [hn]
  rw [ed]
  have hmem := List.getElem_mem hn
  generalize ps[n] = at_ at *
  obtain ⟨h1, h2⟩ := hps.lt at_ hmem
  obtain ⟨k1, k2⟩ := fsC_ok hr hps (cut := cut) hmem
  have hfr := froms_call p l q cut at_ h1 (by omega) (fsAt_ok hr h1 h2).2
  have hlp := pl0_loop p l hr q cut n (fsC l cut at_) k2 k1 J hJ ps hps
  have hjb := junk_blw hJ ((fsC l cut at_).foldl (addP l) ps)
  generalize fsC l cut at_ = fs at *
  simp only [p1S]
  (have := fa (a2 hn' eg); repeat refine Wp.f ?_)
  refine Wp.i ?_ ?_ <;> intro hc
  · (have := fa (a2 hn' eg); repeat refine Wp.f ?_)
    apply Wp.call
    · exact hfr _
    repeat refine Wp.a ?_
    refine (show Wp T (.loop c_joineryref10_Places_L0) (p0S p l (boolU q cut) n fs J (0, ps)) _ _ _ from hlp.imp (fun _ h => h.elim) (fun _ h => h.elim) ?_)
    rintro b s ⟨rfl, rfl⟩
    rw [if_pos rfl]
    (have := fa @wrap_id; repeat refine Wp.f ?_)
    exact trimO_len rfl
  · cases hc
theorem pl1_loop (p : Bool) (l : List Ins) (hr : rightF l = true) (q : Bool) (cut : List Bool) (J : List Ob) (hJ : Junk J) (ps : List Nat) (hps : POK l ps) :
    Wp T (.loop c_joineryref10_Places_L1) (p1S p l (boolU q cut) J (0, ps)) (fun _ => False) (fun _ => False) (fun b s' => b = 0 ∧ ∃ k : Nat, s' = ⟨[(0, insL p l), (1, boolU q cut), (5, .own 0 (rRun l cut 201 0 ps).length), (7, i64 k), (24, .bool false)], .row 3 1 false (natR (rRun l cut 201 0 ps)) :: J⟩) := by
  have h200 := (right_facts hr).1
  refine Wp.loop (fun x : Nat × Nat × List Nat => x.1) (fun x => p1S p l (boolU q cut) J x.2) (fun x => POK l x.2.2 ∧ x.2.1 ≤ x.2.2.length ∧ x.1 + x.2.1 = 201 ∧ rRun l cut x.1 x.2.1 x.2.2 = rRun l cut 201 0 ps) (fun x ⟨hx, hle, hk, he⟩ => ?_) (201, 0, ps) ⟨hps, by simp, rfl, rfl⟩
  obtain ⟨k, n, ps1⟩ := x
  simp only at hx hk he hle
  have hfew := hx.few
  obtain ⟨k, rfl⟩ : ∃ m, k = m + 1 := ⟨k - 1, by omega⟩
  rw [rRun] at he
  by_cases hn : n < ps1.length
  · rw [if_pos hn] at he
    have ed : ps1.getD n 0 = ps1[n] := by simp [hn]
    have hfs := (fsC_ok hr hx (cut := cut) (i := ps1.getD n 0) (by rw [ed]; exact List.getElem_mem hn)).1
    obtain ⟨⟨qs, hq⟩, _⟩ := fold_spec l (fsC l cut (ps1.getD n 0)) ps1
    refine (pl1_step p l hr q cut J hJ n ps1 hx hn _ _).imp (fun s' h => ?_) (fun _ h => h) (fun _ _ h => h)
    exact ⟨(k, n + 1, (fsC l cut (ps1.getD n 0)).foldl (addP l) ps1), h, by simp only; omega, hx.fold hr hfs, by rw [hq]; simp; omega, by simp only; omega, he⟩
  · rw [if_neg hn] at he
    have hne : ¬ (n : Int) < ps1.length := by omega
    rw [← he]
    simp only [p1S]
    (have := fa hne; repeat refine Wp.f ?_)
    refine Wp.i ?_ ?_ <;> intro h1
    · cases h1
    · exact Wp.exit ⟨rfl, n, rfl⟩
set_option maxHeartbeats 4000000 in
theorem places_call (p : Bool) (l : List Ins) (hr : rightF l = true) (q : Bool) (cut : List Bool) (st : List Ob) : Cl T 35 [insL p l, boolU q cut] st (natU true (rPlaces l cut)) st := by
  refine Wp.pure (fn := c_joineryref10_Places) rfl rfl rfl («as» := [insL p l, boolU q cut]) rfl ?_
  obtain ⟨h1, h2, h3, h4⟩ := right_facts hr
  have hrf := reffrom_call p l hr 0 h2
  rw [refAns_wq hr h2] at hrf
  have hq := wq_ok hr h2
  unfold rPlaces
  have hok0 : POK l (addP l [] 0) := by
    obtain ⟨k1, k2⟩ := addP_ok hr h2 (ps := []) List.nodup_nil (by simp)
    exact ⟨k1, k2⟩
  have had : addP l [] 0 = if (wq l 0).1 < 0 then [] else [(wq l 0).1.toNat] := by unfold addP; simp
  generalize (wq l 0).2.2 = sn at *
  generalize (wq l 0).2.1 = t at *
  generalize (wq l 0).1 = to at *
  by_cases h0 : to < 0
  · have d0 : decide (0 ≤ to) = false := decide_eq_false (by omega)
    rw [if_pos h0] at had
    rw [had] at hok0 ⊢
    have hok := hok0
    (all_goals have := fa @insL.eq_1; repeat' first | refine Wp.v ?_ | (apply Wp.call; exact hrf _) | (refine Wp.c ?_ ?_ <;> intro))
    refine (show Wp T (.loop c_joineryref10_Places_L1) (p1S p l (boolU q cut) [.box [i64 to, refT true t, i64 sn]] (0, [])) _ _ _ from (pl1_loop p l hr q cut [.box [i64 to, refT true t, i64 sn]] ⟨_, _, _, .inl rfl⟩ [] hok).imp (fun _ h => h.elim) (fun _ h => h.elim) ?_)
    rintro b s ⟨rfl, k, rfl⟩
    rw [if_pos rfl]
    repeat refine Wp.a ?_
    refine Wp.ret ?_
    simp [Res, resU, res1, c_joineryref10_Places, natU]
  · obtain ⟨N, rfl⟩ := Int.eq_ofNat_of_zero_le (Int.not_lt.1 h0)
    have d0 : decide (0 ≤ (N : Int)) = true := decide_eq_true (by omega)
    rw [if_neg h0, Int.toNat_natCast] at had
    rw [had] at hok0 ⊢
    have hok := hok0
    (all_goals have := fa @insL.eq_1; repeat' first | refine Wp.v ?_ | (apply Wp.call; exact hrf _) | (refine Wp.c ?_ ?_ <;> intro))
    refine (show Wp T (.loop c_joineryref10_Places_L1) (p1S p l (boolU q cut) [.box [i64 (N : Int), refT true t, i64 sn], .row 3 1 false [[i64 N]]] (0, [N])) _ _ _ from (pl1_loop p l hr q cut [.box [i64 (N : Int), refT true t, i64 sn], .row 3 1 false [[i64 N]]] ⟨_, _, _, .inr ⟨_, rfl⟩⟩ [N] hok).imp (fun _ h => h.elim) (fun _ h => h.elim) ?_)
    rintro b s ⟨rfl, k, rfl⟩
    rw [if_pos rfl]
    repeat refine Wp.a ?_
    refine Wp.ret ?_
    simp [Res, resU, res1, c_joineryref10_Places, natU]
abbrev RNode := Nat × List Way
def rNode (l : List Ins) (cut : List Bool) (ps : List Nat) (i : Nat) : RNode := (i, rOuts l cut ps i)
theorem pf51 : pfT T 36 = true := rfl
def rnodeU (x : RNode) : List U := [i64 x.1, .sl true (x.2.map rwayU)]
def rskelU (w : Way) (rn : List RNode) : List U := [i64 w.1, refT true w.2, .sl true (rn.map rnodeU)]
abbrev res3 : Ob := .box [.int .i64 0, .nils, .nils]
def rb1S (p : Bool) (l : List Ins) (cutU : U) (ps : List Nat) (w : Way) (rn : List RNode) (n at_ : Nat) (fs : List Nat) (i : Nat) : S :=
  ⟨[(0, insL p l), (1, cutU), (4, .bp 0 0), (5, natU true ps), (6, .bp 1 0), (7, i64 n), (8, .bp 3 0), (9, natU true fs), (10, i64 i)],
    [res3, .box [i64 w.1, refT true w.2, .own 2 rn.length], .row 106 2 false (rn.map rnodeU), .box [i64 at_, .own 4 i], .row 42 2 false ((fs.map fun a => rwayU (outP l ps a)).take i)]⟩
set_option maxHeartbeats 8000000 in
theorem rb1_loop (p : Bool) (l : List Ins) (hr : rightF l = true) (q : Bool) (cut : List Bool) (ps : List Nat) (hps : ps.length ≤ 200) (w : Way) (rn : List RNode) (n at_ : Nat) (fs : List Nat) (hfl : fs.length ≤ 2) (hfs : ∀ a ∈ fs, a < l.length) :
    Wp T (.loop c_joineryref10_Build_L1) (rb1S p l (boolU q cut) ps w rn n at_ fs 0) (fun _ => False) (fun _ => False)
      (fun b s' => b = 2 ∧ s' = ⟨[(0, insL p l), (1, boolU q cut), (4, .bp 0 0), (5, natU true ps), (6, .bp 1 0), (7, i64 n), (8, .bp 3 0), (9, natU true fs), (10, i64 (fs.length : Nat)), (39, .bool false)],
        [res3, .box [i64 w.1, refT true w.2, .own 2 rn.length], .row 106 2 false (rn.map rnodeU), .box [i64 at_, .own 4 fs.length], .row 42 2 false (fs.map fun a => rwayU (outP l ps a))]⟩) := by
  refine Wp.count fs.length (fun i => rb1S p l (boolU q cut) ps w rn n at_ fs i) (fun _ => True) (fun i hi _ => ?_) (fun _ => ?_) 0 (by omega) trivial
  · have hi' : (i : Int) < fs.length := by omega
    have eg : fs[i]? = some fs[i] := List.getElem?_eq_getElem hi
    have hfi := hfs _ (List.getElem_mem hi)
    have hw := fun st => rway_call p l hr fs[i] hfi ps (by omega) true (natU true ps) st rfl
    have hos : (fs.map fun a => rwayU (outP l ps a)).take (i + 1) = (fs.map fun a => rwayU (outP l ps a)).take i ++ [rwayU (outP l ps fs[i])] := by
      rw [List.take_succ_eq_append_getElem (by simpa using hi)]
      simp
    have hlen : ((fs.map fun a => rwayU (outP l ps a)).take i).length = i := by simp; omega
    have lim : (i + 1) * 32 ≤ 140737488355328 := by omega
    generalize outP l ps fs[i] = o at *
    generalize fs[i] = a at *
    simp only [rb1S]
    rw [hos]
    generalize (fs.map fun a => rwayU (outP l ps a)).take i = R at *
    (have := fa (a2 @natU.eq_1 hi'); repeat refine Wp.f ?_)
    refine Wp.i ?_ ?_ <;> intro h1
    · repeat refine Wp.a ?_
      refine Wp.draw (by (simp [c_joineryref10_Build_D0, I.need]) <;> rfl) (by (simp [natU, rwayU, refT, hi', eg, hlen, lim, pf51]) <;> rfl) (by (simp [natU, rwayU, refT, hi', eg, hlen, lim, pf51]) <;> rfl) (by (unfold c_joineryref10_Build_D0); (repeat (first | ((first | apply Dr.op | apply Dr.opN | (apply Dr.opG; exact rfl)); ((simp [natU, rwayU, refT, hi', eg, hlen, lim, pf51]) <;> rfl); (apply Evt.all; intro; (simp [natU, rwayU, refT, hi', eg, hlen, lim, pf51]) <;> (try simp (disch := omega) only [wrap_id]) <;> first | exact ⟨rfl, rfl⟩ | exact rfl); ((simp [I.need]) <;> rfl)) | ((first | (apply Dr.opS; exact rfl; decide) | (apply Dr.opS0; exact rfl)); ((simp [I.need]) <;> rfl)) | (apply Dr.call; ((simp [natU, rwayU, refT, hi', eg, hlen, lim, pf51]) <;> rfl); exact hw _) | (apply Dr.callG; (exact rfl); ((simp [natU, rwayU, refT, hi', eg, hlen, lim, pf51]) <;> rfl); exact hw _))); exact Dr.nil) (by first | decide +kernel | exact rfl) (by (simp [M2.keep]) <;> rfl) ?_
      (have := fa @wrap_id; repeat refine Wp.f ?_)
      exact ⟨trim_backs (st := [res3, .box [i64 w.1, refT true w.2, .own 2 rn.length], .row 106 2 false (rn.map rnodeU), .box [i64 at_, .own 4 (i + 1)], .row 42 2 false (R ++ [rwayU o])]) (l := [.row 42 2 false [rwayU o], .hole]) rfl rfl, trivial⟩
    · cases h1
  · simp only [rb1S]
    (have := fa @natU.eq_1; repeat refine Wp.f ?_)
    refine Wp.i ?_ ?_ <;> intro h1
    · simp at h1
    · refine Wp.exit ⟨rfl, ?_⟩
      rw [List.take_of_length_le (by simp)]
def rb2S (p : Bool) (l : List Ins) (q : Bool) (cut : List Bool) (ps : List Nat) (w : Way) (n : Nat) : S :=
  ⟨[(0, insL p l), (1, boolU q cut), (4, .bp 0 0), (5, natU true ps), (6, .bp 1 0), (7, i64 n)], [res3, .box [i64 w.1, refT true w.2, .own 2 n], .row 106 2 false ((ps.map fun i => rnodeU (rNode l cut ps i)).take n)]⟩
set_option maxHeartbeats 8000000 in
theorem rb2_loop (p : Bool) (l : List Ins) (hr : rightF l = true) (q : Bool) (cut : List Bool) (ps : List Nat) (hok : POK l ps) (w : Way) :
    Wp T (.loop c_joineryref10_Build_L2) (rb2S p l q cut ps w 0) (fun _ => False) (fun _ => False)
      (fun b s' => b = 0 ∧ s' = ⟨[(0, insL p l), (1, boolU q cut), (4, .bp 0 0), (5, natU true ps), (6, .bp 1 0), (7, i64 (ps.length : Nat)), (21, .bool false)],
        [res3, .box [i64 w.1, refT true w.2, .own 2 ps.length], .row 106 2 false (ps.map fun i => rnodeU (rNode l cut ps i))]⟩) := by
  have h200 := (right_facts hr).1
  have hfew := hok.few
  refine Wp.count ps.length (fun n => rb2S p l q cut ps w n) (fun _ => True) (fun n hn _ => ?_) (fun _ => ?_) 0 (by omega) trivial
  · have hn' : (n : Int) < ps.length := by omega
    have eg : ps[n]? = some ps[n] := List.getElem?_eq_getElem hn
    have hmem := List.getElem_mem hn
    have hos : (ps.map fun i => rnodeU (rNode l cut ps i)).take (n + 1) = (ps.map fun i => rnodeU (rNode l cut ps i)).take n ++ [rnodeU (rNode l cut ps ps[n])] := by
      rw [List.take_succ_eq_append_getElem (by simpa using hn)]
      simp
    have hlen : ((ps.map fun i => rnodeU (rNode l cut ps i)).take n).length = n := by simp; omega
    have lim : (n + 1) * 32 ≤ 140737488355328 := by omega
    obtain ⟨h1, h2⟩ := hok.lt ps[n] hmem
    obtain ⟨k1, k2⟩ := fsC_ok hr hok (cut := cut) hmem
    have hfr := froms_call p l q cut ps[n] h1 (by omega) (fsAt_ok hr h1 h2).2
    have hrn : rnodeU (rNode l cut ps ps[n]) = [i64 (ps[n] : Nat), .sl true ((fsC l cut ps[n]).map fun a => rwayU (outP l ps a))] := by simp [rnodeU, rNode, rOuts, Function.comp_def]
    rw [hrn] at hos
    have hlp := fun (rn : List RNode) => rb1_loop p l hr q cut ps (by omega) w rn n ps[n] (fsC l cut ps[n]) k2 k1
    have hlp' := hlp ((ps.take n).map (rNode l cut ps))
    have e1 : ((ps.take n).map (rNode l cut ps)).map rnodeU = (ps.map fun i => rnodeU (rNode l cut ps i)).take n := by simp [Function.comp_def]
    have e2 : ((ps.take n).map (rNode l cut ps)).length = n := by simp; omega
    simp only [rb1S, e1, e2] at hlp'
    generalize ps[n] = at_ at *
    generalize hfsx : fsC l cut at_ = fs at *
    simp only [rb2S]
    rw [hos]
    generalize (ps.map fun i => rnodeU (rNode l cut ps i)).take n = R at *
    (have := fa (a2 @natU.eq_1 hn'); repeat refine Wp.f ?_)
    refine Wp.i ?_ ?_ <;> intro hc
    · repeat first | refine Wp.s ?_ | ((first | apply Wp.op | apply Wp.opN | (apply Wp.opG; exact rfl)); (apply Evt.all; intro; (simp [natU, hn', eg, over]) <;> (try simp (disch := omega) only [wrap_id]) <;> first | exact ⟨rfl, rfl⟩ | exact rfl))
      apply Wp.call
      · exact hfr _
      repeat refine Wp.a ?_
      refine hlp'.imp (fun _ h => h.elim) (fun _ h => h.elim) ?_
      rintro b s ⟨rfl, rfl⟩
      rw [if_pos rfl]
      repeat first | refine Wp.s ?_ | ((first | apply Wp.op | apply Wp.opN | (apply Wp.opG; exact rfl)); (apply Evt.all; intro; (simp [hlen, lim, wrap_id, over]) <;> (try simp (disch := omega) only [wrap_id]) <;> first | exact ⟨rfl, rfl⟩ | exact rfl))
      exact ⟨trim_backs (st := [res3, .box [i64 w.1, refT true w.2, .own 2 (n + 1)], .row 106 2 false (R ++ [[i64 at_, .sl true (fs.map fun a => rwayU (outP l ps a))]])]) (l := [_, _, _]) rfl rfl, trivial⟩
    · cases hc
  · simp only [rb2S]
    (have := fa @natU.eq_1; repeat refine Wp.f ?_)
    refine Wp.i ?_ ?_ <;> intro h1
    · simp at h1
    · refine Wp.exit ⟨rfl, ?_⟩
      rw [List.take_of_length_le (by simp)]
set_option maxHeartbeats 4000000 in
theorem rbuild_call (p : Bool) (l : List Ins) (hr : rightF l = true) (q : Bool) (cut : List Bool) (st : List Ob) : Cl T 13 [insL p l, boolU q cut] st (.agg (rskelU (outP l (rPlaces l cut) 0) ((rPlaces l cut).map (rNode l cut (rPlaces l cut))))) st := by
  refine Wp.pure (fn := c_joineryref10_Build) rfl rfl rfl («as» := [insL p l, boolU q cut]) rfl ?_
  obtain ⟨h1, h2, h3, h4⟩ := right_facts hr
  have hpl := places_call p l hr q cut
  have hsp := nodes_spec (cut := cut) hr
  have hok : POK l (rPlaces l cut) := ⟨hsp.2.2.2.1, hsp.2.2.2.2.1⟩
  have hfew := hok.few
  have hw := fun st => rway_call p l hr 0 h2 (rPlaces l cut) (by omega) true (natU true (rPlaces l cut)) st rfl
  have hlp := rb2_loop p l hr q cut (rPlaces l cut) hok (outP l (rPlaces l cut) 0)
  generalize rPlaces l cut = ps at *
  generalize outP l ps 0 = w at *
  (repeat' first | refine Wp.t ?_ | ((first | apply Wp.op | apply Wp.opN); (apply Evt.all; intro; (simp [insL, boolU, rwayU, refT, over]) <;> (try simp (disch := omega) only [wrap_id]) <;> first | exact ⟨rfl, rfl⟩ | exact rfl)) | (apply Wp.call; exact hpl _) | (apply Wp.call; exact hw _) | (refine Wp.c ?_ ?_ <;> intro))
  refine (show Wp T (.loop c_joineryref10_Build_L2) (rb2S p l q cut ps w 0) _ _ _ from hlp.imp (fun _ h => h.elim) (fun _ h => h.elim) ?_)
  rintro b s ⟨rfl, rfl⟩
  rw [if_pos rfl]
  repeat first | refine Wp.s ?_ | ((first | apply Wp.op | apply Wp.opN | (apply Wp.opG; exact rfl)); (apply Evt.all; intro; (simp [over]) <;> (try simp (disch := omega) only [wrap_id]) <;> first | exact ⟨rfl, rfl⟩ | exact rfl))
  refine Wp.ret ?_
  have hz : ∀ (A B : Ob) (R : List (List U)), R.length = ps.length → frz 11 [A, B, .row 106 2 false R] (.own 2 ps.length) = some (.sl true R, [A, B, .frow R]) := fun A B R hR => by
    show (if R.length = ps.length then some (U.sl true R, [A, B, Ob.frow R]) else none) = _
    rw [if_pos hR]
  simp [Res, resU, res1, c_joineryref10_Build, rskelU, refT, Function.comp_def, hz]
def rN (x : Node) : RNode := (x.1, x.2.getD [])
theorem skel_len {w : Way} (hw : w.2.length = 24) (ns : List Node) : (skelU w ns).length = 26 := by simp [skelU, wayU_len hw]
theorem skel_blw (w : Way) (ns : List Node) (L : Nat) : Ob.blw L (.box (skelU w ns)) = true := by
  show (wayU w ++ [U.sl true (ns.map nodeU)]).all (blw blwD L) = true
  rw [List.all_append]
  have : (wayU w).all (blw blwD L) = true := by
    rw [List.all_eq_true]
    intro u hu
    rcases List.mem_cons.1 hu with rfl | hu
    · rfl
    · exact tab_blw L w.2 u hu
  rw [this]
  rfl
theorem allM_app {α β : Type} {f : α → Option β} : ∀ {xs ys : List α} {xs' ys' : List β}, allM f xs = some xs' → allM f ys = some ys' → allM f (xs ++ ys) = some (xs' ++ ys')
  | [], ys, xs', ys', h1, h2 => by
    simp only [M2.allM, Option.some.injEq] at h1
    subst h1
    exact h2
  | x :: xs, ys, xs', ys', h1, h2 => by
    simp only [M2.allM, Option.bind_eq_some_iff] at h1
    obtain ⟨y, hy, zs, hz, h1⟩ := h1
    cases h1
    rw [List.cons_append, M2.allM, hy, Option.bind_some, allM_app hz h2]
    rfl
theorem brw_skel (st : List Ob) (w : Way) (ns : List Node) : brw frzD st (.agg (skelU w ns)) = some (.agg (skelU w ns)) := by
  have h := brw_tab st w.2
  rw [frzD, brw] at h ⊢
  simp only [Option.bind_eq_some_iff, Option.some.injEq, U.agg.injEq] at h ⊢
  obtain ⟨cs, h1, rfl⟩ := h
  refine ⟨skelU w ns, ?_, rfl⟩
  refine allM_app (xs := wayU w) (ys := [.sl true (ns.map nodeU)]) ?_ rfl
  unfold wayU
  simp only [M2.allM, h1, Option.bind_some]
  rfl
end Go.Proofs.YtcehbpimdngjfaaDoor.M2
namespace Go.Proofs.YtcehbpimdngjfaaDoor.M2
open Go
theorem rRun_pre {l : List Ins} {cut : List Bool} : ∀ (k n : Nat) (ps : List Nat), ∃ qs, rRun l cut k n ps = ps ++ qs
  | 0, _, ps => ⟨[], by simp [rRun]⟩
  | k + 1, n, ps => by
    rw [rRun]
    split
    · obtain ⟨⟨qs, h1⟩, _⟩ := fold_spec l (fsC l cut (ps.getD n 0)) ps
      obtain ⟨rs, h2⟩ := rRun_pre (l := l) (cut := cut) k (n + 1) ((fsC l cut (ps.getD n 0)).foldl (addP l) ps)
      exact ⟨qs ++ rs, by rw [h2, h1, List.append_assoc]⟩
    · exact ⟨[], by simp⟩
theorem fold_new (l : List Ins) : ∀ (ls : List Nat) (ps : List Nat) (j : Nat), ps.length ≤ j → j < (ls.foldl (addP l) ps).length → ∃ a ∈ ls, ¬ (wq l a).1 < 0 ∧ (ls.foldl (addP l) ps)[j]? = some (wq l a).1.toNat
  | [], ps, j, h1, h2 => by
    rw [List.foldl_nil] at h2
    omega
  | a :: ls, ps, j, h1, h2 => by
    rw [List.foldl_cons] at h2 ⊢
    rcases Nat.lt_or_ge j (addP l ps a).length with hj | hj
    · obtain ⟨⟨qs, hq⟩, _⟩ := fold_spec l ls (addP l ps a)
      refine ⟨a, by simp, ?_⟩
      rw [hq, List.getElem?_append_left hj]
      unfold addP at hj ⊢
      split at hj
      · omega
      · rename_i hn
        rw [if_neg hn]
        refine ⟨fun h => hn (.inl h), ?_⟩
        have : j = ps.length := by rw [List.length_append, List.length_singleton] at hj; omega
        subst this
        simp
    · obtain ⟨b, hb, h3⟩ := fold_new l ls (addP l ps a) j hj h2
      exact ⟨b, by simp [hb], h3⟩
def Found (l : List Ins) (cut : List Bool) (ps : List Nat) (j : Nat) : Prop :=
  (¬ (wq l 0).1 < 0 ∧ ps[j]? = some (wq l 0).1.toNat) ∨ ∃ m i, m < j ∧ ps[m]? = some i ∧ ∃ a ∈ fsC l cut i, ¬ (wq l a).1 < 0 ∧ ps[j]? = some (wq l a).1.toNat
theorem Found.app {l : List Ins} {cut : List Bool} {ps : List Nat} {j : Nat} (hj : j < ps.length) (h : Found l cut ps j) (qs : List Nat) : Found l cut (ps ++ qs) j := by
  have e : ∀ i, i < ps.length → (ps ++ qs)[i]? = ps[i]? := fun i hi => List.getElem?_append_left hi
  rcases h with ⟨h1, h2⟩ | ⟨m, i, h1, h2, a, h3, h4, h5⟩
  · exact .inl ⟨h1, by rw [e j hj]; exact h2⟩
  · exact .inr ⟨m, i, h1, by rw [e m (by omega)]; exact h2, a, h3, h4, by rw [e j hj]; exact h5⟩
theorem rRun_found {l : List Ins} {cut : List Bool} : ∀ (k n : Nat) (ps : List Nat), (∀ j, j < ps.length → Found l cut ps j) → ∀ j, j < (rRun l cut k n ps).length → Found l cut (rRun l cut k n ps) j
  | 0, _, _, h => h
  | k + 1, n, ps, h => by
    rw [rRun]
    split
    · rename_i hn
      refine rRun_found k (n + 1) _ (fun j hj => ?_)
      obtain ⟨⟨qs, hq⟩, _⟩ := fold_spec l (fsC l cut (ps.getD n 0)) ps
      rcases Nat.lt_or_ge j ps.length with h1 | h1
      · rw [hq]
        exact (h j h1).app h1 qs
      · obtain ⟨a, ha, h2, h3⟩ := fold_new l _ ps j h1 hj
        refine .inr ⟨n, ps.getD n 0, by omega, ?_, a, ha, h2, h3⟩
        rw [hq, List.getElem?_append_left hn, List.getElem?_eq_getElem hn]
        simp [hn]
    · exact h
theorem places_found {l : List Ins} {cut : List Bool} : ∀ j, j < (rPlaces l cut).length → Found l cut (rPlaces l cut) j := by
  unfold rPlaces
  refine rRun_found 201 0 _ (fun j hj => ?_)
  unfold addP at hj ⊢
  split at hj
  · simp at hj
  · rename_i hn
    rw [if_neg hn]
    have : j = 0 := by simp at hj; omega
    subst this
    exact .inl ⟨fun h => hn (.inl h), by simp⟩
end Go.Proofs.YtcehbpimdngjfaaDoor.M2
namespace Go.Proofs.YtcehbpimdngjfaaDoor.M2
open Go
attribute [local simp] ev1 M2.get put A.ev ld sub part elems bin arith un opt idx fillC cellsO splice over newOb sto fillR laidOwn appTo appRow touch touchN touchM touchE touchA plainU flatU plainAs allM rowAt stoRow accM_nil accM_cons accMM_nil accMM_cons frz_int frz_bool frz_str frz_slt frz_nils frz_nilI frz_nilF frz_own frzRow_row frzRow_frow Ob.blw blw_bool blw_int blw_str blw_nils blw_nilI blw_nilF blw_nilp blw_nilm blw_sl blw_own blw_bp blw_rp blw_mp blw_it params
attribute [local simp] frz_agg frz_tup frz_iface frzS_agg frzS_iface accMS_cons frzS_int frzS_bool frzS_str frzS_slt frzS_nils frzS_nilI beq_dec bne_dec
abbrev Edge := Int × Int
def edgeU (e : Edge) : List U := [i64 e.1, i64 e.2]
def nodeEs (n : Nat) : Nat → List Way → List (Int × Edge)
  | _, [] => []
  | k, o :: os => (o.1, ((n : Int), (k : Int))) :: nodeEs n (k + 1) os
def allEs : Nat → List RNode → List (Int × Edge)
  | _, [] => []
  | n, x :: rn => nodeEs n 0 x.2 ++ allEs (n + 1) rn
def hits (n : Int) (es : List (Int × Edge)) : List Edge := (es.filter fun e => decide (e.1 = n)).map (·.2)
def toF (w : Way) (rn : List RNode) (n : Nat) : List Edge := hits n ((w.1, (-1, 0)) :: allEs 0 rn)
theorem hits_app (n : Int) (a b : List (Int × Edge)) : hits n (a ++ b) = hits n a ++ hits n b := by simp [hits]
theorem nodeEs_take (n : Nat) : ∀ (k : Nat) (os : List Way) (i : Nat) (h : i < os.length), nodeEs n k (os.take (i + 1)) = nodeEs n k (os.take i) ++ [(os[i].1, ((n : Int), ((k + i : Nat) : Int)))]
  | k, o :: os, 0, _ => by simp [nodeEs]
  | k, o :: os, i + 1, h => by
    have ih := nodeEs_take n (k + 1) os i (by simpa using h)
    rw [List.take_succ_cons, nodeEs, ih, List.take_succ_cons, nodeEs]
    simp only [List.cons_append, List.getElem_cons_succ]
    rw [show k + 1 + i = k + (i + 1) by omega]
theorem allEs_take : ∀ (n : Nat) (rn : List RNode) (i : Nat) (h : i < rn.length), allEs n (rn.take (i + 1)) = allEs n (rn.take i) ++ nodeEs (n + i) 0 rn[i].2
  | n, x :: rn, 0, _ => by simp [allEs]
  | n, x :: rn, i + 1, h => by
    have ih := allEs_take (n + 1) rn i (by simpa using h)
    rw [List.take_succ_cons, allEs, ih, List.take_succ_cons, allEs]
    simp only [List.append_assoc, List.getElem_cons_succ]
    rw [show n + 1 + i = n + (i + 1) by omega]
theorem nodeEs_len (n : Nat) : ∀ (k : Nat) (os : List Way), (nodeEs n k os).length = os.length
  | _, [] => rfl
  | k, o :: os => by simp [nodeEs, nodeEs_len n (k + 1) os]
theorem hits_len (n : Int) (es : List (Int × Edge)) : (hits n es).length ≤ es.length := by
  unfold hits
  rw [List.length_map]
  exact List.length_filter_le _ _
theorem allEs_len : ∀ (n : Nat) (rn : List RNode), (∀ x ∈ rn, x.2.length ≤ 2) → (allEs n rn).length ≤ 2 * rn.length
  | _, [], _ => by simp [allEs]
  | n, x :: rn, h => by
    have h1 := allEs_len (n + 1) rn (fun y hy => h y (by simp [hy]))
    have h2 := h x (by simp)
    rw [allEs, List.length_append, nodeEs_len, List.length_cons]
    omega
abbrev edR (es : List Edge) : List (List U) := es.map edgeU
def ToJ (J : List Ob) : Prop := J = [] ∨ J = [.row 55 2 false [[i64 (-1), i64 0]]]
theorem toj_blw {J : List Ob} (h : ToJ J) (w : Way) (rn : List RNode) (R : List (List U)) : (Ob.box (rskelU w rn) :: .row 55 2 false R :: J).all (Ob.blw (Ob.box (rskelU w rn) :: .row 55 2 false R :: J).length) = true := by
  rcases h with rfl | rfl <;> rfl
def t0S (w : Way) (rn : List RNode) (J : List Ob) (n m k : Nat) (out : List Edge) : S :=
  ⟨[(1, i64 n), (2, .bp 0 0), (5, .own 1 out.length), (6, i64 m), (7, i64 k)], .box (rskelU w rn) :: .row 55 2 false (edR out) :: J⟩
set_option maxHeartbeats 8000000 in
theorem to0_loop (w : Way) (rn : List RNode) (hrn : rn.length ≤ 200) (J : List Ob) (hJ : ToJ J) (n m : Nat) (hm : m < rn.length) (at_ : Nat) (os : List Way) (hg : rn[m]? = some (at_, os)) (hos : os.length ≤ 2) (out : List Edge) (hout : out.length ≤ 1000) :
    Wp T (.loop c_joineryref10_To_L0) (t0S w rn J n m 0 out) (fun _ => False) (fun _ => False) (fun b s' => b = 2 ∧ s' = ⟨[(1, i64 n), (2, .bp 0 0), (5, .own 1 (out ++ hits n (nodeEs m 0 os)).length), (6, i64 m), (7, i64 (os.length : Nat)), (32, .bool false)], .box (rskelU w rn) :: .row 55 2 false (edR (out ++ hits n (nodeEs m 0 os))) :: J⟩) := by
  have hm' : (m : Int) < rn.length := by omega
  have h0 : out ++ hits n (nodeEs m 0 (os.take 0)) = out := by simp [nodeEs, hits]
  rw [show t0S w rn J n m 0 out = t0S w rn J n m 0 (out ++ hits n (nodeEs m 0 (os.take 0))) from by rw [h0]]
  refine Wp.count os.length (fun k => t0S w rn J n m k (out ++ hits n (nodeEs m 0 (os.take k)))) (fun _ => True) (fun k hk _ => ?_) (fun _ => ?_) 0 (by omega) trivial
  · have hk' : (k : Int) < os.length := by omega
    have eg : os[k]? = some os[k] := List.getElem?_eq_getElem hk
    have htk := nodeEs_take m 0 os k hk
    have hcl : (out ++ hits n (nodeEs m 0 (os.take k))).length ≤ 1002 := by
      have h1 := hits_len n (nodeEs m 0 (os.take k))
      rw [nodeEs_len, List.length_take] at h1
      rw [List.length_append]
      omega
    rw [htk, hits_app, ← List.append_assoc, Nat.zero_add]
    have hb1 := fun R => toj_blw hJ w rn R
    generalize out ++ hits n (nodeEs m 0 (os.take k)) = cur at *
    generalize os[k] = o at *
    have lim : (cur.length + 1) * 16 ≤ 140737488355328 := by omega
    by_cases he : o.1 = n
    · have de : decide (o.1 = (n : Int)) = true := decide_eq_true he
      have hh : hits n [(o.1, ((m : Int), (k : Int)))] = [((m : Int), (k : Int))] := by simp [hits, he]
      rw [hh]
      have e1 : edR (cur ++ [((m : Int), (k : Int))]) = edR cur ++ [[i64 m, i64 k]] := by simp [edgeU]
      have e2 : (cur ++ [((m : Int), (k : Int))]).length = cur.length + 1 := by simp
      have hb2 := hb1 (edR cur ++ [[i64 m, i64 k]])
      rcases hJ with rfl | rfl
      · simp only [t0S, e1, e2]
        (all_goals have := fa (a5 @rskelU.eq_1 @rnodeU.eq_1 @rwayU.eq_1 hm' (a5 hg hk' eg lim @wrap_id)); repeat' first | refine Wp.v ?_ | (refine Wp.c ?_ ?_ <;> intro))
        exact ⟨trim_backs (st := [.box (rskelU w rn), .row 55 2 false (edR cur ++ [[i64 m, i64 k]])]) (l := [.row 55 2 false [[i64 m, i64 k]]]) (e := [(1, i64 n), (2, .bp 0 0), (5, .own 1 (cur.length + 1)), (6, i64 m), (7, i64 ((k : Int) + 1))]) rfl hb2, trivial⟩
      · simp only [t0S, e1, e2]
        (all_goals have := fa (a5 @rskelU.eq_1 @rnodeU.eq_1 @rwayU.eq_1 hm' (a5 hg hk' eg lim @wrap_id)); repeat' first | refine Wp.v ?_ | (refine Wp.c ?_ ?_ <;> intro))
        exact ⟨trim_backs (st := [.box (rskelU w rn), .row 55 2 false (edR cur ++ [[i64 m, i64 k]]), .row 55 2 false [[i64 (-1), i64 0]]]) (l := [.row 55 2 false [[i64 m, i64 k]]]) (e := [(1, i64 n), (2, .bp 0 0), (5, .own 1 (cur.length + 1)), (6, i64 m), (7, i64 ((k : Int) + 1))]) rfl hb2, trivial⟩
    · have de : decide (o.1 = (n : Int)) = false := decide_eq_false he
      have hh : hits n [(o.1, ((m : Int), (k : Int)))] = [] := by simp [hits, he]
      rw [hh, List.append_nil]
      rcases hJ with rfl | rfl
      · simp only [t0S]
        (all_goals have := fa (a5 @rskelU.eq_1 @rnodeU.eq_1 @rwayU.eq_1 hm' (a5 hg hk' eg lim @wrap_id)); repeat' first | refine Wp.v ?_ | (refine Wp.c ?_ ?_ <;> intro))
        exact ⟨trimO_len rfl, trivial⟩
      · simp only [t0S]
        (all_goals have := fa (a5 @rskelU.eq_1 @rnodeU.eq_1 @rwayU.eq_1 hm' (a5 hg hk' eg lim @wrap_id)); repeat' first | refine Wp.v ?_ | (refine Wp.c ?_ ?_ <;> intro))
        exact ⟨trimO_len rfl, trivial⟩
  · simp only [t0S]
    (have := fa (a4 @rskelU.eq_1 @rnodeU.eq_1 hm' hg); repeat refine Wp.f ?_)
    refine Wp.i ?_ ?_ <;> intro h1
    · simp at h1
    · refine Wp.exit ⟨rfl, ?_⟩
      simp [rskelU]
def t1S (w : Way) (rn : List RNode) (J : List Ob) (n m : Nat) (out : List Edge) : S :=
  ⟨[(1, i64 n), (2, .bp 0 0), (5, .own 1 out.length), (6, i64 m)], .box (rskelU w rn) :: .row 55 2 false (edR out) :: J⟩
set_option maxHeartbeats 8000000 in
theorem to1_loop (w : Way) (rn : List RNode) (hrn : rn.length ≤ 200) (hall : ∀ x ∈ rn, x.2.length ≤ 2) (J : List Ob) (hJ : ToJ J) (n : Nat) (out : List Edge) (hout : out.length ≤ 1) :
    Wp T (.loop c_joineryref10_To_L1) (t1S w rn J n 0 out) (fun _ => False) (fun _ => False) (fun b s' => b = 0 ∧ s' = ⟨[(1, i64 n), (2, .bp 0 0), (5, .own 1 (out ++ hits n (allEs 0 rn)).length), (6, i64 (rn.length : Nat)), (21, .bool false)], .box (rskelU w rn) :: .row 55 2 false (edR (out ++ hits n (allEs 0 rn))) :: J⟩) := by
  have h0 : out ++ hits n (allEs 0 (rn.take 0)) = out := by simp [allEs, hits]
  rw [show t1S w rn J n 0 out = t1S w rn J n 0 (out ++ hits n (allEs 0 (rn.take 0))) from by rw [h0]]
  refine Wp.count rn.length (fun m => t1S w rn J n m (out ++ hits n (allEs 0 (rn.take m)))) (fun _ => True) (fun m hm _ => ?_) (fun _ => ?_) 0 (by omega) trivial
  · have hm' : (m : Int) < rn.length := by omega
    have eg : rn[m]? = some rn[m] := List.getElem?_eq_getElem hm
    have hx := hall _ (List.getElem_mem hm)
    have htk := allEs_take 0 rn m hm
    have hcl : (out ++ hits n (allEs 0 (rn.take m))).length ≤ 1000 := by
      have h1 := hits_len n (allEs 0 (rn.take m))
      have h2 := allEs_len 0 (rn.take m) (fun x hx => hall x (List.mem_of_mem_take hx))
      rw [List.length_take] at h2
      rw [List.length_append]
      omega
    rw [htk, hits_app, ← List.append_assoc, Nat.zero_add]
    generalize out ++ hits n (allEs 0 (rn.take m)) = cur at *
    generalize rn[m] = x at *
    obtain ⟨at_, os⟩ := x
    have hlp := to0_loop w rn hrn J hJ n m hm at_ os eg hx cur hcl
    have hl := toj_blw hJ w rn
    simp only [t1S]
    (have := fa (a2 @rskelU.eq_1 hm'); repeat refine Wp.f ?_)
    refine Wp.i ?_ ?_ <;> intro h1
    · repeat refine Wp.a ?_
      refine (show Wp T (.loop c_joineryref10_To_L0) (t0S w rn J n m 0 cur) _ _ _ from hlp.imp (fun _ h => h.elim) (fun _ h => h.elim) ?_)
      rintro b s ⟨rfl, rfl⟩
      rw [if_pos rfl]
      (have := fa @wrap_id; repeat refine Wp.f ?_)
      refine ⟨?_, trivial⟩
      refine (trimO_len rfl).trans ?_
      simp
    · cases h1
  · simp only [t1S]
    (have := fa @rskelU.eq_1; repeat refine Wp.f ?_)
    refine Wp.i ?_ ?_ <;> intro h1
    · simp at h1
    · refine Wp.exit ⟨rfl, ?_⟩
      simp [rskelU]
set_option maxHeartbeats 4000000 in
theorem to_call (w : Way) (rn : List RNode) (hrn : rn.length ≤ 200) (hall : ∀ x ∈ rn, x.2.length ≤ 2) (n : Nat) (st : List Ob) : Cl T 14 [.agg (rskelU w rn), i64 n] st (.sl true (edR (toF w rn n))) st := by
  refine Wp.pure (fn := c_joineryref10_To) rfl rfl rfl («as» := [.agg (rskelU w rn), i64 n]) rfl ?_
  have ht : toF w rn n = (if w.1 = n then [((-1 : Int), (0 : Int))] else []) ++ hits n (allEs 0 rn) := by
    unfold toF hits
    by_cases h : w.1 = n <;> simp [h]
  rw [ht]
  by_cases h : w.1 = n
  · have d : decide (w.1 = (n : Int)) = true := decide_eq_true h
    rw [if_pos h]
    (all_goals have := fa @rskelU.eq_1; repeat' first | refine Wp.v ?_ | (refine Wp.c ?_ ?_ <;> intro))
    refine (show Wp T (.loop c_joineryref10_To_L1) (t1S w rn [.row 55 2 false [[i64 (-1), i64 0]]] n 0 [((-1 : Int), (0 : Int))]) _ _ _ from (to1_loop w rn hrn hall [.row 55 2 false [[i64 (-1), i64 0]]] (.inr rfl) n [((-1 : Int), (0 : Int))] (by simp)).imp (fun _ h => h.elim) (fun _ h => h.elim) ?_)
    rintro b s ⟨rfl, rfl⟩
    rw [if_pos rfl]
    repeat refine Wp.a ?_
    refine Wp.ret ?_
    simp [Res, resU, res1, c_joineryref10_To, edgeU]
  · have d : decide (w.1 = (n : Int)) = false := decide_eq_false h
    rw [if_neg h]
    (all_goals have := fa @rskelU.eq_1; repeat' first | refine Wp.v ?_ | (refine Wp.c ?_ ?_ <;> intro))
    refine (show Wp T (.loop c_joineryref10_To_L1) (t1S w rn [] n 0 []) _ _ _ from (to1_loop w rn hrn hall [] (.inl rfl) n [] (by simp)).imp (fun _ h => h.elim) (fun _ h => h.elim) ?_)
    rintro b s ⟨rfl, rfl⟩
    rw [if_pos rfl]
    repeat refine Wp.a ?_
    refine Wp.ret ?_
    simp [Res, resU, res1, c_joineryref10_To, edgeU]
end Go.Proofs.YtcehbpimdngjfaaDoor.M2
